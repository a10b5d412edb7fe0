/- Leases that may be; comparisons, walked.
Conditions: as each theorem names them. -/
import Derived.Test.YtfgblingojgafaaGreatFx
import Derived.Test.YtfgblingojgafaaGreatProg
import Derived.Test.YtfgblingojgafaaGreatKD
import Derived.Test.YtfgblingojgafaaGreatRA
import Derived.Test.YtfgblingojgafaaGreatAddr
import Derived.Test.YtfgblingojgafaaGreatSA
import Derived.Test.YtfgblingojgafaaGreatEB
set_option linter.unusedSimpArgs false
set_option linter.unusedVariables false
set_option maxRecDepth 4000
namespace Go.Proofs.YtfgblingojgafaaGreat
open Go Go.K
attribute [local irreducible] Code.wp wpList Calls wpQuiet
theorem bare_c {a b v : Int} {V : Vw} : Does Tryz.prog 44 [.int .u32 a,.int .i64 b,.int .i64 v] V [] (Pv (.agg #[.int .u32 a,.int .i64 b,.string ⟨#[]⟩,.int .i64 0,.int .i64 0,.int .i64 0,.int .i64 0,.int .i64 v]) V []) := by
 refine Does.intro Tryz.func44 rfl rfl (le rfl) (fun B => ?_)
 refine Zs<|Zr<|?_
 refine Run.alloc xzo43 (lt rfl) (fun b1 => ?_)
 refine Ze<|Zg<|Zs<|Zr<|Zm Z<|Zm Z<|Zm Z<|Zv (Y.buildS (l := [(0,.tmp 7),(1,.tmp 8),(7,.tmp 9)]) xzo43 xpl43 Z Z)<|Run.store (s := [(b1,.cells #[.int .u32 a,.int .i64 b,.string ⟨#[]⟩,.int .i64 0,.int .i64 0,.int .i64 0,.int .i64 0,.int .i64 v] 43 (0,0))]) Z Z xsz43 (i := 0) Z Z (le Z) Z Z<|Ze<|Zg<|Zu<|?_
 exact Ex.retCell [] rfl rfl xag43 (Kn.at 0 rfl) rfl ⟨rfl,rfl,rfl⟩
theorem bare_c_h {a b v : Int} {V : Vw} {H : Hp} : Does Tryz.prog 44 [.int .u32 a,.int .i64 b,.int .i64 v] V H (Pv (.agg #[.int .u32 a,.int .i64 b,.string ⟨#[]⟩,.int .i64 0,.int .i64 0,.int .i64 0,.int .i64 0,.int .i64 v]) V H) := bare_c.frame
theorem rbare_c {a b v : Int} {V : Vw} : Does Tryz.prog 65 [.int .u32 a,.int .i64 b,.int .i64 v] V [] (Pv (.agg #[.int .u32 a,.int .i64 b,.string ⟨#[]⟩,.int .i64 0,.int .i64 0,.int .i64 0,.int .i64 0,.int .i64 v]) V []) := by
 refine Does.intro Tryz.func65 rfl rfl (le rfl) (fun B => ?_)
 refine Zs<|Zr<|?_
 refine Run.alloc xzo43 (lt rfl) (fun b1 => ?_)
 refine Ze<|Zg<|Zs<|Zr<|Zm Z<|Zm Z<|Zm Z<|Zv (Y.buildS (l := [(0,.tmp 7),(1,.tmp 8),(7,.tmp 9)]) xzo43 xpl43 Z Z)<|Run.store (s := [(b1,.cells #[.int .u32 a,.int .i64 b,.string ⟨#[]⟩,.int .i64 0,.int .i64 0,.int .i64 0,.int .i64 0,.int .i64 v] 43 (0,0))]) Z Z xsz43 (i := 0) Z Z (le Z) Z Z<|Ze<|Zg<|Zu<|?_
 exact Ex.retCell [] rfl rfl xag43 (Kn.at 0 rfl) rfl ⟨rfl,rfl,rfl⟩
theorem rbare_c_h {a b v : Int} {V : Vw} {H : Hp} : Does Tryz.prog 65 [.int .u32 a,.int .i64 b,.int .i64 v] V H (Pv (.agg #[.int .u32 a,.int .i64 b,.string ⟨#[]⟩,.int .i64 0,.int .i64 0,.int .i64 0,.int .i64 0,.int .i64 v]) V H) := rbare_c.frame
theorem held_c {b : Int} {V : Vw} : Does Tryz.prog 138 [.int .i64 b] V [] (Pv (.bool (Le.held b)) V []) := by
 refine Does.intro Tryz.func138 rfl rfl (le rfl) (fun B => ?_)
 refine Zs<|Zr<|Za Z<|Ze<|Zg<|Zs<|Zr<|Zm Z<|Zv (Y.int Z Z Z)<|Zm Z<|?_
 refine Zq (decide (b >= 2)) (fun h1 g1 => ?_) fun h1 g1 => ?_
 ·refine Zp h1<|Zm Z<|Zp h1<|Zv (Y.int Z Z Z)<|Zv (Y.pick_t Z h1 Z)<|Za Z<|Ze<|Zg<|Zu<|Ex.keep []<|?_
  exact Ex.ret1 rfl rfl  ⟨congrArg Value.bool (by unfold Le.held; rw [decide_eq_true (p := b >= 2) W]; rfl),rfl,rfl⟩
 refine Zo h1 Z<|Zo h1 Z<|Zv (Y.pick_f Z h1 Z)<|Za Z<|Ze<|Zg<|Zu<|Ex.keep []<|?_
 exact Ex.ret1 rfl rfl  ⟨congrArg Value.bool (by unfold Le.held; rw [decide_eq_false (p := b >= 2) W]; rfl),rfl,rfl⟩
theorem held_c_h {b : Int} {V : Vw} {H : Hp} : Does Tryz.prog 138 [.int .i64 b] V H (Pv (.bool (Le.held b)) V H) := held_c.frame
theorem rtime_c {n : Int} {V : Vw} : Does Tryz.prog 140 [.int .i64 n] V [] (Pv (.bool (Le.tm n)) V []) := by
 refine Does.intro Tryz.func140 rfl rfl (le rfl) (fun B => ?_)
 refine Zs<|Zr<|Za Z<|Ze<|Zg<|Zs<|Zr<|Zm Z<|Zv (Y.int Z Z Z)<|Zm Z<|?_
 refine Zq (decide (n >= 0)) (fun h1 g1 => ?_) fun h1 g1 => ?_
 ·refine Zp h1<|Zm Z<|Zp h1<|Zv (Y.int Z Z Z)<|Zv (Y.pick_t Z h1 Z)<|Za Z<|Ze<|Zg<|Zu<|Ex.keep []<|?_
  exact Ex.ret1 rfl rfl  ⟨congrArg Value.bool (by unfold Le.tm; rw [decide_eq_true (p := n >= 0) W]; rfl),rfl,rfl⟩
 refine Zo h1 Z<|Zo h1 Z<|Zv (Y.pick_f Z h1 Z)<|Za Z<|Ze<|Zg<|Zu<|Ex.keep []<|?_
 exact Ex.ret1 rfl rfl  ⟨congrArg Value.bool (by unfold Le.tm; rw [decide_eq_false (p := n >= 0) W]; rfl),rfl,rfl⟩
theorem rtime_c_h {n : Int} {V : Vw} {H : Hp} : Does Tryz.prog 140 [.int .i64 n] V H (Pv (.bool (Le.tm n)) V H) := rtime_c.frame
theorem rright11_c {q : Le} (hs : q.client.size <= 9223372036854775807) {V : Vw} : Does Tryz.prog 88 [.agg #[.int .u32 q.addr,.int .i64 q.bind,.string q.client,.int .i64 q.till,.int .i64 q.acked,.int .i64 q.told,.int .i64 q.at_,.int .i64 q.ver]] V [] (Pv (.bool (Le.right q)) V []) := by
 refine Does.intro Tryz.func88 rfl rfl (le rfl) (fun B => ?_)
 refine Zs<|Zr<|?_
 refine Run.box rfl (lt rfl) (fun b1 => ?_)
 refine Za Z<|Ze<|Zg<|Zs<|Zs<|Zr<|Zv (Y.fieldAddr Z xfo43_1)<|Zv (Y.load Z xts3 (Kn.at 0 Z) Z)<|Zv (Y.int Z Z Z)<|Zm Z<|?_
 refine Zq (decide (q.bind < 0)) (fun h2 g2 => ?_) fun h2 g2 => ?_
 ·refine Zo h2 Z<|Zo h2 Z<|Zo h2 Z<|Zv (Y.pick_t Z h2 Z)<|Zm Z<|Zo Z Z<|Zo Z Z<|Zo Z Z<|Zo Z Z<|Zv (Y.pick_t Z Z Z)<|Zm Z<|Zo Z Z<|Zo Z Z<|Zo Z Z<|Zo Z Z<|Zv (Y.pick_t Z Z Z)<|?_
  refine Zm Z<|Zo Z Z<|Zo Z Z<|Zo Z Z<|Zo Z Z<|Zv (Y.pick_t Z Z Z)<|Zm Z<|Zo Z Z<|Zo Z Z<|Zo Z Z<|Zo Z Z<|Zv (Y.pick_t Z Z Z)<|Zm Z<|Zo Z Z<|Zo Z Z<|Zo Z Z<|?_
  refine Zo Z Z<|Zv (Y.pick_t Z Z Z)<|Ze<|Zg<|Tr.cond_t Z Z<|Zs<|Zr<|Za Z<|Ze<|Zg<|Zu<|Zn<|Ex.keep []<|?_
  exact Ex.ret1 rfl rfl  ⟨congrArg Value.bool (Le.right_f W),rfl,rfl⟩
 refine Zp h2<|Zv (Y.fieldAddr Z xfo43_1)<|Zp h2<|Zv (Y.load Z xts3 (Kn.at 0 Z) Z)<|Zp h2<|Zv (Y.int Z Z Z)<|Zv (Y.pick_f Z h2 Z)<|Zm Z<|?_
 refine Zq (decide (q.bind > 5)) (fun h3 g3 => ?_) fun h3 g3 => ?_
 ·refine Zo h3 Z<|Zo h3 Z<|Zo h3 Z<|Zo h3 Z<|Zv (Y.pick_t Z h3 Z)<|Zm Z<|Zo Z Z<|Zo Z Z<|Zo Z Z<|Zo Z Z<|Zv (Y.pick_t Z Z Z)<|Zm Z<|Zo Z Z<|Zo Z Z<|Zo Z Z<|Zo Z Z<|?_
  refine Zv (Y.pick_t Z Z Z)<|Zm Z<|Zo Z Z<|Zo Z Z<|Zo Z Z<|Zo Z Z<|Zv (Y.pick_t Z Z Z)<|Zm Z<|Zo Z Z<|Zo Z Z<|Zo Z Z<|Zo Z Z<|Zv (Y.pick_t Z Z Z)<|Ze<|Zg<|Tr.cond_t Z Z<|?_
  refine Zs<|Zr<|Za Z<|Ze<|Zg<|Zu<|Zn<|Ex.keep []<|?_
  exact Ex.ret1 rfl rfl  ⟨congrArg Value.bool (Le.right_f W),rfl,rfl⟩
 refine Zp h3<|Zv (Y.fieldAddr Z xfo43_3)<|Zp h3<|Zv (Y.load Z xts3 (Kn.at 0 Z) Z)<|Zp h3<|Yc Z Z Z rtime_c_h<|Zp h3<|Zv (Y.not Z)<|Zv (Y.pick_f Z h3 Z)<|Zm Z<|?_
 refine Zq (Le.tm q.till) (fun h4 g4 => ?_) fun h4 g4 => ?_
 ·have z5 := Le.tm_t h4
  refine Zp (congrArg Bool.not h4)<|Zv (Y.fieldAddr Z xfo43_4)<|Zp (congrArg Bool.not h4)<|Zv (Y.load Z xts3 (Kn.at 0 Z) Z)<|Zp (congrArg Bool.not h4)<|Yc Z Z Z rtime_c_h<|Zp (congrArg Bool.not h4)<|Zv (Y.not Z)<|Zv (Y.pick_f Z (congrArg Bool.not h4) Z)<|Zm Z<|?_
  refine Zq (Le.tm q.acked) (fun h6 g6 => ?_) fun h6 g6 => ?_
  ·have z7 := Le.tm_t h6
   refine Zp (congrArg Bool.not h6)<|Zv (Y.fieldAddr Z xfo43_5)<|Zp (congrArg Bool.not h6)<|Zv (Y.load Z xts3 (Kn.at 0 Z) Z)<|Zp (congrArg Bool.not h6)<|Yc Z Z Z rtime_c_h<|Zp (congrArg Bool.not h6)<|Zv (Y.not Z)<|Zv (Y.pick_f Z (congrArg Bool.not h6) Z)<|Zm Z<|?_
   refine Zq (Le.tm q.told) (fun h8 g8 => ?_) fun h8 g8 => ?_
   ·have z9 := Le.tm_t h8
    refine Zp (congrArg Bool.not h8)<|Zv (Y.fieldAddr Z xfo43_6)<|Zp (congrArg Bool.not h8)<|Zv (Y.load Z xts3 (Kn.at 0 Z) Z)<|Zp (congrArg Bool.not h8)<|Yc Z Z Z rtime_c_h<|Zp (congrArg Bool.not h8)<|Zv (Y.not Z)<|Zv (Y.pick_f Z (congrArg Bool.not h8) Z)<|Zm Z<|?_
    refine Zq (Le.tm q.at_) (fun h10 g10 => ?_) fun h10 g10 => ?_
    ·have z11 := Le.tm_t h10
     refine Zp (congrArg Bool.not h10)<|Zv (Y.fieldAddr Z xfo43_7)<|Zp (congrArg Bool.not h10)<|Zv (Y.load Z xts3 (Kn.at 0 Z) Z)<|Zp (congrArg Bool.not h10)<|Yc Z Z Z rtime_c_h<|Zp (congrArg Bool.not h10)<|Zv (Y.not Z)<|Zv (Y.pick_f Z (congrArg Bool.not h10) Z)<|Ze<|Zg<|?_
     refine Zq (Le.tm q.ver) (fun h12 g12 => ?_) fun h12 g12 => ?_
     ·have z13 := Le.tm_t h12
      refine Tr.cond_f Z (congrArg Bool.not h12)<|Zt<|Zg<|Zs<|Zs<|Zr<|Zv (Y.fieldAddr Z xfo43_1)<|Zv (Y.load Z xts3 (Kn.at 0 Z) Z)<|Zv (Y.int Z Z Z)<|Zm Z<|?_
      refine Zq (q.bind == 2) (fun h14 g14 => ?_) fun h14 g14 => ?_
      ·refine Zo h14 Z<|Zo h14 Z<|Zo h14 Z<|Zv (Y.pick_t Z h14 Z)<|Zm Z<|Zo Z Z<|Zo Z Z<|Zo Z Z<|Zv (Y.pick_t Z Z Z)<|Ze<|Zg<|Tr.cond_t Z Z<|Zs<|Zr<|Zv (Y.fieldAddr Z xfo43_2)<|Zv (Y.load Z xts9 (Kn.at 0 Z) Z)<|?_
       refine Zv (Y.lenStr Z xst9)<|Zv (Y.int Z Z Z)<|Zm Z<|?_
       refine Zq (decide ((q.client.size : Int) >= 1)) (fun h15 g15 => ?_) fun h15 g15 => ?_
       ·refine Zp h15<|Zv (Y.fieldAddr Z xfo43_2)<|Zp h15<|Zv (Y.load Z xts9 (Kn.at 0 Z) Z)<|Zp h15<|Zv (Y.lenStr Z xst9)<|Zp h15<|Zv (Y.int Z Z Z)<|Zv (Y.pick_t Z h15 Z)<|Za Z<|Ze<|Zg<|Zu<|Zn<|Ex.keep []<|?_
        exact Ex.ret1 rfl rfl  ⟨congrArg Value.bool (Le.right_d W),rfl,rfl⟩
       refine Zo h15 Z<|Zo h15 Z<|Zo h15 Z<|Zo h15 Z<|Zv (Y.pick_f Z h15 Z)<|Za Z<|Ze<|Zg<|Zu<|Zn<|Ex.keep []<|?_
       exact Ex.ret1 rfl rfl  ⟨congrArg Value.bool (Le.right_f W),rfl,rfl⟩
      refine Zp h14<|Zv (Y.fieldAddr Z xfo43_1)<|Zp h14<|Zv (Y.load Z xts3 (Kn.at 0 Z) Z)<|Zp h14<|Zv (Y.int Z Z Z)<|Zv (Y.pick_f Z h14 Z)<|Zm Z<|?_
      refine Zq (q.bind == 3) (fun h16 g16 => ?_) fun h16 g16 => ?_
      ·refine Zo h16 Z<|Zo h16 Z<|Zo h16 Z<|Zv (Y.pick_t Z h16 Z)<|Ze<|Zg<|Tr.cond_t Z Z<|Zs<|Zr<|Zv (Y.fieldAddr Z xfo43_2)<|Zv (Y.load Z xts9 (Kn.at 0 Z) Z)<|Zv (Y.lenStr Z xst9)<|Zv (Y.int Z Z Z)<|Zm Z<|?_
       refine Zq (decide ((q.client.size : Int) >= 1)) (fun h17 g17 => ?_) fun h17 g17 => ?_
       ·refine Zp h17<|Zv (Y.fieldAddr Z xfo43_2)<|Zp h17<|Zv (Y.load Z xts9 (Kn.at 0 Z) Z)<|Zp h17<|Zv (Y.lenStr Z xst9)<|Zp h17<|Zv (Y.int Z Z Z)<|Zv (Y.pick_t Z h17 Z)<|Za Z<|Ze<|Zg<|Zu<|Zn<|Ex.keep []<|?_
        exact Ex.ret1 rfl rfl  ⟨congrArg Value.bool (Le.right_d W),rfl,rfl⟩
       refine Zo h17 Z<|Zo h17 Z<|Zo h17 Z<|Zo h17 Z<|Zv (Y.pick_f Z h17 Z)<|Za Z<|Ze<|Zg<|Zu<|Zn<|Ex.keep []<|?_
       exact Ex.ret1 rfl rfl  ⟨congrArg Value.bool (Le.right_f W),rfl,rfl⟩
      refine Zp h16<|Zv (Y.fieldAddr Z xfo43_1)<|Zp h16<|Zv (Y.load Z xts3 (Kn.at 0 Z) Z)<|Zp h16<|Zv (Y.int Z Z Z)<|Zv (Y.pick_f Z h16 Z)<|Ze<|Zg<|?_
      refine Zq (q.bind == 4) (fun h18 g18 => ?_) fun h18 g18 => ?_
      ·refine Tr.cond_t Z h18<|Zs<|Zr<|Zv (Y.fieldAddr Z xfo43_2)<|Zv (Y.load Z xts9 (Kn.at 0 Z) Z)<|Zv (Y.lenStr Z xst9)<|Zv (Y.int Z Z Z)<|Zm Z<|?_
       refine Zq (decide ((q.client.size : Int) >= 1)) (fun h19 g19 => ?_) fun h19 g19 => ?_
       ·refine Zp h19<|Zv (Y.fieldAddr Z xfo43_2)<|Zp h19<|Zv (Y.load Z xts9 (Kn.at 0 Z) Z)<|Zp h19<|Zv (Y.lenStr Z xst9)<|Zp h19<|Zv (Y.int Z Z Z)<|Zv (Y.pick_t Z h19 Z)<|Za Z<|Ze<|Zg<|Zu<|Zn<|Ex.keep []<|?_
        exact Ex.ret1 rfl rfl  ⟨congrArg Value.bool (Le.right_d W),rfl,rfl⟩
       refine Zo h19 Z<|Zo h19 Z<|Zo h19 Z<|Zo h19 Z<|Zv (Y.pick_f Z h19 Z)<|Za Z<|Ze<|Zg<|Zu<|Zn<|Ex.keep []<|?_
       exact Ex.ret1 rfl rfl  ⟨congrArg Value.bool (Le.right_f W),rfl,rfl⟩
      refine Tr.cond_f Z h18<|Zt<|Zg<|Zs<|Zr<|Zv (Y.fieldAddr Z xfo43_2)<|Zv (Y.load Z xts9 (Kn.at 0 Z) Z)<|Zv (Y.eqStr Z Z)<|Zm Z<|?_
      refine Zq (q.client.toList == (⟨#[]⟩ : ByteArray).toList) (fun h20 g20 => ?_) fun h20 g20 => ?_
      ·have z21 := Le.str0_t h20
       refine Zp h20<|Zv (Y.fieldAddr Z xfo43_3)<|Zp h20<|Zv (Y.load Z xts3 (Kn.at 0 Z) Z)<|Zp h20<|Zv (Y.int Z Z Z)<|Zv (Y.pick_t Z h20 Z)<|Zm Z<|?_
       refine Zq (q.till == 0) (fun h22 g22 => ?_) fun h22 g22 => ?_
       ·refine Zp h22<|Zv (Y.fieldAddr Z xfo43_4)<|Zp h22<|Zv (Y.load Z xts3 (Kn.at 0 Z) Z)<|Zp h22<|Zv (Y.int Z Z Z)<|Zv (Y.pick_t Z h22 Z)<|Zm Z<|?_
        refine Zq (q.acked == 0) (fun h23 g23 => ?_) fun h23 g23 => ?_
        ·refine Zp h23<|Zv (Y.fieldAddr Z xfo43_5)<|Zp h23<|Zv (Y.load Z xts3 (Kn.at 0 Z) Z)<|Zp h23<|Zv (Y.int Z Z Z)<|Zv (Y.pick_t Z h23 Z)<|Zm Z<|?_
         refine Zq (q.told == 0) (fun h24 g24 => ?_) fun h24 g24 => ?_
         ·refine Zp h24<|Zv (Y.fieldAddr Z xfo43_6)<|Zp h24<|Zv (Y.load Z xts3 (Kn.at 0 Z) Z)<|Zp h24<|Zv (Y.int Z Z Z)<|Zv (Y.pick_t Z h24 Z)<|Za Z<|Ze<|Zg<|Zu<|Ex.keep []<|?_
          exact Ex.ret1 rfl rfl  ⟨congrArg Value.bool ((show (q.at_ == 0) = decide (q.at_ = 0) from rfl).trans (Le.right_d W)),rfl,rfl⟩
         refine Zo h24 Z<|Zo h24 Z<|Zo h24 Z<|Zv (Y.pick_f Z h24 Z)<|Za Z<|Ze<|Zg<|Zu<|Ex.keep []<|?_
         exact Ex.ret1 rfl rfl  ⟨congrArg Value.bool (Le.right_f W),rfl,rfl⟩
        refine Zo h23 Z<|Zo h23 Z<|Zo h23 Z<|Zv (Y.pick_f Z h23 Z)<|Zm Z<|Zo Z Z<|Zo Z Z<|Zo Z Z<|Zv (Y.pick_f Z Z Z)<|Za Z<|Ze<|Zg<|Zu<|Ex.keep []<|?_
        exact Ex.ret1 rfl rfl  ⟨congrArg Value.bool (Le.right_f W),rfl,rfl⟩
       refine Zo h22 Z<|Zo h22 Z<|Zo h22 Z<|Zv (Y.pick_f Z h22 Z)<|Zm Z<|Zo Z Z<|Zo Z Z<|Zo Z Z<|Zv (Y.pick_f Z Z Z)<|Zm Z<|Zo Z Z<|Zo Z Z<|Zo Z Z<|Zv (Y.pick_f Z Z Z)<|Za Z<|Ze<|?_
       refine Zg<|Zu<|Ex.keep []<|?_
       exact Ex.ret1 rfl rfl  ⟨congrArg Value.bool (Le.right_f W),rfl,rfl⟩
      have z25 := Le.str0_f h20
      refine Zo h20 Z<|Zo h20 Z<|Zo h20 Z<|Zv (Y.pick_f Z h20 Z)<|Zm Z<|Zo Z Z<|Zo Z Z<|Zo Z Z<|Zv (Y.pick_f Z Z Z)<|Zm Z<|Zo Z Z<|Zo Z Z<|Zo Z Z<|Zv (Y.pick_f Z Z Z)<|Zm Z<|Zo Z Z<|?_
      refine Zo Z Z<|Zo Z Z<|Zv (Y.pick_f Z Z Z)<|Za Z<|Ze<|Zg<|Zu<|Ex.keep []<|?_
      exact Ex.ret1 rfl rfl  ⟨congrArg Value.bool (Le.right_f W),rfl,rfl⟩
     have z26 := Le.tm_f h12
     refine Tr.cond_t Z (congrArg Bool.not h12)<|Zs<|Zr<|Za Z<|Ze<|Zg<|Zu<|Zn<|Ex.keep []<|?_
     exact Ex.ret1 rfl rfl  ⟨congrArg Value.bool (Le.right_f W),rfl,rfl⟩
    have z27 := Le.tm_f h10
    refine Zo (congrArg Bool.not h10) Z<|Zo (congrArg Bool.not h10) Z<|Zo (congrArg Bool.not h10) Z<|Zo (congrArg Bool.not h10) Z<|Zv (Y.pick_t Z (congrArg Bool.not h10) Z)<|Ze<|Zg<|Tr.cond_t Z Z<|Zs<|Zr<|Za Z<|Ze<|Zg<|Zu<|Zn<|Ex.keep []<|?_
    exact Ex.ret1 rfl rfl  ⟨congrArg Value.bool (Le.right_f W),rfl,rfl⟩
   have z28 := Le.tm_f h8
   refine Zo (congrArg Bool.not h8) Z<|Zo (congrArg Bool.not h8) Z<|Zo (congrArg Bool.not h8) Z<|Zo (congrArg Bool.not h8) Z<|Zv (Y.pick_t Z (congrArg Bool.not h8) Z)<|Zm Z<|Zo Z Z<|Zo Z Z<|Zo Z Z<|Zo Z Z<|Zv (Y.pick_t Z Z Z)<|Ze<|Zg<|Tr.cond_t Z Z<|Zs<|Zr<|?_
   refine Za Z<|Ze<|Zg<|Zu<|Zn<|Ex.keep []<|?_
   exact Ex.ret1 rfl rfl  ⟨congrArg Value.bool (Le.right_f W),rfl,rfl⟩
  have z29 := Le.tm_f h6
  refine Zo (congrArg Bool.not h6) Z<|Zo (congrArg Bool.not h6) Z<|Zo (congrArg Bool.not h6) Z<|Zo (congrArg Bool.not h6) Z<|Zv (Y.pick_t Z (congrArg Bool.not h6) Z)<|Zm Z<|Zo Z Z<|Zo Z Z<|Zo Z Z<|Zo Z Z<|Zv (Y.pick_t Z Z Z)<|Zm Z<|Zo Z Z<|Zo Z Z<|Zo Z Z<|Zo Z Z<|?_
  refine Zv (Y.pick_t Z Z Z)<|Ze<|Zg<|Tr.cond_t Z Z<|Zs<|Zr<|Za Z<|Ze<|Zg<|Zu<|Zn<|Ex.keep []<|?_
  exact Ex.ret1 rfl rfl  ⟨congrArg Value.bool (Le.right_f W),rfl,rfl⟩
 have z30 := Le.tm_f h4
 refine Zo (congrArg Bool.not h4) Z<|Zo (congrArg Bool.not h4) Z<|Zo (congrArg Bool.not h4) Z<|Zo (congrArg Bool.not h4) Z<|Zv (Y.pick_t Z (congrArg Bool.not h4) Z)<|Zm Z<|Zo Z Z<|Zo Z Z<|Zo Z Z<|Zo Z Z<|Zv (Y.pick_t Z Z Z)<|Zm Z<|Zo Z Z<|Zo Z Z<|Zo Z Z<|Zo Z Z<|?_
 refine Zv (Y.pick_t Z Z Z)<|Zm Z<|Zo Z Z<|Zo Z Z<|Zo Z Z<|Zo Z Z<|Zv (Y.pick_t Z Z Z)<|Ze<|Zg<|Tr.cond_t Z Z<|Zs<|Zr<|Za Z<|Ze<|Zg<|Zu<|?_
 refine Zn<|Ex.keep []<|?_
 exact Ex.ret1 rfl rfl  ⟨congrArg Value.bool (Le.right_f W),rfl,rfl⟩
theorem rright11_h {q : Le} (hs : q.client.size <= 9223372036854775807) {V : Vw} {H : Hp} : Does Tryz.prog 88 [.agg q.cells.toArray] V H (Pv (.bool (Le.right q)) V H) := (rright11_c hs).frame
theorem times_c {b : Nat} {V : Vw} {H : Hp} : Does Tryz.prog 137 [(pZ b)] V H (Pv (.agg #[.pointer (some ⟨b,3,none⟩),.pointer (some ⟨b,4,none⟩),.pointer (some ⟨b,5,none⟩),.pointer (some ⟨b,6,none⟩),.pointer (some ⟨b,7,none⟩)]) V H) := by
 refine Does.intro Tryz.func137 rfl rfl (le rfl) (fun B => ?_)
 refine Zs<|Zr<|?_
 refine Run.alloc xzo174 (lt rfl) (fun b1 => ?_)
 refine Ze<|Zg<|Zs<|Tr.anyL [] 16 xmo<|Zh 0 Z (fun _ => (Y.move rfl))<|Zh 1 Z (fun _ => (Y.nilCheck rfl))<|Zh 2 Z (fun _ => (Y.fieldAddr rfl xfo43_3))<|Zh 3 Z (fun _ => (Y.move rfl))<|Zh 4 Z (fun _ => (Y.nilCheck rfl))<|Zh 5 Z (fun _ => (Y.fieldAddr rfl xfo43_4))<|Zh 6 Z (fun _ => (Y.move rfl))<|Zh 7 Z (fun _ => (Y.nilCheck rfl))<|Zh 8 Z (fun _ => (Y.fieldAddr rfl xfo43_5))<|Zh 9 Z (fun _ => (Y.move rfl))<|Zh 10 Z (fun _ => (Y.nilCheck rfl))<|?_
 refine Zh 11 Z (fun _ => (Y.fieldAddr rfl xfo43_6))<|Zh 12 Z (fun _ => (Y.move rfl))<|Zh 13 Z (fun _ => (Y.nilCheck rfl))<|Zh 14 Z (fun _ => (Y.fieldAddr rfl xfo43_7))<|Zh 15 Z (fun _ => (Y.buildA (l := [(0,.tmp 5),(1,.tmp 8),(2,.tmp 11),(3,.tmp 14),(4,.tmp 17)]) xzo174 xea174 rfl rfl))<|?_
 refine RunL.one (i := 16) WK rfl  ?_
 refine Run.store (s := [(b1,.cells #[.pointer (some ⟨b,3,none⟩),.pointer (some ⟨b,4,none⟩),.pointer (some ⟨b,5,none⟩),.pointer (some ⟨b,6,none⟩),.pointer (some ⟨b,7,none⟩)] 174 (0,0))]) Z Z xsz174 (i := 0) Z Z (le Z) Z Z<|Ze<|Ex.anyLz Z<|RunL.done WK<|Zg<|Zu<|?_
 exact Ex.retCellT 1 rfl rfl xag174 (Kn.at 0 rfl) rfl rfl ⟨rfl,rfl,rfl⟩
theorem right_c {q : Le} (hs : q.client.size <= 9223372036854775807) {V : Vw} : Does Tryz.prog 78 [.agg #[.int .u32 q.addr,.int .i64 q.bind,.string q.client,.int .i64 q.till,.int .i64 q.acked,.int .i64 q.told,.int .i64 q.at_,.int .i64 q.ver]] V [] (Pv (.bool (Le.right q)) V []) := by
 refine Does.intro Tryz.func78 rfl rfl (le rfl) (fun B => ?_)
 refine Zs<|Zr<|?_
 refine Run.box rfl (lt rfl) (fun b1 => ?_)
 refine Za Z<|Ze<|Zg<|Zs<|Zs<|Zr<|Yc Z Z Z times_c<|Zm Z<|Ze<|Zg<|Zb<|?_
 refine ZL (X := Nat) (fun z0 => V) (fun z0 => [[(b1,.cells #[.int .u32 q.addr,.int .i64 q.bind,.string q.client,.int .i64 q.till,.int .i64 q.acked,.int .i64 q.told,.int .i64 q.at_,.int .i64 q.ver] 43 (0,0))]]) (fun z0 => [(1,(pZ b1)),(5,.agg #[.pointer (some ⟨b1,3,none⟩),.pointer (some ⟨b1,4,none⟩),.pointer (some ⟨b1,5,none⟩),.pointer (some ⟨b1,6,none⟩),.pointer (some ⟨b1,7,none⟩)]),(6,.int .i64 (z0 : Int))]) (fun z0 => z0 <= 5 /\ ∀ j,j < z0 -> Le.tm (Le.tms q j) = true) (fun z0 => 5 - z0) (0 : Nat) ⟨Nat.zero_le _,fun j hj => absurd hj (Nat.not_lt_zero j)⟩ ?_
 rintro i1 ⟨hi,hall⟩
 refine Zs<|Zr<|Zv (Y.int Z Z Z)<|Ze<|Zg<|Zs<|?_
 refine Zq (decide ((i1 : Int) < 5)) (fun h2 g2 => ?_) fun h2 g2 => ?_
 ·refine Tr.cond_t Z h2<|Zt<|Zg<|Zs<|Zb<|Zs<|Zr<|?_
  rcases (show i1 = 0 \/ i1 = 1 \/ i1 = 2 \/ i1 = 3 \/ i1 = 4 from by omega) with rfl | rfl | rfl | rfl | rfl
  ·refine Zv (Y.idxAgg Z Z xas174 WD WD rfl)<|Za Z<|Ze<|Zg<|Zs<|Zr<|Zm Z<|Zv (Y.nilCheck Z)<|Zv (Y.load Z xts3 (Kn.at 0 Z) Z)<|Zv (Y.int Z Z Z)<|Zm Z<|?_
   refine Zq (decide (q.till < 0)) (fun h3 g3 => ?_) fun h3 g3 => ?_
   ·refine Zo h3 Z<|Zo h3 Z<|Zo h3 Z<|Zo h3 Z<|Zv (Y.pick_t Z h3 Z)<|Ze<|Zg<|Tr.cond_t Z Z<|Zs<|Zr<|Za Z<|Ze<|Zg<|Zu<|Zk<|Zn<|?_
    refine Zn<|Zk<|Zn<|Ex.keep []<|?_
    exact Ex.ret1 rfl rfl  ⟨congrArg Value.bool (Le.tms_not (x := q) (j := 0) WD (by show q.till < 0 \/ q.till > 1099511627776; omega)),rfl,rfl⟩
   refine Zp h3<|Zm Z<|Zp h3<|Zv (Y.nilCheck Z)<|Zp h3<|Zv (Y.load Z xts3 (Kn.at 0 Z) Z)<|Zp h3<|Zv (Y.int Z Z Z)<|Zv (Y.pick_f Z h3 Z)<|Ze<|Zg<|?_
   refine Zq (decide (q.till > 1099511627776)) (fun h4 g4 => ?_) fun h4 g4 => ?_
   ·refine Tr.cond_t Z h4<|Zs<|Zr<|Za Z<|Ze<|Zg<|Zu<|Zk<|Zn<|Zn<|Zk<|Zn<|Ex.keep []<|?_
    exact Ex.ret1 rfl rfl  ⟨congrArg Value.bool (Le.tms_not (x := q) (j := 0) WD (by show q.till < 0 \/ q.till > 1099511627776; omega)),rfl,rfl⟩
   refine Tr.cond_f Z h4<|Zt<|Zc<|Zg<|Zr<|Zv (Y.add Z Z W)<|Zm Z<|Ze<|?_
   have ht : Le.tm (Le.tms q 0) = true := Le.tm_iff.2 (by show 0 <= q.till /\ q.till <= 1099511627776; omega)
   exact ZR (0 + 1 : Nat) ⟨by omega,upto_succ hall ht⟩ W
  ·refine Zv (Y.idxAgg Z Z xas174 WD WD rfl)<|Za Z<|Ze<|Zg<|Zs<|Zr<|Zm Z<|Zv (Y.nilCheck Z)<|Zv (Y.load Z xts3 (Kn.at 0 Z) Z)<|Zv (Y.int Z Z Z)<|Zm Z<|?_
   refine Zq (decide (q.acked < 0)) (fun h5 g5 => ?_) fun h5 g5 => ?_
   ·refine Zo h5 Z<|Zo h5 Z<|Zo h5 Z<|Zo h5 Z<|Zv (Y.pick_t Z h5 Z)<|Ze<|Zg<|Tr.cond_t Z Z<|Zs<|Zr<|Za Z<|Ze<|Zg<|Zu<|Zk<|Zn<|?_
    refine Zn<|Zk<|Zn<|Ex.keep []<|?_
    exact Ex.ret1 rfl rfl  ⟨congrArg Value.bool (Le.tms_not (x := q) (j := 1) WD (by show q.acked < 0 \/ q.acked > 1099511627776; omega)),rfl,rfl⟩
   refine Zp h5<|Zm Z<|Zp h5<|Zv (Y.nilCheck Z)<|Zp h5<|Zv (Y.load Z xts3 (Kn.at 0 Z) Z)<|Zp h5<|Zv (Y.int Z Z Z)<|Zv (Y.pick_f Z h5 Z)<|Ze<|Zg<|?_
   refine Zq (decide (q.acked > 1099511627776)) (fun h6 g6 => ?_) fun h6 g6 => ?_
   ·refine Tr.cond_t Z h6<|Zs<|Zr<|Za Z<|Ze<|Zg<|Zu<|Zk<|Zn<|Zn<|Zk<|Zn<|Ex.keep []<|?_
    exact Ex.ret1 rfl rfl  ⟨congrArg Value.bool (Le.tms_not (x := q) (j := 1) WD (by show q.acked < 0 \/ q.acked > 1099511627776; omega)),rfl,rfl⟩
   refine Tr.cond_f Z h6<|Zt<|Zc<|Zg<|Zr<|Zv (Y.add Z Z W)<|Zm Z<|Ze<|?_
   have ht : Le.tm (Le.tms q 1) = true := Le.tm_iff.2 (by show 0 <= q.acked /\ q.acked <= 1099511627776; omega)
   exact ZR (1 + 1 : Nat) ⟨by omega,upto_succ hall ht⟩ W
  ·refine Zv (Y.idxAgg Z Z xas174 WD WD rfl)<|Za Z<|Ze<|Zg<|Zs<|Zr<|Zm Z<|Zv (Y.nilCheck Z)<|Zv (Y.load Z xts3 (Kn.at 0 Z) Z)<|Zv (Y.int Z Z Z)<|Zm Z<|?_
   refine Zq (decide (q.told < 0)) (fun h7 g7 => ?_) fun h7 g7 => ?_
   ·refine Zo h7 Z<|Zo h7 Z<|Zo h7 Z<|Zo h7 Z<|Zv (Y.pick_t Z h7 Z)<|Ze<|Zg<|Tr.cond_t Z Z<|Zs<|Zr<|Za Z<|Ze<|Zg<|Zu<|Zk<|Zn<|?_
    refine Zn<|Zk<|Zn<|Ex.keep []<|?_
    exact Ex.ret1 rfl rfl  ⟨congrArg Value.bool (Le.tms_not (x := q) (j := 2) WD (by show q.told < 0 \/ q.told > 1099511627776; omega)),rfl,rfl⟩
   refine Zp h7<|Zm Z<|Zp h7<|Zv (Y.nilCheck Z)<|Zp h7<|Zv (Y.load Z xts3 (Kn.at 0 Z) Z)<|Zp h7<|Zv (Y.int Z Z Z)<|Zv (Y.pick_f Z h7 Z)<|Ze<|Zg<|?_
   refine Zq (decide (q.told > 1099511627776)) (fun h8 g8 => ?_) fun h8 g8 => ?_
   ·refine Tr.cond_t Z h8<|Zs<|Zr<|Za Z<|Ze<|Zg<|Zu<|Zk<|Zn<|Zn<|Zk<|Zn<|Ex.keep []<|?_
    exact Ex.ret1 rfl rfl  ⟨congrArg Value.bool (Le.tms_not (x := q) (j := 2) WD (by show q.told < 0 \/ q.told > 1099511627776; omega)),rfl,rfl⟩
   refine Tr.cond_f Z h8<|Zt<|Zc<|Zg<|Zr<|Zv (Y.add Z Z W)<|Zm Z<|Ze<|?_
   have ht : Le.tm (Le.tms q 2) = true := Le.tm_iff.2 (by show 0 <= q.told /\ q.told <= 1099511627776; omega)
   exact ZR (2 + 1 : Nat) ⟨by omega,upto_succ hall ht⟩ W
  ·refine Zv (Y.idxAgg Z Z xas174 WD WD rfl)<|Za Z<|Ze<|Zg<|Zs<|Zr<|Zm Z<|Zv (Y.nilCheck Z)<|Zv (Y.load Z xts3 (Kn.at 0 Z) Z)<|Zv (Y.int Z Z Z)<|Zm Z<|?_
   refine Zq (decide (q.at_ < 0)) (fun h9 g9 => ?_) fun h9 g9 => ?_
   ·refine Zo h9 Z<|Zo h9 Z<|Zo h9 Z<|Zo h9 Z<|Zv (Y.pick_t Z h9 Z)<|Ze<|Zg<|Tr.cond_t Z Z<|Zs<|Zr<|Za Z<|Ze<|Zg<|Zu<|Zk<|Zn<|?_
    refine Zn<|Zk<|Zn<|Ex.keep []<|?_
    exact Ex.ret1 rfl rfl  ⟨congrArg Value.bool (Le.tms_not (x := q) (j := 3) WD (by show q.at_ < 0 \/ q.at_ > 1099511627776; omega)),rfl,rfl⟩
   refine Zp h9<|Zm Z<|Zp h9<|Zv (Y.nilCheck Z)<|Zp h9<|Zv (Y.load Z xts3 (Kn.at 0 Z) Z)<|Zp h9<|Zv (Y.int Z Z Z)<|Zv (Y.pick_f Z h9 Z)<|Ze<|Zg<|?_
   refine Zq (decide (q.at_ > 1099511627776)) (fun h10 g10 => ?_) fun h10 g10 => ?_
   ·refine Tr.cond_t Z h10<|Zs<|Zr<|Za Z<|Ze<|Zg<|Zu<|Zk<|Zn<|Zn<|Zk<|Zn<|Ex.keep []<|?_
    exact Ex.ret1 rfl rfl  ⟨congrArg Value.bool (Le.tms_not (x := q) (j := 3) WD (by show q.at_ < 0 \/ q.at_ > 1099511627776; omega)),rfl,rfl⟩
   refine Tr.cond_f Z h10<|Zt<|Zc<|Zg<|Zr<|Zv (Y.add Z Z W)<|Zm Z<|Ze<|?_
   have ht : Le.tm (Le.tms q 3) = true := Le.tm_iff.2 (by show 0 <= q.at_ /\ q.at_ <= 1099511627776; omega)
   exact ZR (3 + 1 : Nat) ⟨by omega,upto_succ hall ht⟩ W
  refine Zv (Y.idxAgg Z Z xas174 WD WD rfl)<|Za Z<|Ze<|Zg<|Zs<|Zr<|Zm Z<|Zv (Y.nilCheck Z)<|Zv (Y.load Z xts3 (Kn.at 0 Z) Z)<|Zv (Y.int Z Z Z)<|Zm Z<|?_
  refine Zq (decide (q.ver < 0)) (fun h11 g11 => ?_) fun h11 g11 => ?_
  ·refine Zo h11 Z<|Zo h11 Z<|Zo h11 Z<|Zo h11 Z<|Zv (Y.pick_t Z h11 Z)<|Ze<|Zg<|Tr.cond_t Z Z<|Zs<|Zr<|Za Z<|Ze<|Zg<|Zu<|Zk<|Zn<|?_
   refine Zn<|Zk<|Zn<|Ex.keep []<|?_
   exact Ex.ret1 rfl rfl  ⟨congrArg Value.bool (Le.tms_not (x := q) (j := 4) WD (by show q.ver < 0 \/ q.ver > 1099511627776; omega)),rfl,rfl⟩
  refine Zp h11<|Zm Z<|Zp h11<|Zv (Y.nilCheck Z)<|Zp h11<|Zv (Y.load Z xts3 (Kn.at 0 Z) Z)<|Zp h11<|Zv (Y.int Z Z Z)<|Zv (Y.pick_f Z h11 Z)<|Ze<|Zg<|?_
  refine Zq (decide (q.ver > 1099511627776)) (fun h12 g12 => ?_) fun h12 g12 => ?_
  ·refine Tr.cond_t Z h12<|Zs<|Zr<|Za Z<|Ze<|Zg<|Zu<|Zk<|Zn<|Zn<|Zk<|Zn<|Ex.keep []<|?_
   exact Ex.ret1 rfl rfl  ⟨congrArg Value.bool (Le.tms_not (x := q) (j := 4) WD (by show q.ver < 0 \/ q.ver > 1099511627776; omega)),rfl,rfl⟩
  refine Tr.cond_f Z h12<|Zt<|Zc<|Zg<|Zr<|Zv (Y.add Z Z W)<|Zm Z<|Ze<|?_
  have ht : Le.tm (Le.tms q 4) = true := Le.tm_iff.2 (by show 0 <= q.ver /\ q.ver <= 1099511627776; omega)
  exact ZR (4 + 1 : Nat) ⟨by omega,upto_succ hall ht⟩ W
 refine Tr.cond_f Z h2<|Zx<|Zy<|Zy<|Zi<|Zg<|Zs<|Zb<|Zs<|Zr<|Zv (Y.fieldAddr Z xfo43_1)<|Zv (Y.load Z xts3 (Kn.at 0 Z) Z)<|Zv (Y.int Z Z Z)<|Zm Z<|?_
 refine Zq (decide (q.bind < 0)) (fun h13 g13 => ?_) fun h13 g13 => ?_
 ·refine Zo h13 Z<|Zo h13 Z<|Zo h13 Z<|Zv (Y.pick_t Z h13 Z)<|Za Z<|Ze<|Zg<|Tr.cond_t Z Z<|Zs<|Zr<|Za Z<|Ze<|Zg<|Zu<|Zk<|Zn<|?_
  refine Ex.keep [] ?_
  have hta := Le.tms_all (x := q) fun j hj => hall j W
  exact Ex.ret1 rfl rfl  ⟨congrArg Value.bool (Le.right_f W),rfl,rfl⟩
 refine Zp h13<|Zv (Y.fieldAddr Z xfo43_1)<|Zp h13<|Zv (Y.load Z xts3 (Kn.at 0 Z) Z)<|Zp h13<|Zv (Y.int Z Z Z)<|Zv (Y.pick_f Z h13 Z)<|Za Z<|Ze<|Zg<|?_
 refine Zq (decide (q.bind > 5)) (fun h14 g14 => ?_) fun h14 g14 => ?_
 ·refine Tr.cond_t Z h14<|Zs<|Zr<|Za Z<|Ze<|Zg<|Zu<|Zk<|Zn<|Ex.keep []<|?_
  have hta := Le.tms_all (x := q) fun j hj => hall j W
  exact Ex.ret1 rfl rfl  ⟨congrArg Value.bool (Le.right_f W),rfl,rfl⟩
 refine Tr.cond_f Z h14<|Zs<|Zr<|Zv (Y.fieldAddr Z xfo43_1)<|Zv (Y.load Z xts3 (Kn.at 0 Z) Z)<|Yc Z Z Z held_c_h<|Za Z<|Ze<|Zg<|?_
 refine Zq (Le.held q.bind) (fun h15 g15 => ?_) fun h15 g15 => ?_
 ·have z16 := Le.held_t h15
  refine Tr.cond_t Z h15<|Zs<|Zr<|Zv (Y.fieldAddr Z xfo43_2)<|Zv (Y.load Z xts9 (Kn.at 0 Z) Z)<|Zv (Y.neStr Z Z)<|Zm Z<|?_
  refine Zq (q.client.toList == (⟨#[]⟩ : ByteArray).toList) (fun h17 g17 => ?_) fun h17 g17 => ?_
  ·have z18 := Le.str0_t h17
   refine Zo (congrArg Bool.not h17) Z<|Zo (congrArg Bool.not h17) Z<|Zo (congrArg Bool.not h17) Z<|Zo (congrArg Bool.not h17) Z<|Zv (Y.pick_f Z (congrArg Bool.not h17) Z)<|Za Z<|Ze<|Zg<|Zu<|Zk<|Zn<|Ex.keep []<|?_
   have hta := Le.tms_all (x := q) fun j hj => hall j W
   exact Ex.ret1 rfl rfl  ⟨congrArg Value.bool (Le.right_f W),rfl,rfl⟩
  have z19 := Le.str0_f h17
  refine Zp (congrArg Bool.not h17)<|Zv (Y.fieldAddr Z xfo43_2)<|Zp (congrArg Bool.not h17)<|Zv (Y.load Z xts9 (Kn.at 0 Z) Z)<|Zp (congrArg Bool.not h17)<|Zv (Y.lenStr Z xst9)<|Zp (congrArg Bool.not h17)<|Zv (Y.int Z Z Z)<|Zv (Y.pick_t Z (congrArg Bool.not h17) Z)<|Za Z<|Ze<|Zg<|Zu<|Zk<|Zn<|Ex.keep []<|?_
  have hta := Le.tms_all (x := q) fun j hj => hall j W
  exact Ex.ret1 rfl rfl  ⟨congrArg Value.bool (Le.right_d W),rfl,rfl⟩
 have z20 := Le.held_f h15
 refine Tr.cond_f Z h15<|Zt<|Zc<|Zg<|Zs<|Tr.quiet xmo WK<|ZV (Y.loadAgg Z xag43 (Kn.at 0 Z) Z)<|ZV (Y.fieldAddr Z xfo43_0)<|ZV (Y.load Z xts24 (Kn.at 0 Z) Z)<|ZV (Y.fieldAddr Z xfo43_1)<|ZV (Y.load Z xts3 (Kn.at 0 Z) Z)<|ZV (Y.fieldAddr Z xfo43_7)<|ZV (Y.load Z xts3 (Kn.at 0 Z) Z)<|YC Z Z Z bare_c_h<|ZV (Y.eqS Z Z xtgs43 Z Z)<|ZA Z<|?_
 refine ZE<|Zg<|Zu<|Ex.keep []<|?_
 have hta := Le.tms_all (x := q) fun j hj => hall j W
 exact Ex.ret1 rfl rfl  ⟨congrArg Value.bool (Le.right_s (Le.tms_all fun j hj => hall j W) W W),rfl,rfl⟩
theorem right_h {q : Le} (hs : q.client.size <= 9223372036854775807) {V : Vw} {H : Hp} : Does Tryz.prog 78 [.agg q.cells.toArray] V H (Pv (.bool (Le.right q)) V H) := (right_c hs).frame
theorem isnan_n0 {m : Int} {V : Vw} : Does Tryz.prog 201 [.int .i64 m] V [] (Pv (.bool false) V []) := by
 refine Does.intro Tryz.func201 rfl rfl (le rfl) (fun B => ?_)
 refine Zs<|Zr<|Za Z<|Ze<|Zg<|Zs<|Zr<|Zm Z<|Zm Z<|Zv (Y.int Z Z Z)<|Za Z<|Ze<|Zg<|Zu<|?_
 exact Ex.ret1 rfl rfl  ⟨by simp,rfl,rfl⟩
theorem isnan_n0_h {m : Int} {V : Vw} {H : Hp} : Does Tryz.prog 201 [.int .i64 m] V H (Pv (.bool false) V H) := isnan_n0.frame
theorem cmp_n {m n : Int} {V : Vw} : Does Tryz.prog 186 [.int .i64 m,.int .i64 n] V [] (Pv (.int .i64 (Rg.cmp3 m n)) V []) := by
 refine Does.intro Tryz.func186 rfl rfl (le rfl) (fun B => ?_)
 refine Zs<|Zr<|Za Z<|Ze<|Zg<|Zs<|Zr<|Zm Z<|Yc Z Z Z isnan_n0_h<|Za Z<|Ze<|Zg<|Zs<|Zr<|Zm Z<|Yc Z Z Z isnan_n0_h<|?_
 refine Za Z<|Ze<|Zg<|Zs<|Zs<|Zr<|Zm Z<|Ze<|Zg<|Tr.cond_f Z Z<|Zt<|Zg<|Zs<|Zs<|Zr<|Zm Z<|?_
 refine Ze<|Zg<|Tr.cond_f Z Z<|Zt<|Zg<|Zs<|Zs<|Zr<|Zm Z<|Zm Z<|Zv (Y.int Z Z Z)<|Ze<|Zg<|?_
 refine Zq (decide (m < n)) (fun h1 g1 => ?_) fun h1 g1 => ?_
 ·refine Tr.cond_t Z h1<|Zs<|Zr<|Za Z<|Ze<|Zg<|Zu<|Zn<|Ex.keep []<|?_
  exact Ex.ret1 rfl rfl  ⟨congrArg (Value.int _) (by unfold Rg.cmp3; (repeat' split) <;> omega),rfl,rfl⟩
 refine Tr.cond_f Z h1<|Zt<|Zg<|Zs<|Zs<|Zr<|Zm Z<|Zm Z<|Zv (Y.int Z Z Z)<|Ze<|Zg<|?_
 refine Zq (decide (m > n)) (fun h2 g2 => ?_) fun h2 g2 => ?_
 ·refine Tr.cond_t Z h2<|Zs<|Zr<|Za Z<|Ze<|Zg<|Zu<|Zn<|Ex.keep []<|?_
  exact Ex.ret1 rfl rfl  ⟨congrArg (Value.int _) (by unfold Rg.cmp3; (repeat' split) <;> omega),rfl,rfl⟩
 refine Tr.cond_f Z h2<|Zt<|Zg<|Zs<|Zr<|Za Z<|Ze<|Zg<|Zu<|Ex.keep []<|?_
 exact Ex.ret1 rfl rfl  ⟨congrArg (Value.int _) (by unfold Rg.cmp3; (repeat' split) <;> omega),rfl,rfl⟩
theorem cmp_n_h {m n : Int} {V : Vw} {H : Hp} : Does Tryz.prog 186 [.int .i64 m,.int .i64 n] V H (Pv (.int .i64 (Rg.cmp3 m n)) V H) := cmp_n.frame
theorem or_c {V : Vw} {H : Hp} {x y : Int} {p : Option Addr} {c : Nat} (hv : Rd V H 1 (.slice p 2 c) 2 ([x,y].flatMap nI))  : Does Tryz.prog 185 [.slice p 2 c] V H (Pv (.int .i64 (if x ≠ 0 then x else y)) V H) := by
 have hl2 : [x,y].length = 2 := rfl
 refine Does.intro Tryz.func185 rfl rfl (le rfl) (fun B => ?_)
 refine Zs<|Zr<|Za Z<|Ze<|Zg<|Zs<|Zr<|Za Z<|Ze<|Zg<|Zs<|Zs<|Zr<|Zm Z<|Zv (Y.lenSl Z xes148)<|Zm Z<|?_
 refine Ze<|Zg<|Zb<|?_
 refine ZL (X := Nat) (fun z0 => V) (fun z0 => H) (fun z0 => [(3,.int .i64 0),(6,.slice p 2 c),(7,.int .i64 ((2 : Nat) : Int)),(8,.int .i64 (z0 : Int))]) (fun z0 => z0 <= 2 /\ (1 <= z0 -> x = 0) /\ (2 <= z0 -> y = 0)) (fun z0 => 2 - z0) (0 : Nat) ⟨by decide,fun h => absurd h WD,fun h => absurd h WD⟩ ?_
 rintro i1 ⟨hi,hx,hy⟩
 refine Zs<|Zr<|Zv (Y.int Z Z Z)<|Ze<|Zg<|Zs<|?_
 refine Zq (decide ((i1 : Int) < ((2 : Nat) : Int))) (fun h1 g1 => ?_) fun h1 g1 => ?_
 ·refine Tr.cond_t Z h1<|Zt<|Zg<|Zs<|Zb<|Zs<|Zr<|Zv (Y.idxR i1 Z Z xes148 hv W W)<|Zv (Y.ldR Z xts3 hv (flatm_at0 nI_enc.len W 0 WD rfl))<|Za Z<|Ze<|Zg<|Zs<|Zr<|Zm Z<|Zm Z<|?_
  refine Zv (Y.int Z Z Z)<|Ze<|Zg<|?_
  refine Zq (([x,y].getD i1 0) != 0) (fun h2 g2 => ?_) fun h2 g2 => ?_
  ·refine Tr.cond_t Z h2<|Zs<|Zr<|Zm Z<|Za Z<|Ze<|Zg<|Zu<|Zk<|Zn<|Zn<|Zk<|Zn<|?_
   have hz : (i1 = 0 -> [x,y].getD i1 0 = x) /\ (i1 = 1 -> [x,y].getD i1 0 = y) := ⟨fun h => by rw [h]; rfl,fun h => by rw [h]; rfl⟩
   exact Ex.ret1 rfl rfl  ⟨congrArg (Value.int _) (by rcases Nat.eq_zero_or_pos i1 with h9 | h9; have := hz.1 h9; rw [if_pos W]; exact this; have := hz.2 W; rw [if_neg (by have := hx h9; omega)]; exact this),rfl,rfl⟩
  refine Tr.cond_f Z h2<|Zt<|Zc<|Zg<|Zr<|Zv (Y.add Z Z W)<|Zm Z<|Ze<|?_
  have hz : (i1 = 0 -> [x,y].getD i1 0 = x) /\ (i1 = 1 -> [x,y].getD i1 0 = y) := ⟨fun h => by rw [h]; rfl,fun h => by rw [h]; rfl⟩
  exact ZR (i1 + 1 : Nat) ⟨by omega,fun _ => by rcases Nat.eq_zero_or_pos i1 with h9 | h9; have := hz.1 h9; omega; exact hx h9,fun _ => by have := hz.2 W; omega⟩ W
 refine Tr.cond_f Z h1<|Zx<|Zy<|Zy<|Zi<|Zg<|Zs<|Zr<|Zm Z<|Za Z<|Ze<|Zg<|Zu<|?_
 exact Ex.ret1 rfl rfl  ⟨congrArg (Value.int _) (by rw [if_neg (by have := hx W; omega)]; exact (hy W).symm),rfl,rfl⟩
end Go.Proofs.YtfgblingojgafaaGreat
namespace Go.Proofs.YtfgblingojgafaaGreat
open Go Go.K
attribute [local irreducible] Code.wp wpList Calls wpQuiet
theorem latest_c {V : Vw} {H : Hp} {l : List Int} {p : Option Addr} {c : Nat} (hv : Rd V H 1 (.slice p l.length c) l.length (l.flatMap nI)) (hn : l.length <= 1000)  : Does Tryz.prog 50 [.slice p l.length c] V H (Pv (.int .i64 (Rul.latest l)) V H) := by
 refine Does.intro Tryz.func50 rfl rfl (le rfl) (fun B => ?_)
 refine Zs<|Zr<|Za Z<|Ze<|Zg<|Zs<|Zr<|Za Z<|Ze<|Zg<|Zs<|Zs<|Zr<|Zm Z<|Zv (Y.lenSl Z xes148)<|Zm Z<|?_
 refine Ze<|Zg<|Zb<|?_
 refine ZL (X := Nat) (fun z0 => V) (fun z0 => H) (fun z0 => [(3,.int .i64 (Rul.latest (l.take z0))),(6,.slice p l.length c),(7,.int .i64 ((l.length : Nat) : Int)),(8,.int .i64 (z0 : Int))]) (fun z0 => z0 <= l.length) (fun z0 => l.length - z0) (0 : Nat) (Nat.zero_le _) ?_ (by repeat (first | exact subB_nil _ | refine subB_cons (by first | rfl | exact congrArg (fun z => some (Value.int _ z)) W | exact congrArg (fun z => some (Value.int _ z)) (Rul.latest_take W).symm) ?_))
 rintro i1 hi
 refine Zs<|Zr<|Zv (Y.int Z Z Z)<|Ze<|Zg<|Zs<|?_
 refine Zq (decide ((i1 : Int) < ((l.length : Nat) : Int))) (fun h1 g1 => ?_) fun h1 g1 => ?_
 ·refine Tr.cond_t Z h1<|Zt<|Zg<|Zs<|Zb<|Zs<|Zr<|Zv (Y.idxR i1 Z Z xes148 hv W W)<|Zv (Y.ldR Z xts3 hv (flatm_at0 nI_enc.len W 0 WD rfl))<|Za Z<|Ze<|Zg<|Zr<|Zm Z<|Zm Z<|Yc Z Z Z (add_c_h (t := (l.getD i1 0)) (d := 0))<|?_
  refine Zv (Y.max2 Z Z)<|Za Z<|Ze<|Zc<|Zg<|Zr<|Zv (Y.add Z Z W)<|Zm Z<|Ze<|?_
  exact ZR (i1 + 1 : Nat) W W (by repeat (first | exact subB_nil _ | refine subB_cons (by first | rfl | exact congrArg (fun z => some (Value.int _ z)) W | exact congrArg (fun z => some (Value.int _ z)) (Rul.latest_take W).symm) ?_))
 refine Tr.cond_f Z h1<|Zx<|Zy<|Zy<|Zi<|Zg<|Zs<|Zr<|Zm Z<|Za Z<|Ze<|Zg<|Zu<|?_
 exact Ex.ret1 rfl rfl  ⟨congrArg (Value.int _) (by rw [List.take_of_length_le W]),rfl,rfl⟩
theorem own_c {V : Vw} {r : Rul}  : Does Tryz.prog 47 [.agg #[.int .i64 r.id,.int .i64 r.lead,.int .i64 r.guard]] V [] (Pv (.int .i64 r.own) V []) := by
 refine Does.intro Tryz.func47 rfl rfl (le rfl) (fun B => ?_)
 refine Zs<|Zr<|?_
 refine Run.box rfl (lt rfl) (fun b1 => ?_)
 refine Za Z<|Ze<|Zg<|Zs<|Zs<|Zr<|Zv (Y.fieldAddr Z xfo58_0)<|Zv (Y.load Z xts3 (Kn.at 0 Z) Z)<|Zv (Y.int Z Z Z)<|Ze<|Zg<|?_
 refine Zq (r.id == 0) (fun h2 g2 => ?_) fun h2 g2 => ?_
 ·refine Tr.cond_t Z h2<|Zs<|Zr<|Za Z<|Ze<|Zg<|Zu<|Zn<|Ex.keep []<|?_
  exact Ex.ret1 rfl rfl  ⟨congrArg (Value.int _) (by unfold Rul.own; rw [if_pos W]),rfl,rfl⟩
 refine Tr.cond_f Z h2<|Zt<|Zg<|Zs<|Zr<|Za Z<|Ze<|Zg<|Zu<|Ex.keep []<|?_
 exact Ex.ret1 rfl rfl  ⟨congrArg (Value.int _) (by unfold Rul.own; rw [if_neg W]),rfl,rfl⟩
theorem until_c {V : Vw} {r : Rul} {now want acked : Int}  : Does Tryz.prog 148 [.agg #[.int .i64 r.id,.int .i64 r.lead,.int .i64 r.guard],.int .i64 now,.int .i64 want,.int .i64 acked] V [] (Pv (.int .i64 (r.until_ now want acked)) V []) := by
 refine Does.intro Tryz.func148 rfl rfl (le rfl) (fun B => ?_)
 refine Zs<|Zr<|?_
 refine Run.box rfl (lt rfl) (fun b1 => ?_)
 refine Za Z<|Ze<|Zg<|Zs<|Tr.anyD [(b1,.cells #[.int .i64 r.id,.int .i64 r.lead,.int .i64 r.guard] 58 (0,0))] xmo<|Zd 0 Z (fun _ => (Y.move rfl))<|Zd 1 Z (fun _ => (Y.move rfl))<|Zd 2 Z (fun _ => (Y.max2 rfl rfl))<|Zd 4 Z (fun _ => (Y.move rfl))<|Zd 5 Z (fun _ => (Y.move rfl))<|Zd 8 Z (fun _ => (Y.fieldAddr rfl xfo58_1))<|ZD 9 0 Z Z (fun _ => (Y.load rfl xts3 Kn.vk1 rfl))<|Zd 10 Z (fun _ => (Y.max2 rfl rfl))<|?_
 refine RunD.two (i := 3) (j := 6) WK rfl rfl  ?_ ?_
 ·refine Yc Z Z Z (add_c_h (t := now) (d := max want 0))<|Ze<|Zf<|?_
  refine RunD.one (i := 6) WK rfl  ?_
  refine Run.buildSlice (l := [(0,.tmp 13),(1,.tmp 14)]) xes148 xzo3 rfl WD rfl rfl WD (lt rfl) (fun b2 => ?_)
  refine Ze<|Zf<|?_
  refine RunD.one (i := 7) WK rfl  ?_
  refine Yc Z Z Z (latest_c (l := [now,acked]) (Rd.one (Kn.at 0 Z) Z) (Nat.le_of_ble_eq_true Z))<|Ze<|Zf<|?_
  refine RunD.one (i := 11) WK rfl  ?_
  refine Yc Z Z Z (add_c_h (t := Rul.latest [now,acked]) (d := max r.lead 0))<|Ze<|Zf<|Zd 12 Z (fun _ => (Y.min2 rfl rfl))<|Zd 13 Z (fun _ => (Y.assign rfl))<|RunD.done WK<|Zg<|Zu<|Ex.keep []<|?_
  exact Ex.ret1 rfl rfl  ⟨rfl,rfl,rfl⟩
 refine Run.buildSlice (l := [(0,.tmp 13),(1,.tmp 14)]) xes148 xzo3 rfl WD rfl rfl WD (lt rfl) (fun b3 => ?_)
 refine Ze<|Zf<|?_
 refine RunD.one (i := 3) WK rfl  ?_
 refine Yc Z Z Z (add_c_h (t := now) (d := max want 0))<|Ze<|Zf<|?_
 refine RunD.one (i := 7) WK rfl  ?_
 refine Yc Z Z Z (latest_c (l := [now,acked]) (Rd.one (Kn.at 0 Z) Z) (Nat.le_of_ble_eq_true Z))<|Ze<|Zf<|?_
 refine RunD.one (i := 11) WK rfl  ?_
 refine Yc Z Z Z (add_c_h (t := Rul.latest [now,acked]) (d := max r.lead 0))<|Ze<|Zf<|Zd 12 Z (fun _ => (Y.min2 rfl rfl))<|Zd 13 Z (fun _ => (Y.assign rfl))<|RunD.done WK<|Zg<|Zu<|Ex.keep []<|?_
 exact Ex.ret1 rfl rfl  ⟨rfl,rfl,rfl⟩
theorem pot_c {V : Vw} {r : Rul} {l : Le} {now want : Int}  : Does Tryz.prog 103 [.agg #[.int .i64 r.id,.int .i64 r.lead,.int .i64 r.guard],.agg #[.int .u32 l.addr,.int .i64 l.bind,.string l.client,.int .i64 l.till,.int .i64 l.acked,.int .i64 l.told,.int .i64 l.at_,.int .i64 l.ver],.int .i64 now,.int .i64 want] V [] (Pv (.int .i64 (Rul.potential l now want)) V []) := by
 refine Does.intro Tryz.func103 rfl rfl (le rfl) (fun B => ?_)
 refine Zs<|Zr<|?_
 refine Run.box rfl (lt rfl) (fun b1 => ?_)
 refine Run.box rfl (lt rfl) (fun b2 => ?_)
 refine Za Z<|Ze<|Zg<|Zs<|Tr.anyD [(b2,.cells #[.int .u32 l.addr,.int .i64 l.bind,.string l.client,.int .i64 l.till,.int .i64 l.acked,.int .i64 l.told,.int .i64 l.at_,.int .i64 l.ver] 43 (0,0))] xmo<|Zd 0 Z (fun _ => (Y.fieldAddr rfl xfo43_3))<|ZD 1 0 Z Z (fun _ => (Y.load rfl xts3 Kn.vk1 rfl))<|Zd 2 Z (fun _ => (Y.move rfl))<|Zd 3 Z (fun _ => (Y.move rfl))<|Zd 4 Z (fun _ => (Y.max2 rfl rfl))<|?_
 refine RunD.one (i := 5) WK rfl  ?_
 refine Yc Z Z Z (add_c_h (t := now) (d := max want 0))<|Ze<|Zf<|Zd 6 Z (fun _ => (Y.max2 rfl rfl))<|Zd 7 Z (fun _ => (Y.assign rfl))<|RunD.done WK<|Zg<|Zu<|Ex.keep []<|?_
 exact Ex.ret1 rfl rfl  ⟨rfl,rfl,rfl⟩
theorem is_c {n : Int} {V : Vw} : Does Tryz.prog 141 [.int .i64 n] V [] (Pv (.bool (decide (0 <= n /\ n < 9))) V []) := by
 refine Does.intro Tryz.func141 rfl rfl (le rfl) (fun B => ?_)
 refine Zs<|Zr<|Za Z<|Ze<|Zg<|Zs<|Zr<|Zm Z<|Zv (Y.int Z Z Z)<|Zm Z<|?_
 refine Zq (decide (n >= 0)) (fun h1 g1 => ?_) fun h1 g1 => ?_
 ·refine Zp h1<|Zm Z<|Zp h1<|Zv (Y.int Z Z Z)<|Zv (Y.pick_t Z h1 Z)<|Za Z<|Ze<|Zg<|Zu<|?_
  exact Ex.ret1 rfl rfl  ⟨by first | (simp; omega) | simp_all | (simp_all; omega),rfl,rfl⟩
 refine Zo h1 Z<|Zo h1 Z<|Zv (Y.pick_f Z h1 Z)<|Za Z<|Ze<|Zg<|Zu<|?_
 exact Ex.ret1 rfl rfl  ⟨by first | (simp; omega) | simp_all | (simp_all; omega),rfl,rfl⟩
theorem glease_c {V : Vw} {r : Rul} {l : Le} {client : ByteArray} {now want : Int}  : Does Tryz.prog 102 [.agg #[.int .i64 r.id,.int .i64 r.lead,.int .i64 r.guard],.agg #[.int .u32 l.addr,.int .i64 l.bind,.string l.client,.int .i64 l.till,.int .i64 l.acked,.int .i64 l.told,.int .i64 l.at_,.int .i64 l.ver],.string client,.int .i64 now,.int .i64 want] V [] (Pv (.agg (r.lease l client now want).cells.toArray) V []) := by
 refine Does.intro Tryz.func102 rfl rfl (le rfl) (fun B => ?_)
 refine Zs<|Zr<|?_
 refine Run.box rfl (lt rfl) (fun b1 => ?_)
 refine Run.box rfl (lt rfl) (fun b2 => ?_)
 refine Run.alloc xzo43 (lt rfl) (fun b3 => ?_)
 refine Ze<|Zg<|Zs<|Zs<|Zr<|Zv (Y.fieldAddr Z xfo43_1)<|Zv (Y.load Z xts3 (Kn.at 1 Z) Z)<|Zv (Y.int Z Z Z)<|Zm Z<|?_
 refine Zq (l.bind != 2) (fun h4 g4 => ?_) fun h4 g4 => ?_
 ·refine Zo h4 Z<|Zo h4 Z<|Zo h4 Z<|Zo h4 Z<|Zv (Y.pick_t Z h4 Z)<|Ze<|Zg<|Tr.cond_t Z Z<|Zs<|Zr<|Zv (Y.fieldAddr Z xfo43_7)<|Zv (Y.load Z xts3 (Kn.at 1 Z) Z)<|Za Z<|Ze<|Zg<|Zs<|?_
  refine Zs<|Tr.anyD [(b1,.cells #[.int .i64 r.id,.int .i64 r.lead,.int .i64 r.guard] 58 (0,0)),(b2,.cells #[.int .u32 l.addr,.int .i64 l.bind,.string l.client,.int .i64 l.till,.int .i64 l.acked,.int .i64 l.told,.int .i64 l.at_,.int .i64 l.ver] 43 (0,0))] xmo<|Zd 0 Z (fun _ => (Y.fieldAddr rfl xfo43_1))<|ZD 1 1 Z Z (fun _ => (Y.load rfl xts3 Kn.vk1 rfl))<|ZD 2 0 Z Z (fun _ => (Y.loadAgg rfl xag58 Kn.vk1 rfl))<|?_
  refine RunD.one (i := 3) WK rfl  ?_
  refine Yc Z Z Z ((own_c (r := r)).frame)<|Ze<|Zf<|Zd 4 Z (fun _ => (Y.int rfl rfl rfl))<|RunD.done WK<|Zg<|?_
  refine Zq (l.bind != r.own) (fun h5 g5 => ?_) fun h5 g5 => ?_
  ·refine Tr.cond_t Z h5<|Zr<|Zm Z<|Yc Z Z Z (add_c_h (t := l.ver) (d := 1))<|Za Z<|Ze<|Zg<|Zr<|Zv (Y.fieldAddr Z xfo43_0)<|Zv (Y.load Z xts24 (Kn.at 1 Z) Z)<|Zm Z<|Zm Z<|Zv (Y.buildS (l := [(0,.tmp 31),(1,.const (.int .i64 2)),(2,.tmp 32),(7,.tmp 33)]) xzo43 xpl43 Z Z)<|Run.store (s := [(b2,.cells #[.int .u32 l.addr,.int .i64 2,.string client,.int .i64 0,.int .i64 0,.int .i64 0,.int .i64 0,.int .i64 (Ck.add l.ver 1)] 43 (0,0))]) Z Z xsz43 (i := 1) Z Z (le Z) Z Z<|?_
   refine Ze<|Zg<|Zs<|Tr.anyL [(b1,.cells #[.int .i64 r.id,.int .i64 r.lead,.int .i64 r.guard] 58 (0,0)),(b2,.cells #[.int .u32 l.addr,.int .i64 2,.string client,.int .i64 0,.int .i64 0,.int .i64 0,.int .i64 0,.int .i64 (Ck.add l.ver 1)] 43 (0,0))] 10 xmo<|Zh 0 Z (fun _ => (Y.fieldAddr rfl xfo43_3))<|ZH 1 1 Z Z (fun _ => (Y.load rfl xts3 Kn.vk1 rfl))<|ZH 2 0 Z Z (fun _ => (Y.loadAgg rfl xag58 Kn.vk1 rfl))<|?_
   refine Zh 3 Z (fun _ => (Y.move rfl))<|Zh 4 Z (fun _ => (Y.move rfl))<|Zh 5 Z (fun _ => (Y.fieldAddr rfl xfo43_4))<|ZH 6 1 Z Z (fun _ => (Y.load rfl xts3 Kn.vk1 rfl))<|?_
   refine RunL.one (i := 7) WK rfl  ?_
   refine Yc Z Z Z ((until_c (r := r) (now := now) (want := want) (acked := 0)).frame)<|Ze<|ZF<|Zh 8 Z (fun _ => (Y.max2 rfl rfl))<|Zh 9 Z (fun _ => (Y.fieldAddr rfl xfo43_3))<|?_
   refine RunL.one (i := 10) WK rfl  ?_
   refine Run.store (s := [(b2,.cells #[.int .u32 l.addr,.int .i64 2,.string client,.int .i64 (max 0 (r.until_ now want 0)),.int .i64 0,.int .i64 0,.int .i64 0,.int .i64 (Ck.add l.ver 1)] 43 (0,0))]) Z Z xsz3 (i := 1) Z Z (le Z) Z Z<|Ze<|Ex.anyLz Z<|RunL.done WK<|Zg<|Zs<|Zr<|Zm Z<|?_
   refine Run.buildSlice (l := [(0,.tmp 45)]) xes148 xzo3 rfl WD rfl rfl WD (lt rfl) (fun b6 => ?_)
   refine Yc Z Z Z (latest_c (l := [now]) (Rd.one (Kn.at 0 Z) Z) (Nat.le_of_ble_eq_true Z))<|Zv (Y.fieldAddr Z xfo43_6)<|Run.store (s := [(b2,.cells #[.int .u32 l.addr,.int .i64 2,.string client,.int .i64 (max 0 (r.until_ now want 0)),.int .i64 0,.int .i64 0,.int .i64 (Rul.latest [now]),.int .i64 (Ck.add l.ver 1)] 43 (0,0))]) Z Z xsz3 (i := 2) Z Z (le Z) Z Z<|Ze<|Zg<|Zs<|Zr<|Zv (Y.loadAgg Z xag43 (Kn.at 2 Z) Z)<|?_
   refine Run.store (s := [(b3,.cells #[.int .u32 l.addr,.int .i64 2,.string client,.int .i64 (max 0 (r.until_ now want 0)),.int .i64 0,.int .i64 0,.int .i64 (Rul.latest [now]),.int .i64 (Ck.add l.ver 1)] 43 (0,0))]) Z Z xsz43 (i := 1) Z Z (le Z) Z Z<|Ze<|Zg<|Zu<|?_
   exact Ex.retCell [] rfl rfl xag43 (Kn.at 1 rfl) rfl ⟨congrArg Value.agg (by rw [Rul.lease_new (.inl W),if_pos W] <;> rfl),rfl,rfl⟩
  refine Tr.cond_f Z h5<|Zt<|Zg<|Zr<|Zv (Y.fieldAddr Z xfo43_0)<|Zv (Y.load Z xts24 (Kn.at 1 Z) Z)<|Zm Z<|Zm Z<|Zv (Y.buildS (l := [(0,.tmp 31),(1,.const (.int .i64 2)),(2,.tmp 32),(7,.tmp 33)]) xzo43 xpl43 Z Z)<|Run.store (s := [(b2,.cells #[.int .u32 l.addr,.int .i64 2,.string client,.int .i64 0,.int .i64 0,.int .i64 0,.int .i64 0,.int .i64 l.ver] 43 (0,0))]) Z Z xsz43 (i := 1) Z Z (le Z) Z Z<|?_
  refine Ze<|Zg<|Zs<|Tr.anyL [(b1,.cells #[.int .i64 r.id,.int .i64 r.lead,.int .i64 r.guard] 58 (0,0)),(b2,.cells #[.int .u32 l.addr,.int .i64 2,.string client,.int .i64 0,.int .i64 0,.int .i64 0,.int .i64 0,.int .i64 l.ver] 43 (0,0))] 10 xmo<|Zh 0 Z (fun _ => (Y.fieldAddr rfl xfo43_3))<|ZH 1 1 Z Z (fun _ => (Y.load rfl xts3 Kn.vk1 rfl))<|ZH 2 0 Z Z (fun _ => (Y.loadAgg rfl xag58 Kn.vk1 rfl))<|?_
  refine Zh 3 Z (fun _ => (Y.move rfl))<|Zh 4 Z (fun _ => (Y.move rfl))<|Zh 5 Z (fun _ => (Y.fieldAddr rfl xfo43_4))<|ZH 6 1 Z Z (fun _ => (Y.load rfl xts3 Kn.vk1 rfl))<|?_
  refine RunL.one (i := 7) WK rfl  ?_
  refine Yc Z Z Z ((until_c (r := r) (now := now) (want := want) (acked := 0)).frame)<|Ze<|ZF<|Zh 8 Z (fun _ => (Y.max2 rfl rfl))<|Zh 9 Z (fun _ => (Y.fieldAddr rfl xfo43_3))<|?_
  refine RunL.one (i := 10) WK rfl  ?_
  refine Run.store (s := [(b2,.cells #[.int .u32 l.addr,.int .i64 2,.string client,.int .i64 (max 0 (r.until_ now want 0)),.int .i64 0,.int .i64 0,.int .i64 0,.int .i64 l.ver] 43 (0,0))]) Z Z xsz3 (i := 1) Z Z (le Z) Z Z<|Ze<|Ex.anyLz Z<|RunL.done WK<|Zg<|Zs<|Zr<|Zm Z<|?_
  refine Run.buildSlice (l := [(0,.tmp 45)]) xes148 xzo3 rfl WD rfl rfl WD (lt rfl) (fun b7 => ?_)
  refine Yc Z Z Z (latest_c (l := [now]) (Rd.one (Kn.at 0 Z) Z) (Nat.le_of_ble_eq_true Z))<|Zv (Y.fieldAddr Z xfo43_6)<|Run.store (s := [(b2,.cells #[.int .u32 l.addr,.int .i64 2,.string client,.int .i64 (max 0 (r.until_ now want 0)),.int .i64 0,.int .i64 0,.int .i64 (Rul.latest [now]),.int .i64 l.ver] 43 (0,0))]) Z Z xsz3 (i := 2) Z Z (le Z) Z Z<|Ze<|Zg<|Zs<|Zr<|Zv (Y.loadAgg Z xag43 (Kn.at 2 Z) Z)<|?_
  refine Run.store (s := [(b3,.cells #[.int .u32 l.addr,.int .i64 2,.string client,.int .i64 (max 0 (r.until_ now want 0)),.int .i64 0,.int .i64 0,.int .i64 (Rul.latest [now]),.int .i64 l.ver] 43 (0,0))]) Z Z xsz43 (i := 1) Z Z (le Z) Z Z<|Ze<|Zg<|Zu<|?_
  exact Ex.retCell [] rfl rfl xag43 (Kn.at 1 rfl) rfl ⟨congrArg Value.agg (by rw [Rul.lease_new (.inl W),if_neg W] <;> rfl),rfl,rfl⟩
 refine Zp h4<|Zv (Y.fieldAddr Z xfo43_2)<|Zp h4<|Zv (Y.load Z xts9 (Kn.at 1 Z) Z)<|Zp h4<|Zm Z<|Zp h4<|Zv (Y.neStr Z Z)<|Zv (Y.pick_f Z h4 Z)<|Ze<|Zg<|?_
 refine Zq (l.client.toList == client.toList) (fun h8 g8 => ?_) fun h8 g8 => ?_
 ·refine Tr.cond_f Z (congrArg Bool.not h8)<|Zt<|Zg<|Zs<|Tr.anyL [(b1,.cells #[.int .i64 r.id,.int .i64 r.lead,.int .i64 r.guard] 58 (0,0)),(b2,.cells #[.int .u32 l.addr,.int .i64 l.bind,.string l.client,.int .i64 l.till,.int .i64 l.acked,.int .i64 l.told,.int .i64 l.at_,.int .i64 l.ver] 43 (0,0))] 10 xmo<|Zh 0 Z (fun _ => (Y.fieldAddr rfl xfo43_3))<|ZH 1 1 Z Z (fun _ => (Y.load rfl xts3 Kn.vk1 rfl))<|?_
  refine ZH 2 0 Z Z (fun _ => (Y.loadAgg rfl xag58 Kn.vk1 rfl))<|Zh 3 Z (fun _ => (Y.move rfl))<|Zh 4 Z (fun _ => (Y.move rfl))<|Zh 5 Z (fun _ => (Y.fieldAddr rfl xfo43_4))<|ZH 6 1 Z Z (fun _ => (Y.load rfl xts3 Kn.vk1 rfl))<|?_
  refine RunL.one (i := 7) WK rfl  ?_
  refine Yc Z Z Z ((until_c (r := r) (now := now) (want := want) (acked := l.acked)).frame)<|Ze<|ZF<|Zh 8 Z (fun _ => (Y.max2 rfl rfl))<|Zh 9 Z (fun _ => (Y.fieldAddr rfl xfo43_3))<|?_
  refine RunL.one (i := 10) WK rfl  ?_
  refine Run.store (s := [(b2,.cells #[.int .u32 l.addr,.int .i64 l.bind,.string l.client,.int .i64 (max l.till (r.until_ now want l.acked)),.int .i64 l.acked,.int .i64 l.told,.int .i64 l.at_,.int .i64 l.ver] 43 (0,0))]) Z Z xsz3 (i := 1) Z Z (le Z) Z Z<|Ze<|Ex.anyLz Z<|RunL.done WK<|Zg<|Zs<|Zr<|Zm Z<|?_
  refine Run.buildSlice (l := [(0,.tmp 45)]) xes148 xzo3 rfl WD rfl rfl WD (lt rfl) (fun b9 => ?_)
  refine Yc Z Z Z (latest_c (l := [now]) (Rd.one (Kn.at 0 Z) Z) (Nat.le_of_ble_eq_true Z))<|Zv (Y.fieldAddr Z xfo43_6)<|Run.store (s := [(b2,.cells #[.int .u32 l.addr,.int .i64 l.bind,.string l.client,.int .i64 (max l.till (r.until_ now want l.acked)),.int .i64 l.acked,.int .i64 l.told,.int .i64 (Rul.latest [now]),.int .i64 l.ver] 43 (0,0))]) Z Z xsz3 (i := 2) Z Z (le Z) Z Z<|Ze<|Zg<|Zs<|Zr<|Zv (Y.loadAgg Z xag43 (Kn.at 2 Z) Z)<|?_
  refine Run.store (s := [(b3,.cells #[.int .u32 l.addr,.int .i64 l.bind,.string l.client,.int .i64 (max l.till (r.until_ now want l.acked)),.int .i64 l.acked,.int .i64 l.told,.int .i64 (Rul.latest [now]),.int .i64 l.ver] 43 (0,0))]) Z Z xsz43 (i := 1) Z Z (le Z) Z Z<|Ze<|Zg<|Zu<|?_
  exact Ex.retCell [] rfl rfl xag43 (Kn.at 1 rfl) rfl ⟨congrArg Value.agg (by rw [Rul.lease_same W h8] <;> rfl),rfl,rfl⟩
 refine Tr.cond_t Z (congrArg Bool.not h8)<|Zs<|Zr<|Zv (Y.fieldAddr Z xfo43_7)<|Zv (Y.load Z xts3 (Kn.at 1 Z) Z)<|Za Z<|Ze<|Zg<|Zs<|Zs<|Tr.anyD [(b1,.cells #[.int .i64 r.id,.int .i64 r.lead,.int .i64 r.guard] 58 (0,0)),(b2,.cells #[.int .u32 l.addr,.int .i64 l.bind,.string l.client,.int .i64 l.till,.int .i64 l.acked,.int .i64 l.told,.int .i64 l.at_,.int .i64 l.ver] 43 (0,0))] xmo<|Zd 0 Z (fun _ => (Y.fieldAddr rfl xfo43_1))<|?_
 refine ZD 1 1 Z Z (fun _ => (Y.load rfl xts3 Kn.vk1 rfl))<|ZD 2 0 Z Z (fun _ => (Y.loadAgg rfl xag58 Kn.vk1 rfl))<|?_
 refine RunD.one (i := 3) WK rfl  ?_
 refine Yc Z Z Z ((own_c (r := r)).frame)<|Ze<|Zf<|Zd 4 Z (fun _ => (Y.int rfl rfl rfl))<|RunD.done WK<|Zg<|?_
 refine Zq (l.bind != r.own) (fun h10 g10 => ?_) fun h10 g10 => ?_
 ·refine Tr.cond_t Z h10<|Zr<|Zm Z<|Yc Z Z Z (add_c_h (t := l.ver) (d := 1))<|Za Z<|Ze<|Zg<|Zr<|Zv (Y.fieldAddr Z xfo43_0)<|Zv (Y.load Z xts24 (Kn.at 1 Z) Z)<|Zm Z<|Zm Z<|Zv (Y.buildS (l := [(0,.tmp 31),(1,.const (.int .i64 2)),(2,.tmp 32),(7,.tmp 33)]) xzo43 xpl43 Z Z)<|Run.store (s := [(b2,.cells #[.int .u32 l.addr,.int .i64 2,.string client,.int .i64 0,.int .i64 0,.int .i64 0,.int .i64 0,.int .i64 (Ck.add l.ver 1)] 43 (0,0))]) Z Z xsz43 (i := 1) Z Z (le Z) Z Z<|?_
  refine Ze<|Zg<|Zs<|Tr.anyL [(b1,.cells #[.int .i64 r.id,.int .i64 r.lead,.int .i64 r.guard] 58 (0,0)),(b2,.cells #[.int .u32 l.addr,.int .i64 2,.string client,.int .i64 0,.int .i64 0,.int .i64 0,.int .i64 0,.int .i64 (Ck.add l.ver 1)] 43 (0,0))] 10 xmo<|Zh 0 Z (fun _ => (Y.fieldAddr rfl xfo43_3))<|ZH 1 1 Z Z (fun _ => (Y.load rfl xts3 Kn.vk1 rfl))<|ZH 2 0 Z Z (fun _ => (Y.loadAgg rfl xag58 Kn.vk1 rfl))<|?_
  refine Zh 3 Z (fun _ => (Y.move rfl))<|Zh 4 Z (fun _ => (Y.move rfl))<|Zh 5 Z (fun _ => (Y.fieldAddr rfl xfo43_4))<|ZH 6 1 Z Z (fun _ => (Y.load rfl xts3 Kn.vk1 rfl))<|?_
  refine RunL.one (i := 7) WK rfl  ?_
  refine Yc Z Z Z ((until_c (r := r) (now := now) (want := want) (acked := 0)).frame)<|Ze<|ZF<|Zh 8 Z (fun _ => (Y.max2 rfl rfl))<|Zh 9 Z (fun _ => (Y.fieldAddr rfl xfo43_3))<|?_
  refine RunL.one (i := 10) WK rfl  ?_
  refine Run.store (s := [(b2,.cells #[.int .u32 l.addr,.int .i64 2,.string client,.int .i64 (max 0 (r.until_ now want 0)),.int .i64 0,.int .i64 0,.int .i64 0,.int .i64 (Ck.add l.ver 1)] 43 (0,0))]) Z Z xsz3 (i := 1) Z Z (le Z) Z Z<|Ze<|Ex.anyLz Z<|RunL.done WK<|Zg<|Zs<|Zr<|Zm Z<|?_
  refine Run.buildSlice (l := [(0,.tmp 45)]) xes148 xzo3 rfl WD rfl rfl WD (lt rfl) (fun b11 => ?_)
  refine Yc Z Z Z (latest_c (l := [now]) (Rd.one (Kn.at 0 Z) Z) (Nat.le_of_ble_eq_true Z))<|Zv (Y.fieldAddr Z xfo43_6)<|Run.store (s := [(b2,.cells #[.int .u32 l.addr,.int .i64 2,.string client,.int .i64 (max 0 (r.until_ now want 0)),.int .i64 0,.int .i64 0,.int .i64 (Rul.latest [now]),.int .i64 (Ck.add l.ver 1)] 43 (0,0))]) Z Z xsz3 (i := 2) Z Z (le Z) Z Z<|Ze<|Zg<|Zs<|Zr<|Zv (Y.loadAgg Z xag43 (Kn.at 2 Z) Z)<|?_
  refine Run.store (s := [(b3,.cells #[.int .u32 l.addr,.int .i64 2,.string client,.int .i64 (max 0 (r.until_ now want 0)),.int .i64 0,.int .i64 0,.int .i64 (Rul.latest [now]),.int .i64 (Ck.add l.ver 1)] 43 (0,0))]) Z Z xsz43 (i := 1) Z Z (le Z) Z Z<|Ze<|Zg<|Zu<|?_
  exact Ex.retCell [] rfl rfl xag43 (Kn.at 1 rfl) rfl ⟨congrArg Value.agg (by rw [Rul.lease_new (.inr h8),if_pos W] <;> rfl),rfl,rfl⟩
 refine Tr.cond_f Z h10<|Zt<|Zg<|Zr<|Zv (Y.fieldAddr Z xfo43_0)<|Zv (Y.load Z xts24 (Kn.at 1 Z) Z)<|Zm Z<|Zm Z<|Zv (Y.buildS (l := [(0,.tmp 31),(1,.const (.int .i64 2)),(2,.tmp 32),(7,.tmp 33)]) xzo43 xpl43 Z Z)<|Run.store (s := [(b2,.cells #[.int .u32 l.addr,.int .i64 2,.string client,.int .i64 0,.int .i64 0,.int .i64 0,.int .i64 0,.int .i64 l.ver] 43 (0,0))]) Z Z xsz43 (i := 1) Z Z (le Z) Z Z<|?_
 refine Ze<|Zg<|Zs<|Tr.anyL [(b1,.cells #[.int .i64 r.id,.int .i64 r.lead,.int .i64 r.guard] 58 (0,0)),(b2,.cells #[.int .u32 l.addr,.int .i64 2,.string client,.int .i64 0,.int .i64 0,.int .i64 0,.int .i64 0,.int .i64 l.ver] 43 (0,0))] 10 xmo<|Zh 0 Z (fun _ => (Y.fieldAddr rfl xfo43_3))<|ZH 1 1 Z Z (fun _ => (Y.load rfl xts3 Kn.vk1 rfl))<|ZH 2 0 Z Z (fun _ => (Y.loadAgg rfl xag58 Kn.vk1 rfl))<|?_
 refine Zh 3 Z (fun _ => (Y.move rfl))<|Zh 4 Z (fun _ => (Y.move rfl))<|Zh 5 Z (fun _ => (Y.fieldAddr rfl xfo43_4))<|ZH 6 1 Z Z (fun _ => (Y.load rfl xts3 Kn.vk1 rfl))<|?_
 refine RunL.one (i := 7) WK rfl  ?_
 refine Yc Z Z Z ((until_c (r := r) (now := now) (want := want) (acked := 0)).frame)<|Ze<|ZF<|Zh 8 Z (fun _ => (Y.max2 rfl rfl))<|Zh 9 Z (fun _ => (Y.fieldAddr rfl xfo43_3))<|?_
 refine RunL.one (i := 10) WK rfl  ?_
 refine Run.store (s := [(b2,.cells #[.int .u32 l.addr,.int .i64 2,.string client,.int .i64 (max 0 (r.until_ now want 0)),.int .i64 0,.int .i64 0,.int .i64 0,.int .i64 l.ver] 43 (0,0))]) Z Z xsz3 (i := 1) Z Z (le Z) Z Z<|Ze<|Ex.anyLz Z<|RunL.done WK<|Zg<|Zs<|Zr<|Zm Z<|?_
 refine Run.buildSlice (l := [(0,.tmp 45)]) xes148 xzo3 rfl WD rfl rfl WD (lt rfl) (fun b12 => ?_)
 refine Yc Z Z Z (latest_c (l := [now]) (Rd.one (Kn.at 0 Z) Z) (Nat.le_of_ble_eq_true Z))<|Zv (Y.fieldAddr Z xfo43_6)<|Run.store (s := [(b2,.cells #[.int .u32 l.addr,.int .i64 2,.string client,.int .i64 (max 0 (r.until_ now want 0)),.int .i64 0,.int .i64 0,.int .i64 (Rul.latest [now]),.int .i64 l.ver] 43 (0,0))]) Z Z xsz3 (i := 2) Z Z (le Z) Z Z<|Ze<|Zg<|Zs<|Zr<|Zv (Y.loadAgg Z xag43 (Kn.at 2 Z) Z)<|?_
 refine Run.store (s := [(b3,.cells #[.int .u32 l.addr,.int .i64 2,.string client,.int .i64 (max 0 (r.until_ now want 0)),.int .i64 0,.int .i64 0,.int .i64 (Rul.latest [now]),.int .i64 l.ver] 43 (0,0))]) Z Z xsz43 (i := 1) Z Z (le Z) Z Z<|Ze<|Zg<|Zu<|?_
 exact Ex.retCell [] rfl rfl xag43 (Kn.at 1 rfl) rfl ⟨congrArg Value.agg (by rw [Rul.lease_new (.inr h8),if_neg W] <;> rfl),rfl,rfl⟩
theorem in14_c {V : Vw} {n : Int}  : Does Tryz.prog 90 [.int .i64 n,.int .i64 14] V [] (Pv (.bool (Rul.serves n)) V []) := by
 refine Does.intro Tryz.func90 rfl rfl (le rfl) (fun B => ?_)
 refine Zs<|Zr<|Za Z<|Ze<|Zg<|Zs<|Zr<|Zm Z<|Zv (Y.int (r := .bool false) Z Z Z)<|Zm Z<|Zp Z<|Zm Z<|Zp Z<|Yc Z Z Z ((is_c (n := n)).frame)<|Zp Z<|Zm Z<|?_
 refine Zq (decide (0 <= n /\ n < 9)) (fun h1 g1 => ?_) fun h1 g1 => ?_
 ·refine Zp h1<|Zm Z<|Zp h1<|Zm Z<|Zp h1<|Zv (Y.shr (Rul.sh14 n) rfl rfl W rfl)<|Zp h1<|Zv (Y.int (r := .int .i64 ((Rul.sh14 n) % 2)) rfl rfl (by simp only [intRes]; rw [and_low2 (Rul.sh14 n) 1 2 1 WD rfl rfl]))<|Zp h1<|Zv (Y.int Z Z Z)<|Zp Z<|Zv (Y.pick_t Z h1 Z)<|Zv (Y.pick_f Z Z Z)<|Za Z<|Ze<|Zg<|?_
  refine Zu<|Ex.keep []<|?_
  exact Ex.ret1 rfl rfl  ⟨congrArg Value.bool (Rul.serves_in (of_decide_eq_true h1)),rfl,rfl⟩
 refine Zo h1 Z<|Zo h1 Z<|Zo h1 Z<|Zo h1 Z<|Zo h1 Z<|Zp Z<|Zv (Y.pick_f Z h1 Z)<|Zv (Y.pick_f Z Z Z)<|Za Z<|Ze<|Zg<|Zu<|Ex.keep []<|?_
 exact Ex.ret1 rfl rfl  ⟨congrArg Value.bool (Rul.serves_out (of_decide_eq_false h1)),rfl,rfl⟩
theorem serves_c {V : Vw} {n : Int}  : Does Tryz.prog 37 [.int .i64 n] V [] (Pv (.bool (Rul.serves n)) V []) := by
 refine Does.intro Tryz.func37 rfl rfl (le rfl) (fun B => ?_)
 refine Zs<|Zr<|Za Z<|Ze<|Zg<|Zs<|Zr<|Zm Z<|Yc Z Z Z ((in14_c (n := n)).frame)<|Za Z<|Ze<|Zg<|Zu<|Ex.keep []<|?_
 exact Ex.ret1 rfl rfl  ⟨rfl,rfl,rfl⟩
theorem over_c {V : Vw} {l : Le}  : Does Tryz.prog 51 [.agg #[.int .u32 l.addr,.int .i64 l.bind,.string l.client,.int .i64 l.till,.int .i64 l.acked,.int .i64 l.told,.int .i64 l.at_,.int .i64 l.ver]] V [] (Pv (.int .i64 (max l.till l.told)) V []) := by
 refine Does.intro Tryz.func51 rfl rfl (le rfl) (fun B => ?_)
 refine Zs<|Zr<|?_
 refine Run.box rfl (lt rfl) (fun b1 => ?_)
 refine Za Z<|Ze<|Zg<|Zs<|Zr<|Zv (Y.fieldAddr Z xfo43_3)<|Zv (Y.load Z xts3 (Kn.at 0 Z) Z)<|Zv (Y.fieldAddr Z xfo43_5)<|Zv (Y.load Z xts3 (Kn.at 0 Z) Z)<|Zv (Y.max2 Z Z)<|Za Z<|Ze<|Zg<|Zu<|Ex.keep []<|?_
 exact Ex.ret1 rfl rfl  ⟨rfl,rfl,rfl⟩
theorem may_c {V : Vw} {r : Rul} {l : Le} {state now entry : Int}  : Does Tryz.prog 19 [.agg #[.int .i64 r.id,.int .i64 r.lead,.int .i64 r.guard],.agg #[.int .u32 l.addr,.int .i64 l.bind,.string l.client,.int .i64 l.till,.int .i64 l.acked,.int .i64 l.told,.int .i64 l.at_,.int .i64 l.ver],.int .i64 state,.int .i64 now,.int .i64 entry] V [] (Pv (.bool (r.may l state now entry)) V []) := by
 refine Does.intro Tryz.func19 rfl rfl (le rfl) (fun B => ?_)
 refine Zs<|Zr<|?_
 refine Run.box rfl (lt rfl) (fun b1 => ?_)
 refine Run.box rfl (lt rfl) (fun b2 => ?_)
 refine Za Z<|Ze<|Zg<|Zs<|Zb<|Zs<|Zr<|Zm Z<|Yc Z Z Z ((serves_c (n := state)).frame)<|Zv (Y.not Z)<|Za Z<|Ze<|Zg<|?_
 refine Zq (Rul.serves state) (fun h3 g3 => ?_) fun h3 g3 => ?_
 ·refine Tr.cond_f Z (congrArg Bool.not h3)<|Zs<|Tr.anyD [(b1,.cells #[.int .i64 r.id,.int .i64 r.lead,.int .i64 r.guard] 58 (0,0)),(b2,.cells #[.int .u32 l.addr,.int .i64 l.bind,.string l.client,.int .i64 l.till,.int .i64 l.acked,.int .i64 l.told,.int .i64 l.at_,.int .i64 l.ver] 43 (0,0))] xmo<|Zd 0 Z (fun _ => (Y.fieldAddr rfl xfo43_1))<|ZD 1 1 Z Z (fun _ => (Y.load rfl xts3 Kn.vk1 rfl))<|?_
  refine ZD 2 0 Z Z (fun _ => (Y.loadAgg rfl xag58 Kn.vk1 rfl)) ?_
  refine RunD.one (i := 3) WK rfl  ?_
  refine Yc Z Z Z ((own_c (r := r)).frame)<|Ze<|Zf<|Zd 4 Z (fun _ => (Y.int rfl rfl rfl))<|Zd 5 Z (fun _ => (Y.assign rfl))<|RunD.done WK<|Zg<|?_
  refine Zq (l.bind == r.own) (fun h4 g4 => ?_) fun h4 g4 => ?_
  ·refine Tr.cond_t Z h4<|Zs<|Zr<|Za Z<|Ze<|Zg<|Zu<|Zk<|Zn<|Ex.keep []<|?_
   exact Ex.ret1 rfl rfl  ⟨congrArg Value.bool (Rul.may_own h3 W).symm,rfl,rfl⟩
  refine Tr.cond_f Z h4<|Zs<|Zr<|Zm Z<|Zv (Y.int Z Z Z)<|Zm Z<|?_
  refine Zq (state != 3) (fun h5 g5 => ?_) fun h5 g5 => ?_
  ·refine Zo h5 Z<|Zo h5 Z<|Zo h5 Z<|Zv (Y.pick_t Z h5 Z)<|Za Z<|Ze<|Zg<|Tr.cond_t Z Z<|Zs<|Zr<|Za Z<|Ze<|Zg<|Zu<|Zk<|Zn<|?_
   refine Ex.keep [] ?_
   exact Ex.ret1 rfl rfl  ⟨congrArg Value.bool (Rul.may_nor h3 W W).symm,rfl,rfl⟩
  refine Zp h5<|Zv (Y.fieldAddr Z xfo43_1)<|Zp h5<|Zv (Y.load Z xts3 (Kn.at 0 Z) Z)<|Zp h5<|Zv (Y.int Z Z Z)<|Zv (Y.pick_f Z h5 Z)<|Za Z<|Ze<|Zg<|?_
  refine Zq (l.bind == 5) (fun h6 g6 => ?_) fun h6 g6 => ?_
  ·refine Tr.cond_t Z h6<|Zs<|Zr<|Za Z<|Ze<|Zg<|Zu<|Zk<|Zn<|Ex.keep []<|?_
   exact Ex.ret1 rfl rfl  ⟨congrArg Value.bool (Rul.may_nor h3 W W).symm,rfl,rfl⟩
  refine Tr.cond_f Z h6<|Zt<|Zc<|Zg<|Zs<|Zr<|Zv (Y.fieldAddr Z xfo58_1)<|Zv (Y.load Z xts3 (Kn.at 1 Z) Z)<|Zv (Y.max2 Z Z)<|Zv (Y.fieldAddr Z xfo58_2)<|Zv (Y.load Z xts3 (Kn.at 1 Z) Z)<|Zv (Y.max2 Z Z)<|Yc Z Z Z (add_c_h (t := max r.lead 0) (d := max r.guard 0))<|Za Z<|Ze<|Zg<|?_
  refine Zs<|Zr<|Zm Z<|Zm Z<|Zv (Y.loadAgg Z xag43 (Kn.at 0 Z) Z)<|Yc Z Z Z ((over_c (l := l)).frame)<|?_
  refine Run.buildSlice (l := [(0,.tmp 38),(1,.tmp 40)]) xes148 xzo3 rfl WD rfl rfl WD (lt rfl) (fun b7 => ?_)
  refine Yc Z Z Z (latest_c (l := [entry,max l.till l.told]) (Rd.one (Kn.at 0 Z) Z) (Nat.le_of_ble_eq_true Z))<|Zm Z<|Yc Z Z Z (past_c_h (now := now) (til := Rul.latest [entry,max l.till l.told]) (grd := Ck.add (max r.lead 0) (max r.guard 0)))<|Za Z<|Ze<|Zg<|Zu<|Ex.keep []<|?_
  exact Ex.ret1 rfl rfl  ⟨congrArg Value.bool (Rul.may_past h3 W W).symm,rfl,rfl⟩
 refine Tr.cond_t Z (congrArg Bool.not h3)<|Zs<|Zr<|Za Z<|Ze<|Zg<|Zu<|Zk<|Zn<|Ex.keep []<|?_
 exact Ex.ret1 rfl rfl  ⟨congrArg Value.bool (Rul.may_no h3).symm,rfl,rfl⟩
end Go.Proofs.YtfgblingojgafaaGreat
namespace Go.Proofs.YtfgblingojgafaaGreat
open Go Go.K
attribute [local irreducible] Code.wp wpList Calls wpQuiet
theorem first_c6 {V : Vw} {n : Int}  : Does Tryz.prog 142 [.int .i64 n] V [] (Pv (.agg (Bk.mks (Bk.fr n)).toArray) V []) := by
 refine Does.intro Tryz.func142 rfl rfl (le rfl) (fun B => ?_)
 refine Zs<|Zr<|?_
 refine Run.alloc xzm178 (lt rfl) (fun b1 => ?_)
 refine Run.heapTo (H' := [[(b1,.cells (Bk.mks fun _ => false).toArray 178 (0,0))]]) rfl<|Ze<|Zg<|Zs<|Zr<|?_
 refine Run.alloc xzm178 (lt rfl) (fun b2 => ?_)
 rw [show Value.cells (.agg (Bk.mks fun _ => false).toArray) = (Bk.mks (Bk.upto (Bk.fr n) 0)).toArray from by rw [Bk.upto_zero]; rfl]
 refine Ze<|Zg<|Zs<|Zs<|Zr<|Zm Z<|Zv (Y.max2 Z Z)<|Zv (Y.min2 Z Z)<|Zm Z<|Ze<|Zg<|Zb<|?_
 refine ZL (X := Nat) (fun z0 => V) (fun z0 => [[(b2,.cells (Bk.mks (Bk.upto (Bk.fr n) z0)).toArray 178 (0,0))],[(b1,.cells (Bk.mks fun _ => false).toArray 178 (0,0))]]) (fun z0 => [(2,(pZ b1)),(3,(pZ b2)),(7,.int .i64 (min (max n 0) 256)),(8,.int .i64 ((z0 : Nat) : Int))]) (fun z0 => (z0 : Int) <= min (max n 0) 256) (fun z0 => 256 - z0) (0 : Nat) (by show (0 : Int) <= _; omega) ?_
 rintro i1 hi
 refine Zs<|Zr<|Zv (Y.int Z Z Z)<|Ze<|Zg<|Zs<|?_
 refine Zq (decide (((i1 : Nat) : Int) < (min (max n 0) 256))) (fun h3 g3 => ?_) fun h3 g3 => ?_
 ·refine Tr.cond_t Z h3<|Zt<|Zg<|Zs<|Zb<|Zs<|Zr<|Zm Z<|Za Z<|Ze<|Zg<|Tr.anyL [(b2,.cells (Bk.mks (Bk.upto (Bk.fr n) i1)).toArray 178 (0,0))] 9 xmo<|Zh 0 Z (fun _ => (Y.move rfl))<|Zh 1 Z (fun _ => (Y.quo (((i1 / 8 : Nat) : Int)) rfl rfl WD (tdivN _ 8 rfl W)))<|Zh 2 Z (fun _ => (Y.idxArr rfl rfl xal178 W W))<|ZH 3 0 Z Z (fun _ => (Y.ldA1 (i1 / 8) rfl rfl xts5 Kn.vk1 (Bk.mks_at _ W)))<|?_
  refine Zh 4 Z (fun _ => (Y.move rfl))<|Zh 5 Z (fun _ => (Y.rem (((i1 % 8 : Nat) : Int)) rfl rfl WD (tmodN _ 8 rfl)))<|Zh 6 Z (fun _ => (Y.shl (((2 ^ (i1 % 8) : Nat) : Int)) rfl rfl W (shl1_u8 (Nat.mod_lt _ WD))))<|Zh 7 Z (fun _ => (Y.int (r := .int .u8 (((Bk.byte (Bk.upto (Bk.fr n) i1) (i1 / 8) + Bk.w2 ((Bk.fr n) i1) (2 ^ (i1 % 8)) : Nat) : Int))) rfl rfl (by simp only [intRes]; rw [or_u8 (Bk.byte_lt _ _) (Bk.pow_lt _),Bk.or_put (Bk.fr_in W)])))<|?_
  refine Zh 8 Z (fun _ => (Y.idxArr rfl rfl xal178 W W)) ?_
  refine RunL.one (i := 9) WK rfl  ?_
  refine Run.stA1 (j := 0) (i1 / 8) rfl rfl rfl xsz5 rfl rfl rfl (by rw [Bk.mks_len]; omega) (Bk.mks_set _ W)<|Run.heapTo (H' := [[(b2,.cells (Bk.mks (Bk.upto (Bk.fr n) (i1 + 1))).toArray 178 (0,0))],[(b1,.cells (Bk.mks fun _ => false).toArray 178 (0,0))]]) rfl<|Ze<|Ex.anyLz Z<|RunL.done WK<|Zc<|Zg<|Zr<|Zv (Y.add Z Z W)<|Zm Z<|Ze<|Ex.keep [0,0]<|?_
  exact ZR (i1 + 1 : Nat) W W
 refine Tr.cond_f Z h3<|Zx<|Zy<|Zy<|Zi<|Zg<|Zs<|Zr<|Zv (Y.ldAll Z xag178 (Kn.at 0 rfl) (by first | exact Bk.mks_len _ | exact Bk.ins_len _ | exact Bk.nots_len _ _))<|Run.stAll (j := 1) Z Z xsz178 Z (Bk.mks_len _) (Bk.mks_len _) (Bk.one_mks _)<|Run.heapTo (H' := [[(b2,.cells (Bk.mks (Bk.upto (Bk.fr n) i1)).toArray 178 (0,0))],[(b1,.cells (Bk.mks (Bk.upto (Bk.fr n) i1)).toArray 178 (0,0))]]) Z<|Ze<|Zg<|Zu<|?_
 exact Ex.retCell [] rfl rfl xag178 (Kn.at 1 rfl) (cells_all (Bk.mks_len _)) ⟨congrArg (fun l : List Value => Value.agg l.toArray) (Bk.fr_all W),rfl,rfl⟩
theorem not_c6 {V : Vw} {f : Nat -> Bool}  : Does Tryz.prog 143 [.agg (Bk.mks f).toArray] V [] (Pv (.agg (Bk.mks (fun k => !f k)).toArray) V []) := by
 refine Does.intro Tryz.func143 rfl rfl (le rfl) (fun B => ?_)
 refine Zs<|Zr<|?_
 refine Run.box rfl (lt rfl) (fun b1 => ?_)
 refine Run.heapTo (H' := [[(b1,.cells (Bk.mks f).toArray 178 (0,0))]]) Z ?_
 rw [<- Bk.nots_zero f]
 refine Run.alloc xzm178 (lt rfl) (fun b2 => ?_)
 refine Run.heapTo (H' := [[(b2,.cells (Bk.mks fun _ => false).toArray 178 (0,0))],[(b1,.cells (Bk.nots f 0).toArray 178 (0,0))]]) rfl<|Ze<|Zg<|Zs<|Zs<|Zr<|Zm Z<|Ze<|Zg<|Zb<|?_
 refine ZL (X := Nat) (fun z0 => V) (fun z0 => [[(b2,.cells (Bk.mks fun _ => false).toArray 178 (0,0))],[(b1,.cells (Bk.nots f z0).toArray 178 (0,0))]]) (fun z0 => [(1,(pZ b1)),(2,(pZ b2)),(4,.int .i64 ((z0 : Nat) : Int))]) (fun z0 => z0 <= 32) (fun z0 => 32 - z0) (0 : Nat) (Nat.zero_le _) ?_
 rintro i1 hi
 refine Zs<|Zr<|Zv (Y.int Z Z Z)<|Ze<|Zg<|Zs<|?_
 refine Zq (decide (((i1 : Nat) : Int) < 32)) (fun h3 g3 => ?_) fun h3 g3 => ?_
 ·refine Tr.cond_t Z h3<|Zt<|Zg<|Zs<|Zb<|Zs<|Zr<|Zm Z<|Za Z<|Ze<|Zg<|Zr<|Zm Z<|Zm Z<|Zv (Y.idxArr Z Z xal178 W W)<|Zv (Y.ldA1 i1 Z Z xts5 (Kn.at 1 rfl) (Bk.nots_self f W))<|?_
  refine Zv (Y.xor8 Z (Bk.byte_lt _ _))<|Zv (Y.idxArr Z Z xal178 W W)<|Run.stA1 (j := 1) i1 rfl rfl rfl xsz5 rfl rfl rfl (by rw [Bk.nots_len]; omega) (Bk.nots_set f W)<|Run.heapTo (H' := [[(b2,.cells (Bk.mks fun _ => false).toArray 178 (0,0))],[(b1,.cells (Bk.nots f (i1 + 1)).toArray 178 (0,0))]]) rfl<|Ze<|Zc<|Zg<|Zr<|Zv (Y.add Z Z W)<|Zm Z<|Ze<|Ex.keep [0,0]<|?_
  exact ZR (i1 + 1 : Nat) W W
 refine Tr.cond_f Z h3<|Zx<|Zy<|Zy<|Zi<|Zg<|Zs<|Zr<|?_
 obtain rfl : i1 = 32 := by omega
 rw [Bk.nots_all]
 refine Zv (Y.ldAll Z xag178 (Kn.at 1 rfl) (by first | exact Bk.mks_len _ | exact Bk.ins_len _ | exact Bk.nots_len _ _))<|Run.stAll (j := 0) Z Z xsz178 Z (Bk.mks_len _) (Bk.mks_len _) (Bk.one_mks _)<|Run.heapTo (H' := [[(b2,.cells (Bk.mks fun k => !f k).toArray 178 (0,0))],[(b1,.cells (Bk.mks fun k => !f k).toArray 178 (0,0))]]) rfl<|Ze<|Zg<|Zu<|?_
 exact Ex.retCell [] rfl rfl xag178 (Kn.at 0 rfl) (cells_all (Bk.mks_len _)) ⟨rfl,rfl,rfl⟩
theorem has_c6 {V : Vw} {f : Nat -> Bool} {n : Nat} (hn : n < 256)  : Does Tryz.prog 144 [.agg (Bk.mks f).toArray,.int .i64 ((n : Nat) : Int)] V [] (Pv (.bool (f n)) V []) := by
 have hbl := Bk.byte_lt f (n / 8)
 have hbd := Nat.div_le_self (Bk.byte f (n / 8)) (2 ^ (n % 8))
 refine Does.intro Tryz.func144 rfl rfl (le rfl) (fun B => ?_)
 refine Zs<|Zr<|?_
 refine Run.box rfl (lt rfl) (fun b1 => ?_)
 refine Run.heapTo (H' := [[(b1,.cells (Bk.mks f).toArray 178 (0,0))]]) Z<|Za Z<|Ze<|Zg<|Zs<|Zr<|Zm Z<|Zv (Y.int Z Z Z)<|Zm Z<|?_
 refine Zq (decide (((n : Nat) : Int) >= 0)) (fun h2 g2 => ?_) fun h2 g2 => ?_
 ·refine Zp h2<|Zm Z<|Zp h2<|Zv (Y.int Z Z Z)<|Zv (Y.pick_t Z h2 Z)<|Zm Z<|?_
  refine Zq (decide (((n : Nat) : Int) < 256)) (fun h3 g3 => ?_) fun h3 g3 => ?_
  ·refine Zp h3<|Zm Z<|Zp h3<|Zv (Y.quo (((n / 8 : Nat) : Int)) rfl rfl WD (tdivN _ 8 rfl W))<|Zp h3<|Zv (Y.idxArr Z Z xal178 W W)<|Zp h3<|Zv (Y.ldA1 (n / 8) rfl rfl xts5 (Kn.at 0 rfl) (Bk.mks_at _ W))<|Zp h3<|Zm Z<|Zp h3<|Zv (Y.rem (((n % 8 : Nat) : Int)) rfl rfl WD (tmodN _ 8 rfl))<|Zp h3<|Zv (Y.shrN Z Z W (shr_pow (Nat.mod_lt _ WD)))<|Zp h3<|Zv (Y.int (r := .int .u8 (((Bk.byte f (n / 8) / 2 ^ (n % 8) % 2 : Nat) : Int))) rfl rfl (by simp only [intRes]; rw [and1_u8 W]))<|?_
   refine Zp h3<|Zv (Y.int Z Z Z)<|Zv (Y.pick_t Z h3 Z)<|Za Z<|Ze<|Zg<|Zu<|Ex.keep []<|?_
   exact Ex.ret1 rfl rfl  ⟨congrArg Value.bool (Bk.has_i f n),rfl,rfl⟩
  omega
 omega
theorem rhas_c6 {V : Vw} {f : Nat -> Bool} {n : Nat} (hn : n < 256)  : Does Tryz.prog 159 [.agg (Bk.mks f).toArray,.int .i64 ((n : Nat) : Int)] V [] (Pv (.bool (f n)) V []) := by
 have hbl := Bk.byte_lt f (n / 8)
 have hbd := Nat.div_le_self (Bk.byte f (n / 8)) (2 ^ (n % 8))
 refine Does.intro Tryz.func159 rfl rfl (le rfl) (fun B => ?_)
 refine Zs<|Zr<|?_
 refine Run.box rfl (lt rfl) (fun b1 => ?_)
 refine Run.heapTo (H' := [[(b1,.cells (Bk.mks f).toArray 177 (0,0))]]) Z<|Za Z<|Ze<|Zg<|Zs<|Zs<|Zr<|Zm Z<|Zv (Y.int Z Z Z)<|Zm Z<|?_
 refine Zq (decide (((n : Nat) : Int) < 0)) (fun h2 g2 => ?_) fun h2 g2 => ?_
 ·omega
 refine Zp h2<|Zm Z<|Zp h2<|Zv (Y.int Z Z Z)<|Zv (Y.pick_f Z h2 Z)<|Ze<|Zg<|?_
 refine Zq (decide (((n : Nat) : Int) > 255)) (fun h3 g3 => ?_) fun h3 g3 => ?_
 ·omega
 refine Tr.cond_f Z h3<|Zt<|Zg<|Zs<|Zr<|Zm Z<|Zv (Y.quo (((n / 8 : Nat) : Int)) rfl rfl WD (tdivN _ 8 rfl W))<|Zv (Y.idxArr Z Z xal177 W W)<|Zv (Y.ldA1 (n / 8) rfl rfl xts5 (Kn.at 0 rfl) (Bk.mks_at _ W))<|Zv (Y.conv (((Bk.byte f (n / 8) : Nat) : Int)) rfl xit5_3 (wrap_i64 W))<|Za Z<|Ze<|Zg<|Zs<|Zs<|Zr<|?_
 refine Za Z<|Ze<|Zg<|Zb<|?_
 refine ZL (X := Nat) (fun z0 => V) (fun z0 => [[(b1,.cells (Bk.mks f).toArray 177 (0,0))]]) (fun z0 => [(1,.int .i64 ((n : Nat) : Int)),(2,(pZ b1)),(5,.int .i64 ((Bk.byte f (n / 8) / 2 ^ z0 : Nat) : Int)),(6,.int .i64 ((z0 : Nat) : Int))]) (fun z0 => z0 <= n % 8) (fun z0 => n % 8 - z0) (0 : Nat) (Nat.zero_le _) ?_ (by repeat (first | exact subB_nil _ | refine subB_cons (by first | rfl | exact congrArg (fun z => some (Value.int _ z)) W | exact congrArg (fun z : Nat => some (Value.int _ (z : Int))) (by rw [Nat.pow_zero,Nat.div_one])) ?_))
 rintro i1 hi
 refine Zs<|Zs<|Zr<|Zm Z<|Zm Z<|Zv (Y.rem (((n % 8 : Nat) : Int)) rfl rfl WD (tmodN _ 8 rfl))<|Zv (Y.int Z Z Z)<|Ze<|Zg<|?_
 refine Zq (decide (((i1 : Nat) : Int) < ((n % 8 : Nat) : Int))) (fun h4 g4 => ?_) fun h4 g4 => ?_
 ·refine Tr.cond_t Z h4<|Zt<|Zg<|Zs<|Zb<|Zr<|Zm Z<|Zv (Y.quo (((Bk.byte f (n / 8) / 2 ^ (i1 + 1) : Nat) : Int)) rfl rfl WD ((tdivN _ 2 rfl (by have := Bk.part_lt f (n / 8) i1; omega)).trans (by rw [Bk.half])))<|Za Z<|Ze<|Zc<|Zg<|Zr<|Zm Z<|Zv (Y.add Z Z W)<|Za Z<|?_
  refine Ze<|Ex.keep [0]<|?_
  exact ZR (i1 + 1 : Nat) W W (by repeat (first | exact subB_nil _ | refine subB_cons (by first | rfl | exact congrArg (fun z => some (Value.int _ z)) W | exact congrArg (fun z : Nat => some (Value.int _ (z : Int))) (by rw [Nat.pow_zero,Nat.div_one])) ?_))
 refine Tr.cond_f Z h4<|Zx<|Zy<|Zy<|Zi<|Zg<|Zs<|Zr<|Zm Z<|Zv (Y.rem ((((Bk.byte f (n / 8) / 2 ^ i1) % 2 : Nat) : Int)) rfl rfl WD (tmodN _ 2 rfl))<|Zv (Y.int Z Z Z)<|Za Z<|Ze<|Zg<|Zu<|Ex.keep []<|?_
 exact Ex.ret1 rfl rfl  ⟨congrArg Value.bool (by rw [show i1 = n % 8 by omega]; exact Bk.has_i f n),rfl,rfl⟩
theorem rof_c6 {V : Vw} {f : Nat -> Bool}  : Does Tryz.prog 179 [.agg (Bk.ins f).toArray] V [] (Pv (.agg (Bk.mks f).toArray) V []) := by
 refine Does.intro Tryz.func179 rfl rfl (le rfl) (fun B => ?_)
 refine Zs<|Zr<|?_
 refine Run.box rfl (lt rfl) (fun b1 => ?_)
 refine Run.heapTo (H' := [[(b1,.cells (Bk.ins f).toArray 205 (0,0))]]) Z ?_
 refine Run.alloc xzm177 (lt rfl) (fun b2 => ?_)
 refine Run.heapTo (H' := [[(b2,.cells (Bk.mks fun _ => false).toArray 177 (0,0))],[(b1,.cells (Bk.ins f).toArray 205 (0,0))]]) rfl<|Ze<|Zg<|Zs<|Zr<|?_
 refine Run.alloc xzm177 (lt rfl) (fun b3 => ?_)
 rw [show Value.cells (.agg (Bk.mks fun _ => false).toArray) = (Bk.mks (Bk.upto f 0)).toArray from by rw [Bk.upto_zero]; rfl]
 refine Ze<|Zg<|Zs<|Zs<|Zr<|Za Z<|Ze<|Zg<|Zb<|?_
 refine ZL (X := Nat) (fun z0 => V) (fun z0 => [[(b3,.cells (Bk.mks (Bk.upto f z0)).toArray 177 (0,0))],[(b2,.cells (Bk.mks fun _ => false).toArray 177 (0,0))],[(b1,.cells (Bk.ins f).toArray 205 (0,0))]]) (fun z0 => [(1,(pZ b1)),(2,(pZ b2)),(3,(pZ b3)),(4,.int .i64 ((z0 : Nat) : Int))]) (fun z0 => z0 <= 256) (fun z0 => 256 - z0) (0 : Nat) (Nat.zero_le _) ?_
 rintro i1 hi
 refine Zs<|Zs<|Zr<|Zm Z<|Zv (Y.int Z Z Z)<|Ze<|Zg<|?_
 refine Zq (decide (((i1 : Nat) : Int) < 256)) (fun h4 g4 => ?_) fun h4 g4 => ?_
 ·refine Tr.cond_t Z h4<|Zt<|Zg<|Zs<|Zb<|Zs<|Zr<|Zm Z<|Zv (Y.idxArr Z Z xal205 W W)<|Zv (Y.ldA1 i1 Z Z xts4 (Kn.at 2 rfl) (Bk.ins_at _ W))<|Ze<|Zg<|?_
  refine Zq (f i1) (fun h5 g5 => ?_) fun h5 g5 => ?_
  ·refine Tr.cond_t Z h5<|Zs<|Zr<|Za Z<|Ze<|Zg<|Zs<|Zs<|Zr<|Za Z<|Ze<|Zg<|Zb<|?_
   refine ZL (X := Nat) (fun z0 => V) (fun z0 => [[(b3,.cells (Bk.mks (Bk.upto f i1)).toArray 177 (0,0))],[(b2,.cells (Bk.mks fun _ => false).toArray 177 (0,0))],[(b1,.cells (Bk.ins f).toArray 205 (0,0))]]) (fun z0 => [(1,(pZ b1)),(2,(pZ b2)),(3,(pZ b3)),(4,.int .i64 ((i1 : Nat) : Int)),(5,.int .i64 ((2 ^ z0 : Nat) : Int)),(6,.int .i64 ((z0 : Nat) : Int))]) (fun z0 => z0 <= i1 % 8) (fun z0 => i1 % 8 - z0) (0 : Nat) (Nat.zero_le _) ?_
   rintro i2 hi
   refine Zs<|Zs<|Zr<|Zm Z<|Zm Z<|Zv (Y.rem (((i1 % 8 : Nat) : Int)) rfl rfl WD (tmodN _ 8 rfl))<|Zv (Y.int Z Z Z)<|Ze<|Zg<|?_
   refine Zq (decide (((i2 : Nat) : Int) < ((i1 % 8 : Nat) : Int))) (fun h6 g6 => ?_) fun h6 g6 => ?_
   ·refine Tr.cond_t Z h6<|Zt<|Zg<|Zs<|Zb<|Zr<|Zm Z<|Zv (Y.int (r := .int .i64 (((2 ^ (i2 + 1) : Nat) : Int))) rfl rfl (Bk.dbl W))<|Za Z<|Ze<|Zc<|Zg<|Zr<|Zm Z<|Zv (Y.add Z Z W)<|Za Z<|?_
    refine Ze<|Ex.keep [0,0,0]<|?_
    exact ZR (i2 + 1 : Nat) W W
   refine Tr.cond_f Z h6<|Zx<|Zy<|Zy<|Zi<|Zg<|Zr<|Zm Z<|Zv (Y.quo (((i1 / 8 : Nat) : Int)) rfl rfl WD (tdivN _ 8 rfl W))<|Zm Z<|Zv (Y.quo (((i1 / 8 : Nat) : Int)) rfl rfl WD (tdivN _ 8 rfl W))<|Zv (Y.idxArr Z Z xal177 W W)<|Zv (Y.ldA1 (i1 / 8) rfl rfl xts5 (Kn.at 0 rfl) (Bk.mks_at _ W))<|Zm Z<|Zv (Y.conv (((2 ^ (i1 % 8) : Nat) : Int)) rfl xit3_5 (by rw [show i2 = i1 % 8 by omega]; exact Bk.wrap_pow i1))<|?_
   refine Zv (Y.int (r := .int .u8 (((Bk.byte (Bk.upto f i1) (i1 / 8) + Bk.w2 (f i1) (2 ^ (i1 % 8)) : Nat) : Int))) rfl rfl (Bk.add_u8 (by assumption)))<|Zv (Y.idxArr Z Z xal177 W W)<|Run.stA1 (j := 0) (i1 / 8) rfl rfl rfl xsz5 rfl rfl rfl (by rw [Bk.mks_len]; omega) (Bk.mks_set _ W)<|Run.heapTo (H' := [[(b3,.cells (Bk.mks (Bk.upto f (i1 + 1))).toArray 177 (0,0))],[(b2,.cells (Bk.mks fun _ => false).toArray 177 (0,0))],[(b1,.cells (Bk.ins f).toArray 205 (0,0))]]) rfl<|?_
   refine Ze<|Zc<|Zg<|Zr<|Zm Z<|Zv (Y.add Z Z W)<|Za Z<|Ze<|Ex.keep [0,0,0]<|?_
   exact ZR (i1 + 1 : Nat) W W
  refine Tr.cond_f Z h5<|Zt<|Zc<|Zg<|Zr<|Zm Z<|Zv (Y.add Z Z W)<|Za Z<|Ze<|?_
  rw [Bk.mks_skip W h5]
  refine Ex.keep [0,0,0] ?_
  exact ZR (i1 + 1 : Nat) W W
 refine Tr.cond_f Z h4<|Zx<|Zy<|Zy<|Zi<|Zg<|Zs<|Zr<|Zv (Y.ldAll Z xag177 (Kn.at 0 rfl) (by first | exact Bk.mks_len _ | exact Bk.ins_len _ | exact Bk.nots_len _ _))<|Run.stAll (j := 1) Z Z xsz177 Z (Bk.mks_len _) (Bk.mks_len _) (Bk.one_mks _)<|Run.heapTo (H' := [[(b3,.cells (Bk.mks (Bk.upto f i1)).toArray 177 (0,0))],[(b2,.cells (Bk.mks (Bk.upto f i1)).toArray 177 (0,0))],[(b1,.cells (Bk.ins f).toArray 205 (0,0))]]) Z<|?_
 refine Ze<|Zg<|Zu<|?_
 exact Ex.retCell [] rfl rfl xag177 (Kn.at 1 rfl) (cells_all (Bk.mks_len _)) ⟨congrArg (fun l : List Value => Value.agg l.toArray) (Bk.mks_congr (Bk.upto_all f W)),rfl,rfl⟩
theorem rfirst_c6 {V : Vw} {n : Int}  : Does Tryz.prog 157 [.int .i64 n] V [] (Pv (.agg (Bk.mks (Bk.fr n)).toArray) V []) := by
 refine Does.intro Tryz.func157 rfl rfl (le rfl) (fun B => ?_)
 refine Zs<|Zr<|?_
 refine Run.alloc xzm177 (lt rfl) (fun b1 => ?_)
 refine Run.heapTo (H' := [[(b1,.cells (Bk.mks fun _ => false).toArray 177 (0,0))]]) rfl<|Ze<|Zg<|Zs<|Zr<|?_
 refine Run.alloc xzi205 (lt rfl) (fun b2 => ?_)
 rw [show Value.cells (.agg (Bk.ins fun _ => false).toArray) = (Bk.ins (Bk.upto (Bk.fr n) 0)).toArray from by rw [Bk.upto_zero]; rfl]
 refine Ze<|Zg<|Zs<|Zs<|Zr<|Za Z<|Ze<|Zg<|Zb<|?_
 refine ZL (X := Nat) (fun z0 => V) (fun z0 => [[(b2,.cells (Bk.ins (Bk.upto (Bk.fr n) z0)).toArray 205 (0,0))],[(b1,.cells (Bk.mks fun _ => false).toArray 177 (0,0))]]) (fun z0 => [(2,(pZ b1)),(3,(pZ b2)),(4,.int .i64 ((z0 : Nat) : Int)),(0,.int .i64 n)]) (fun z0 => z0 <= 256) (fun z0 => 256 - z0) (0 : Nat) (Nat.zero_le _) ?_
 rintro i1 hi
 refine Zs<|Zs<|Zr<|Zm Z<|Zv (Y.int Z Z Z)<|Ze<|Zg<|?_
 refine Zq (decide (((i1 : Nat) : Int) < 256)) (fun h3 g3 => ?_) fun h3 g3 => ?_
 ·refine Tr.cond_t Z h3<|Zt<|Zg<|Zs<|Zb<|Zr<|Zm Z<|Zm Z<|Zm Z<|Zv (Y.int Z Z Z)<|Zv (Y.idxArr Z Z xal205 W W)<|Run.stA1 (j := 0) i1 rfl rfl rfl xsz4 rfl rfl rfl (by rw [Bk.ins_len]; omega) (Bk.ins_step _ W)<|Run.heapTo (H' := [[(b2,.cells (Bk.ins (Bk.upto (Bk.fr n) (i1 + 1))).toArray 205 (0,0))],[(b1,.cells (Bk.mks fun _ => false).toArray 177 (0,0))]]) rfl<|Ze<|Zc<|Zg<|?_
  refine Zr<|Zm Z<|Zv (Y.add Z Z W)<|Za Z<|Ze<|Ex.keep [0,0]<|?_
  exact ZR (i1 + 1 : Nat) W W
 refine Tr.cond_f Z h3<|Zx<|Zy<|Zy<|Zi<|Zg<|Zs<|Zr<|?_
 rw [Bk.ins_congr (Bk.upto_all (Bk.fr n) (n := i1) W)]
 refine Zv (Y.ldAll Z xag205 (Kn.at 0 rfl) (by first | exact Bk.mks_len _ | exact Bk.ins_len _ | exact Bk.nots_len _ _))<|Yc Z Z Z rof_c6.frame<|Run.stAll (j := 1) Z Z xsz177 Z (Bk.mks_len _) (Bk.mks_len _) (Bk.one_mks _)<|Run.heapTo (H' := [[(b2,.cells (Bk.ins (Bk.fr n)).toArray 205 (0,0))],[(b1,.cells (Bk.mks (Bk.fr n)).toArray 177 (0,0))]]) Z<|Ze<|Zg<|Zu<|?_
 exact Ex.retCell [] rfl rfl xag177 (Kn.at 1 rfl) (cells_all (Bk.mks_len _)) ⟨rfl,rfl,rfl⟩
theorem rnot_c6 {V : Vw} {f : Nat -> Bool}  : Does Tryz.prog 158 [.agg (Bk.mks f).toArray] V [] (Pv (.agg (Bk.mks (fun k => !f k)).toArray) V []) := by
 refine Does.intro Tryz.func158 rfl rfl (le rfl) (fun B => ?_)
 refine Zs<|Zr<|?_
 refine Run.box rfl (lt rfl) (fun b1 => ?_)
 refine Run.heapTo (H' := [[(b1,.cells (Bk.mks f).toArray 177 (0,0))]]) Z ?_
 refine Run.alloc xzm177 (lt rfl) (fun b2 => ?_)
 refine Run.heapTo (H' := [[(b2,.cells (Bk.mks fun _ => false).toArray 177 (0,0))],[(b1,.cells (Bk.mks f).toArray 177 (0,0))]]) rfl<|Ze<|Zg<|Zs<|Zr<|?_
 refine Run.alloc xzi205 (lt rfl) (fun b3 => ?_)
 rw [show Value.cells (.agg (Bk.ins fun _ => false).toArray) = (Bk.ins (Bk.upto (fun k => !f k) 0)).toArray from by rw [Bk.upto_zero]; rfl]
 refine Ze<|Zg<|Zs<|Zs<|Zr<|Za Z<|Ze<|Zg<|Zb<|?_
 refine ZL (X := Nat) (fun z0 => V) (fun z0 => [[(b3,.cells (Bk.ins (Bk.upto (fun k => !f k) z0)).toArray 205 (0,0))],[(b2,.cells (Bk.mks fun _ => false).toArray 177 (0,0))],[(b1,.cells (Bk.mks f).toArray 177 (0,0))]]) (fun z0 => [(2,(pZ b2)),(3,(pZ b3)),(4,.int .i64 ((z0 : Nat) : Int)),(1,(pZ b1))]) (fun z0 => z0 <= 256) (fun z0 => 256 - z0) (0 : Nat) (Nat.zero_le _) ?_
 rintro i1 hi
 refine Zs<|Zs<|Zr<|Zm Z<|Zv (Y.int Z Z Z)<|Ze<|Zg<|?_
 refine Zq (decide (((i1 : Nat) : Int) < 256)) (fun h4 g4 => ?_) fun h4 g4 => ?_
 ·refine Tr.cond_t Z h4<|Zt<|Zg<|Zs<|Zb<|Zr<|Zm Z<|Zv (Y.ldAll Z xag177 (Kn.at 2 rfl) (by first | exact Bk.mks_len _ | exact Bk.ins_len _ | exact Bk.nots_len _ _))<|Zm Z<|Yc Z Z Z ((rhas_c6 W).frame)<|Zv (Y.not Z)<|Zv (Y.idxArr Z Z xal205 W W)<|Run.stA1 (j := 0) i1 rfl rfl rfl xsz4 rfl rfl rfl (by rw [Bk.ins_len]; omega) (Bk.ins_step _ W)<|Run.heapTo (H' := [[(b3,.cells (Bk.ins (Bk.upto (fun k => !f k) (i1 + 1))).toArray 205 (0,0))],[(b2,.cells (Bk.mks fun _ => false).toArray 177 (0,0))],[(b1,.cells (Bk.mks f).toArray 177 (0,0))]]) rfl<|?_
  refine Ze<|Zc<|Zg<|Zr<|Zm Z<|Zv (Y.add Z Z W)<|Za Z<|Ze<|Ex.keep [0,0,0]<|?_
  exact ZR (i1 + 1 : Nat) W W
 refine Tr.cond_f Z h4<|Zx<|Zy<|Zy<|Zi<|Zg<|Zs<|Zr<|?_
 rw [Bk.ins_congr (Bk.upto_all (fun k => !f k) (n := i1) W)]
 refine Zv (Y.ldAll Z xag205 (Kn.at 0 rfl) (by first | exact Bk.mks_len _ | exact Bk.ins_len _ | exact Bk.nots_len _ _))<|Yc Z Z Z rof_c6.frame<|Run.stAll (j := 1) Z Z xsz177 Z (Bk.mks_len _) (Bk.mks_len _) (Bk.one_mks _)<|Run.heapTo (H' := [[(b3,.cells (Bk.ins (fun k => !f k)).toArray 205 (0,0))],[(b2,.cells (Bk.mks (fun k => !f k)).toArray 177 (0,0))],[(b1,.cells (Bk.mks f).toArray 177 (0,0))]]) rfl<|?_
 refine Ze<|Zg<|Zu<|?_
 exact Ex.retCell [] rfl rfl xag177 (Kn.at 1 rfl) (cells_all (Bk.mks_len _)) ⟨rfl,rfl,rfl⟩
end Go.Proofs.YtfgblingojgafaaGreat
namespace Go.Proofs.YtfgblingojgafaaGreat
open Go Go.K
attribute [local irreducible] Code.wp wpList Calls wpQuiet
theorem btab_c {V : Vw} {n : Nat} (hn : n < 256)  : Does Tryz.prog 170 [.int .u8 ((n : Nat) : Int)] V [] (Pv (.int .u8 ((Bk.tab n : Nat) : Int)) V []) := by
 refine Does.intro Tryz.func170 rfl rfl (le rfl) (fun B => ?_)
 refine Zs<|Zr<|Za Z<|Ze<|Zg<|Zs<|Zr<|Zm Z<|Zv (Y.int (r := .int .u8 (((n * 167 % 256 : Nat) : Int))) rfl rfl (by simp only [intRes]; rw [wrap_u8_mod]; exact congrArg (fun z => some (Value.int _ z)) W))<|Zv (Y.int (r := .int .u8 (((Bk.tab n : Nat) : Int))) rfl rfl (by simp only [intRes]; rw [wrap_u8_mod]; exact congrArg (fun z => some (Value.int _ z)) (by unfold Bk.tab; omega)))<|Za Z<|Ze<|Zg<|Zu<|Ex.keep []<|?_
 exact Ex.ret1 rfl rfl  ⟨rfl,rfl,rfl⟩
theorem bucket_c {V : Vw} {s : ByteArray} (hs : s.size <= 9223372036854775807)  : Does Tryz.prog 145 [.string s] V [] (Pv (.int .i64 ((Bk.bucket s.toList : Nat) : Int)) V []) := by
 have hsl : s.toList.length = s.size := by rw [ByteArray.toList_eq]; rfl
 refine Does.intro Tryz.func145 rfl rfl (le rfl) (fun B => ?_)
 refine Zs<|Zr<|Za Z<|Ze<|Zg<|Zs<|Zr<|Zm Z<|Zv (Y.lenStr Z xst9)<|Zv (Y.conv (((s.size % 256 : Nat) : Int)) rfl xit3_5 (by rw [wrap_u8_mod]; omega))<|Za Z<|Ze<|Zg<|Zs<|Zs<|Zr<|?_
 refine Zm Z<|Zv (Y.lenStr Z xst9)<|Zv (Y.sub Z Z W)<|Za Z<|Ze<|Zg<|Zb<|?_
 refine ZL (X := Nat) (fun z0 => V) (fun z0 => []) (fun z0 => [(0,.string s),(3,.int .u8 ((Bk.down s.toList z0 : Nat) : Int)),(4,.int .i64 ((z0 : Int) - 1))]) (fun z0 => z0 <= s.size) (fun z0 => z0) (s.size : Nat) (Nat.le_refl _) ?_ (by repeat (first | exact subB_nil _ | refine subB_cons (by first | rfl | exact congrArg (fun z => some (Value.int _ z)) W | exact congrArg (fun z => some (Value.int _ ((z : Nat) : Int))) (by rw [<- hsl,Bk.down_all]) | exact congrArg (fun z => some (Value.int _ ((z : Nat) : Int))) (by rw [Bk.down_step (i := k1 - 1) W,show k1 - 1 + 1 = k1 by omega,show ((k1 : Int) - 1).toNat = k1 - 1 by omega])) ?_))
 rintro k1 hk
 refine Zs<|Zs<|Zr<|Zm Z<|Zv (Y.int Z Z Z)<|Ze<|Zg<|?_
 refine Zq (decide (((k1 : Int) - 1) >= 0)) (fun h1 g1 => ?_) fun h1 g1 => ?_
 ·refine Tr.cond_t Z h1<|Zt<|Zg<|Zs<|Zb<|Zr<|Zm Z<|Zm Z<|Zm Z<|Zv (Y.idxStr Z Z xst9 W W)<|Zv (Y.int (r := .int .u8 (((Bk.down s.toList k1 ^^^ (s.toList.getD ((k1 : Int) - 1).toNat 0).toNat : Nat) : Int))) rfl rfl (by simp only [intRes]; rw [xor_u8 (Bk.down_lt _ _) (UInt8.toNat_lt _)]))<|Yc Z Z Z ((btab_c (n := Bk.down s.toList k1 ^^^ (s.toList.getD ((k1 : Int) - 1).toNat 0).toNat) (xor_lt (Bk.down_lt _ _) (UInt8.toNat_lt _))).frame)<|?_
  refine Za Z<|Ze<|Zc<|Zg<|Zr<|Zm Z<|Zv (Y.sub Z Z W)<|Za Z<|Ze<|?_
  exact ZR (k1 - 1 : Nat) W W (by repeat (first | exact subB_nil _ | refine subB_cons (by first | rfl | exact congrArg (fun z => some (Value.int _ z)) W | exact congrArg (fun z => some (Value.int _ ((z : Nat) : Int))) (by rw [<- hsl,Bk.down_all]) | exact congrArg (fun z => some (Value.int _ ((z : Nat) : Int))) (by rw [Bk.down_step (i := k1 - 1) W,show k1 - 1 + 1 = k1 by omega,show ((k1 : Int) - 1).toNat = k1 - 1 by omega])) ?_))
 refine Tr.cond_f Z h1<|Zx<|Zy<|Zy<|Zi<|Zg<|Zs<|Zr<|?_
 have hdl := Bk.down_lt s.toList k1
 refine Zm Z<|Zv (Y.conv (((Bk.down s.toList k1 : Nat) : Int)) rfl xit5_3 (wrap_i64 W))<|Za Z<|Ze<|Zg<|Zu<|Ex.keep []<|?_
 exact Ex.ret1 rfl rfl  ⟨congrArg (Value.int _) (by rw [show k1 = 0 by omega]; rfl),rfl,rfl⟩
theorem rbtab_c {V : Vw} {n : Nat} (hn : n < 256)  : Does Tryz.prog 180 [.int .i64 ((n : Nat) : Int)] V [] (Pv (.int .i64 ((Bk.tab n : Nat) : Int)) V []) := by
 refine Does.intro Tryz.func180 rfl rfl (le rfl) (fun B => ?_)
 refine Zs<|Zr<|Za Z<|Ze<|Zg<|Zs<|Zr<|Zm Z<|Zv (Y.mul Z Z W)<|Zv (Y.add Z Z W)<|Zv (Y.rem (((Bk.tab n : Nat) : Int)) rfl rfl WD (by rw [Int.tmod_eq_emod_of_nonneg W]; unfold Bk.tab; omega))<|Za Z<|Ze<|Zg<|Zu<|Ex.keep []<|?_
 exact Ex.ret1 rfl rfl  ⟨rfl,rfl,rfl⟩
theorem rbucket_c {V : Vw} {s : ByteArray} (hs : s.size <= 9223372036854775807)  : Does Tryz.prog 160 [.string s] V [] (Pv (.int .i64 ((Bk.bucket s.toList : Nat) : Int)) V []) := by
 have hsl : s.toList.length = s.size := by rw [ByteArray.toList_eq]; rfl
 refine Does.intro Tryz.func160 rfl rfl (le rfl) (fun B => ?_)
 refine Zs<|Zr<|Za Z<|Ze<|Zg<|Zs<|Zr<|Zm Z<|Zv (Y.lenStr Z xst9)<|Zv (Y.rem (((s.size % 256 : Nat) : Int)) rfl rfl WD (by rw [Int.tmod_eq_emod_of_nonneg W]; omega))<|Za Z<|Ze<|Zg<|Zs<|Zs<|Zr<|?_
 refine Zm Z<|Zv (Y.lenStr Z xst9)<|Zv (Y.sub Z Z W)<|Za Z<|Ze<|Zg<|Zb<|?_
 refine ZL (X := Nat) (fun z0 => V) (fun z0 => []) (fun z0 => [(0,.string s),(3,.int .i64 ((Bk.down s.toList z0 : Nat) : Int)),(4,.int .i64 ((z0 : Int) - 1))]) (fun z0 => z0 <= s.size) (fun z0 => z0) (s.size : Nat) (Nat.le_refl _) ?_ (by repeat (first | exact subB_nil _ | refine subB_cons (by first | rfl | exact congrArg (fun z => some (Value.int _ z)) W | exact congrArg (fun z => some (Value.int _ ((z : Nat) : Int))) (by rw [<- hsl,Bk.down_all]) | exact congrArg (fun z => some (Value.int _ ((z : Nat) : Int))) (by rw [Bk.down_step (i := k1 - 1) W,show k1 - 1 + 1 = k1 by omega,show ((k1 : Int) - 1).toNat = k1 - 1 by omega])) ?_))
 rintro k1 hk
 have hcl := UInt8.toNat_lt (s.toList.getD ((k1 : Int) - 1).toNat 0)
 refine Zs<|Zs<|Zr<|Zm Z<|Zv (Y.int Z Z Z)<|Ze<|Zg<|?_
 refine Zq (decide (((k1 : Int) - 1) >= 0)) (fun h1 g1 => ?_) fun h1 g1 => ?_
 ·refine Tr.cond_t Z h1<|Zt<|Zg<|Zs<|Zb<|Zr<|Zm Z<|Zm Z<|Zm Z<|Zv (Y.idxStr Z Z xst9 W W)<|Zv (Y.conv (((s.toList.getD ((k1 : Int) - 1).toNat 0).toNat : Int)) rfl xit5_3 (wrap_i64 W))<|Zv (Y.int (r := .int .i64 (((Bk.down s.toList k1 ^^^ (s.toList.getD ((k1 : Int) - 1).toNat 0).toNat : Nat) : Int))) rfl rfl (by simp only [intRes]; rw [xor_i64 (Bk.down_lt _ _) (UInt8.toNat_lt _)]))<|Yc Z Z Z ((rbtab_c (n := Bk.down s.toList k1 ^^^ (s.toList.getD ((k1 : Int) - 1).toNat 0).toNat) (xor_lt (Bk.down_lt _ _) (UInt8.toNat_lt _))).frame)<|?_
  refine Za Z<|Ze<|Zc<|Zg<|Zr<|Zm Z<|Zv (Y.sub Z Z W)<|Za Z<|Ze<|?_
  exact ZR (k1 - 1 : Nat) W W (by repeat (first | exact subB_nil _ | refine subB_cons (by first | rfl | exact congrArg (fun z => some (Value.int _ z)) W | exact congrArg (fun z => some (Value.int _ ((z : Nat) : Int))) (by rw [<- hsl,Bk.down_all]) | exact congrArg (fun z => some (Value.int _ ((z : Nat) : Int))) (by rw [Bk.down_step (i := k1 - 1) W,show k1 - 1 + 1 = k1 by omega,show ((k1 : Int) - 1).toNat = k1 - 1 by omega])) ?_))
 refine Tr.cond_f Z h1<|Zx<|Zy<|Zy<|Zi<|Zg<|Zs<|Zr<|Zm Z<|Za Z<|Ze<|Zg<|Zu<|Ex.keep []<|?_
 exact Ex.ret1 rfl rfl  ⟨congrArg (Value.int _) (by rw [show k1 = 0 by omega]; rfl),rfl,rfl⟩
end Go.Proofs.YtfgblingojgafaaGreat
