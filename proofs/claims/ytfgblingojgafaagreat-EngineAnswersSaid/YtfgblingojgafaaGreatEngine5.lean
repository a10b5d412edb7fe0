/- The document's answers, walked: what they are made of.
Conditions: as each theorem names them. -/
import Derived.Test.YtfgblingojgafaaGreatFx
import Derived.Test.YtfgblingojgafaaGreatProg
import Derived.Test.YtfgblingojgafaaGreatEngine4
import Derived.Test.YtfgblingojgafaaGreatRgrant
import Derived.Test.YtfgblingojgafaaGreatTimes
import Derived.Test.YtfgblingojgafaaGreatRA
import Derived.Test.YtfgblingojgafaaGreatEB
set_option linter.unusedSimpArgs false
set_option linter.unusedVariables false
set_option maxRecDepth 4000
namespace Go.Proofs.YtfgblingojgafaaGreat
open Go Go.K
attribute [local irreducible] Code.wp wpList Calls wpQuiet
theorem rtheirs_c {V : Vw} {l : Le} {c : ByteArray}  : Does Tryz.prog 64 [.agg ((Le.cells l).toArray),.string c] V [] (Pv (.bool (Eg.theirs c l)) V []) := by
 refine Does.intro Tryz.func64 rfl rfl (le rfl) (fun B => ?_)
 refine Zs<|Zr<|?_
 refine Run.box rfl (lt rfl) (fun b1 => ?_)
 refine Za Z<|Ze<|Zg<|Zs<|Zr<|Zv (Y.fieldAddr Z xfo43_1)<|Zv (Y.load Z xts3 (Kn.at 0 Z) Z)<|Zv (Y.int Z Z Z)<|Zm Z<|?_
 refine Zq (l.bind == 2) (fun h2 g2 => ?_) fun h2 g2 => ?_
 ·refine Zp h2<|Zv (Y.fieldAddr Z xfo43_2)<|Zp h2<|Zv (Y.load Z xts9 (Kn.at 0 Z) Z)<|Zp h2<|Zm Z<|Zp h2<|Zv (Y.eqStr Z Z)<|Zv (Y.pick_t Z h2 Z)<|Za Z<|Ze<|Zg<|Zu<|Ex.keep []<|?_
  exact Ex.ret1 rfl rfl  ⟨congrArg Value.bool (by show _ = (l.bind == 2 && _); rw [h2]; rfl),rfl,rfl⟩
 refine Zo h2 Z<|Zo h2 Z<|Zo h2 Z<|Zo h2 Z<|Zv (Y.pick_f Z h2 Z)<|Za Z<|Ze<|Zg<|Zu<|Ex.keep []<|?_
 exact Ex.ret1 rfl rfl  ⟨congrArg Value.bool (by show _ = (l.bind == 2 && _); rw [h2]; rfl),rfl,rfl⟩
theorem rrules_c {V : Vw} {x : Si} {pv : Value}  : Does Tryz.prog 124 [.agg (Si.cells x pv)] V [] (Pv (.agg #[.int .i64 x.rules.id,.int .i64 x.rules.lead,.int .i64 x.rules.guard]) V []) := by
 refine Does.intro Tryz.func124 rfl rfl (le rfl) (fun B => ?_)
 refine Zs<|Zr<|?_
 refine Run.box rfl (lt rfl) (fun b1 => ?_)
 refine Run.alloc xzo162 (lt rfl) (fun b2 => ?_)
 refine Ze<|Zg<|Zs<|Zr<|Zv (Y.fieldAddr Z xfo35_0)<|Zv (Y.load Z xts3 (Kn.at 1 Z) Z)<|Zv (Y.fieldAddr Z xfo35_1)<|Zv (Y.load Z xts3 (Kn.at 1 Z) Z)<|Zv (Y.fieldAddr Z xfo35_2)<|Zv (Y.load Z xts3 (Kn.at 1 Z) Z)<|Zv (Y.buildS (l := [(0,.tmp 4),(1,.tmp 6),(2,.tmp 8)]) xzo162 xpl162 Z Z)<|Run.store (s := [(b2,.cells #[.int .i64 x.id,.int .i64 x.lead,.int .i64 x.guard] 162 (0,0))]) Z Z xsz162 (i := 0) Z Z (le Z) Z Z<|?_
 refine Ze<|Zg<|Zu<|?_
 exact Ex.retCell [] rfl rfl xag162 (Kn.at 0 rfl) rfl ⟨rfl,rfl,rfl⟩
theorem rtime20_c {V : Vw} {x : Si} {pv : Value} {l : Le} {c : ByteArray} {now want : Int}  : Does Tryz.prog 122 [.agg (Si.cells x pv),.agg ((Le.cells l).toArray),.string c,.int .i64 now,.int .i64 want] V [] (Pv (.int .i64 (Eg.time x c now want l)) V []) := by
 refine Does.intro Tryz.func122 rfl rfl (le rfl) (fun B => ?_)
 refine Zs<|Zr<|?_
 refine Run.box rfl (lt rfl) (fun b1 => ?_)
 refine Run.box rfl (lt rfl) (fun b2 => ?_)
 refine Za Z<|Ze<|Zg<|Zs<|Zr<|Za Z<|Ze<|Zg<|Zs<|Zs<|Zr<|Zv (Y.loadAgg Z xag43 (Kn.at 0 Z) Z)<|Zm Z<|Yc Z Z Z ((rtheirs_c (l := l) (c := c)).frame)<|Ze<|Zg<|?_
 refine Zq (Eg.theirs c l) (fun h3 g3 => ?_) fun h3 g3 => ?_
 ·refine Tr.cond_t Z h3<|Zr<|Zv (Y.fieldAddr Z xfo43_4)<|Zv (Y.load Z xts3 (Kn.at 0 Z) Z)<|Za Z<|Ze<|Zg<|Zs<|Zr<|Zm Z<|Zv (Y.loadAgg Z xag35 (Kn.at 1 Z) Z)<|Yc Z Z Z ((rrules_c (x := x)).frame)<|Zm Z<|Zm Z<|Zm Z<|Yc Z Z Z ((runtil_c (r := x.rules) (now := now) (want := want) (acked := l.acked)).frame)<|?_
  refine Yc Z Z Z (rleft_c_h (now := now) (til := x.rules.until_ now want l.acked))<|Zv (Y.min2 Z Z)<|Za Z<|Ze<|Zg<|Zu<|Ex.keep []<|?_
  exact Ex.ret1 rfl rfl  ⟨congrArg (Value.int _) (by unfold Eg.time; rw [if_pos h3]),rfl,rfl⟩
 refine Tr.cond_f Z h3<|Zt<|Zg<|Zs<|Zr<|Zm Z<|Zv (Y.loadAgg Z xag35 (Kn.at 1 Z) Z)<|Yc Z Z Z ((rrules_c (x := x)).frame)<|Zm Z<|Zm Z<|Zm Z<|Yc Z Z Z ((runtil_c (r := x.rules) (now := now) (want := want) (acked := 0)).frame)<|Yc Z Z Z (rleft_c_h (now := now) (til := x.rules.until_ now want 0))<|Zv (Y.min2 Z Z)<|Za Z<|Ze<|?_
 refine Zg<|Zu<|Ex.keep []<|?_
 exact Ex.ret1 rfl rfl  ⟨congrArg (Value.int _) (by unfold Eg.time; rw [if_neg (by rw [h3]; decide)]),rfl,rfl⟩
theorem rmine_c {V : Vw} {x : Si} {pv : Value} {c : ByteArray} (hc : c.size <= 9223372036854775807)  : Does Tryz.prog 120 [.agg (Si.cells x pv),.string c] V [] (Pv (.bool (Eg.mine x c)) V []) := by
 have hbk := Eg.buk_lt c.toList
 refine Does.intro Tryz.func120 rfl rfl (le rfl) (fun B => ?_)
 refine Zs<|Zr<|?_
 refine Run.box rfl (lt rfl) (fun b1 => ?_)
 refine Za Z<|Ze<|Zg<|Zs<|Zr<|Zv (Y.fieldAddr Z xfo35_6)<|Zv (Y.load Z xts3 (Kn.at 0 Z) Z)<|Yc Z Z Z ((rfirst_c6 (n := x.first)).frame)<|?_
 refine Run.alloc xzm177 (lt rfl) (fun b2 => ?_)
 refine Run.heapTo (H' := [[(b2,.cells (Bk.mks fun _ => false).toArray 177 (0,0))],[(b1,.cells (Si.cells x pv) 35 (0,0))]]) rfl<|Run.stAll (j := 0) Z Z xsz177 Z (Bk.mks_len _) (Bk.mks_len _) (Bk.one_mks _)<|?_
 refine Run.heapTo (H' := [[(b2,.cells (Bk.mks (Bk.fr x.first)).toArray 177 (0,0))],[(b1,.cells (Si.cells x pv) 35 (0,0))]]) Z<|Ze<|Zg<|Zs<|Zs<|Zr<|Zv (Y.fieldAddr Z xfo35_0)<|Zv (Y.load Z xts3 (Kn.at 1 Z) Z)<|?_
 refine Zv (Y.int Z Z Z)<|Ze<|Zg<|?_
 refine Zq (x.id == 1) (fun h3 g3 => ?_) fun h3 g3 => ?_
 ·refine Tr.cond_t Z h3<|Zr<|Zv (Y.ldAll Z xag177 (Kn.at 0 rfl) (by first | exact Bk.mks_len _ | exact Bk.ins_len _ | exact Bk.nots_len _ _))<|Yc Z Z Z ((rnot_c6 (f := Bk.fr x.first)).frame)<|Run.stAll (j := 0) Z Z xsz177 Z (Bk.mks_len _) (Bk.mks_len _) (Bk.one_mks _)<|Run.heapTo (H' := [[(b2,.cells (Bk.mks (fun k => !Bk.fr x.first k)).toArray 177 (0,0))],[(b1,.cells (Si.cells x pv) 35 (0,0))]]) rfl<|?_
  refine Ze<|Zg<|Zs<|Tr.quiet xmo WK<|ZV (Y.ldAll Z xag177 (Kn.at 0 rfl) (by first | exact Bk.mks_len _ | exact Bk.ins_len _ | exact Bk.nots_len _ _))<|ZM Z<|YC Z Z Z ((rbucket_c hc).frame)<|YC Z Z Z ((rhas_c6 W).frame)<|ZA Z<|ZE<|Zg<|Zu<|Ex.keep []<|?_
  exact Ex.ret1 rfl rfl  ⟨congrArg Value.bool (by unfold Eg.mine Bk.fr; rw [if_pos W]),rfl,rfl⟩
 refine Tr.cond_f Z h3<|Zt<|Zg<|Zs<|Tr.quiet xmo WK<|ZV (Y.ldAll Z xag177 (Kn.at 0 rfl) (by first | exact Bk.mks_len _ | exact Bk.ins_len _ | exact Bk.nots_len _ _))<|ZM Z<|YC Z Z Z ((rbucket_c hc).frame)<|YC Z Z Z ((rhas_c6 W).frame)<|ZA Z<|ZE<|Zg<|Zu<|Ex.keep []<|?_
 exact Ex.ret1 rfl rfl  ⟨congrArg Value.bool (by unfold Eg.mine Bk.fr; rw [if_neg W]),rfl,rfl⟩
theorem rasked20_c {V : Vw} {x : Si} {pv : Value} {p : Pc} {hv0 ov0 : Value} (hp : Pc.R V p hv0 ov0) (hfew : p.few = true)  : Does Tryz.prog 59 [.agg (Si.cells x pv),.agg (Pc.cells p hv0 ov0)] V [] (Pv (.tuple #[.int .u32 p.asked,.int .i64 (min (if p.asks = 0 then x.want else p.asks) x.most)]) V []) := by
 refine Does.intro Tryz.func59 rfl rfl (le rfl) (fun B => ?_)
 refine Zs<|Zr<|?_
 refine Run.box rfl (lt rfl) (fun b1 => ?_)
 refine Run.box rfl (lt rfl) (fun b2 => ?_)
 refine Za Z<|Za Z<|Ze<|Zg<|Zs<|Zr<|Zv (Y.loadAgg Z xag28 (Kn.at 0 Z) Z)<|Yc Z Z Z (asked_h hp hfew)<|Zm Z<|Zv (Y.extract Z Z)<|Zv (Y.extract Z Z)<|Za Z<|Za Z<|Ze<|Zg<|Zs<|?_
 refine Zs<|Zr<|Zm Z<|Zv (Y.int Z Z Z)<|Ze<|Zg<|?_
 refine Zq (p.asks == 0) (fun h3 g3 => ?_) fun h3 g3 => ?_
 ·refine Tr.cond_t Z h3<|Zr<|Zv (Y.fieldAddr Z xfo35_4)<|Zv (Y.load Z xts3 (Kn.at 1 Z) Z)<|Za Z<|Ze<|Zg<|Zs<|Tr.quiet xmo WK<|ZM Z<|ZM Z<|ZV (Y.fieldAddr Z xfo35_5)<|ZV (Y.load Z xts3 (Kn.at 1 Z) Z)<|ZV (Y.min2 Z Z)<|ZA Z<|ZA Z<|?_
  refine ZE<|Zg<|Zu<|Ex.keep []<|?_
  exact Ex.ret2 rfl rfl rfl  ⟨by rw [if_pos W]; rfl,rfl,rfl⟩
 refine Tr.cond_f Z h3<|Zt<|Zg<|Zs<|Tr.quiet xmo WK<|ZM Z<|ZM Z<|ZV (Y.fieldAddr Z xfo35_5)<|ZV (Y.load Z xts3 (Kn.at 1 Z) Z)<|ZV (Y.min2 Z Z)<|ZA Z<|ZA Z<|ZE<|Zg<|Zu<|Ex.keep []<|?_
 exact Ex.ret2 rfl rfl rfl  ⟨by rw [if_neg W]; rfl,rfl,rfl⟩
theorem rchosen_c {V : Vw} {p : Pc} {hv0 ov0 : Value} (hp : Pc.R V p hv0 ov0) (hfew : p.few = true)  : Does Tryz.prog 125 [.agg (Pc.cells p hv0 ov0)] V [] (fun u V' H' => V' = V /\ H' = [] /\ ∃ s,u = .tuple #[.int .u32 s,.bool ((Oc.fd 54 p.os).length == 4)] /\ (((Oc.fd 54 p.os).length == 4) = true -> s = val (Oc.fd 54 p.os))) := by
 refine Does.intro Tryz.func125 rfl rfl (le rfl) (fun B => ?_)
 refine Zs<|Zr<|?_
 refine Run.box rfl (lt rfl) (fun b1 => ?_)
 refine Za Z<|Za Z<|Ze<|Zg<|Zs<|Zr<|Zv (Y.fieldAddr Z xfo28_9)<|Zv (Y.load Z xts26 (Kn.at 0 Z) Z)<|?_
 refine Yk [] Z Z Z (rfind_h (code := 54) hp.os (Eg.few_len hfew)) (fun v1 V2 H2 _ hR => ?_)
 obtain ⟨hV,rfl,d1,rfl,hd1⟩ := hR; replace hV := hV.symm; subst hV; obtain ⟨pd1,cd1,rfl,_⟩ := hd1.form
 refine Run.heapTo (H' := [[(b1,.cells (Pc.cells p hv0 ov0) 28 (0,0))]]) Z<|Run.heapTo (H' := [[(b1,.cells (Pc.cells p hv0 ov0) 28 (0,0))]]) Z<|Zm Z<|Zv (Y.extract Z Z)<|?_
 refine Zv (Y.extract Z Z)<|Za Z<|Za Z<|Ze<|Zg<|Zs<|Zr<|Zm Z<|?_
 by_cases h4 : (Oc.fd 54 p.os).length = 4
 ·refine Yc Z Z Z (rnumber_h (bs := (Oc.fd 54 p.os)) hd1.of_nil h4) ?_
  have hv4 := Cli.val4 h4
  refine Run.heapTo (H' := [[(b1,.cells (Pc.cells p hv0 ov0) 28 (0,0))]]) Z<|Zm Z<|Zv (Y.extract Z Z)<|Zv (Y.extract Z Z)<|Za Z<|Za Z<|Ze<|Zg<|Zs<|Zr<|Zm Z<|Zv (Y.conv (val (Oc.fd 54 p.os)) rfl xit3_24 (wrap_u32 W))<|Zm Z<|Zv (Y.int (r := .bool true) Z Z Z)<|Zm Z<|Zp Z<|?_
  refine Zm Z<|Zp Z<|Zv (Y.lenSl Z xes25)<|Zp Z<|Zv (Y.int Z Z Z)<|Zv (Y.pick_t Z Z Z)<|Za Z<|Za Z<|Ze<|Zg<|Zu<|Ex.keep []<|?_
  exact Ex.ret2 rfl rfl rfl  ⟨rfl,rfl,_,by rw [show ((Oc.fd 54 p.os).length == 4) = true from beq_iff_eq.2 h4,show ((((Oc.fd 54 p.os).length : Nat) : Int) == 4) = true from beq_iff_eq.2 W] <;> rfl,fun _ => rfl⟩
 refine Yk [] Z Z Z (rnumber_oh (bs := (Oc.fd 54 p.os)) hd1 h4) (fun v2 V2 H2 _ hR => ?_)
 obtain ⟨hV,rfl,n2,e2,rfl⟩ := hR; replace hV := hV.symm; subst hV
 refine Run.heapTo (H' := [[(b1,.cells (Pc.cells p hv0 ov0) 28 (0,0))]]) Z<|Run.heapTo (H' := [[(b1,.cells (Pc.cells p hv0 ov0) 28 (0,0))]]) Z<|Zm Z<|Zv (Y.extract Z Z)<|?_
 refine Zv (Y.extract Z Z)<|Za Z<|Za Z<|Ze<|Zg<|Zs<|Zr<|Zm Z<|Zv (Y.conv (IntKind.u32.wrap n2) Z xit3_24 Z)<|Zm Z<|Zv (Y.int Z Z Z)<|Zm Z<|?_
 refine Zq (e2 == 0) (fun h2 g2 => ?_) fun h2 g2 => ?_
 ·refine Zp h2<|Zm Z<|Zp h2<|Zv (Y.lenSl Z xes25)<|Zp h2<|Zv (Y.int Z Z Z)<|Zv (Y.pick_t Z h2 Z)<|Za Z<|Za Z<|Ze<|Zg<|Zu<|Ex.keep []<|?_
  exact Ex.ret2 rfl rfl rfl  ⟨rfl,rfl,_,by rw [show ((Oc.fd 54 p.os).length == 4) = false from beq_eq_false_iff_ne.2 h4,show ((((Oc.fd 54 p.os).length : Nat) : Int) == 4) = false from beq_eq_false_iff_ne.2 W],fun h => absurd h (by rw [show ((Oc.fd 54 p.os).length == 4) = false from beq_eq_false_iff_ne.2 h4]; decide)⟩
 refine Zo h2 Z<|Zo h2 Z<|Zo h2 Z<|Zv (Y.pick_f Z h2 Z)<|Za Z<|Za Z<|Ze<|Zg<|Zu<|Ex.keep []<|?_
 exact Ex.ret2 rfl rfl rfl  ⟨rfl,rfl,_,by rw [show ((Oc.fd 54 p.os).length == 4) = false from beq_eq_false_iff_ne.2 h4],fun h => absurd h (by rw [show ((Oc.fd 54 p.os).length == 4) = false from beq_eq_false_iff_ne.2 h4]; decide)⟩
theorem rfour_c {V : Vw} {n : Int} (hn : 0 <= n /\ n <= 4294967295)  : Does Tryz.prog 129 [.int .i64 n] V [] (fun u V' H' => V' = V /\ ∃ s',H' = [s'] /\ Ow 5 1 u 4 ((Msg.be 4 n).map byteV) s') := by
 refine Does.intro Tryz.func129 rfl rfl (le rfl) (fun B => ?_)
 refine Zs<|Zr<|Za Z<|Ze<|Zg<|Zs<|Zr<|Zm Z<|?_
 refine Yk [] Z Z Z (rbytes_c (n := n) W) (fun v1 V2 H2 _ hR => ?_)
 obtain ⟨hV,z2,s3,rfl,rfl,ho4⟩ := hR; replace hV := hV.symm; subst hV; obtain ⟨p5,c6,rfl⟩ := ho4.form
 refine Zm Z<|Zv (Y.extract Z Z)<|Zv (Y.extract Z Z)<|Za Z<|Za Z<|Ze<|Zg<|Zs<|Zr<|Zm Z<|Za Z<|Ze<|Zg<|Zu<|Ex.keep [0]<|?_
 exact Ex.ret1 rfl rfl  ⟨rfl,s3,rfl,ho4⟩
set_option maxHeartbeats 1000000 in
theorem rreply_c {V : Vw} {x : Si} {pv : Value} {p : Pc} {hv0 ov0 : Value} (hp : Pc.R V p hv0 ov0) (hfew : p.few = true) (hsv : 0 <= x.server /\ x.server <= 4294967295) {kind : Int}  : Does Tryz.prog 66 [.agg (x.cells pv),.agg (p.cells hv0 ov0),.int .i64 kind] V [] (fun u V' H' => V.le V' /\ H' = [] /\ ∃ hv' ov',u = .agg ((Eg.rep x p kind).cells hv' ov') /\ Pc.R V' (Eg.rep x p kind) hv' ov') := by
 have hw3 : p.hw.length < 1000 := by have h := hfew; simp only [Pc.few,Bool.and_eq_true,decide_eq_true_eq] at h; omega
 obtain ⟨⟨ph,ch,rfl⟩,po9,no9,co9,rfl⟩ := hp.forms
 have hph := hp.hw
 refine Does.intro Tryz.func66 rfl rfl (le rfl) (fun B => ?_)
 refine Zs<|Zr<|?_
 refine Run.box rfl (lt rfl) (fun b1 => ?_)
 refine Run.box rfl (lt rfl) (fun b2 => ?_)
 refine Run.alloc xzo28 (lt rfl) (fun b3 => ?_)
 refine Ze<|Zg<|?_
 refine Tr.cutx (X := Nat × Sg × Option Addr × Nat) (fun y => V) (fun y => [[(y.1,.cells #[.int .i64 2,.int .u32 p.xid,.int .i64 0,.int .i64 p.flags,.int .u32 0,.int .u32 0,.int .u32 x.server,.int .u32 p.gi,.slice y.2.2.1 p.hw.length y.2.2.2,.slice none 0 0] 28 (0,0))],y.2.1,[(b2,.cells (Pc.cells p (.slice ph p.hw.length ch) (.slice po9 no9 co9)) 28 (0,0))],[(b1,.cells (Si.cells x pv) 35 (0,0))],[(b3,.cells #[.int .i64 0,.int .u32 0,.int .i64 0,.int .i64 0,.int .u32 0,.int .u32 0,.int .u32 0,.int .u32 0,.slice none 0 0,.slice none 0 0] 28 (0,0))]]) (fun y => [(0,.agg (Si.cells x pv)),(1,.agg (Pc.cells p (.slice ph p.hw.length ch) (.slice po9 no9 co9))),(2,.int .i64 kind),(3,(pZ b1)),(4,(pZ b2)),(6,(pZ b3)),(7,.pointer (some ⟨y.1,0,none⟩))]) (fun y => Ow 5 1 (.slice y.2.2.1 p.hw.length y.2.2.2) p.hw.length (p.hw.map byteV) y.2.1) ?_ ?_
 ·refine Tr.anyL [(b2,.cells (Pc.cells p (.slice ph p.hw.length ch) (.slice po9 no9 co9)) 28 (0,0)),(b1,.cells (Si.cells x pv) 35 (0,0))] 14 xmo ?_
  refine Zh 0 Z (fun _ => (Y.fieldAddr rfl xfo28_1))<|ZH 1 0 Z Z (fun _ => (Y.load rfl xts23 Kn.vk1 rfl))<|Zh 2 Z (fun _ => (Y.fieldAddr rfl xfo28_3))<|ZH 3 0 Z Z (fun _ => (Y.load rfl xts3 Kn.vk1 rfl))<|Zh 4 Z (fun _ => (Y.fieldAddr rfl xfo28_7))<|ZH 5 0 Z Z (fun _ => (Y.load rfl xts24 Kn.vk1 rfl))<|Zh 7 Z (fun _ => (Y.fieldAddr rfl xfo28_8))<|ZH 8 0 Z Z (fun _ => (Y.load rfl xts25 Kn.vk1 rfl))<|?_
  refine Zh 10 Z (fun _ => (Y.fieldAddr rfl xfo35_3))<|ZH 11 1 Z Z (fun _ => (Y.load rfl xts24 Kn.vk1 rfl))<|?_
  refine RunL.two (i := 6) (j := 13) WK rfl rfl  ?_ ?_
  ·refine Run.buildSlice0 xes25 (lt rfl) (fun b4 => ?_)
   refine Ze<|ZF<|?_
   refine RunL.two (i := 9) (j := 13) WK rfl rfl  ?_ ?_
   ·refine Run.append (n := 0) (m := p.hw.length) (xs := []) (ys := p.hw.map byteV) rfl rfl xes25 xzi5 WD (j := 0) rfl (Ow.lit (cur := #[]) rfl WD) (Src.of_rd xes25 hph.of_nil) W W (all_one_bytes _) (lt rfl) (fun v5 s6 ho7 hf => ?_)
    obtain ⟨p5,c5,rfl⟩ := hf
    refine Ze<|ZF<|Zh 12 Z (fun _ => (Y.buildS (l := [(0,.const (.int .i64 2)),(1,.tmp 9),(3,.tmp 11),(7,.tmp 13),(8,.tmp 17),(6,.tmp 19)]) xzo28 xpl28 rfl rfl))<|?_
    refine RunL.one (i := 13) WK rfl  ?_
    refine Run.alloc xzo28 (lt rfl) (fun b8 => ?_)
    refine Ze<|ZF<|?_
    refine RunL.one (i := 14) WK rfl  ?_
    refine Run.store (s := [(b8,.cells #[.int .i64 2,.int .u32 p.xid,.int .i64 0,.int .i64 p.flags,.int .u32 0,.int .u32 0,.int .u32 x.server,.int .u32 p.gi,.slice p5 (0 + p.hw.length) c5,.slice none 0 0] 28 (0,0))]) Z Z xsz28 (i := 0) Z Z (le Z) Z Z<|Ze<|Ex.anyLz Z<|RunL.done WK<|Ex.keep [0,0,1,1,0]<|?_
    exact Ex.cutx (b8,s6,p5,c5) (by have h := ho7; simpa using h) rfl (by simp only [Nat.zero_add] <;> rfl) ZS
   refine Run.alloc xzo28 (lt rfl) (fun b9 => ?_)
   refine Ze<|ZF<|?_
   refine RunL.one (i := 9) WK rfl  ?_
   refine Run.append (n := 0) (m := p.hw.length) (xs := []) (ys := p.hw.map byteV) rfl rfl xes25 xzi5 WD (j := 1) rfl (Ow.lit (cur := #[]) rfl WD) (Src.of_rd xes25 hph.of_nil) W W (all_one_bytes _) (lt rfl) (fun v10 s11 ho12 hf => ?_)
   obtain ⟨p10,c10,rfl⟩ := hf
   refine Ze<|ZF<|Zh 12 Z (fun _ => (Y.buildS (l := [(0,.const (.int .i64 2)),(1,.tmp 9),(3,.tmp 11),(7,.tmp 13),(8,.tmp 17),(6,.tmp 19)]) xzo28 xpl28 rfl rfl))<|?_
   refine RunL.one (i := 14) WK rfl  ?_
   refine Run.store (s := [(b9,.cells #[.int .i64 2,.int .u32 p.xid,.int .i64 0,.int .i64 p.flags,.int .u32 0,.int .u32 0,.int .u32 x.server,.int .u32 p.gi,.slice p10 (0 + p.hw.length) c10,.slice none 0 0] 28 (0,0))]) Z Z xsz28 (i := 0) Z Z (le Z) Z Z<|Ze<|Ex.anyLz Z<|RunL.done WK<|Ex.keep [0,0,1,1,0]<|?_
   exact Ex.cutx (b9,s11,p10,c10) (by have h := ho12; simpa using h) rfl (by simp only [Nat.zero_add] <;> rfl) ZS
  refine Run.alloc xzo28 (lt rfl) (fun b13 => ?_)
  refine Ze<|ZF<|?_
  refine RunL.one (i := 6) WK rfl  ?_
  refine Run.buildSlice0 xes25 (lt rfl) (fun b14 => ?_)
  refine Ze<|ZF<|?_
  refine RunL.one (i := 9) WK rfl  ?_
  refine Run.append (n := 0) (m := p.hw.length) (xs := []) (ys := p.hw.map byteV) rfl rfl xes25 xzi5 WD (j := 0) rfl (Ow.lit (cur := #[]) rfl WD) (Src.of_rd xes25 hph.of_nil) W W (all_one_bytes _) (lt rfl) (fun v15 s16 ho17 hf => ?_)
  obtain ⟨p15,c15,rfl⟩ := hf
  refine Ze<|ZF<|Zh 12 Z (fun _ => (Y.buildS (l := [(0,.const (.int .i64 2)),(1,.tmp 9),(3,.tmp 11),(7,.tmp 13),(8,.tmp 17),(6,.tmp 19)]) xzo28 xpl28 rfl rfl))<|?_
  refine RunL.one (i := 14) WK rfl  ?_
  refine Run.store (s := [(b13,.cells #[.int .i64 2,.int .u32 p.xid,.int .i64 0,.int .i64 p.flags,.int .u32 0,.int .u32 0,.int .u32 x.server,.int .u32 p.gi,.slice p15 (0 + p.hw.length) c15,.slice none 0 0] 28 (0,0))]) Z Z xsz28 (i := 1) Z Z (le Z) Z Z<|Ze<|Ex.anyLz Z<|RunL.done WK<|Ex.keep [1,0,1,1,0]<|?_
  exact Ex.cutx (b13,s16,p15,c15) (by have h := ho17; simpa using h) rfl (by simp only [Nat.zero_add] <;> rfl) ZS
 rintro y hy
 refine Zs<|Zr<|Zm Z<|Zv (Y.conv (kind % 256) Z xit3_5 (wrap_u8m _))<|?_
 refine Run.buildSlice (l := [(0,.tmp 22)]) xes25 xzo5 rfl WD rfl rfl WD (lt rfl) (fun b18 => ?_)
 refine Zv (Y.buildS (l := [(0,.const (.int .i64 53)),(1,.tmp 23)]) xzo81 xpl81 Z Z)<|Zv (Y.fieldAddr Z xfo35_3)<|Zv (Y.load Z xts24 (Kn.at 4 Z) Z)<|Zv (Y.conv (x.server) rfl xit24_3 (wrap_i64 W))<|?_
 refine Yk [] Z Z Z (rfour_c (n := x.server) hsv) (fun v19 V2 H2 _ hR => ?_)
 obtain ⟨hV,s19,rfl,ho19⟩ := hR; replace hV := hV.symm; subst hV; obtain ⟨p19,c19,rfl⟩ := ho19.form
 refine Run.heapTo (H' := [[(b18,.cells #[.int .u8 (kind % 256)] 5 (0,0))],[(y.1,.cells #[.int .i64 2,.int .u32 p.xid,.int .i64 0,.int .i64 p.flags,.int .u32 0,.int .u32 0,.int .u32 x.server,.int .u32 p.gi,.slice y.2.2.1 p.hw.length y.2.2.2,.slice none 0 0] 28 (0,0))],y.2.1,[(b2,.cells (Pc.cells p (.slice ph p.hw.length ch) (.slice po9 no9 co9)) 28 (0,0))],[(b1,.cells (Si.cells x pv) 35 (0,0))],[(b3,.cells #[.int .i64 0,.int .u32 0,.int .i64 0,.int .i64 0,.int .u32 0,.int .u32 0,.int .u32 0,.int .u32 0,.slice none 0 0,.slice none 0 0] 28 (0,0))],s19]) Z ?_
 refine Zv (Y.buildS (l := [(0,.const (.int .i64 54)),(1,.tmp 28)]) xzo81 xpl81 Z Z) ?_
 refine Run.buildSlice (l := [(0,.tmp 24),(1,.tmp 29)]) (r := [.int .i64 53,.slice (some ⟨b18,0,none⟩) 1 1,.int .i64 54,.slice p19 4 c19]) xes26 xzo81 rfl WD rfl rfl WD (lt rfl) (fun b20 => ?_)
 refine Zv (Y.fieldAddr Z xfo28_9)<|Run.store (s := [(y.1,.cells #[.int .i64 2,.int .u32 p.xid,.int .i64 0,.int .i64 p.flags,.int .u32 0,.int .u32 0,.int .u32 x.server,.int .u32 p.gi,.slice y.2.2.1 p.hw.length y.2.2.2,.slice (some ⟨b20,0,none⟩) 2 2] 28 (0,0))]) Z Z xsz26 (i := 2) Z Z (le Z) Z Z<|Ze<|Zg<|?_
 refine Tr.cut V [[(b20,.cells #[.int .i64 53,.slice (some ⟨b18,0,none⟩) 1 1,.int .i64 54,.slice p19 4 c19] 81 (0,0))],[(b18,.cells #[.int .u8 (kind % 256)] 5 (0,0))],[(y.1,.cells #[.int .i64 2,.int .u32 p.xid,.int .i64 0,.int .i64 p.flags,.int .u32 (if kind = 5 then p.ci else 0),.int .u32 0,.int .u32 x.server,.int .u32 p.gi,.slice y.2.2.1 p.hw.length y.2.2.2,.slice (some ⟨b20,0,none⟩) 2 2] 28 (0,0))],y.2.1,[(b2,.cells (Pc.cells p (.slice ph p.hw.length ch) (.slice po9 no9 co9)) 28 (0,0))],[(b1,.cells (Si.cells x pv) 35 (0,0))],[(b3,.cells #[.int .i64 0,.int .u32 0,.int .i64 0,.int .i64 0,.int .u32 0,.int .u32 0,.int .u32 0,.int .u32 0,.slice none 0 0,.slice none 0 0] 28 (0,0))],s19] [(0,.agg (Si.cells x pv)),(1,.agg (Pc.cells p (.slice ph p.hw.length ch) (.slice po9 no9 co9))),(2,.int .i64 kind),(3,(pZ b1)),(4,(pZ b2)),(6,(pZ b3)),(7,.pointer (some ⟨y.1,0,none⟩)),(21,.int .i64 kind),(22,.int .u8 (kind % 256)),(23,.slice (some ⟨b18,0,none⟩) 1 1),(24,.agg #[.int .i64 53,.slice (some ⟨b18,0,none⟩) 1 1]),(25,.pointer (some ⟨b1,3,none⟩)),(26,.int .u32 x.server),(27,.int .i64 x.server),(28,.slice p19 4 c19),(29,.agg #[.int .i64 54,.slice p19 4 c19]),(30,.slice (some ⟨b20,0,none⟩) 2 2),(31,.pointer (some ⟨y.1,9,none⟩))] ?_ ?_
 ·refine Zs<|Zr<|Zm Z<|Zv (Y.int Z Z Z)<|Ze<|Zg<|?_
  refine Zq (kind == 5) (fun h21 g21 => ?_) fun h21 g21 => ?_
  ·refine Tr.cond_t Z h21<|Zr<|Zv (Y.fieldAddr Z xfo28_4)<|Zv (Y.load Z xts24 (Kn.at 4 Z) Z)<|Zv (Y.fieldAddr Z xfo28_4)<|Run.store (s := [(y.1,.cells #[.int .i64 2,.int .u32 p.xid,.int .i64 0,.int .i64 p.flags,.int .u32 p.ci,.int .u32 0,.int .u32 x.server,.int .u32 p.gi,.slice y.2.2.1 p.hw.length y.2.2.2,.slice (some ⟨b20,0,none⟩) 2 2] 28 (0,0))]) Z Z xsz24 (i := 2) Z Z (le Z) Z Z<|?_
   refine Ze ?_
   exact Ex.cut (by rw [if_pos (show kind = 5 by omega)]; try rfl) ZS
  refine Tr.cond_f Z h21<|Zt<|?_
  exact Ex.cut (by rw [if_neg (show ¬ kind = 5 by omega)]; try rfl) ZS
 refine Zs<|Zr<|Zv (Y.loadAgg Z xag28 (Kn.at 2 Z) Z)<|Run.store (s := [(b3,.cells #[.int .i64 2,.int .u32 p.xid,.int .i64 0,.int .i64 p.flags,.int .u32 (if kind = 5 then p.ci else 0),.int .u32 0,.int .u32 x.server,.int .u32 p.gi,.slice y.2.2.1 p.hw.length y.2.2.2,.slice (some ⟨b20,0,none⟩) 2 2] 28 (0,0))]) Z Z xsz28 (i := 6) Z Z (le Z) Z Z<|Ze<|Zg<|Zu<|Ex.keepTo (H' := [y.2.1,[(b20,.cells #[.int .i64 53,.slice (some ⟨b18,0,none⟩) 1 1,.int .i64 54,.slice p19 4 c19] 81 (0,0))],[(b18,.cells #[.int .u8 (kind % 256)] 5 (0,0))],[(y.1,.cells #[.int .i64 2,.int .u32 p.xid,.int .i64 0,.int .i64 p.flags,.int .u32 (if kind = 5 then p.ci else 0),.int .u32 0,.int .u32 x.server,.int .u32 p.gi,.slice y.2.2.1 p.hw.length y.2.2.2,.slice (some ⟨b20,0,none⟩) 2 2] 28 (0,0))],[(b2,.cells (Pc.cells p (.slice ph p.hw.length ch) (.slice po9 no9 co9)) 28 (0,0))],[(b1,.cells (Si.cells x pv) 35 (0,0))],[(b3,.cells #[.int .i64 2,.int .u32 p.xid,.int .i64 0,.int .i64 p.flags,.int .u32 (if kind = 5 then p.ci else 0),.int .u32 0,.int .u32 x.server,.int .u32 p.gi,.slice y.2.2.1 p.hw.length y.2.2.2,.slice (some ⟨b20,0,none⟩) 2 2] 28 (0,0))],s19]) [3,0,0,0,0,0,0,0] Z<|?_
 refine Ex.show (fun V22 hleV22 hshV22 => ?_)
 have hhw1 := hy.shows _ hshV22
 replace hp := hp.le hleV22
 replace hph := hph.le hleV22
 have hVle := hleV22
 refine Ex.keepTo (H' := [[(b18,.cells #[.int .u8 (kind % 256)] 5 (0,0))],[(b20,.cells #[.int .i64 53,.slice (some ⟨b18,0,none⟩) 1 1,.int .i64 54,.slice p19 4 c19] 81 (0,0))],[(y.1,.cells #[.int .i64 2,.int .u32 p.xid,.int .i64 0,.int .i64 p.flags,.int .u32 (if kind = 5 then p.ci else 0),.int .u32 0,.int .u32 x.server,.int .u32 p.gi,.slice y.2.2.1 p.hw.length y.2.2.2,.slice (some ⟨b20,0,none⟩) 2 2] 28 (0,0))],[(b2,.cells (Pc.cells p (.slice ph p.hw.length ch) (.slice po9 no9 co9)) 28 (0,0))],[(b1,.cells (Si.cells x pv) 35 (0,0))],[(b3,.cells #[.int .i64 2,.int .u32 p.xid,.int .i64 0,.int .i64 p.flags,.int .u32 (if kind = 5 then p.ci else 0),.int .u32 0,.int .u32 x.server,.int .u32 p.gi,.slice y.2.2.1 p.hw.length y.2.2.2,.slice (some ⟨b20,0,none⟩) 2 2] 28 (0,0))],s19]) [1,0,0,0,0,0,0] Z ?_
 refine Ex.show (fun V23 hleV23 hshV23 => ?_)
 have hdA := (Ow.lit (e := 5) (k := 1) (b := b18) (n := 1) (cur := #[.int .u8 (kind % 256)]) rfl WD).shows _ hshV23
 replace hp := hp.le hleV23
 replace hph := hph.le hleV23
 replace hhw1 := hhw1.le hleV23
 replace hVle := Vw.le_trans hVle hleV23
 refine Ex.keepTo (H' := [s19,[(b20,.cells #[.int .i64 53,.slice (some ⟨b18,0,none⟩) 1 1,.int .i64 54,.slice p19 4 c19] 81 (0,0))],[(y.1,.cells #[.int .i64 2,.int .u32 p.xid,.int .i64 0,.int .i64 p.flags,.int .u32 (if kind = 5 then p.ci else 0),.int .u32 0,.int .u32 x.server,.int .u32 p.gi,.slice y.2.2.1 p.hw.length y.2.2.2,.slice (some ⟨b20,0,none⟩) 2 2] 28 (0,0))],[(b2,.cells (Pc.cells p (.slice ph p.hw.length ch) (.slice po9 no9 co9)) 28 (0,0))],[(b1,.cells (Si.cells x pv) 35 (0,0))],[(b3,.cells #[.int .i64 2,.int .u32 p.xid,.int .i64 0,.int .i64 p.flags,.int .u32 (if kind = 5 then p.ci else 0),.int .u32 0,.int .u32 x.server,.int .u32 p.gi,.slice y.2.2.1 p.hw.length y.2.2.2,.slice (some ⟨b20,0,none⟩) 2 2] 28 (0,0))]]) [5,0,0,0,0,0] Z ?_
 refine Ex.show (fun V24 hleV24 hshV24 => ?_)
 have hdB := ho19.shows _ hshV24
 replace hp := hp.le hleV24
 replace hph := hph.le hleV24
 replace hhw1 := hhw1.le hleV24
 replace hdA := hdA.le hleV24
 replace hVle := Vw.le_trans hVle hleV24
 refine Ex.keepTo (H' := [[(b20,.cells #[.int .i64 53,.slice (some ⟨b18,0,none⟩) 1 1,.int .i64 54,.slice p19 4 c19] 81 (0,0))],[(y.1,.cells #[.int .i64 2,.int .u32 p.xid,.int .i64 0,.int .i64 p.flags,.int .u32 (if kind = 5 then p.ci else 0),.int .u32 0,.int .u32 x.server,.int .u32 p.gi,.slice y.2.2.1 p.hw.length y.2.2.2,.slice (some ⟨b20,0,none⟩) 2 2] 28 (0,0))],[(b2,.cells (Pc.cells p (.slice ph p.hw.length ch) (.slice po9 no9 co9)) 28 (0,0))],[(b1,.cells (Si.cells x pv) 35 (0,0))],[(b3,.cells #[.int .i64 2,.int .u32 p.xid,.int .i64 0,.int .i64 p.flags,.int .u32 (if kind = 5 then p.ci else 0),.int .u32 0,.int .u32 x.server,.int .u32 p.gi,.slice y.2.2.1 p.hw.length y.2.2.2,.slice (some ⟨b20,0,none⟩) 2 2] 28 (0,0))]]) [0,0,0,0,0] Z ?_
 refine Ex.show (fun V25 hleV25 hshV25 => ?_)
 have hso := (Ow.lit (e := 81) (k := 2) (b := b20) (n := 2) (cur := #[.int .i64 53,.slice (some ⟨b18,0,none⟩) 1 1,.int .i64 54,.slice p19 4 c19]) rfl WD).shows _ hshV25
 replace hp := hp.le hleV25
 replace hph := hph.le hleV25
 replace hhw1 := hhw1.le hleV25
 replace hdA := hdA.le hleV25
 replace hdB := hdB.le hleV25
 replace hVle := Vw.le_trans hVle hleV25
 exact Ex.retCell [] rfl rfl xag28 (Kn.at 3 rfl) rfl ⟨hVle,rfl,.slice y.2.2.1 p.hw.length y.2.2.2,.slice (some ⟨b20,0,none⟩) 2 2,rfl,hhw1,Pc.rs_of (L := [(⟨53,.slice (some ⟨b18,0,none⟩) 1 1,[Eg.bt kind]⟩ : Opn),⟨54,.slice p19 4 c19,Msg.be 4 x.server⟩]) hso (fun o ho => by simp only [List.mem_cons,List.mem_nil_iff,or_false] at ho; rcases ho with rfl | rfl; rw [byte_row] at hdA; exact hdA; exact (by have h := hdB; rw [<- Msg.be_length 4 x.server] at h; exact h)) rfl,hp.xid,⟨Int.le_refl 0,(by decide : (0 : Int) <= 4294967295)⟩,hsv⟩
theorem rright20_c {V : Vw} {x : Si} {pp : Option Addr} {cp : Nat} (hv : Rd V [] 2 (.slice pp x.pool.length cp) x.pool.length (x.pool.flatMap Rg.cells)) (hlm : x.pool.length <= 1000) (hok : Rg.Oks x.pool)  : Does Tryz.prog 25 [.agg (Si.cells x (.slice pp x.pool.length cp))] V [] (fun u V' H' => V.le V' /\ u = .bool x.right /\ H' = []) := by
 refine Does.intro Tryz.func25 rfl rfl (le rfl) (fun B => ?_)
 refine Zs<|Zr<|?_
 refine Run.box rfl (lt rfl) (fun b1 => ?_)
 refine Za Z<|Ze<|Zg<|Zs<|Zr<|Zv (Y.fieldAddr Z xfo35_11)<|Zv (Y.load Z xts33 (Kn.at 0 Z) Z)<|?_
 refine Yk [] Z Z Z (rpool_h (l := x.pool) hv hlm hok) (fun v2 V2 H2 hle2 hR2 => ?_)
 obtain ⟨_,rfl,w2,rfl,hr2⟩ := hR2
 replace hv := hv.le hle2
 have hVle := hle2
 refine Run.heapTo (H' := [[(b1,.cells (Si.cells x (.slice pp x.pool.length cp)) 35 (0,0))]]) Z<|Run.heapTo (H' := [[(b1,.cells (Si.cells x (.slice pp x.pool.length cp)) 35 (0,0))]]) Z<|?_
 refine Zm Z<|Zv (Y.extract Z Z)<|Zv (Y.extract Z Z)<|Za Z<|Za Z<|Ze<|Zg<|Zs<|Zr<|Zv (Y.fieldAddr Z xfo35_1)<|Zv (Y.load Z xts3 (Kn.at 0 Z) Z)<|Yc Z Z Z ((rwithin_c (n := x.lead) (low := 0) (high := 1073741824)).frame)<|Zm Z<|?_
 refine Zq (decide (0 <= x.lead /\ x.lead <= 1073741824)) (fun h3 g3 => ?_) fun h3 g3 => ?_
 ·refine Zp h3<|Zv (Y.fieldAddr Z xfo35_2)<|Zp h3<|Zv (Y.load Z xts3 (Kn.at 0 Z) Z)<|Zp h3<|Yc Z Z Z ((rwithin_c (n := x.guard) (low := 0) (high := 1073741824)).frame)<|Zv (Y.pick_t Z h3 Z)<|Zm Z<|?_
  refine Zq (decide (0 <= x.guard /\ x.guard <= 1073741824)) (fun h4 g4 => ?_) fun h4 g4 => ?_
  ·refine Zp h4<|Zv (Y.fieldAddr Z xfo35_4)<|Zp h4<|Zv (Y.load Z xts3 (Kn.at 0 Z) Z)<|Zp h4<|Yc Z Z Z ((rwithin_c (n := x.want) (low := 1) (high := 1073741824)).frame)<|Zv (Y.pick_t Z h4 Z)<|Zm Z<|?_
   refine Zq (decide (1 <= x.want /\ x.want <= 1073741824)) (fun h5 g5 => ?_) fun h5 g5 => ?_
   ·refine Zp h5<|Zv (Y.fieldAddr Z xfo35_5)<|Zp h5<|Zv (Y.load Z xts3 (Kn.at 0 Z) Z)<|Zp h5<|Yc Z Z Z ((rwithin_c (n := x.most) (low := 1) (high := 1073741824)).frame)<|Zv (Y.pick_t Z h5 Z)<|Za Z<|Ze<|Zg<|Zs<|Zr<|Zm Z<|Zv (Y.int Z Z Z)<|Zm Z<|?_
    refine Zq (((Rg.pool x.pool).2) == 0) (fun h6 g6 => ?_) fun h6 g6 => ?_
    ·refine Zp h6<|Zm Z<|Zv (Y.pick_t Z h6 Z)<|Zm Z<|?_
     refine Zq (decide (1 <= x.most /\ x.most <= 1073741824)) (fun h7 g7 => ?_) fun h7 g7 => ?_
     ·refine Zp h7<|Zv (Y.fieldAddr Z xfo35_0)<|Zp h7<|Zv (Y.load Z xts3 (Kn.at 0 Z) Z)<|Zp h7<|Yc Z Z Z ((rwithin_c (n := x.id) (low := 0) (high := 1)).frame)<|Zv (Y.pick_t Z h7 Z)<|Zm Z<|?_
      refine Zq (decide (0 <= x.id /\ x.id <= 1)) (fun h8 g8 => ?_) fun h8 g8 => ?_
      ·refine Zp h8<|Zv (Y.fieldAddr Z xfo35_4)<|Zp h8<|Zv (Y.load Z xts3 (Kn.at 0 Z) Z)<|Zp h8<|Zv (Y.fieldAddr Z xfo35_5)<|Zp h8<|Zv (Y.load Z xts3 (Kn.at 0 Z) Z)<|Zp h8<|Zv (Y.int Z Z Z)<|Zv (Y.pick_t Z h8 Z)<|Zm Z<|?_
       refine Zq (decide (x.want <= x.most)) (fun h9 g9 => ?_) fun h9 g9 => ?_
       ·refine Zp h9<|Zv (Y.fieldAddr Z xfo35_6)<|Zp h9<|Zv (Y.load Z xts3 (Kn.at 0 Z) Z)<|Zp h9<|Yc Z Z Z ((rwithin_c (n := x.first) (low := 0) (high := 256)).frame)<|Zv (Y.pick_t Z h9 Z)<|Zm Z<|?_
        refine Zq (decide (0 <= x.first /\ x.first <= 256)) (fun h10 g10 => ?_) fun h10 g10 => ?_
        ·refine Zp h10<|Zv (Y.fieldAddr Z xfo35_12)<|Zp h10<|Zv (Y.load Z xts3 (Kn.at 0 Z) Z)<|Zp h10<|Yc Z Z Z ((rwithin_c (n := x.room) (low := 1) (high := 1048576)).frame)<|Zv (Y.pick_t Z h10 Z)<|Za Z<|Ze<|Zg<|Zu<|Ex.keep []<|?_
         exact Ex.ret1 rfl rfl  ⟨hVle,congrArg Value.bool (decide_eq_decide.2 (by unfold Si.nums; omega)),rfl⟩
        refine Zo h10 Z<|Zo h10 Z<|Zo h10 Z<|Zv (Y.pick_f Z h10 Z)<|Za Z<|Ze<|Zg<|Zu<|Ex.keep []<|?_
        exact Ex.ret1 rfl rfl  ⟨hVle,congrArg Value.bool (Si.right_n (by unfold Si.nums; omega)).symm,rfl⟩
       refine Zo h9 Z<|Zo h9 Z<|Zo h9 Z<|Zv (Y.pick_f Z h9 Z)<|Zm Z<|Zo Z Z<|Zo Z Z<|Zo Z Z<|Zv (Y.pick_f Z Z Z)<|Za Z<|Ze<|Zg<|Zu<|Ex.keep []<|?_
       exact Ex.ret1 rfl rfl  ⟨hVle,congrArg Value.bool (Si.right_n (by unfold Si.nums; omega)).symm,rfl⟩
      refine Zo h8 Z<|Zo h8 Z<|Zo h8 Z<|Zo h8 Z<|Zo h8 Z<|Zv (Y.pick_f Z h8 Z)<|Zm Z<|Zo Z Z<|Zo Z Z<|Zo Z Z<|Zv (Y.pick_f Z Z Z)<|Zm Z<|Zo Z Z<|Zo Z Z<|Zo Z Z<|Zv (Y.pick_f Z Z Z)<|?_
      refine Za Z<|Ze<|Zg<|Zu<|Ex.keep []<|?_
      exact Ex.ret1 rfl rfl  ⟨hVle,congrArg Value.bool (Si.right_n (by unfold Si.nums; omega)).symm,rfl⟩
     refine Zo h7 Z<|Zo h7 Z<|Zo h7 Z<|Zv (Y.pick_f Z h7 Z)<|Zm Z<|Zo Z Z<|Zo Z Z<|Zo Z Z<|Zo Z Z<|Zo Z Z<|Zv (Y.pick_f Z Z Z)<|Zm Z<|Zo Z Z<|Zo Z Z<|Zo Z Z<|Zv (Y.pick_f Z Z Z)<|?_
     refine Zm Z<|Zo Z Z<|Zo Z Z<|Zo Z Z<|Zv (Y.pick_f Z Z Z)<|Za Z<|Ze<|Zg<|Zu<|Ex.keep []<|?_
     exact Ex.ret1 rfl rfl  ⟨hVle,congrArg Value.bool (Si.right_n (by unfold Si.nums; omega)).symm,rfl⟩
    refine Zo h6 Z<|Zv (Y.pick_f Z h6 Z)<|Zm Z<|Zo Z Z<|Zo Z Z<|Zo Z Z<|Zv (Y.pick_f Z Z Z)<|Zm Z<|Zo Z Z<|Zo Z Z<|Zo Z Z<|Zo Z Z<|Zo Z Z<|Zv (Y.pick_f Z Z Z)<|Zm Z<|Zo Z Z<|?_
    refine Zo Z Z<|Zo Z Z<|Zv (Y.pick_f Z Z Z)<|Zm Z<|Zo Z Z<|Zo Z Z<|Zo Z Z<|Zv (Y.pick_f Z Z Z)<|Za Z<|Ze<|Zg<|Zu<|Ex.keep []<|?_
    exact Ex.ret1 rfl rfl  ⟨hVle,congrArg Value.bool (Si.right_n (by unfold Si.nums; omega)).symm,rfl⟩
   refine Zo h5 Z<|Zo h5 Z<|Zo h5 Z<|Zv (Y.pick_f Z h5 Z)<|Za Z<|Ze<|Zg<|Zs<|Zr<|Zm Z<|Zv (Y.int Z Z Z)<|Zm Z<|?_
   refine Zq (((Rg.pool x.pool).2) == 0) (fun h11 g11 => ?_) fun h11 g11 => ?_
   ·refine Zp h11<|Zm Z<|Zv (Y.pick_t Z h11 Z)<|Zm Z<|Zo Z Z<|Zo Z Z<|Zo Z Z<|Zv (Y.pick_f Z Z Z)<|Zm Z<|Zo Z Z<|Zo Z Z<|Zo Z Z<|Zo Z Z<|Zo Z Z<|Zv (Y.pick_f Z Z Z)<|Zm Z<|?_
    refine Zo Z Z<|Zo Z Z<|Zo Z Z<|Zv (Y.pick_f Z Z Z)<|Zm Z<|Zo Z Z<|Zo Z Z<|Zo Z Z<|Zv (Y.pick_f Z Z Z)<|Za Z<|Ze<|Zg<|Zu<|Ex.keep []<|?_
    exact Ex.ret1 rfl rfl  ⟨hVle,congrArg Value.bool (Si.right_n (by unfold Si.nums; omega)).symm,rfl⟩
   refine Zo h11 Z<|Zv (Y.pick_f Z h11 Z)<|Zm Z<|Zo Z Z<|Zo Z Z<|Zo Z Z<|Zv (Y.pick_f Z Z Z)<|Zm Z<|Zo Z Z<|Zo Z Z<|Zo Z Z<|Zo Z Z<|Zo Z Z<|Zv (Y.pick_f Z Z Z)<|Zm Z<|Zo Z Z<|?_
   refine Zo Z Z<|Zo Z Z<|Zv (Y.pick_f Z Z Z)<|Zm Z<|Zo Z Z<|Zo Z Z<|Zo Z Z<|Zv (Y.pick_f Z Z Z)<|Za Z<|Ze<|Zg<|Zu<|Ex.keep []<|?_
   exact Ex.ret1 rfl rfl  ⟨hVle,congrArg Value.bool (Si.right_n (by unfold Si.nums; omega)).symm,rfl⟩
  refine Zo h4 Z<|Zo h4 Z<|Zo h4 Z<|Zv (Y.pick_f Z h4 Z)<|Zm Z<|Zo Z Z<|Zo Z Z<|Zo Z Z<|Zv (Y.pick_f Z Z Z)<|Za Z<|Ze<|Zg<|Zs<|Zr<|Zm Z<|Zv (Y.int Z Z Z)<|?_
  refine Zm Z ?_
  refine Zq (((Rg.pool x.pool).2) == 0) (fun h12 g12 => ?_) fun h12 g12 => ?_
  ·refine Zp h12<|Zm Z<|Zv (Y.pick_t Z h12 Z)<|Zm Z<|Zo Z Z<|Zo Z Z<|Zo Z Z<|Zv (Y.pick_f Z Z Z)<|Zm Z<|Zo Z Z<|Zo Z Z<|Zo Z Z<|Zo Z Z<|Zo Z Z<|Zv (Y.pick_f Z Z Z)<|Zm Z<|?_
   refine Zo Z Z<|Zo Z Z<|Zo Z Z<|Zv (Y.pick_f Z Z Z)<|Zm Z<|Zo Z Z<|Zo Z Z<|Zo Z Z<|Zv (Y.pick_f Z Z Z)<|Za Z<|Ze<|Zg<|Zu<|Ex.keep []<|?_
   exact Ex.ret1 rfl rfl  ⟨hVle,congrArg Value.bool (Si.right_n (by unfold Si.nums; omega)).symm,rfl⟩
  refine Zo h12 Z<|Zv (Y.pick_f Z h12 Z)<|Zm Z<|Zo Z Z<|Zo Z Z<|Zo Z Z<|Zv (Y.pick_f Z Z Z)<|Zm Z<|Zo Z Z<|Zo Z Z<|Zo Z Z<|Zo Z Z<|Zo Z Z<|Zv (Y.pick_f Z Z Z)<|Zm Z<|Zo Z Z<|?_
  refine Zo Z Z<|Zo Z Z<|Zv (Y.pick_f Z Z Z)<|Zm Z<|Zo Z Z<|Zo Z Z<|Zo Z Z<|Zv (Y.pick_f Z Z Z)<|Za Z<|Ze<|Zg<|Zu<|Ex.keep []<|?_
  exact Ex.ret1 rfl rfl  ⟨hVle,congrArg Value.bool (Si.right_n (by unfold Si.nums; omega)).symm,rfl⟩
 refine Zo h3 Z<|Zo h3 Z<|Zo h3 Z<|Zv (Y.pick_f Z h3 Z)<|Zm Z<|Zo Z Z<|Zo Z Z<|Zo Z Z<|Zv (Y.pick_f Z Z Z)<|Zm Z<|Zo Z Z<|Zo Z Z<|Zo Z Z<|Zv (Y.pick_f Z Z Z)<|Za Z<|Ze<|?_
 refine Zg<|Zs<|Zr<|Zm Z<|Zv (Y.int Z Z Z)<|Zm Z<|?_
 refine Zq (((Rg.pool x.pool).2) == 0) (fun h13 g13 => ?_) fun h13 g13 => ?_
 ·refine Zp h13<|Zm Z<|Zv (Y.pick_t Z h13 Z)<|Zm Z<|Zo Z Z<|Zo Z Z<|Zo Z Z<|Zv (Y.pick_f Z Z Z)<|Zm Z<|Zo Z Z<|Zo Z Z<|Zo Z Z<|Zo Z Z<|Zo Z Z<|Zv (Y.pick_f Z Z Z)<|Zm Z<|?_
  refine Zo Z Z<|Zo Z Z<|Zo Z Z<|Zv (Y.pick_f Z Z Z)<|Zm Z<|Zo Z Z<|Zo Z Z<|Zo Z Z<|Zv (Y.pick_f Z Z Z)<|Za Z<|Ze<|Zg<|Zu<|Ex.keep []<|?_
  exact Ex.ret1 rfl rfl  ⟨hVle,congrArg Value.bool (Si.right_n (by unfold Si.nums; omega)).symm,rfl⟩
 refine Zo h13 Z<|Zv (Y.pick_f Z h13 Z)<|Zm Z<|Zo Z Z<|Zo Z Z<|Zo Z Z<|Zv (Y.pick_f Z Z Z)<|Zm Z<|Zo Z Z<|Zo Z Z<|Zo Z Z<|Zo Z Z<|Zo Z Z<|Zv (Y.pick_f Z Z Z)<|Zm Z<|Zo Z Z<|?_
 refine Zo Z Z<|Zo Z Z<|Zv (Y.pick_f Z Z Z)<|Zm Z<|Zo Z Z<|Zo Z Z<|Zo Z Z<|Zv (Y.pick_f Z Z Z)<|Za Z<|Ze<|Zg<|Zu<|Ex.keep []<|?_
 exact Ex.ret1 rfl rfl  ⟨hVle,congrArg Value.bool (Si.right_n (by unfold Si.nums; omega)).symm,rfl⟩
theorem rright20_h {V : Vw} {x : Si} {pv : Value} (hv : Rd V [] 2 pv x.pool.length (x.pool.flatMap Rg.cells)) (hlm : x.pool.length <= 1000) (hok : Rg.Oks x.pool) {H : Hp} : Does Tryz.prog 25 [.agg (x.cells pv)] V H (Pv (.bool x.right) V H) := by
  obtain ⟨pp,cp,rfl,_⟩ := hv.form
  exact ((rright20_c hv hlm hok).forget (R' := Pv (.bool x.right) V []) fun v V' H' _ h => ⟨h.2.1,rfl,h.2.2⟩).frame
end Go.Proofs.YtfgblingojgafaaGreat
