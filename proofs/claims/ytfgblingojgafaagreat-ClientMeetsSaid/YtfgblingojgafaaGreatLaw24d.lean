/- A step at both clients.
Conditions: as each theorem names them. -/
import Derived.Test.YtfgblingojgafaaGreatSortnum
import Derived.Test.YtfgblingojgafaaGreatProg
import Derived.Test.YtfgblingojgafaaGreatTC
import Derived.Test.YtfgblingojgafaaGreatCltake
import Derived.Test.YtfgblingojgafaaGreatKI
import Derived.Test.YtfgblingojgafaaGreatEngine4
import Derived.Test.YtfgblingojgafaaGreatTable5
set_option linter.unusedSimpArgs false
set_option linter.unusedVariables false
set_option maxRecDepth 4000
namespace Go.Proofs.YtfgblingojgafaaGreat
open Go Go.K
attribute [local irreducible] Code.wp wpList Calls wpQuiet
theorem answer_c {V : Vw} {p : Pc} {hv ov : Value} {s : CStp} (hp : Pc.R V p hv ov) (ha : 0 <= s.addr /\ s.addr <= 4294967295)  : Does Tryz.prog 68 [.agg (p.cells hv ov),.agg s.cells.toArray] V [] (fun u V' H' => V.le V' /\ H' = [] /\ ∃ ov',u = .agg ((Cli.ans p s.kind s.time s.addr).cells hv ov') /\ Pc.R V' (Cli.ans p s.kind s.time s.addr) hv ov') := by
 obtain ⟨ph,ch,rfl,_⟩ := hp.hw.form
 have hph := hp.hw
 refine Does.intro Tryz.func68 rfl rfl (le rfl) (fun B => ?_)
 refine Zs<|Zr<|?_
 refine Run.box rfl (lt rfl) (fun b1 => ?_)
 refine Run.box rfl (lt rfl) (fun b2 => ?_)
 refine Run.alloc xzo28 (lt rfl) (fun b3 => ?_)
 refine Ze<|Zg<|Zs<|Zr<|Zv (Y.fieldAddr Z xfo113_3)<|Zv (Y.load Z xts3 (Kn.at 1 Z) Z)<|Zv (Y.int (r := .int .i64 (s.time % 65536)) rfl rfl (by simp only [intRes]; rw [and_low s.time 65535 65536 16 WD rfl rfl]))<|?_
 refine Yk [] Z Z Z (rbytes_c (n := s.time % 65536) W) (fun v4 V2 H2 _ hR => ?_)
 obtain ⟨hV,z5,s6,rfl,rfl,ho7⟩ := hR; replace hV := hV.symm; subst hV; obtain ⟨p8,c9,rfl⟩ := ho7.form
 refine Run.heapTo (H' := [[(b3,.cells #[.int .i64 0,.int .u32 0,.int .i64 0,.int .i64 0,.int .u32 0,.int .u32 0,.int .u32 0,.int .u32 0,.slice none 0 0,.slice none 0 0] 28 (0,0))],[(b2,.cells #[.int .i64 s.do_,.int .i64 s.now,.int .i64 s.kind,.int .i64 s.time,.int .u32 s.addr,.int .i64 s.p.op,.int .u32 s.p.xid,.int .i64 s.p.secs,.int .i64 s.p.flags,.int .u32 s.p.ci,.int .u32 s.p.yi,.int .u32 s.p.si,.int .u32 s.p.gi,s.hv,s.ov] 113 (0,0))],[(b1,.cells #[.int .i64 p.op,.int .u32 p.xid,.int .i64 p.secs,.int .i64 p.flags,.int .u32 p.ci,.int .u32 p.yi,.int .u32 p.si,.int .u32 p.gi,.slice ph p.hw.length ch,ov] 28 (0,0))],s6]) Z ?_
 refine Zm Z<|Zv (Y.extract Z Z)<|Zv (Y.extract Z Z)<|Za Z<|Za Z<|Ze<|Zg<|Zs<|Zr<|Zv (Y.fieldAddr Z xfo28_1)<|Zv (Y.load Z xts23 (Kn.at 2 Z) Z)<|Zv (Y.fieldAddr Z xfo28_8)<|Zv (Y.load Z xts25 (Kn.at 2 Z) Z)<|Zv (Y.fieldAddr Z xfo113_4)<|Zv (Y.load Z xts24 (Kn.at 1 Z) Z)<|Zv (Y.buildS (l := [(0,.const (.int .i64 2)),(1,.tmp 16),(8,.tmp 18),(5,.tmp 20),(6,.const (.int .u32 9))]) xzo28 xpl28 Z Z)<|?_
 refine Run.alloc xzo28 (lt rfl) (fun b10 => ?_)
 refine Run.store (s := [(b10,.cells #[.int .i64 2,.int .u32 p.xid,.int .i64 0,.int .i64 0,.int .u32 0,.int .u32 s.addr,.int .u32 9,.int .u32 0,.slice ph p.hw.length ch,.slice none 0 0] 28 (0,0))]) Z Z xsz28 (i := 0) Z Z (le Z) Z Z<|Ze<|Zg<|Zs<|Zr<|Zv (Y.fieldAddr Z xfo113_2)<|Zv (Y.load Z xts3 (Kn.at 2 Z) Z)<|Zv (Y.conv (s.kind % 256) Z xit3_5 (wrap_u8m _))<|?_
 refine Run.buildSlice (l := [(0,.tmp 24)]) xes25 xzo5 rfl WD rfl rfl WD (lt rfl) (fun b11 => ?_)
 refine Zv (Y.buildS (l := [(0,.const (.int .i64 53)),(1,.tmp 25)]) xzo81 xpl81 Z Z)<|Zm Z<|Zv (Y.buildS (l := [(0,.const (.int .i64 51)),(1,.tmp 27)]) xzo81 xpl81 Z Z)<|?_
 refine Run.buildSlice (l := [(0,.tmp 26),(1,.tmp 28)]) (r := [.int .i64 53,.slice (some ⟨b11,0,none⟩) 1 1,.int .i64 51,.slice p8 4 c9]) xes26 xzo81 rfl WD rfl rfl WD (lt rfl) (fun b12 => ?_)
 refine Zv (Y.fieldAddr Z xfo28_9)<|Run.store (s := [(b10,.cells #[.int .i64 2,.int .u32 p.xid,.int .i64 0,.int .i64 0,.int .u32 0,.int .u32 s.addr,.int .u32 9,.int .u32 0,.slice ph p.hw.length ch,.slice (some ⟨b12,0,none⟩) 2 2] 28 (0,0))]) Z Z xsz26 (i := 2) Z Z (le Z) Z Z<|Ze<|Zg<|Zs<|Zr<|Zv (Y.loadAgg Z xag28 (Kn.at 2 Z) Z)<|Run.store (s := [(b3,.cells #[.int .i64 2,.int .u32 p.xid,.int .i64 0,.int .i64 0,.int .u32 0,.int .u32 s.addr,.int .u32 9,.int .u32 0,.slice ph p.hw.length ch,.slice (some ⟨b12,0,none⟩) 2 2] 28 (0,0))]) Z Z xsz28 (i := 3) Z Z (le Z) Z Z<|?_
 refine Ze<|Zg<|Zu<|Ex.keepTo (H' := [[(b11,.cells #[.int .u8 (s.kind % 256)] 5 (0,0))],[(b12,.cells #[.int .i64 53,.slice (some ⟨b11,0,none⟩) 1 1,.int .i64 51,.slice p8 4 c9] 81 (0,0))],[(b10,.cells #[.int .i64 2,.int .u32 p.xid,.int .i64 0,.int .i64 0,.int .u32 0,.int .u32 s.addr,.int .u32 9,.int .u32 0,.slice ph p.hw.length ch,.slice (some ⟨b12,0,none⟩) 2 2] 28 (0,0))],[(b3,.cells #[.int .i64 2,.int .u32 p.xid,.int .i64 0,.int .i64 0,.int .u32 0,.int .u32 s.addr,.int .u32 9,.int .u32 0,.slice ph p.hw.length ch,.slice (some ⟨b12,0,none⟩) 2 2] 28 (0,0))],[(b2,.cells #[.int .i64 s.do_,.int .i64 s.now,.int .i64 s.kind,.int .i64 s.time,.int .u32 s.addr,.int .i64 s.p.op,.int .u32 s.p.xid,.int .i64 s.p.secs,.int .i64 s.p.flags,.int .u32 s.p.ci,.int .u32 s.p.yi,.int .u32 s.p.si,.int .u32 s.p.gi,s.hv,s.ov] 113 (0,0))],[(b1,.cells #[.int .i64 p.op,.int .u32 p.xid,.int .i64 p.secs,.int .i64 p.flags,.int .u32 p.ci,.int .u32 p.yi,.int .u32 p.si,.int .u32 p.gi,.slice ph p.hw.length ch,ov] 28 (0,0))],s6]) [1,0,0,0,0,0,0] Z<|?_
 refine Ex.show (fun V13 hleV13 hshV13 => ?_)
 have hd1 := (Ow.lit (e := 5) (k := 1) (b := b11) (n := 1) (cur := #[.int .u8 (s.kind % 256)]) rfl WD).shows _ hshV13
 replace hph := hph.le hleV13
 have hVle := hleV13
 refine Ex.keepTo (H' := [s6,[(b12,.cells #[.int .i64 53,.slice (some ⟨b11,0,none⟩) 1 1,.int .i64 51,.slice p8 4 c9] 81 (0,0))],[(b10,.cells #[.int .i64 2,.int .u32 p.xid,.int .i64 0,.int .i64 0,.int .u32 0,.int .u32 s.addr,.int .u32 9,.int .u32 0,.slice ph p.hw.length ch,.slice (some ⟨b12,0,none⟩) 2 2] 28 (0,0))],[(b3,.cells #[.int .i64 2,.int .u32 p.xid,.int .i64 0,.int .i64 0,.int .u32 0,.int .u32 s.addr,.int .u32 9,.int .u32 0,.slice ph p.hw.length ch,.slice (some ⟨b12,0,none⟩) 2 2] 28 (0,0))],[(b2,.cells #[.int .i64 s.do_,.int .i64 s.now,.int .i64 s.kind,.int .i64 s.time,.int .u32 s.addr,.int .i64 s.p.op,.int .u32 s.p.xid,.int .i64 s.p.secs,.int .i64 s.p.flags,.int .u32 s.p.ci,.int .u32 s.p.yi,.int .u32 s.p.si,.int .u32 s.p.gi,s.hv,s.ov] 113 (0,0))],[(b1,.cells #[.int .i64 p.op,.int .u32 p.xid,.int .i64 p.secs,.int .i64 p.flags,.int .u32 p.ci,.int .u32 p.yi,.int .u32 p.si,.int .u32 p.gi,.slice ph p.hw.length ch,ov] 28 (0,0))]]) [5,0,0,0,0,0] Z ?_
 refine Ex.show (fun V14 hleV14 hshV14 => ?_)
 have hd2 := ho7.shows _ hshV14
 replace hph := hph.le hleV14
 replace hd1 := hd1.le hleV14
 replace hVle := Vw.le_trans hVle hleV14
 refine Ex.keepTo (H' := [[(b12,.cells #[.int .i64 53,.slice (some ⟨b11,0,none⟩) 1 1,.int .i64 51,.slice p8 4 c9] 81 (0,0))],[(b10,.cells #[.int .i64 2,.int .u32 p.xid,.int .i64 0,.int .i64 0,.int .u32 0,.int .u32 s.addr,.int .u32 9,.int .u32 0,.slice ph p.hw.length ch,.slice (some ⟨b12,0,none⟩) 2 2] 28 (0,0))],[(b3,.cells #[.int .i64 2,.int .u32 p.xid,.int .i64 0,.int .i64 0,.int .u32 0,.int .u32 s.addr,.int .u32 9,.int .u32 0,.slice ph p.hw.length ch,.slice (some ⟨b12,0,none⟩) 2 2] 28 (0,0))],[(b2,.cells #[.int .i64 s.do_,.int .i64 s.now,.int .i64 s.kind,.int .i64 s.time,.int .u32 s.addr,.int .i64 s.p.op,.int .u32 s.p.xid,.int .i64 s.p.secs,.int .i64 s.p.flags,.int .u32 s.p.ci,.int .u32 s.p.yi,.int .u32 s.p.si,.int .u32 s.p.gi,s.hv,s.ov] 113 (0,0))],[(b1,.cells #[.int .i64 p.op,.int .u32 p.xid,.int .i64 p.secs,.int .i64 p.flags,.int .u32 p.ci,.int .u32 p.yi,.int .u32 p.si,.int .u32 p.gi,.slice ph p.hw.length ch,ov] 28 (0,0))]]) [0,0,0,0,0] Z ?_
 refine Ex.show (fun V15 hleV15 hshV15 => ?_)
 have hso := (Ow.lit (e := 81) (k := 2) (b := b12) (n := 2) (cur := #[.int .i64 53,.slice (some ⟨b11,0,none⟩) 1 1,.int .i64 51,.slice p8 4 c9]) rfl WD).shows _ hshV15
 replace hph := hph.le hleV15
 replace hd1 := hd1.le hleV15
 replace hd2 := hd2.le hleV15
 replace hVle := Vw.le_trans hVle hleV15
 exact Ex.retCell [] rfl rfl xag28 (Kn.at 1 rfl) rfl ⟨hVle,rfl,.slice (some ⟨b12,0,none⟩) 2 2,rfl,Cli.ans_R hph hp.xid ha hso hd1 hd2⟩
end Go.Proofs.YtfgblingojgafaaGreat
namespace Go.Proofs.YtfgblingojgafaaGreat
open Go Go.K
attribute [local irreducible] Code.wp wpList Calls wpQuiet
set_option maxHeartbeats 1000000 in
theorem awake24_c0  {V : Vw} : Does Tryz.prog 26 [] V [] (fun u V' H' => V.le V' /\ u = .bool true /\ H' = []) := by
 refine Does.intro Tryz.func26 rfl rfl (le rfl) (fun B => ?_)
 refine Zs<|Zr<|Za Z<|Ze<|Zg<|Zs<|Zr<|?_
 refine Run.buildSlice (l := [(0,.const (.int .u8 1))]) xes25 xzo5 rfl WD rfl rfl WD (lt rfl) (fun b1 => ?_)
 refine Run.keepTo (H' := [[(b1,.cells #[.int .u8 1] 5 (0,0))]]) [0] Z ?_
 refine Run.show (fun V3 hleV3 hshV3 => ?_)
 have hna2 := (Ow.lit (e := 5) (k := 1) (b := b1) (n := 1) (cur := #[.int .u8 1]) rfl WD).shows _ hshV3
 have hVle := hleV3
 have hna2b : Rd V3 [] 1 (.slice (some ⟨b1,0,none⟩) 1 1) ([1] : List UInt8).length (([1] : List UInt8).map byteV) := hna2
 refine Yk [] Z Z Z (new_c_h (s := ⟨#[97]⟩) hna2b Cli.fine_a) (fun v4 V2 H2 hle5 hR => ?_)
 obtain ⟨_,b6,w7,rfl,rfl,hha⟩ := hR
 obtain ⟨Vs8,hVe⟩ : ∃ V3 : Vw,V3 = V2 := ⟨_,rfl⟩
 subst hVe
 replace hna2 := hna2.le hle5
 replace hna2b := hna2b.le hle5
 replace hVle := Vw.le_trans hVle hle5
 refine Run.heapTo (H' := [[(b6,.cells #[.string Cli.aw0.name,w7,.int .i64 Cli.aw0.state,.int .u32 Cli.aw0.xid,.int .u32 Cli.aw0.addr,.int .u32 Cli.aw0.server,.int .i64 Cli.aw0.until_,.int .i64 Cli.aw0.one,.int .i64 Cli.aw0.two,.bool Cli.aw0.due,.int .i64 Cli.aw0.tries,.int .i64 Cli.aw0.said,.int .i64 Cli.aw0.asks] 116 (0,0))]]) Z<|Zm Z<|Zv (Y.extract Z Z)<|Zv (Y.extract Z Z)<|Za Z<|Za Z<|Ze<|Zg<|Zs<|Zs<|Zr<|Zm Z<|?_
 refine Zv (Y.int (r := .bool false) Z Z Z)<|Zm Z<|Zp Z<|Zm Z<|Zp Z<|Zv (Y.eqNil Z Z xpt67)<|Zv (Y.pick_f Z Z Z)<|Ze<|Zg<|Tr.cond_f Z Z<|Zt<|Zg<|Zs<|Zr<|Zm Z<|?_
 refine Yk [0] Z Z Z (tick_c (n := 0) (c := Cli.aw0) (now := 0) Cli.inv0 WD hha) (fun v9 V2 H2 hle10 hR => ?_)
 obtain ⟨_,rfl,pst12,rfl,hkt11⟩ := hR
 obtain ⟨Vs13,hVe⟩ : ∃ V3 : Vw,V3 = V2 := ⟨_,rfl⟩
 subst hVe
 replace hna2 := hna2.le hle10
 replace hna2b := hna2b.le hle10
 replace hha := hha.le hle10
 replace hVle := Vw.le_trans hVle hle10
 have hix14 : Cli.Inv (0 + 1) Cli.aw1 := Cli.inv0.tick 0
 have hhx15 : Rd Vs13 [] 1 w7 (Cli.hw Cli.aw1).length ((Cli.hw Cli.aw1).map byteV) := by rw [show Cli.hw Cli.aw1 = Cli.hw Cli.aw0 from (Cli.tick_same _ _).1]; exact hha
 refine Run.heapTo (H' := [[(b6,.cells #[.string Cli.aw1.name,w7,.int .i64 Cli.aw1.state,.int .u32 Cli.aw1.xid,.int .u32 Cli.aw1.addr,.int .u32 Cli.aw1.server,.int .i64 Cli.aw1.until_,.int .i64 Cli.aw1.one,.int .i64 Cli.aw1.two,.bool Cli.aw1.due,.int .i64 Cli.aw1.tries,.int .i64 Cli.aw1.said,.int .i64 Cli.aw1.asks] 116 (0,0))]]) Z<|Zm Z<|Zv (Y.extract Z Z)<|Zv (Y.extract Z Z)<|Za Z<|Za Z<|Ze<|Zg<|Zs<|Zs<|Zr<|?_
 rw [Cli.tp0] at hkt11
 obtain ⟨bq,hq1,hq2,rfl,hmq,hRq⟩ := hkt11
 obtain ⟨⟨pq1,cq1,rfl⟩,pq2,nq2,cq2,rfl⟩ := hRq.forms
 refine Zm Z<|Zv (Y.int Z Z Z)<|Zm Z<|Run.on rfl rfl rfl WD<|Zm Z<|Run.on rfl rfl rfl WD<|Zv (Y.lenSl Z xes72)<|Run.on rfl rfl rfl WD<|Zv (Y.int (r := .bool false) Z Z Z)<|Zv (Y.pick_f Z WD rfl)<|Ze<|Zg<|Tr.cond_f Z Z<|Zt<|Zg<|Zs<|?_
 refine Zr<|Zm Z<|Zm Z<|Zv (Y.idxAddr Z Z xes72 W W)<|Zv (Y.loadAgg Z xag28 (.inl hmq) Z)<|Zv (Y.buildS (l := [(2,.const (.int .i64 2)),(3,.const (.int .i64 20)),(4,.const (.int .u32 5))]) xzo113 xpl113 Z Z)<|?_
 refine Yk [] Z Z Z (answer_c (p := Cli.awq1) (s := (⟨0,0,2,20,5,Cli.zeroP,.slice none 0 0,.slice none 0 0⟩ : CStp)) hRq (show (0 : Int) <= 5 /\ (5 : Int) <= 4294967295 by decide)) (fun v16 V2 H2 hle17 hR => ?_)
 obtain ⟨_,rfl,w18,rfl,hRn19⟩ := hR
 obtain ⟨Vs20,hVe⟩ : ∃ V3 : Vw,V3 = V2 := ⟨_,rfl⟩
 subst hVe
 replace hna2 := hna2.le hle17
 replace hna2b := hna2b.le hle17
 replace hhx15 := hhx15.le hle17
 replace hRq := hRq.le hle17
 replace hVle := Vw.le_trans hVle hle17
 refine Run.heapTo (H' := [[(b6,.cells #[.string Cli.aw1.name,w7,.int .i64 Cli.aw1.state,.int .u32 Cli.aw1.xid,.int .u32 Cli.aw1.addr,.int .u32 Cli.aw1.server,.int .i64 Cli.aw1.until_,.int .i64 Cli.aw1.one,.int .i64 Cli.aw1.two,.bool Cli.aw1.due,.int .i64 Cli.aw1.tries,.int .i64 Cli.aw1.said,.int .i64 Cli.aw1.asks] 116 (0,0))]]) Z ?_
 refine Yk [0] Z Z Z (take_c (n := 0 + 1) (c := Cli.aw1) (now := 0) (p := (Cli.ans Cli.awq1 2 20 5)) hix14 hhx15 hRn19 (Cli.few_ans Cli.fewq1 _ _ _)) (fun v21 V2 H2 _ hR => ?_)
 obtain ⟨hV,rfl,rfl⟩ := hR; replace hV := hV.symm; subst hV
 have hix22 : Cli.Inv (0 + 1) Cli.aw2 := hix14.take hRn19.yi hRn19.si 0
 have hhx23 : Rd Vs20 [] 1 w7 (Cli.hw Cli.aw2).length ((Cli.hw Cli.aw2).map byteV) := by rw [show Cli.hw Cli.aw2 = Cli.hw Cli.aw1 from (Cli.take_same _ _ _).1]; exact hhx15
 refine Run.heapTo (H' := [[(b6,.cells #[.string Cli.aw2.name,w7,.int .i64 Cli.aw2.state,.int .u32 Cli.aw2.xid,.int .u32 Cli.aw2.addr,.int .u32 Cli.aw2.server,.int .i64 Cli.aw2.until_,.int .i64 Cli.aw2.one,.int .i64 Cli.aw2.two,.bool Cli.aw2.due,.int .i64 Cli.aw2.tries,.int .i64 Cli.aw2.said,.int .i64 Cli.aw2.asks] 116 (0,0))]]) Z<|Ze<|Zg<|Zs<|Zr<|Zm Z<|?_
 refine Yk [0] Z Z Z (tick_c (n := 0 + 1) (c := Cli.aw2) (now := 1) hix22 WD hhx23) (fun v24 V2 H2 hle25 hR => ?_)
 obtain ⟨_,rfl,pst27,rfl,hkt26⟩ := hR
 obtain ⟨Vs28,hVe⟩ : ∃ V3 : Vw,V3 = V2 := ⟨_,rfl⟩
 subst hVe
 replace hna2 := hna2.le hle25
 replace hna2b := hna2b.le hle25
 replace hRq := hRq.le hle25
 replace hRn19 := hRn19.le hle25
 replace hhx23 := hhx23.le hle25
 replace hVle := Vw.le_trans hVle hle25
 have hix29 : Cli.Inv (0 + 1 + 1) Cli.aw3 := hix22.tick 1
 have hhx30 : Rd Vs28 [] 1 w7 (Cli.hw Cli.aw3).length ((Cli.hw Cli.aw3).map byteV) := by rw [show Cli.hw Cli.aw3 = Cli.hw Cli.aw2 from (Cli.tick_same _ _).1]; exact hhx23
 refine Run.heapTo (H' := [[(b6,.cells #[.string Cli.aw3.name,w7,.int .i64 Cli.aw3.state,.int .u32 Cli.aw3.xid,.int .u32 Cli.aw3.addr,.int .u32 Cli.aw3.server,.int .i64 Cli.aw3.until_,.int .i64 Cli.aw3.one,.int .i64 Cli.aw3.two,.bool Cli.aw3.due,.int .i64 Cli.aw3.tries,.int .i64 Cli.aw3.said,.int .i64 Cli.aw3.asks] 116 (0,0))]]) Z<|Zm Z<|Zv (Y.extract Z Z)<|Zv (Y.extract Z Z)<|Za Z<|Za Z<|Ze<|Zg<|Zs<|Zs<|Zr<|?_
 rw [Cli.tp2] at hkt26
 obtain ⟨br,hr1,hr2,rfl,hmr,hRr⟩ := hkt26
 obtain ⟨⟨pr1,cr1,rfl⟩,pr2,nr2,cr2,rfl⟩ := hRr.forms
 refine Zm Z<|Zv (Y.lenSl Z xes72)<|Zv (Y.int (r := .bool false) Z Z Z)<|Ze<|Zg<|Tr.cond_f Z Z<|Zt<|Zg<|Zs<|Zr<|Zm Z<|Zm Z<|Zv (Y.idxAddr Z Z xes72 W W)<|Zv (Y.loadAgg Z xag28 (.inl hmr) Z)<|Zv (Y.buildS (l := [(2,.const (.int .i64 5)),(3,.const (.int .i64 20)),(4,.const (.int .u32 5))]) xzo113 xpl113 Z Z)<|?_
 refine Yk [] Z Z Z (answer_c (p := Cli.awq2) (s := (⟨0,0,5,20,5,Cli.zeroP,.slice none 0 0,.slice none 0 0⟩ : CStp)) hRr (show (0 : Int) <= 5 /\ (5 : Int) <= 4294967295 by decide)) (fun v31 V2 H2 hle32 hR => ?_)
 obtain ⟨_,rfl,w33,rfl,hRn34⟩ := hR
 obtain ⟨Vs35,hVe⟩ : ∃ V3 : Vw,V3 = V2 := ⟨_,rfl⟩
 subst hVe
 replace hna2 := hna2.le hle32
 replace hna2b := hna2b.le hle32
 replace hRq := hRq.le hle32
 replace hRn19 := hRn19.le hle32
 replace hhx30 := hhx30.le hle32
 replace hRr := hRr.le hle32
 replace hVle := Vw.le_trans hVle hle32
 refine Run.heapTo (H' := [[(b6,.cells #[.string Cli.aw3.name,w7,.int .i64 Cli.aw3.state,.int .u32 Cli.aw3.xid,.int .u32 Cli.aw3.addr,.int .u32 Cli.aw3.server,.int .i64 Cli.aw3.until_,.int .i64 Cli.aw3.one,.int .i64 Cli.aw3.two,.bool Cli.aw3.due,.int .i64 Cli.aw3.tries,.int .i64 Cli.aw3.said,.int .i64 Cli.aw3.asks] 116 (0,0))]]) Z ?_
 refine Yk [0] Z Z Z (take_c (n := 0 + 1 + 1) (c := Cli.aw3) (now := 1) (p := (Cli.ans Cli.awq2 5 20 5)) hix29 hhx30 hRn34 (Cli.few_ans Cli.fewq2 _ _ _)) (fun v36 V2 H2 _ hR => ?_)
 obtain ⟨hV,rfl,rfl⟩ := hR; replace hV := hV.symm; subst hV
 have hix37 : Cli.Inv (0 + 1 + 1) Cli.aw4 := hix29.take hRn34.yi hRn34.si 1
 have hhx38 : Rd Vs35 [] 1 w7 (Cli.hw Cli.aw4).length ((Cli.hw Cli.aw4).map byteV) := by rw [show Cli.hw Cli.aw4 = Cli.hw Cli.aw3 from (Cli.take_same _ _ _).1]; exact hhx30
 refine Run.heapTo (H' := [[(b6,.cells #[.string Cli.aw4.name,w7,.int .i64 Cli.aw4.state,.int .u32 Cli.aw4.xid,.int .u32 Cli.aw4.addr,.int .u32 Cli.aw4.server,.int .i64 Cli.aw4.until_,.int .i64 Cli.aw4.one,.int .i64 Cli.aw4.two,.bool Cli.aw4.due,.int .i64 Cli.aw4.tries,.int .i64 Cli.aw4.said,.int .i64 Cli.aw4.asks] 116 (0,0))]]) Z<|Za Z<|Ze<|Zg<|Zs<|Zr<|Zm Z<|Zv (Y.int Z Z Z)<|Zm Z<|Run.on rfl rfl rfl (by rw [Cli.aw_end.1]; rfl)<|?_
 refine Zm Z<|Run.on rfl rfl rfl (by rw [Cli.aw_end.1]; rfl)<|Yc Z Z Z (state_c (c := Cli.aw4) (Kn.at 0 Z))<|Run.on rfl rfl rfl (by rw [Cli.aw_end.1]; rfl)<|Zv (Y.int Z Z Z)<|Zv (Y.pick_t Z (by rw [Cli.aw_end.1]; rfl) rfl)<|Zm Z<|Run.on rfl rfl rfl (by rw [Cli.aw_end.2.1]; rfl)<|Zm Z<|Run.on rfl rfl rfl (by rw [Cli.aw_end.2.1]; rfl)<|Yc Z Z Z (addr_c (c := Cli.aw4) (Kn.at 0 Z))<|Run.on rfl rfl rfl (by rw [Cli.aw_end.2.1]; rfl)<|?_
 refine Zv (Y.int Z Z Z)<|Zv (Y.pick_t Z (by rw [Cli.aw_end.2.1]; rfl) rfl)<|Zm Z<|Run.on rfl rfl rfl (by rw [Cli.aw_end.2.2.1]; rfl)<|Zm Z<|Run.on rfl rfl rfl (by rw [Cli.aw_end.2.2.1]; rfl)<|Yc Z Z Z (cuntil_c (c := Cli.aw4) (Kn.at 0 Z))<|Run.on rfl rfl rfl (by rw [Cli.aw_end.2.2.1]; rfl)<|Zv (Y.int Z Z Z)<|Zv (Y.pick_t Z (by rw [Cli.aw_end.2.2.1]; rfl) rfl)<|Za Z<|Ze<|Zg<|Zu<|Ex.keep []<|?_
 exact Ex.ret1 rfl rfl  ⟨hVle,congrArg Value.bool (by rw [Cli.aw_end.2.2.2]; rfl),rfl⟩
set_option maxHeartbeats 1000000 in
theorem meets24_c {V : Vw} {nm : ByteArray} {mm lead : Int}  : Does Tryz.prog 8 [.string nm,.int .i64 mm,.int .i64 lead] V [] (fun v _ _ => v = .bool true) := by
 refine Does.intro Tryz.func8 rfl rfl (le rfl) (fun B => ?_)
 refine Zs<|Zr<|Za Z<|Ze<|Zg<|Zs<|Zr<|?_
 refine Yk [] Z Z Z awake24_c0 (fun v1 V1 H1 hle1 hR1 => ?_)
 obtain ⟨_,rfl,rfl⟩ := hR1
 have hVle := hle1
 refine Run.heapTo (H' := []) Z<|Run.heapTo (H' := []) Z<|Za Z<|Ze<|Zg<|Zs<|Zr<|Zm Z<|Zv (Y.buildS (l := [(0,.const (.int .u32 1)),(1,.const (.int .u32 6))]) xzo66 xpl66 Z Z)<|?_
 refine Run.buildSlice (l := [(0,.tmp 21)]) xes33 xzo66 rfl WD rfl rfl WD (lt rfl) (fun b2 => ?_)
 refine Zv (Y.buildS (l := [(1,.tmp 20),(2,.const (.int .i64 4)),(3,.const (.int .u32 9)),(4,.const (.int .i64 30)),(5,.const (.int .i64 60)),(6,.const (.int .i64 256)),(7,.const (.float .f64 4602678819172646912)),(8,.const (.float .f64 4591870180066957722)),(9,.const (.float .f64 4602678819172646912)),(10,.const (.float .f64 4606056518893174784)),(11,.tmp 22),(12,.const (.int .i64 1000))]) (r := [.int .i64 0,.int .i64 lead,.int .i64 4,.int .u32 9,.int .i64 30,.int .i64 60,.int .i64 256,.float .f64 4602678819172646912,.float .f64 4591870180066957722,.float .f64 4602678819172646912,.float .f64 4606056518893174784,.slice (some ⟨b2,0,none⟩) 1 1,.int .i64 1000]) xzo35 xpl35 rfl WK) ?_
 refine Run.alloc xzo35 (lt rfl) (fun b3 => ?_)
 refine Run.stAll (l2 := [.int .i64 0,.int .i64 lead,.int .i64 4,.int .u32 9,.int .i64 30,.int .i64 60,.int .i64 256,.float .f64 4602678819172646912,.float .f64 4591870180066957722,.float .f64 4602678819172646912,.float .f64 4606056518893174784,.slice (some ⟨b2,0,none⟩) 1 1,.int .i64 1000]) (j := 0) Z Z xsz35 Z Z Z Z<|Run.heapTo (H' := [[(b3,.cells #[.int .i64 0,.int .i64 lead,.int .i64 4,.int .u32 9,.int .i64 30,.int .i64 60,.int .i64 256,.float .f64 4602678819172646912,.float .f64 4591870180066957722,.float .f64 4602678819172646912,.float .f64 4606056518893174784,.slice (some ⟨b2,0,none⟩) 1 1,.int .i64 1000] 35 (0,0))],[(b2,.cells #[.int .u32 1,.int .u32 6] 66 (0,0))]]) Z<|?_
 refine Ze<|Zg<|Zs<|Zr<|Run.keepTo (H' := [[(b2,.cells #[.int .u32 1,.int .u32 6] 66 (0,0))],[(b3,.cells #[.int .i64 0,.int .i64 lead,.int .i64 4,.int .u32 9,.int .i64 30,.int .i64 60,.int .i64 256,.float .f64 4602678819172646912,.float .f64 4591870180066957722,.float .f64 4602678819172646912,.float .f64 4606056518893174784,.slice (some ⟨b2,0,none⟩) 1 1,.int .i64 1000] 35 (0,0))]]) [1,0] Z<|?_
 refine Run.show (fun V4 hleV4 hshV4 => ?_)
 have hpo := (Ow.lit (e := 66) (k := 2) (b := b2) (n := 1) (cur := #[.int .u32 1,.int .u32 6]) rfl WD).shows _ hshV4
 replace hVle := Vw.le_trans hVle hleV4
 refine Zm Z ?_
 refine Run.buildSlice (l := [(0,.const (.int .u8 1)),(1,.const (.int .u8 2))]) xes25 xzo5 rfl WD rfl rfl WD (lt rfl) (fun b5 => ?_)
 by_cases hf : Cli.fine nm [1,2]
 ·refine Run.keepTo (H' := [[(b5,.cells #[.int .u8 1,.int .u8 2] 5 (0,0))],[(b3,.cells #[.int .i64 0,.int .i64 lead,.int .i64 4,.int .u32 9,.int .i64 30,.int .i64 60,.int .i64 256,.float .f64 4602678819172646912,.float .f64 4591870180066957722,.float .f64 4602678819172646912,.float .f64 4606056518893174784,.slice (some ⟨b2,0,none⟩) 1 1,.int .i64 1000] 35 (0,0))]]) [0,0] Z ?_
  refine Run.show (fun V6 hleV6 hshV6 => ?_)
  have hna := (Ow.lit (e := 5) (k := 1) (b := b5) (n := 2) (cur := #[.int .u8 1,.int .u8 2]) rfl WD).shows _ hshV6
  replace hpo := hpo.le hleV6
  replace hVle := Vw.le_trans hVle hleV6
  have hnb : Rd V6 [] 1 (.slice (some ⟨b5,0,none⟩) 2 2) ([1,2] : List UInt8).length (([1,2] : List UInt8).map byteV) := hna
  refine Yk [] Z Z Z (new_c_h (s := nm) hnb hf) (fun v7 V7 H7 hle7 hR7 => ?_)
  obtain ⟨_,bc,hvc,rfl,rfl,hhc⟩ := hR7
  have hz : nm.size <= 9223372036854775807 := Nat.le_trans hf.2.1 WD
  replace hpo := hpo.le hle7
  replace hVle := Vw.le_trans hVle hle7
  refine Run.heapTo (H' := [[(b3,.cells #[.int .i64 0,.int .i64 lead,.int .i64 4,.int .u32 9,.int .i64 30,.int .i64 60,.int .i64 256,.float .f64 4602678819172646912,.float .f64 4591870180066957722,.float .f64 4602678819172646912,.float .f64 4606056518893174784,.slice (some ⟨b2,0,none⟩) 1 1,.int .i64 1000] 35 (0,0))],[(bc,.cells #[.string ((Cli.new nm [1,2]).name),hvc,.int .i64 ((Cli.new nm [1,2]).state),.int .u32 ((Cli.new nm [1,2]).xid),.int .u32 ((Cli.new nm [1,2]).addr),.int .u32 ((Cli.new nm [1,2]).server),.int .i64 ((Cli.new nm [1,2]).until_),.int .i64 ((Cli.new nm [1,2]).one),.int .i64 ((Cli.new nm [1,2]).two),.bool ((Cli.new nm [1,2]).due),.int .i64 ((Cli.new nm [1,2]).tries),.int .i64 ((Cli.new nm [1,2]).said),.int .i64 ((Cli.new nm [1,2]).asks)] 116 (0,0))]]) Z ?_
  refine Zm Z<|Zv (Y.extract Z Z)<|Zv (Y.extract Z Z)<|Za Z<|Za Z<|Ze<|Zg<|Zs<|Zr<|Zv (Y.fieldAddr Z xfo35_11)<|Zv (Y.load Z xts33 (Kn.at 0 Z) Z)<|?_
  refine Yk [] Z Z Z (new_t (rs := [⟨1,6⟩]) hpo (Nat.le_of_ble_eq_true rfl) Eg.oks6) (fun v8 V8 H8 hle8 hR8 => ?_)
  rw [Eg.pool6] at hR8; dsimp only at hR8; rw [Eg.adr6] at hR8
  rcases hR8 with ⟨_,⟨hpn,_⟩ | ⟨_,tx,sb,rfl,hin,rfl⟩⟩
  · exact absurd rfl hpn
  replace hpo := hpo.le hle8
  replace hhc := hhc.le hle8
  replace hVle := Vw.le_trans hVle hle8
  refine Run.heapTo (H' := [[(b3,.cells #[.int .i64 0,.int .i64 lead,.int .i64 4,.int .u32 9,.int .i64 30,.int .i64 60,.int .i64 256,.float .f64 4602678819172646912,.float .f64 4591870180066957722,.float .f64 4602678819172646912,.float .f64 4606056518893174784,.slice (some ⟨b2,0,none⟩) 1 1,.int .i64 1000] 35 (0,0))],[(bc,.cells #[.string ((Cli.new nm [1,2]).name),hvc,.int .i64 ((Cli.new nm [1,2]).state),.int .u32 ((Cli.new nm [1,2]).xid),.int .u32 ((Cli.new nm [1,2]).addr),.int .u32 ((Cli.new nm [1,2]).server),.int .i64 ((Cli.new nm [1,2]).until_),.int .i64 ((Cli.new nm [1,2]).one),.int .i64 ((Cli.new nm [1,2]).two),.bool ((Cli.new nm [1,2]).due),.int .i64 ((Cli.new nm [1,2]).tries),.int .i64 ((Cli.new nm [1,2]).said),.int .i64 ((Cli.new nm [1,2]).asks)] 116 (0,0))],sb]) Z ?_
  refine Zm Z<|Zv (Y.extract Z Z)<|Zv (Y.extract Z Z)<|Za Z<|Za Z<|Ze<|Zg<|Zs<|Zs<|Zr<|Zm Z<|Zv (Y.not Z)<|Zm Z<|Zp Z<|Zm Z<|Zp Z<|?_
  refine Zv (Y.int (r := .bool false) Z Z Z)<|Zv (Y.pick_f Z Z Z)<|Zm Z<|Zp Z<|Zm Z<|Zp Z<|Zv (Y.int (r := .bool false) Z Z Z)<|Zv (Y.pick_f Z Z Z)<|Zm Z<|Zp Z<|Zm Z<|Zp Z<|Zv (Y.int Z Z Z)<|Zv (Y.pick_f Z Z Z)<|Zm Z<|?_
  refine Zq (decide (mm < 0)) (fun h9 g9 => ?_) fun h9 g9 => ?_
  ·refine Zo h9 Z<|Zo h9 Z<|Zv (Y.pick_t Z h9 Z)<|Zm Z<|Zo Z Z<|Zo Z Z<|Zv (Y.pick_t Z Z Z)<|Zm Z<|Zo Z Z<|Zo Z Z<|Zv (Y.pick_t Z Z Z)<|Ze<|Zg<|Tr.cond_t Z Z<|Zs<|Zr<|?_
   refine Zm Z<|Za Z<|Ze<|Zg<|Zu<|Zn<|Ex.keep []<|?_
   exact Ex.ret1 rfl rfl  rfl
  refine Zp h9<|Zm Z<|Zp h9<|Zv (Y.int Z Z Z)<|Zv (Y.pick_f Z h9 Z)<|Zm Z<|?_
  refine Zq (decide (mm > 200)) (fun h10 g10 => ?_) fun h10 g10 => ?_
  ·refine Zo h10 Z<|Zo h10 Z<|Zv (Y.pick_t Z h10 Z)<|Zm Z<|Zo Z Z<|Zo Z Z<|Zv (Y.pick_t Z Z Z)<|Ze<|Zg<|Tr.cond_t Z Z<|Zs<|Zr<|Zm Z<|Za Z<|Ze<|Zg<|?_
   refine Zu<|Zn<|Ex.keep []<|?_
   exact Ex.ret1 rfl rfl  rfl
  refine Zp h10<|Zm Z<|Zp h10<|Zv (Y.int Z Z Z)<|Zv (Y.pick_f Z h10 Z)<|Zm Z<|?_
  refine Zq (decide (lead < 4)) (fun h11 g11 => ?_) fun h11 g11 => ?_
  ·refine Zo h11 Z<|Zo h11 Z<|Zv (Y.pick_t Z h11 Z)<|Ze<|Zg<|Tr.cond_t Z Z<|Zs<|Zr<|Zm Z<|Za Z<|Ze<|Zg<|Zu<|Zn<|Ex.keep []<|?_
   exact Ex.ret1 rfl rfl  rfl
  refine Zp h11<|Zm Z<|Zp h11<|Zv (Y.int Z Z Z)<|Zv (Y.pick_f Z h11 Z)<|Ze<|Zg<|?_
  refine Zq (decide (lead > 100)) (fun h12 g12 => ?_) fun h12 g12 => ?_
  ·refine Tr.cond_t Z h12<|Zs<|Zr<|Zm Z<|Za Z<|Ze<|Zg<|Zu<|Zn<|Ex.keep []<|?_
   exact Ex.ret1 rfl rfl  rfl
  refine Tr.cond_f Z h12<|Zt<|Zg<|Zs<|Zr<|Run.keepTo (H' := [[(bc,.cells #[.string ((Cli.new nm [1,2]).name),hvc,.int .i64 ((Cli.new nm [1,2]).state),.int .u32 ((Cli.new nm [1,2]).xid),.int .u32 ((Cli.new nm [1,2]).addr),.int .u32 ((Cli.new nm [1,2]).server),.int .i64 ((Cli.new nm [1,2]).until_),.int .i64 ((Cli.new nm [1,2]).one),.int .i64 ((Cli.new nm [1,2]).two),.bool ((Cli.new nm [1,2]).due),.int .i64 ((Cli.new nm [1,2]).tries),.int .i64 ((Cli.new nm [1,2]).said),.int .i64 ((Cli.new nm [1,2]).asks)] 116 (0,0))],[(b3,.cells #[.int .i64 0,.int .i64 lead,.int .i64 4,.int .u32 9,.int .i64 30,.int .i64 60,.int .i64 256,.float .f64 4602678819172646912,.float .f64 4591870180066957722,.float .f64 4602678819172646912,.float .f64 4606056518893174784,.slice (some ⟨b2,0,none⟩) 1 1,.int .i64 1000] 35 (0,0))],sb]) [1,0,0] Z<|?_
  refine Za Z<|Ze<|Zg<|Zs<|Zs<|Zr<|Za Z<|Ze<|Zg<|Zb<|?_
  refine ZL (X := Nat × Vw × Cli × List Le × Sg × Int) (fun z0 => z0.2.1) (fun z0 => [[(bc,.cells #[.string z0.2.2.1.name,hvc,.int .i64 z0.2.2.1.state,.int .u32 z0.2.2.1.xid,.int .u32 z0.2.2.1.addr,.int .u32 z0.2.2.1.server,.int .i64 z0.2.2.1.until_,.int .i64 z0.2.2.1.one,.int .i64 z0.2.2.1.two,.bool z0.2.2.1.due,.int .i64 z0.2.2.1.tries,.int .i64 z0.2.2.1.said,.int .i64 z0.2.2.1.asks] 116 (0,0))],[(b3,.cells #[.int .i64 0,.int .i64 lead,.int .i64 4,.int .u32 9,.int .i64 30,.int .i64 60,.int .i64 256,.float .f64 4602678819172646912,.float .f64 4591870180066957722,.float .f64 4602678819172646912,.float .f64 4606056518893174784,.slice (some ⟨b2,0,none⟩) 1 1,.int .i64 1000] 35 (0,0))],z0.2.2.2.2.1]) (fun z0 => [(1,.int .i64 mm),(8,(pZ b3)),(9,(pZ bc)),(11,(pZ tx)),(13,.int .u32 z0.2.2.2.2.2),(14,.int .i64 (z0.1 : Int))]) (fun z0 => Vw.le V8 z0.2.1 /\ Le.In 99 z0.2.2.2.1 tx z0.2.2.2.2.1 /\ Mt.J lead nm (z0.1 : Int) z0.2.2.1 z0.2.2.2.1 /\ (3 <= z0.1 -> z0.2.2.2.2.2 = 1) /\ (z0.1 : Int) <= 3 + mm) (fun z0 => (3 + mm).toNat - z0.1) (⟨0,V8,(Cli.new nm [1,2]),Mt.l0,sb,0⟩ : Nat × Vw × Cli × List Le × Sg × Int) ⟨Vw.le_refl _,hin,Mt.j0 hf,fun h => absurd h (show ¬ 3 <= 0 by decide),by omega⟩ ?_
  rintro ⟨i1,V1,c,l,s1,ad⟩ ⟨hVle,hin,hj,had,hi⟩
  try dsimp only at hVle hin hj had hi ⊢
  refine Zs<|Zs<|Zr<|?_
  have hlead : 4 <= lead /\ lead <= 100 := by omega
  replace hpo := hpo.le hVle
  replace hhc := hhc.le hVle
  refine Zm Z<|Zm Z<|Zv (Y.add Z Z W)<|Zv (Y.int Z Z Z)<|Ze<|Zg<|?_
  refine Zq (decide ((i1 : Int) < (3 + mm))) (fun h13 g13 => ?_) fun h13 g13 => ?_
  ·refine Tr.cond_t Z h13<|Zt<|Zg<|Zs<|Zb<|Zs<|Zr<|Zm Z<|Zm Z<|?_
   refine Yk [0] Z Z Z (tick_c (n := (i1 : Int)) (c := c) (now := (i1 : Int)) hj.inv W (by rw [hj.hw]; exact hhc)) (fun v14 V14 H14 hle14 hR14 => ?_)
   obtain ⟨_,rfl,ps,rfl,hk⟩ := hR14
   replace hpo := hpo.le hle14
   replace hhc := hhc.le hle14
   replace hVle := Vw.le_trans hVle hle14
   refine Run.heapTo (H' := [[(b3,.cells #[.int .i64 0,.int .i64 lead,.int .i64 4,.int .u32 9,.int .i64 30,.int .i64 60,.int .i64 256,.float .f64 4602678819172646912,.float .f64 4591870180066957722,.float .f64 4602678819172646912,.float .f64 4606056518893174784,.slice (some ⟨b2,0,none⟩) 1 1,.int .i64 1000] 35 (0,0))],s1,[(bc,.cells #[.string ((Cli.tickC c (i1 : Int)).name),hvc,.int .i64 ((Cli.tickC c (i1 : Int)).state),.int .u32 ((Cli.tickC c (i1 : Int)).xid),.int .u32 ((Cli.tickC c (i1 : Int)).addr),.int .u32 ((Cli.tickC c (i1 : Int)).server),.int .i64 ((Cli.tickC c (i1 : Int)).until_),.int .i64 ((Cli.tickC c (i1 : Int)).one),.int .i64 ((Cli.tickC c (i1 : Int)).two),.bool ((Cli.tickC c (i1 : Int)).due),.int .i64 ((Cli.tickC c (i1 : Int)).tries),.int .i64 ((Cli.tickC c (i1 : Int)).said),.int .i64 ((Cli.tickC c (i1 : Int)).asks)] 116 (0,0))]]) Z ?_
   refine Zm Z<|Zv (Y.extract Z Z)<|Zv (Y.extract Z Z)<|Za Z<|Za Z<|Ze<|Zg<|?_
   refine Tr.cutx (X := Cli × List Le × Sg × Vw) (fun y => y.2.2.2) (fun y => [[(bc,.cells #[.string y.1.name,hvc,.int .i64 y.1.state,.int .u32 y.1.xid,.int .u32 y.1.addr,.int .u32 y.1.server,.int .i64 y.1.until_,.int .i64 y.1.one,.int .i64 y.1.two,.bool y.1.due,.int .i64 y.1.tries,.int .i64 y.1.said,.int .i64 y.1.asks] 116 (0,0))],[(b3,.cells #[.int .i64 0,.int .i64 lead,.int .i64 4,.int .u32 9,.int .i64 30,.int .i64 60,.int .i64 256,.float .f64 4602678819172646912,.float .f64 4591870180066957722,.float .f64 4602678819172646912,.float .f64 4606056518893174784,.slice (some ⟨b2,0,none⟩) 1 1,.int .i64 1000] 35 (0,0))],y.2.2.1]) (fun y => [(1,.int .i64 mm),(8,(pZ b3)),(9,(pZ bc)),(11,(pZ tx)),(13,.int .u32 ad),(14,.int .i64 (i1 : Int))]) (fun y => Mt.J lead nm ((i1 : Int) + 1) y.1 y.2.1 /\ Mt.Fin (i1 : Int) y.1 /\ Le.In 99 y.2.1 tx y.2.2.1 /\ Vw.le V8 y.2.2.2) ?_ ?_
   ·refine Zs<|Zr<|Za Z<|Ze<|Zg<|Zb<|Tr.unroll 1<|Zs<|Zs<|Zr<|?_
    rcases Mt.moment hlead W hj hz with ⟨htp,hnx,hfin⟩ | ⟨p,htp,hr⟩
    ·rw [htp] at hk
     have hk2 : ps = .slice none 0 0 := hk
     subst hk2
     refine Zm Z<|Zm Z<|Zv (Y.lenSl Z xes72)<|Zv (Y.int (r := .bool false) Z Z Z)<|Ze<|Zg<|Tr.cond_f Z Z<|Zx<|Zy<|Zy<|Zi<|Ex.keep [2,0,0]<|?_
     exact ZX (Cli.tickC c (i1 : Int),l,s1,V14) ⟨hnx,hfin,hin,hVle⟩
    rw [htp] at hk
    obtain ⟨hfew,hci,hsend,hrf,hsz,hnx,hfin⟩ := hr
    obtain ⟨ba,h1,h2,rfl,hma,hRp⟩ := hk
    obtain ⟨⟨p1,c1,rfl⟩,p2,n2,c2,rfl⟩ := hRp.forms
    have hkb : Kn V14 [] ba (.cells (p.cells (.slice p1 p.hw.length c1) (.slice p2 n2 c2)) 28 (0,0)) := .inl hma
    refine Zm Z<|Zm Z<|Zv (Y.lenSl Z xes72)<|Zv (Y.int (r := .bool true) Z Z Z)<|Ze<|Zg<|Tr.cond_t Z Z<|Zt<|Zg<|Zs<|Zb<|Zs<|Tr.anyD [(b3,.cells #[.int .i64 0,.int .i64 lead,.int .i64 4,.int .u32 9,.int .i64 30,.int .i64 60,.int .i64 256,.float .f64 4602678819172646912,.float .f64 4591870180066957722,.float .f64 4602678819172646912,.float .f64 4606056518893174784,.slice (some ⟨b2,0,none⟩) 1 1,.int .i64 1000] 35 (0,0)),(ba,.cells (p.cells (.slice p1 p.hw.length c1) (.slice p2 n2 c2)) 28 (0,0))] xmo<|?_
    refine ZD 0 0 Z Z (fun _ => (Y.loadAgg rfl xag35 Kn.vk1 rfl))<|Zd 1 Z (fun _ => (Y.move rfl))<|Zd 2 Z (fun _ => (Y.move rfl))<|Zd 3 Z (fun _ => (Y.move rfl))<|Zd 4 Z (fun _ => (Y.move rfl))<|Zd 5 Z (fun _ => (Y.idxAddr rfl rfl xes72 W W))<|ZD 6 1 Z Z (fun _ => (Y.loadAgg rfl xag28 Kn.vk1 rfl))<|?_
    refine RunD.two (i := 7) (j := 8) WK rfl rfl  ?_ ?_
    ·refine Yk [1] Z Z Z (answer_t (x := (Mt.site lead)) (p := p) (l := l) (state := 1) (now := (i1 : Int)) (entry := 0) hpo (Nat.le_of_ble_eq_true rfl) Eg.oks6 hRp hfew hci (show (0 : Int) <= 9 /\ (9 : Int) <= 4294967295 by decide) hin (fun y hy => by have := Eg.la6 hj.ad y hy; omega)) (fun v15 V15 H15 hle15 hR15 => ?_)
     obtain ⟨_,rfl,hv15,ov15,rfl,hRa⟩ := hR15
     replace hpo := hpo.le hle15
     replace hhc := hhc.le hle15
     replace hkb := hkb.le hle15
     replace hVle := Vw.le_trans hVle hle15
     obtain ⟨⟨pg15,cg15,rfl⟩,pk15,nk15,ck15,rfl⟩ := hRa.forms
     generalize Eg.ans (Mt.site lead) l 1 (i1 : Int) 0 p = A at hRa hsend hrf hsz hnx hfin ⊢
     refine Run.heapTo (H' := [[(b3,.cells #[.int .i64 0,.int .i64 lead,.int .i64 4,.int .u32 9,.int .i64 30,.int .i64 60,.int .i64 256,.float .f64 4602678819172646912,.float .f64 4591870180066957722,.float .f64 4602678819172646912,.float .f64 4606056518893174784,.slice (some ⟨b2,0,none⟩) 1 1,.int .i64 1000] 35 (0,0))],[(bc,.cells #[.string ((Cli.tickC c (i1 : Int)).name),hvc,.int .i64 ((Cli.tickC c (i1 : Int)).state),.int .u32 ((Cli.tickC c (i1 : Int)).xid),.int .u32 ((Cli.tickC c (i1 : Int)).addr),.int .u32 ((Cli.tickC c (i1 : Int)).server),.int .i64 ((Cli.tickC c (i1 : Int)).until_),.int .i64 ((Cli.tickC c (i1 : Int)).one),.int .i64 ((Cli.tickC c (i1 : Int)).two),.bool ((Cli.tickC c (i1 : Int)).due),.int .i64 ((Cli.tickC c (i1 : Int)).tries),.int .i64 ((Cli.tickC c (i1 : Int)).said),.int .i64 ((Cli.tickC c (i1 : Int)).asks)] 116 (0,0))],s1]) Z ?_
     refine Ze<|Zf<|?_
     refine RunD.one (i := 8) WK rfl  ?_
     refine Run.alloc xzo45 (lt rfl) (fun b16 => ?_)
     refine Ze<|Zf<|?_
     refine RunD.one (i := 9) WK rfl  ?_
     refine Run.stAll (l2 := (An.cells A (.slice pg15 A.reply.hw.length cg15) (.slice pk15 nk15 ck15)).toList) (j := 0) Z Z xsz45 Z Z Z Z ?_
     refine Run.heapTo (H' := [[(b16,.cells (An.cells A (.slice pg15 A.reply.hw.length cg15) (.slice pk15 nk15 ck15)) 45 (0,0))],[(b3,.cells #[.int .i64 0,.int .i64 lead,.int .i64 4,.int .u32 9,.int .i64 30,.int .i64 60,.int .i64 256,.float .f64 4602678819172646912,.float .f64 4591870180066957722,.float .f64 4602678819172646912,.float .f64 4606056518893174784,.slice (some ⟨b2,0,none⟩) 1 1,.int .i64 1000] 35 (0,0))],[(bc,.cells #[.string ((Cli.tickC c (i1 : Int)).name),hvc,.int .i64 ((Cli.tickC c (i1 : Int)).state),.int .u32 ((Cli.tickC c (i1 : Int)).xid),.int .u32 ((Cli.tickC c (i1 : Int)).addr),.int .u32 ((Cli.tickC c (i1 : Int)).server),.int .i64 ((Cli.tickC c (i1 : Int)).until_),.int .i64 ((Cli.tickC c (i1 : Int)).one),.int .i64 ((Cli.tickC c (i1 : Int)).two),.bool ((Cli.tickC c (i1 : Int)).due),.int .i64 ((Cli.tickC c (i1 : Int)).tries),.int .i64 ((Cli.tickC c (i1 : Int)).said),.int .i64 ((Cli.tickC c (i1 : Int)).asks)] 116 (0,0))],s1]) Z ?_
     refine Ze<|Zf<|RunD.done WK<|Zg<|Zs<|Zs<|Zr<|Zv (Y.fieldAddr Z xfo45_2)<|Zv (Y.load Z xts4 (Kn.at 0 Z) Z)<|Ze<|Zg<|?_
     refine Zq (A.change) (fun h17 g17 => ?_) fun h17 g17 => ?_
     ·refine Tr.cond_t Z h17<|Zr<|Zm Z<|Zv (Y.fieldAddr Z xfo45_3)<|Zv (Y.loadAgg Z xag43 (Kn.at 0 Z) Z)<|?_
      refine Yk [3] Z Z Z (set_o (q := A.lease) hin hsz) (fun v18 V18 H18 hle18 hR18 => ?_)
      obtain ⟨hV,rfl,sb18,hin18,rfl⟩ := hR18; replace hV := hV.symm; subst hV
      refine Run.heapTo (H' := [[(b16,.cells (An.cells A (.slice pg15 A.reply.hw.length cg15) (.slice pk15 nk15 ck15)) 45 (0,0))],[(b3,.cells #[.int .i64 0,.int .i64 lead,.int .i64 4,.int .u32 9,.int .i64 30,.int .i64 60,.int .i64 256,.float .f64 4602678819172646912,.float .f64 4591870180066957722,.float .f64 4602678819172646912,.float .f64 4606056518893174784,.slice (some ⟨b2,0,none⟩) 1 1,.int .i64 1000] 35 (0,0))],[(bc,.cells #[.string ((Cli.tickC c (i1 : Int)).name),hvc,.int .i64 ((Cli.tickC c (i1 : Int)).state),.int .u32 ((Cli.tickC c (i1 : Int)).xid),.int .u32 ((Cli.tickC c (i1 : Int)).addr),.int .u32 ((Cli.tickC c (i1 : Int)).server),.int .i64 ((Cli.tickC c (i1 : Int)).until_),.int .i64 ((Cli.tickC c (i1 : Int)).one),.int .i64 ((Cli.tickC c (i1 : Int)).two),.bool ((Cli.tickC c (i1 : Int)).due),.int .i64 ((Cli.tickC c (i1 : Int)).tries),.int .i64 ((Cli.tickC c (i1 : Int)).said),.int .i64 ((Cli.tickC c (i1 : Int)).asks)] 116 (0,0))],sb18]) Z ?_
      refine Ze<|Zg<|Zs<|Zr<|Zv (Y.fieldAddr Z xfo45_0)<|Zv (Y.load Z xts4 (Kn.at 0 Z) Z)<|Ze<|Zg<|Tr.cond_t Z hsend<|Zr<|Zm Z<|Zv (Y.fieldAddr Z xfo45_1)<|Zv (Y.loadAgg Z xag28 (Kn.at 0 Z) Z)<|Zm Z<|?_
      refine Yk [2] Z Z Z (take_c (n := (i1 : Int) + 1) (c := Cli.tickC c (i1 : Int)) (now := (i1 : Int)) (p := A.reply) (hj.inv.tick _) (by rw [(Cli.tick_same c (i1 : Int)).1,hj.hw]; exact hhc) hRa hrf) (fun v19 V19 H19 hle19 hR19 => ?_)
      obtain ⟨hV,rfl,rfl⟩ := hR19; replace hV := hV.symm; subst hV
      refine Run.heapTo (H' := [[(b16,.cells (An.cells A (.slice pg15 A.reply.hw.length cg15) (.slice pk15 nk15 ck15)) 45 (0,0))],[(b3,.cells #[.int .i64 0,.int .i64 lead,.int .i64 4,.int .u32 9,.int .i64 30,.int .i64 60,.int .i64 256,.float .f64 4602678819172646912,.float .f64 4591870180066957722,.float .f64 4602678819172646912,.float .f64 4606056518893174784,.slice (some ⟨b2,0,none⟩) 1 1,.int .i64 1000] 35 (0,0))],sb18,[(bc,.cells #[.string ((Cli.takeC (Cli.tickC c (i1 : Int)) A.reply (i1 : Int)).name),hvc,.int .i64 ((Cli.takeC (Cli.tickC c (i1 : Int)) A.reply (i1 : Int)).state),.int .u32 ((Cli.takeC (Cli.tickC c (i1 : Int)) A.reply (i1 : Int)).xid),.int .u32 ((Cli.takeC (Cli.tickC c (i1 : Int)) A.reply (i1 : Int)).addr),.int .u32 ((Cli.takeC (Cli.tickC c (i1 : Int)) A.reply (i1 : Int)).server),.int .i64 ((Cli.takeC (Cli.tickC c (i1 : Int)) A.reply (i1 : Int)).until_),.int .i64 ((Cli.takeC (Cli.tickC c (i1 : Int)) A.reply (i1 : Int)).one),.int .i64 ((Cli.takeC (Cli.tickC c (i1 : Int)) A.reply (i1 : Int)).two),.bool ((Cli.takeC (Cli.tickC c (i1 : Int)) A.reply (i1 : Int)).due),.int .i64 ((Cli.takeC (Cli.tickC c (i1 : Int)) A.reply (i1 : Int)).tries),.int .i64 ((Cli.takeC (Cli.tickC c (i1 : Int)) A.reply (i1 : Int)).said),.int .i64 ((Cli.takeC (Cli.tickC c (i1 : Int)) A.reply (i1 : Int)).asks)] 116 (0,0))]]) Z ?_
      refine Ze<|Zc<|Zg<|Zr<|Zm Z<|Zv (Y.int (r := .int .i64 1) Z Z Z)<|Za Z<|Ze<|Ex.goU<|Zs<|Zs<|Zr<|Zm Z<|Zm Z<|Zv (Y.lenSl Z xes72)<|Zv (Y.int (r := .bool false) Z Z Z)<|?_
      refine Ze<|Zg<|Tr.cond_f Z Z<|Zx<|Zy<|Zy<|Zi<|Ex.keep [3,1,1]<|?_
      exact ZX (Cli.takeC (Cli.tickC c (i1 : Int)) A.reply (i1 : Int),(Le.setE l A.lease).2,sb18,V15) ⟨by rw [if_pos h17] at hnx; exact hnx,hfin,hin18,hVle⟩
     refine Tr.cond_f Z h17<|Zt<|Zg<|Zs<|Zr<|Zv (Y.fieldAddr Z xfo45_0)<|Zv (Y.load Z xts4 (Kn.at 0 Z) Z)<|Ze<|Zg<|Tr.cond_t Z hsend<|Zr<|Zm Z<|Zv (Y.fieldAddr Z xfo45_1)<|Zv (Y.loadAgg Z xag28 (Kn.at 0 Z) Z)<|Zm Z<|?_
     refine Yk [2] Z Z Z (take_c (n := (i1 : Int) + 1) (c := Cli.tickC c (i1 : Int)) (now := (i1 : Int)) (p := A.reply) (hj.inv.tick _) (by rw [(Cli.tick_same c (i1 : Int)).1,hj.hw]; exact hhc) hRa hrf) (fun v20 V20 H20 hle20 hR20 => ?_)
     obtain ⟨hV,rfl,rfl⟩ := hR20; replace hV := hV.symm; subst hV
     refine Run.heapTo (H' := [[(b16,.cells (An.cells A (.slice pg15 A.reply.hw.length cg15) (.slice pk15 nk15 ck15)) 45 (0,0))],[(b3,.cells #[.int .i64 0,.int .i64 lead,.int .i64 4,.int .u32 9,.int .i64 30,.int .i64 60,.int .i64 256,.float .f64 4602678819172646912,.float .f64 4591870180066957722,.float .f64 4602678819172646912,.float .f64 4606056518893174784,.slice (some ⟨b2,0,none⟩) 1 1,.int .i64 1000] 35 (0,0))],s1,[(bc,.cells #[.string ((Cli.takeC (Cli.tickC c (i1 : Int)) A.reply (i1 : Int)).name),hvc,.int .i64 ((Cli.takeC (Cli.tickC c (i1 : Int)) A.reply (i1 : Int)).state),.int .u32 ((Cli.takeC (Cli.tickC c (i1 : Int)) A.reply (i1 : Int)).xid),.int .u32 ((Cli.takeC (Cli.tickC c (i1 : Int)) A.reply (i1 : Int)).addr),.int .u32 ((Cli.takeC (Cli.tickC c (i1 : Int)) A.reply (i1 : Int)).server),.int .i64 ((Cli.takeC (Cli.tickC c (i1 : Int)) A.reply (i1 : Int)).until_),.int .i64 ((Cli.takeC (Cli.tickC c (i1 : Int)) A.reply (i1 : Int)).one),.int .i64 ((Cli.takeC (Cli.tickC c (i1 : Int)) A.reply (i1 : Int)).two),.bool ((Cli.takeC (Cli.tickC c (i1 : Int)) A.reply (i1 : Int)).due),.int .i64 ((Cli.takeC (Cli.tickC c (i1 : Int)) A.reply (i1 : Int)).tries),.int .i64 ((Cli.takeC (Cli.tickC c (i1 : Int)) A.reply (i1 : Int)).said),.int .i64 ((Cli.takeC (Cli.tickC c (i1 : Int)) A.reply (i1 : Int)).asks)] 116 (0,0))]]) Z ?_
     refine Ze<|Zc<|Zg<|Zr<|Zm Z<|Zv (Y.int (r := .int .i64 1) Z Z Z)<|Za Z<|Ze<|Ex.goU<|Zs<|Zs<|Zr<|Zm Z<|Zm Z<|Zv (Y.lenSl Z xes72)<|Zv (Y.int (r := .bool false) Z Z Z)<|?_
     refine Ze<|Zg<|Tr.cond_f Z Z<|Zx<|Zy<|Zy<|Zi<|Ex.keep [3,1,1]<|?_
     exact ZX (Cli.takeC (Cli.tickC c (i1 : Int)) A.reply (i1 : Int),l,s1,V15) ⟨by rw [if_neg (by rw [h17]; decide)] at hnx; exact hnx,hfin,hin,hVle⟩
    refine Run.alloc xzo45 (lt rfl) (fun b21 => ?_)
    refine Ze<|Zf<|?_
    refine RunD.one (i := 7) WK rfl  ?_
    refine Yk [2] Z Z Z (answer_t (x := (Mt.site lead)) (p := p) (l := l) (state := 1) (now := (i1 : Int)) (entry := 0) hpo (Nat.le_of_ble_eq_true rfl) Eg.oks6 hRp hfew hci (show (0 : Int) <= 9 /\ (9 : Int) <= 4294967295 by decide) hin (fun y hy => by have := Eg.la6 hj.ad y hy; omega)) (fun v22 V22 H22 hle22 hR22 => ?_)
    obtain ⟨_,rfl,hv22,ov22,rfl,hRa⟩ := hR22
    replace hpo := hpo.le hle22
    replace hhc := hhc.le hle22
    replace hkb := hkb.le hle22
    replace hVle := Vw.le_trans hVle hle22
    obtain ⟨⟨pg22,cg22,rfl⟩,pk22,nk22,ck22,rfl⟩ := hRa.forms
    generalize Eg.ans (Mt.site lead) l 1 (i1 : Int) 0 p = A at hRa hsend hrf hsz hnx hfin ⊢
    refine Run.heapTo (H' := [[(b21,.cells an0 45 (0,0))],[(b3,.cells #[.int .i64 0,.int .i64 lead,.int .i64 4,.int .u32 9,.int .i64 30,.int .i64 60,.int .i64 256,.float .f64 4602678819172646912,.float .f64 4591870180066957722,.float .f64 4602678819172646912,.float .f64 4606056518893174784,.slice (some ⟨b2,0,none⟩) 1 1,.int .i64 1000] 35 (0,0))],[(bc,.cells #[.string ((Cli.tickC c (i1 : Int)).name),hvc,.int .i64 ((Cli.tickC c (i1 : Int)).state),.int .u32 ((Cli.tickC c (i1 : Int)).xid),.int .u32 ((Cli.tickC c (i1 : Int)).addr),.int .u32 ((Cli.tickC c (i1 : Int)).server),.int .i64 ((Cli.tickC c (i1 : Int)).until_),.int .i64 ((Cli.tickC c (i1 : Int)).one),.int .i64 ((Cli.tickC c (i1 : Int)).two),.bool ((Cli.tickC c (i1 : Int)).due),.int .i64 ((Cli.tickC c (i1 : Int)).tries),.int .i64 ((Cli.tickC c (i1 : Int)).said),.int .i64 ((Cli.tickC c (i1 : Int)).asks)] 116 (0,0))],s1]) Z ?_
    refine Ze<|Zf<|?_
    refine RunD.one (i := 9) WK rfl  ?_
    refine Run.stAll (l2 := (An.cells A (.slice pg22 A.reply.hw.length cg22) (.slice pk22 nk22 ck22)).toList) (j := 0) Z Z xsz45 Z Z Z Z ?_
    refine Run.heapTo (H' := [[(b21,.cells (An.cells A (.slice pg22 A.reply.hw.length cg22) (.slice pk22 nk22 ck22)) 45 (0,0))],[(b3,.cells #[.int .i64 0,.int .i64 lead,.int .i64 4,.int .u32 9,.int .i64 30,.int .i64 60,.int .i64 256,.float .f64 4602678819172646912,.float .f64 4591870180066957722,.float .f64 4602678819172646912,.float .f64 4606056518893174784,.slice (some ⟨b2,0,none⟩) 1 1,.int .i64 1000] 35 (0,0))],[(bc,.cells #[.string ((Cli.tickC c (i1 : Int)).name),hvc,.int .i64 ((Cli.tickC c (i1 : Int)).state),.int .u32 ((Cli.tickC c (i1 : Int)).xid),.int .u32 ((Cli.tickC c (i1 : Int)).addr),.int .u32 ((Cli.tickC c (i1 : Int)).server),.int .i64 ((Cli.tickC c (i1 : Int)).until_),.int .i64 ((Cli.tickC c (i1 : Int)).one),.int .i64 ((Cli.tickC c (i1 : Int)).two),.bool ((Cli.tickC c (i1 : Int)).due),.int .i64 ((Cli.tickC c (i1 : Int)).tries),.int .i64 ((Cli.tickC c (i1 : Int)).said),.int .i64 ((Cli.tickC c (i1 : Int)).asks)] 116 (0,0))],s1]) Z ?_
    refine Ze<|Zf<|RunD.done WK<|Zg<|Zs<|Zs<|Zr<|Zv (Y.fieldAddr Z xfo45_2)<|Zv (Y.load Z xts4 (Kn.at 0 Z) Z)<|Ze<|Zg<|?_
    refine Zq (A.change) (fun h23 g23 => ?_) fun h23 g23 => ?_
    ·refine Tr.cond_t Z h23<|Zr<|Zm Z<|Zv (Y.fieldAddr Z xfo45_3)<|Zv (Y.loadAgg Z xag43 (Kn.at 0 Z) Z)<|?_
     refine Yk [3] Z Z Z (set_o (q := A.lease) hin hsz) (fun v24 V24 H24 hle24 hR24 => ?_)
     obtain ⟨hV,rfl,sb24,hin24,rfl⟩ := hR24; replace hV := hV.symm; subst hV
     refine Run.heapTo (H' := [[(b21,.cells (An.cells A (.slice pg22 A.reply.hw.length cg22) (.slice pk22 nk22 ck22)) 45 (0,0))],[(b3,.cells #[.int .i64 0,.int .i64 lead,.int .i64 4,.int .u32 9,.int .i64 30,.int .i64 60,.int .i64 256,.float .f64 4602678819172646912,.float .f64 4591870180066957722,.float .f64 4602678819172646912,.float .f64 4606056518893174784,.slice (some ⟨b2,0,none⟩) 1 1,.int .i64 1000] 35 (0,0))],[(bc,.cells #[.string ((Cli.tickC c (i1 : Int)).name),hvc,.int .i64 ((Cli.tickC c (i1 : Int)).state),.int .u32 ((Cli.tickC c (i1 : Int)).xid),.int .u32 ((Cli.tickC c (i1 : Int)).addr),.int .u32 ((Cli.tickC c (i1 : Int)).server),.int .i64 ((Cli.tickC c (i1 : Int)).until_),.int .i64 ((Cli.tickC c (i1 : Int)).one),.int .i64 ((Cli.tickC c (i1 : Int)).two),.bool ((Cli.tickC c (i1 : Int)).due),.int .i64 ((Cli.tickC c (i1 : Int)).tries),.int .i64 ((Cli.tickC c (i1 : Int)).said),.int .i64 ((Cli.tickC c (i1 : Int)).asks)] 116 (0,0))],sb24]) Z ?_
     refine Ze<|Zg<|Zs<|Zr<|Zv (Y.fieldAddr Z xfo45_0)<|Zv (Y.load Z xts4 (Kn.at 0 Z) Z)<|Ze<|Zg<|Tr.cond_t Z hsend<|Zr<|Zm Z<|Zv (Y.fieldAddr Z xfo45_1)<|Zv (Y.loadAgg Z xag28 (Kn.at 0 Z) Z)<|Zm Z<|?_
     refine Yk [2] Z Z Z (take_c (n := (i1 : Int) + 1) (c := Cli.tickC c (i1 : Int)) (now := (i1 : Int)) (p := A.reply) (hj.inv.tick _) (by rw [(Cli.tick_same c (i1 : Int)).1,hj.hw]; exact hhc) hRa hrf) (fun v25 V25 H25 hle25 hR25 => ?_)
     obtain ⟨hV,rfl,rfl⟩ := hR25; replace hV := hV.symm; subst hV
     refine Run.heapTo (H' := [[(b21,.cells (An.cells A (.slice pg22 A.reply.hw.length cg22) (.slice pk22 nk22 ck22)) 45 (0,0))],[(b3,.cells #[.int .i64 0,.int .i64 lead,.int .i64 4,.int .u32 9,.int .i64 30,.int .i64 60,.int .i64 256,.float .f64 4602678819172646912,.float .f64 4591870180066957722,.float .f64 4602678819172646912,.float .f64 4606056518893174784,.slice (some ⟨b2,0,none⟩) 1 1,.int .i64 1000] 35 (0,0))],sb24,[(bc,.cells #[.string ((Cli.takeC (Cli.tickC c (i1 : Int)) A.reply (i1 : Int)).name),hvc,.int .i64 ((Cli.takeC (Cli.tickC c (i1 : Int)) A.reply (i1 : Int)).state),.int .u32 ((Cli.takeC (Cli.tickC c (i1 : Int)) A.reply (i1 : Int)).xid),.int .u32 ((Cli.takeC (Cli.tickC c (i1 : Int)) A.reply (i1 : Int)).addr),.int .u32 ((Cli.takeC (Cli.tickC c (i1 : Int)) A.reply (i1 : Int)).server),.int .i64 ((Cli.takeC (Cli.tickC c (i1 : Int)) A.reply (i1 : Int)).until_),.int .i64 ((Cli.takeC (Cli.tickC c (i1 : Int)) A.reply (i1 : Int)).one),.int .i64 ((Cli.takeC (Cli.tickC c (i1 : Int)) A.reply (i1 : Int)).two),.bool ((Cli.takeC (Cli.tickC c (i1 : Int)) A.reply (i1 : Int)).due),.int .i64 ((Cli.takeC (Cli.tickC c (i1 : Int)) A.reply (i1 : Int)).tries),.int .i64 ((Cli.takeC (Cli.tickC c (i1 : Int)) A.reply (i1 : Int)).said),.int .i64 ((Cli.takeC (Cli.tickC c (i1 : Int)) A.reply (i1 : Int)).asks)] 116 (0,0))]]) Z ?_
     refine Ze<|Zc<|Zg<|Zr<|Zm Z<|Zv (Y.int (r := .int .i64 1) Z Z Z)<|Za Z<|Ze<|Ex.goU<|Zs<|Zs<|Zr<|Zm Z<|Zm Z<|Zv (Y.lenSl Z xes72)<|Zv (Y.int (r := .bool false) Z Z Z)<|?_
     refine Ze<|Zg<|Tr.cond_f Z Z<|Zx<|Zy<|Zy<|Zi<|Ex.keep [3,1,1]<|?_
     exact ZX (Cli.takeC (Cli.tickC c (i1 : Int)) A.reply (i1 : Int),(Le.setE l A.lease).2,sb24,V22) ⟨by rw [if_pos h23] at hnx; exact hnx,hfin,hin24,hVle⟩
    refine Tr.cond_f Z h23<|Zt<|Zg<|Zs<|Zr<|Zv (Y.fieldAddr Z xfo45_0)<|Zv (Y.load Z xts4 (Kn.at 0 Z) Z)<|Ze<|Zg<|Tr.cond_t Z hsend<|Zr<|Zm Z<|Zv (Y.fieldAddr Z xfo45_1)<|Zv (Y.loadAgg Z xag28 (Kn.at 0 Z) Z)<|Zm Z<|?_
    refine Yk [2] Z Z Z (take_c (n := (i1 : Int) + 1) (c := Cli.tickC c (i1 : Int)) (now := (i1 : Int)) (p := A.reply) (hj.inv.tick _) (by rw [(Cli.tick_same c (i1 : Int)).1,hj.hw]; exact hhc) hRa hrf) (fun v26 V26 H26 hle26 hR26 => ?_)
    obtain ⟨hV,rfl,rfl⟩ := hR26; replace hV := hV.symm; subst hV
    refine Run.heapTo (H' := [[(b21,.cells (An.cells A (.slice pg22 A.reply.hw.length cg22) (.slice pk22 nk22 ck22)) 45 (0,0))],[(b3,.cells #[.int .i64 0,.int .i64 lead,.int .i64 4,.int .u32 9,.int .i64 30,.int .i64 60,.int .i64 256,.float .f64 4602678819172646912,.float .f64 4591870180066957722,.float .f64 4602678819172646912,.float .f64 4606056518893174784,.slice (some ⟨b2,0,none⟩) 1 1,.int .i64 1000] 35 (0,0))],s1,[(bc,.cells #[.string ((Cli.takeC (Cli.tickC c (i1 : Int)) A.reply (i1 : Int)).name),hvc,.int .i64 ((Cli.takeC (Cli.tickC c (i1 : Int)) A.reply (i1 : Int)).state),.int .u32 ((Cli.takeC (Cli.tickC c (i1 : Int)) A.reply (i1 : Int)).xid),.int .u32 ((Cli.takeC (Cli.tickC c (i1 : Int)) A.reply (i1 : Int)).addr),.int .u32 ((Cli.takeC (Cli.tickC c (i1 : Int)) A.reply (i1 : Int)).server),.int .i64 ((Cli.takeC (Cli.tickC c (i1 : Int)) A.reply (i1 : Int)).until_),.int .i64 ((Cli.takeC (Cli.tickC c (i1 : Int)) A.reply (i1 : Int)).one),.int .i64 ((Cli.takeC (Cli.tickC c (i1 : Int)) A.reply (i1 : Int)).two),.bool ((Cli.takeC (Cli.tickC c (i1 : Int)) A.reply (i1 : Int)).due),.int .i64 ((Cli.takeC (Cli.tickC c (i1 : Int)) A.reply (i1 : Int)).tries),.int .i64 ((Cli.takeC (Cli.tickC c (i1 : Int)) A.reply (i1 : Int)).said),.int .i64 ((Cli.takeC (Cli.tickC c (i1 : Int)) A.reply (i1 : Int)).asks)] 116 (0,0))]]) Z ?_
    refine Ze<|Zc<|Zg<|Zr<|Zm Z<|Zv (Y.int (r := .int .i64 1) Z Z Z)<|Za Z<|Ze<|Ex.goU<|Zs<|Zs<|Zr<|Zm Z<|Zm Z<|Zv (Y.lenSl Z xes72)<|Zv (Y.int (r := .bool false) Z Z Z)<|?_
    refine Ze<|Zg<|Tr.cond_f Z Z<|Zx<|Zy<|Zy<|Zi<|Ex.keep [3,1,1]<|?_
    exact ZX (Cli.takeC (Cli.tickC c (i1 : Int)) A.reply (i1 : Int),l,s1,V22) ⟨by rw [if_neg (by rw [h23]; decide)] at hnx; exact hnx,hfin,hin,hVle⟩
   rintro y hy
   clear hVle
   obtain ⟨hy1,hy2,hy3,hVle⟩ := hy
   refine Zs<|Zs<|Zr<|Zm Z<|Zv (Y.int Z Z Z)<|Ze<|Zg<|?_
   refine Zq ((i1 : Int) == 2) (fun h27 g27 => ?_) fun h27 g27 => ?_
   ·refine Tr.cond_t Z h27<|Zr<|Zm Z<|Yc Z Z Z (addr_c (c := y.1) (Kn.at 0 Z))<|Za Z<|Ze<|Zg<|Zs<|Zr<|Zm Z<|Zv (Y.int Z Z Z)<|Zm Z<|?_
    refine Zq (decide ((i1 : Int) >= 2)) (fun h28 g28 => ?_) fun h28 g28 => ?_
    ·obtain ⟨ha1,hu1⟩ := hy2 W
     refine Zp h28<|Zm Z<|Zp h28<|Yc Z Z Z (addr_c (c := y.1) (Kn.at 0 Z))<|Zp h28<|Zm Z<|Zp h28<|Zv (Y.int Z Z Z)<|Zp h28<|Zm Z<|Run.on rfl rfl rfl (bne_eq_false_iff_eq.2 (by first | rfl | rw [ha1,had W]))<|Zm Z<|Run.on rfl rfl rfl (bne_eq_false_iff_eq.2 (by first | rfl | rw [ha1,had W]))<|Zv (Y.int Z Z Z)<|Zp h28<|Zv (Y.pick_f Z (bne_eq_false_iff_eq.2 (by first | rfl | rw [ha1,had W])) rfl)<|?_
     refine Zp h28<|Zm Z<|Run.on rfl rfl rfl (beq_eq_false_iff_ne.2 (by first | (rw [ha1]; decide) | (rw [had W]; decide)))<|Zm Z<|Run.on rfl rfl rfl (beq_eq_false_iff_ne.2 (by first | (rw [ha1]; decide) | (rw [had W]; decide)))<|Yc Z Z Z (cuntil_c (c := y.1) (Kn.at 0 Z))<|Run.on rfl rfl rfl (beq_eq_false_iff_ne.2 (by first | (rw [ha1]; decide) | (rw [had W]; decide)))<|Zm Z<|Run.on rfl rfl rfl (beq_eq_false_iff_ne.2 (by first | (rw [ha1]; decide) | (rw [had W]; decide)))<|?_
     refine Zv (Y.int Z Z Z)<|Zp h28<|Zv (Y.pick_f Z (beq_eq_false_iff_ne.2 (by first | (rw [ha1]; decide) | (rw [had W]; decide))) rfl)<|Zv (Y.pick_t Z h28 Z)<|Ze<|Zg<|Tr.cond_f rfl (decide_eq_false W)<|Zt<|Zc<|Zg<|Zr<|Zm Z<|Zv (Y.add Z Z W)<|Za Z<|Ze<|Ex.keep [0,0,0]<|?_
     exact ZR (⟨i1 + 1,y.2.2.2,y.1,y.2.1,y.2.2.1,y.1.addr⟩ : Nat × Vw × Cli × List Le × Sg × Int) ⟨hVle,hy3,hy1,by intro h; first | (exfalso; omega) | exact ha1 | exact had W,by omega⟩ (by dsimp only; omega)
    refine Zo h28 Z<|Zo h28 Z<|Zo h28 Z<|Zo h28 Z<|Zo h28 Z<|Run.off_u Z Z Z Z (lt Z)<|Run.off_u Z Z Z Z (lt Z)<|Zo h28 Z<|Zo h28 Z<|Run.off_u Z Z Z Z (lt Z)<|Run.off_u Z Z Z Z (lt Z)<|Run.off_u Z Z Z Z (lt Z)<|Run.off_u Z Z Z Z (lt Z)<|Zo h28 Z<|Zv (Y.pick_f Z h28 Z)<|Ze<|?_
    refine Zg<|Tr.cond_f Z Z<|Zt<|Zc<|Zg<|Zr<|Zm Z<|Zv (Y.add Z Z W)<|Za Z<|Ze<|Ex.keep [0,0,0]<|?_
    exact ZR (⟨i1 + 1,y.2.2.2,y.1,y.2.1,y.2.2.1,y.1.addr⟩ : Nat × Vw × Cli × List Le × Sg × Int) ⟨hVle,hy3,hy1,by intro h; first | (exfalso; omega) | exact ha1 | exact had W,by omega⟩ (by dsimp only; omega)
   refine Tr.cond_f Z h27<|Zt<|Zg<|Zs<|Zr<|Zm Z<|Zv (Y.int Z Z Z)<|Zm Z<|?_
   refine Zq (decide ((i1 : Int) >= 2)) (fun h29 g29 => ?_) fun h29 g29 => ?_
   ·obtain ⟨ha1,hu1⟩ := hy2 W
    refine Zp h29<|Zm Z<|Zp h29<|Yc Z Z Z (addr_c (c := y.1) (Kn.at 0 Z))<|Zp h29<|Zm Z<|Zp h29<|Zv (Y.int Z Z Z)<|Zp h29<|Zm Z<|Run.on rfl rfl rfl (bne_eq_false_iff_eq.2 (by first | rfl | rw [ha1,had W]))<|Zm Z<|Run.on rfl rfl rfl (bne_eq_false_iff_eq.2 (by first | rfl | rw [ha1,had W]))<|Zv (Y.int Z Z Z)<|Zp h29<|Zv (Y.pick_f Z (bne_eq_false_iff_eq.2 (by first | rfl | rw [ha1,had W])) rfl)<|?_
    refine Zp h29<|Zm Z<|Run.on rfl rfl rfl (beq_eq_false_iff_ne.2 (by first | (rw [ha1]; decide) | (rw [had W]; decide)))<|Zm Z<|Run.on rfl rfl rfl (beq_eq_false_iff_ne.2 (by first | (rw [ha1]; decide) | (rw [had W]; decide)))<|Yc Z Z Z (cuntil_c (c := y.1) (Kn.at 0 Z))<|Run.on rfl rfl rfl (beq_eq_false_iff_ne.2 (by first | (rw [ha1]; decide) | (rw [had W]; decide)))<|Zm Z<|Run.on rfl rfl rfl (beq_eq_false_iff_ne.2 (by first | (rw [ha1]; decide) | (rw [had W]; decide)))<|?_
    refine Zv (Y.int Z Z Z)<|Zp h29<|Zv (Y.pick_f Z (beq_eq_false_iff_ne.2 (by first | (rw [ha1]; decide) | (rw [had W]; decide))) rfl)<|Zv (Y.pick_t Z h29 Z)<|Ze<|Zg<|Tr.cond_f rfl (decide_eq_false W)<|Zt<|Zc<|Zg<|Zr<|Zm Z<|Zv (Y.add Z Z W)<|Za Z<|Ze<|Ex.keep [0,0,0]<|?_
    exact ZR (⟨i1 + 1,y.2.2.2,y.1,y.2.1,y.2.2.1,ad⟩ : Nat × Vw × Cli × List Le × Sg × Int) ⟨hVle,hy3,hy1,by intro h; first | (exfalso; omega) | exact ha1 | exact had W,by omega⟩ (by dsimp only; omega)
   refine Zo h29 Z<|Zo h29 Z<|Zo h29 Z<|Zo h29 Z<|Zo h29 Z<|Run.off_u Z Z Z Z (lt Z)<|Run.off_u Z Z Z Z (lt Z)<|Zo h29 Z<|Zo h29 Z<|Run.off_u Z Z Z Z (lt Z)<|Run.off_u Z Z Z Z (lt Z)<|Run.off_u Z Z Z Z (lt Z)<|Run.off_u Z Z Z Z (lt Z)<|Zo h29 Z<|Zv (Y.pick_f Z h29 Z)<|Ze<|?_
   refine Zg<|Tr.cond_f Z Z<|Zt<|Zc<|Zg<|Zr<|Zm Z<|Zv (Y.add Z Z W)<|Za Z<|Ze<|Ex.keep [0,0,0]<|?_
   exact ZR (⟨i1 + 1,y.2.2.2,y.1,y.2.1,y.2.2.1,ad⟩ : Nat × Vw × Cli × List Le × Sg × Int) ⟨hVle,hy3,hy1,by intro h; first | (exfalso; omega) | exact ha1 | exact had W,by omega⟩ (by dsimp only; omega)
  refine Tr.cond_f Z h13<|Zx<|Zy<|Zy<|Zi<|Zg<|Zs<|Zr<|Za Z<|Ze<|Zg<|Zu<|Ex.keep []<|?_
  exact Ex.ret1 rfl rfl  rfl
 refine Run.keepTo (H' := [[(b5,.cells #[.int .u8 1,.int .u8 2] 5 (0,0))],[(b3,.cells #[.int .i64 0,.int .i64 lead,.int .i64 4,.int .u32 9,.int .i64 30,.int .i64 60,.int .i64 256,.float .f64 4602678819172646912,.float .f64 4591870180066957722,.float .f64 4602678819172646912,.float .f64 4606056518893174784,.slice (some ⟨b2,0,none⟩) 1 1,.int .i64 1000] 35 (0,0))]]) [0,0] Z ?_
 refine Run.show (fun V30 hleV30 hshV30 => ?_)
 have hna := (Ow.lit (e := 5) (k := 1) (b := b5) (n := 2) (cur := #[.int .u8 1,.int .u8 2]) rfl WD).shows _ hshV30
 replace hpo := hpo.le hleV30
 replace hVle := Vw.le_trans hVle hleV30
 have hnb : Rd V30 [] 1 (.slice (some ⟨b5,0,none⟩) 2 2) ([1,2] : List UInt8).length (([1,2] : List UInt8).map byteV) := hna
 refine Yc Z Z Z (new_c_hn (s := nm) hnb hf).frame<|Run.heapTo (H' := [[(b3,.cells #[.int .i64 0,.int .i64 lead,.int .i64 4,.int .u32 9,.int .i64 30,.int .i64 60,.int .i64 256,.float .f64 4602678819172646912,.float .f64 4591870180066957722,.float .f64 4602678819172646912,.float .f64 4606056518893174784,.slice (some ⟨b2,0,none⟩) 1 1,.int .i64 1000] 35 (0,0))]]) Z<|Zm Z<|Zv (Y.extract Z Z)<|Zv (Y.extract Z Z)<|?_
 refine Za Z<|Za Z<|Ze<|Zg<|Zs<|Zr<|Zv (Y.fieldAddr Z xfo35_11)<|Zv (Y.load Z xts33 (Kn.at 0 Z) Z)<|?_
 refine Yk [] Z Z Z (new_t (rs := [⟨1,6⟩]) hpo (Nat.le_of_ble_eq_true rfl) Eg.oks6) (fun v31 V31 H31 hle31 hR31 => ?_)
 rw [Eg.pool6] at hR31; dsimp only at hR31; rw [Eg.adr6] at hR31
 rcases hR31 with ⟨_,⟨hpn,_⟩ | ⟨_,tx,sb,rfl,hin,rfl⟩⟩
 · exact absurd rfl hpn
 replace hpo := hpo.le hle31
 replace hVle := Vw.le_trans hVle hle31
 refine Run.heapTo (H' := [[(b3,.cells #[.int .i64 0,.int .i64 lead,.int .i64 4,.int .u32 9,.int .i64 30,.int .i64 60,.int .i64 256,.float .f64 4602678819172646912,.float .f64 4591870180066957722,.float .f64 4602678819172646912,.float .f64 4606056518893174784,.slice (some ⟨b2,0,none⟩) 1 1,.int .i64 1000] 35 (0,0))],sb]) Z<|Run.heapTo (H' := [[(b3,.cells #[.int .i64 0,.int .i64 lead,.int .i64 4,.int .u32 9,.int .i64 30,.int .i64 60,.int .i64 256,.float .f64 4602678819172646912,.float .f64 4591870180066957722,.float .f64 4602678819172646912,.float .f64 4606056518893174784,.slice (some ⟨b2,0,none⟩) 1 1,.int .i64 1000] 35 (0,0))],sb]) Z<|?_
 refine Zm Z<|Zv (Y.extract Z Z)<|Zv (Y.extract Z Z)<|Za Z<|Za Z<|Ze<|Zg<|Zs<|Zs<|Zr<|Zm Z<|Zv (Y.not Z)<|Zm Z<|Zp Z<|Zm Z<|Zp Z<|?_
 refine Zv (Y.int (r := .bool true) Z Z Z)<|Zv (Y.pick_f Z Z Z)<|Zm Z<|Zo Z Z<|Zo Z Z<|Zv (Y.pick_t Z Z Z)<|Zm Z<|Zo Z Z<|Zo Z Z<|Zv (Y.pick_t Z Z Z)<|Zm Z<|Zo Z Z<|Zo Z Z<|Zv (Y.pick_t Z Z Z)<|Zm Z<|Zo Z Z<|?_
 refine Zo Z Z<|Zv (Y.pick_t Z Z Z)<|Zm Z<|Zo Z Z<|Zo Z Z<|Zv (Y.pick_t Z Z Z)<|Ze<|Zg<|Tr.cond_t Z Z<|Zs<|Zr<|Zm Z<|Za Z<|Ze<|Zg<|Zu<|?_
 refine Zn<|Ex.keep []<|?_
 exact Ex.ret1 rfl rfl  rfl
end Go.Proofs.YtfgblingojgafaaGreat
