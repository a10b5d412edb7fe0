/- The document's answers, walked.
Conditions: as each theorem names them. -/
import Derived.Test.YtfgblingojgafaaGreatFx
import Derived.Test.YtfgblingojgafaaGreatProg
import Derived.Test.YtfgblingojgafaaGreatEngine5
import Derived.Test.YtfgblingojgafaaGreatSA
import Derived.Test.YtfgblingojgafaaGreatRgrant
import Derived.Test.YtfgblingojgafaaGreatEngine4
set_option linter.unusedSimpArgs false
set_option linter.unusedVariables false
set_option maxRecDepth 4000
namespace Go.Proofs.YtfgblingojgafaaGreat
open Go Go.K
attribute [local irreducible] Code.wp wpList Calls wpQuiet
set_option maxHeartbeats 1000000 in
theorem rwith_c {V : Vw} {x : Si} {pv : Value} {r : Pc} {hv0 ov0 : Value} (hp : Pc.R V r hv0 ov0) (hol : r.os.length <= 100) {a t : Int} (ha : 0 <= a /\ a <= 4294967295) (ht : 0 <= t /\ t <= 4294967295)  : Does Tryz.prog 123 [.agg (x.cells pv),.agg (r.cells hv0 ov0),.int .u32 a,.int .i64 t] V [] (fun u V' H' => V.le V' /\ H' = [] /\ ∃ hv' ov',u = .agg ((({ r with yi := a,os := r.os ++ Eg.times x t } : Pc)).cells hv' ov') /\ Pc.R V' (({ r with yi := a,os := r.os ++ Eg.times x t } : Pc)) hv' ov') := by
 have h58 : 0 <= Fl.part t x.renew /\ Fl.part t x.renew <= 4294967295 := by have := Fl.part_range ht.1 x.renew; omega
 have h59 : 0 <= max (Fl.part t x.renew) (Fl.part t x.rebind) /\ max (Fl.part t x.renew) (Fl.part t x.rebind) <= 4294967295 := by have := Fl.part_range ht.1 x.rebind; omega
 obtain ⟨ph,ch,rfl,_⟩ := hp.hw.form
 obtain ⟨L,hLp,ho,hr⟩ := hp.os
 obtain ⟨po,co,rfl,_⟩ := ho.form
 have hlb : L.length <= 100 := by rw [<- hLp,List.length_map] at hol; exact hol
 rw [Opn.flat] at ho
 refine Does.intro Tryz.func123 rfl rfl (le rfl) (fun B => ?_)
 refine Zs<|Zr<|?_
 refine Run.box rfl (lt rfl) (fun b1 => ?_)
 refine Run.box rfl (lt rfl) (fun b2 => ?_)
 refine Run.alloc xzo28 (lt rfl) (fun b3 => ?_)
 refine Ze<|Zg<|Zs<|Zr<|Zm Z<|Zv (Y.fieldAddr Z xfo35_9)<|Zv (Y.load Z xts32 (Kn.at 2 Z) Z)<|Zv (Y.fieldAddr Z xfo35_10)<|Zv (Y.load Z xts32 (Kn.at 2 Z) Z)<|Yc Z Z Z ((rtms_c (n := t) (y := x.renew) (z := x.rebind)).frame)<|Zm Z<|Zv (Y.extract Z Z)<|Zv (Y.extract Z Z)<|Za Z<|Za Z<|Ze<|?_
 refine Zg<|Zs<|Zr<|Zm Z<|Zv (Y.fieldAddr Z xfo28_5)<|Run.store (s := [(b2,.cells #[.int .i64 r.op,.int .u32 r.xid,.int .i64 r.secs,.int .i64 r.flags,.int .u32 r.ci,.int .u32 a,.int .u32 r.si,.int .u32 r.gi,.slice ph r.hw.length ch,.slice po L.length co] 28 (0,0))]) Z Z xsz24 (i := 1) Z Z (le Z) Z Z<|Ze<|Zg<|Zs<|Zr<|?_
 refine Run.buildSlice0 xes26 (lt rfl) (fun b4 => ?_)
 refine Zv (Y.fieldAddr Z xfo28_9)<|Zv (Y.load Z xts26 (Kn.at 2 Z) Z)<|?_
 refine Run.append (n := 0) (m := L.length) (xs := []) (ys := L.flatMap Opn.cells) rfl rfl xes26 xzi81 WD (j := 0) rfl (Ow.lit (cur := #[]) rfl WD) (Src.of_rd xes26 ho.of_nil) W W (Opn.one_flat hr) (lt rfl) (fun v5 s6 ho7 hf => ?_)
 obtain ⟨p5,c5,rfl⟩ := hf
 refine Zm Z ?_
 refine Yk [] Z Z Z (rfour_c (n := t) ht) (fun v8 V2 H2 _ hR => ?_)
 obtain ⟨hV,s8,rfl,ho8⟩ := hR; replace hV := hV.symm; subst hV; obtain ⟨p8,c8,rfl⟩ := ho8.form
 refine Run.heapTo (H' := [s6,[(b3,.cells #[.int .i64 0,.int .u32 0,.int .i64 0,.int .i64 0,.int .u32 0,.int .u32 0,.int .u32 0,.int .u32 0,.slice none 0 0,.slice none 0 0] 28 (0,0))],[(b2,.cells #[.int .i64 r.op,.int .u32 r.xid,.int .i64 r.secs,.int .i64 r.flags,.int .u32 r.ci,.int .u32 a,.int .u32 r.si,.int .u32 r.gi,.slice ph r.hw.length ch,.slice po L.length co] 28 (0,0))],[(b1,.cells (Si.cells x pv) 35 (0,0))],s8]) Z ?_
 refine Zv (Y.buildS (l := [(0,.const (.int .i64 51)),(1,.tmp 27)]) xzo81 xpl81 Z Z)<|Zm Z<|?_
 refine Yk [] Z Z Z (rfour_c (n := Fl.part t x.renew) h58) (fun v9 V2 H2 _ hR => ?_)
 obtain ⟨hV,s9,rfl,ho9⟩ := hR; replace hV := hV.symm; subst hV; obtain ⟨p9,c9,rfl⟩ := ho9.form
 refine Run.heapTo (H' := [s6,[(b3,.cells #[.int .i64 0,.int .u32 0,.int .i64 0,.int .i64 0,.int .u32 0,.int .u32 0,.int .u32 0,.int .u32 0,.slice none 0 0,.slice none 0 0] 28 (0,0))],[(b2,.cells #[.int .i64 r.op,.int .u32 r.xid,.int .i64 r.secs,.int .i64 r.flags,.int .u32 r.ci,.int .u32 a,.int .u32 r.si,.int .u32 r.gi,.slice ph r.hw.length ch,.slice po L.length co] 28 (0,0))],[(b1,.cells (Si.cells x pv) 35 (0,0))],s8,s9]) Z ?_
 refine Zv (Y.buildS (l := [(0,.const (.int .i64 58)),(1,.tmp 30)]) xzo81 xpl81 Z Z)<|Zm Z<|?_
 refine Yk [] Z Z Z (rfour_c (n := max (Fl.part t x.renew) (Fl.part t x.rebind)) h59) (fun v10 V2 H2 _ hR => ?_)
 obtain ⟨hV,s10,rfl,ho10⟩ := hR; replace hV := hV.symm; subst hV; obtain ⟨p10,c10,rfl⟩ := ho10.form
 refine Run.heapTo (H' := [s6,[(b3,.cells #[.int .i64 0,.int .u32 0,.int .i64 0,.int .i64 0,.int .u32 0,.int .u32 0,.int .u32 0,.int .u32 0,.slice none 0 0,.slice none 0 0] 28 (0,0))],[(b2,.cells #[.int .i64 r.op,.int .u32 r.xid,.int .i64 r.secs,.int .i64 r.flags,.int .u32 r.ci,.int .u32 a,.int .u32 r.si,.int .u32 r.gi,.slice ph r.hw.length ch,.slice po L.length co] 28 (0,0))],[(b1,.cells (Si.cells x pv) 35 (0,0))],s8,s9,s10]) Z ?_
 refine Zv (Y.buildS (l := [(0,.const (.int .i64 59)),(1,.tmp 33)]) xzo81 xpl81 Z Z)<|Run.keepTo (H' := [s8,s6,[(b3,.cells #[.int .i64 0,.int .u32 0,.int .i64 0,.int .i64 0,.int .u32 0,.int .u32 0,.int .u32 0,.int .u32 0,.slice none 0 0,.slice none 0 0] 28 (0,0))],[(b2,.cells #[.int .i64 r.op,.int .u32 r.xid,.int .i64 r.secs,.int .i64 r.flags,.int .u32 r.ci,.int .u32 a,.int .u32 r.si,.int .u32 r.gi,.slice ph r.hw.length ch,.slice po L.length co] 28 (0,0))],[(b1,.cells (Si.cells x pv) 35 (0,0))],s9,s10]) [4,0,0,0,0,0,0] Z<|?_
 refine Run.show (fun V11 hleV11 hshV11 => ?_)
 have hdA := ho8.shows _ hshV11
 replace hp := hp.le hleV11
 replace ho := ho.le hleV11
 replace hr := hr.le hleV11
 have hVle := hleV11
 refine Run.keepTo (H' := [s9,s6,[(b3,.cells #[.int .i64 0,.int .u32 0,.int .i64 0,.int .i64 0,.int .u32 0,.int .u32 0,.int .u32 0,.int .u32 0,.slice none 0 0,.slice none 0 0] 28 (0,0))],[(b2,.cells #[.int .i64 r.op,.int .u32 r.xid,.int .i64 r.secs,.int .i64 r.flags,.int .u32 r.ci,.int .u32 a,.int .u32 r.si,.int .u32 r.gi,.slice ph r.hw.length ch,.slice po L.length co] 28 (0,0))],[(b1,.cells (Si.cells x pv) 35 (0,0))],s10]) [4,0,0,0,0,0] Z ?_
 refine Run.show (fun V12 hleV12 hshV12 => ?_)
 have hdB := ho9.shows _ hshV12
 replace hp := hp.le hleV12
 replace ho := ho.le hleV12
 replace hr := hr.le hleV12
 replace hdA := hdA.le hleV12
 replace hVle := Vw.le_trans hVle hleV12
 refine Run.keepTo (H' := [s10,s6,[(b3,.cells #[.int .i64 0,.int .u32 0,.int .i64 0,.int .i64 0,.int .u32 0,.int .u32 0,.int .u32 0,.int .u32 0,.slice none 0 0,.slice none 0 0] 28 (0,0))],[(b2,.cells #[.int .i64 r.op,.int .u32 r.xid,.int .i64 r.secs,.int .i64 r.flags,.int .u32 r.ci,.int .u32 a,.int .u32 r.si,.int .u32 r.gi,.slice ph r.hw.length ch,.slice po L.length co] 28 (0,0))],[(b1,.cells (Si.cells x pv) 35 (0,0))]]) [4,0,0,0,0] Z ?_
 refine Run.show (fun V13 hleV13 hshV13 => ?_)
 have hdC := ho10.shows _ hshV13
 replace hp := hp.le hleV13
 replace ho := ho.le hleV13
 replace hr := hr.le hleV13
 replace hdA := hdA.le hleV13
 replace hdB := hdB.le hleV13
 replace hVle := Vw.le_trans hVle hleV13
 refine Run.buildSlice (l := [(0,.tmp 28),(1,.tmp 31),(2,.tmp 34)]) (r := [.int .i64 51,.slice p8 4 c8,.int .i64 58,.slice p9 4 c9,.int .i64 59,.slice p10 4 c10]) xes26 xzo81 rfl WD rfl rfl WD (lt rfl) (fun b14 => ?_)
 refine Run.append (n := 0 + L.length) (m := 3) (xs := [] ++ (L.flatMap Opn.cells)) (ys := [.int .i64 51,.slice p8 4 c8,.int .i64 58,.slice p9 4 c9,.int .i64 59,.slice p10 4 c10]) rfl rfl xes26 xzi81 WD (j := 1) rfl ho7 (Src.of_rd xes26 (Rd.one (Kn.at 0 rfl) rfl)) W W rfl (lt rfl) (fun v15 s16 ho17 hf => ?_)
 obtain ⟨p15,c15,rfl⟩ := hf
 refine Zv (Y.fieldAddr Z xfo28_9)<|Run.store (s := [(b2,.cells #[.int .i64 r.op,.int .u32 r.xid,.int .i64 r.secs,.int .i64 r.flags,.int .u32 r.ci,.int .u32 a,.int .u32 r.si,.int .u32 r.gi,.slice ph r.hw.length ch,.slice p15 (0 + L.length + 3) c15] 28 (0,0))]) Z Z xsz26 (i := 3) Z Z (le Z) Z Z<|Ze<|Zg<|Zs<|Zr<|Zv (Y.loadAgg Z xag28 (Kn.at 3 Z) Z)<|Run.store (s := [(b3,.cells #[.int .i64 r.op,.int .u32 r.xid,.int .i64 r.secs,.int .i64 r.flags,.int .u32 r.ci,.int .u32 a,.int .u32 r.si,.int .u32 r.gi,.slice ph r.hw.length ch,.slice p15 (0 + L.length + 3) c15] 28 (0,0))]) Z Z xsz28 (i := 2) Z Z (le Z) Z Z<|?_
 refine Ze<|Zg<|Zu<|Ex.keepTo (H' := [s16,[(b14,.cells #[.int .i64 51,.slice p8 4 c8,.int .i64 58,.slice p9 4 c9,.int .i64 59,.slice p10 4 c10] 81 (0,0))],[(b3,.cells #[.int .i64 r.op,.int .u32 r.xid,.int .i64 r.secs,.int .i64 r.flags,.int .u32 r.ci,.int .u32 a,.int .u32 r.si,.int .u32 r.gi,.slice ph r.hw.length ch,.slice p15 (0 + L.length + 3) c15] 28 (0,0))],[(b2,.cells #[.int .i64 r.op,.int .u32 r.xid,.int .i64 r.secs,.int .i64 r.flags,.int .u32 r.ci,.int .u32 a,.int .u32 r.si,.int .u32 r.gi,.slice ph r.hw.length ch,.slice p15 (0 + L.length + 3) c15] 28 (0,0))],[(b1,.cells (Si.cells x pv) 35 (0,0))]]) [1,0,0,0,0] Z<|?_
 refine Ex.show (fun V18 hleV18 hshV18 => ?_)
 have hso := ho17.shows _ hshV18
 replace hp := hp.le hleV18
 replace ho := ho.le hleV18
 replace hr := hr.le hleV18
 replace hdA := hdA.le hleV18
 replace hdB := hdB.le hleV18
 replace hdC := hdC.le hleV18
 replace hVle := Vw.le_trans hVle hleV18
 exact Ex.retCell [] rfl rfl xag28 (Kn.at 1 rfl) rfl ⟨hVle,rfl,.slice ph r.hw.length ch,.slice p15 (0 + L.length + 3) c15,rfl,hp.hw,⟨L ++ [(⟨51,.slice p8 4 c8,Msg.be 4 t⟩ : Opn),⟨58,.slice p9 4 c9,Msg.be 4 (Fl.part t x.renew)⟩,⟨59,.slice p10 4 c10,Msg.be 4 (max (Fl.part t x.renew) (Fl.part t x.rebind))⟩],by rw [List.map_append,hLp]; rfl,by rw [Opn.flat,List.flatMap_append,List.length_append,show L.length + ([(⟨51,.slice p8 4 c8,Msg.be 4 t⟩ : Opn),⟨58,.slice p9 4 c9,Msg.be 4 (Fl.part t x.renew)⟩,⟨59,.slice p10 4 c10,Msg.be 4 (max (Fl.part t x.renew) (Fl.part t x.rebind))⟩]).length = 0 + L.length + 3 from (show L.length + 3 = 0 + L.length + 3 by omega)]; exact hso,Opn.Rds.add hr (fun o ho9 => by simp only [List.mem_cons,List.mem_nil_iff,or_false] at ho9; rcases ho9 with rfl | rfl | rfl; exact Opn.be4 hdA; exact Opn.be4 hdB; exact Opn.be4 hdC)⟩,hp.xid,ha,hp.si⟩
theorem rpick_c {V : Vw} {q : Eg.Qy} {pv : Value} {rx : Nat} {pl : Option Addr} {cl : Nat} {ql : Sg} (hl : Ow 43 8 (.slice pl q.l.length cl) q.l.length (q.l.flatMap Le.cells) ql) (hlm : q.l.length <= 256)  : Does Tryz.prog 121 [.agg (Si.cells q.x pv),(pZ rx),.int .i64 q.state,.int .i64 q.now,.int .i64 q.entry,.string q.client,.int .u32 q.addr] V [[(rx,.cells #[.slice pl q.l.length cl] 128 (0,0))],ql] (Pv (.tuple #[.agg q.pick.1.cells.toArray,.bool q.pick.2]) V [[(rx,.cells #[.slice pl q.l.length cl] 128 (0,0))],ql]) := by
 refine Does.intro Tryz.func121 rfl rfl (le rfl) (fun B => ?_)
 refine Zs<|Zr<|?_
 refine Run.box rfl (lt rfl) (fun b1 => ?_)
 refine Run.alloc xzo43 (lt rfl) (fun b2 => ?_)
 refine Za Z<|Ze<|Zg<|Zs<|Zs<|Zr<|Za Z<|Ze<|Zg<|Zb<|?_
 refine ZL (X := Nat) (fun z0 => V) (fun z0 => [[(b2,.cells le0 43 (0,0))],[(b1,.cells (Si.cells q.x pv) 35 (0,0))],[(rx,.cells #[.slice pl q.l.length cl] 128 (0,0))],ql]) (fun z0 => [(1,(pZ rx)),(2,.int .i64 q.state),(3,.int .i64 q.now),(4,.int .i64 q.entry),(5,.string q.client),(6,.int .u32 q.addr),(7,(pZ b1)),(14,(pZ b2)),(15,.bool false),(16,.int .i64 (z0 : Int))]) (fun z0 => z0 <= q.l.length /\ ∀ j,j < z0 -> q.th (q.l.getD j Le.dflt) = false) (fun z0 => q.l.length - z0) (0 : Nat) ⟨Nat.zero_le _,fun j hj => absurd hj (Nat.not_lt_zero j)⟩ ?_
 rintro i1 ⟨hi,hno⟩
 refine Zs<|Zs<|Zr<|Zm Z<|Zm Z<|Zv (Y.nilCheck Z)<|Zv (Y.fieldAddr Z xfo128_0)<|Zv (Y.load Z xts22 (Kn.at 2 Z) Z)<|Zv (Y.lenSl Z xes22)<|Zv (Y.int Z Z Z)<|Ze<|Zg<|?_
 refine Zq (decide ((i1 : Int) < ((q.l.length : Nat) : Int))) (fun h3 g3 => ?_) fun h3 g3 => ?_
 ·refine Tr.cond_t Z h3<|Zt<|Zg<|Zs<|Zb<|Zs<|Zr<|Zm Z<|Zv (Y.nilCheck Z)<|Zv (Y.fieldAddr Z xfo128_0)<|Zv (Y.load Z xts22 (Kn.at 2 Z) Z)<|Zm Z<|Zv (Y.idxR i1 Z Z xes22 (hl.rd 3 rfl) W W)<|Zv (Y.ldRA (vs := Le.cells (q.l.getD i1 Le.dflt)) rfl xag43 (hl.rd 3 rfl) rfl WD (fun o ho => flatm_atA Le.len W Le.dflt o ho))<|?_
  refine Zm Z<|Yc Z Z Z ((rtheirs_c (l := (q.l.getD i1 Le.dflt)) (c := q.client)).frame)<|Ze<|Zg<|?_
  refine Zq (q.th (q.l.getD i1 Le.dflt)) (fun h4 g4 => ?_) fun h4 g4 => ?_
  ·refine Tr.cond_t Z h4<|Zs<|Zr<|Zm Z<|Zv (Y.nilCheck Z)<|Zv (Y.fieldAddr Z xfo128_0)<|Zv (Y.load Z xts22 (Kn.at 2 Z) Z)<|Zm Z<|Zv (Y.idxR i1 Z Z xes22 (hl.rd 3 rfl) W W)<|Zv (Y.ldRA (vs := Le.cells (q.l.getD i1 Le.dflt)) rfl xag43 (hl.rd 3 rfl) rfl WD (fun o ho => flatm_atA Le.len W Le.dflt o ho))<|?_
   refine Run.store (s := [(b2,.cells ((Le.cells (q.l.getD i1 Le.dflt)).toArray) 43 (0,0))]) Z Z xsz43 (i := 0) Z Z (le Z) Z Z ?_
   refine Za Z<|Ze<|Zg<|Zu<|Zk<|Zn<|Zn<|Zk<|Zn<|?_
   exact Ex.retCell2 [2,2] rfl rfl rfl xag43 (Kn.at 0 rfl) rfl ⟨by rw [Eg.pick_1 (Eg.fst_at hno W h4)]; rfl,rfl,rfl⟩
  refine Tr.cond_f Z h4<|Zt<|Zc<|Zg<|Zr<|Zm Z<|Zv (Y.add Z Z W)<|Za Z<|Ze<|?_
  exact ZR (i1 + 1 : Nat) ⟨by omega,upto_succ hno h4⟩ W
 refine Tr.cond_f Z h3<|Zx<|Zy<|Zy<|Zi<|Zg<|Zs<|Zr<|Zv (Y.loadAgg Z xag35 (Kn.at 1 Z) Z)<|Yc Z Z Z ((rrules_c (x := q.x)).frame)<|?_
 refine Run.alloc xzo162 (lt rfl) (fun b5 => ?_)
 refine Run.store (s := [(b5,.cells #[.int .i64 q.x.rules.id,.int .i64 q.x.rules.lead,.int .i64 q.x.rules.guard] 162 (0,0))]) Z Z xsz162 (i := 0) Z Z (le Z) Z Z<|Ze<|Zg<|Zs<|Zr<|Zm Z<|Zm Z<|Yc Z Z Z ((rget_c (a := q.addr) hl hlm).frameP (pull_perm [3,3] [[(b5,.cells #[.int .i64 q.x.rules.id,.int .i64 q.x.rules.lead,.int .i64 q.x.rules.guard] 162 (0,0))],[(b2,.cells le0 43 (0,0))],[(b1,.cells (Si.cells q.x pv) 35 (0,0))],[(rx,.cells #[.slice pl q.l.length cl] 128 (0,0))],ql]))<|?_
 refine Zm Z<|Zv (Y.extract Z Z)<|Zv (Y.extract Z Z)<|?_
 refine Run.alloc xzo43 (lt rfl) (fun b6 => ?_)
 refine Run.store (s := [(b6,.cells ((Le.cells ((Le.getE q.l q.addr).1)).toArray) 43 (0,0))]) Z Z xsz43 (i := 0) Z Z (le Z) Z Z ?_
 refine Za Z<|Ze<|Zg<|Zs<|Zs<|Zr<|Zm Z<|Zv (Y.int Z Z Z)<|Zm Z<|?_
 refine Zq (((Le.getE q.l q.addr).2) == 0) (fun h7 g7 => ?_) fun h7 g7 => ?_
 ·refine Zp h7<|Zv (Y.loadAgg Z xag162 (Kn.at 1 Z) Z)<|Zp h7<|Zv (Y.loadAgg Z xag43 (Kn.at 0 Z) Z)<|Zp h7<|Zm Z<|Zp h7<|Zm Z<|Zp h7<|Zm Z<|Zp h7<|Yc Z Z Z ((rmay_c (r := q.x.rules) (l := (Le.getE q.l q.addr).1) (state := q.state) (now := q.now) (entry := q.entry)).frame)<|Zv (Y.pick_t Z h7 Z)<|Ze<|Zg<|?_
  refine Zq (q.may ((Le.getE q.l q.addr).1)) (fun h8 g8 => ?_) fun h8 g8 => ?_
  ·refine Tr.cond_t Z h8<|Zs<|Zr<|Zv (Y.loadAgg Z xag43 (Kn.at 0 Z) Z)<|Run.store (s := [(b2,.cells ((Le.cells ((Le.getE q.l q.addr).1)).toArray) 43 (0,0))]) Z Z xsz43 (i := 2) Z Z (le Z) Z Z<|?_
   refine Za Z<|Ze<|Zg<|Zu<|Zn<|?_
   exact Ex.retCell2 [4,4] rfl rfl rfl xag43 (Kn.at 2 rfl) rfl ⟨by rw [Eg.pick_2 (Eg.fst_no (q := q.th) (l := q.l) fun j hj => hno j W) h7 h8]; rfl,rfl,rfl⟩
  refine Tr.cond_f Z h8<|Zt<|Zg<|Zs<|Zs<|Zr<|Za Z<|Ze<|Zg<|Zb<|?_
  refine ZL (X := Nat) (fun z0 => V) (fun z0 => [[(b6,.cells ((Le.cells ((Le.getE q.l q.addr).1)).toArray) 43 (0,0))],[(b5,.cells #[.int .i64 q.x.rules.id,.int .i64 q.x.rules.lead,.int .i64 q.x.rules.guard] 162 (0,0))],[(b2,.cells le0 43 (0,0))],[(b1,.cells (Si.cells q.x pv) 35 (0,0))],[(rx,.cells #[.slice pl q.l.length cl] 128 (0,0))],ql]) (fun z0 => [(1,(pZ rx)),(2,.int .i64 q.state),(3,.int .i64 q.now),(4,.int .i64 q.entry),(14,(pZ b2)),(15,.bool false),(17,(pZ b5)),(20,.int .i64 (z0 : Int))]) (fun z0 => z0 <= q.l.length /\ ∀ j,j < z0 -> q.may (q.l.getD j Le.dflt) = false) (fun z0 => q.l.length - z0) (0 : Nat) ⟨Nat.zero_le _,fun j hj => absurd hj (Nat.not_lt_zero j)⟩ ?_
  rintro i2 ⟨hi2,hno2⟩
  refine Zs<|Zs<|Zr<|Zm Z<|Zm Z<|Zv (Y.nilCheck Z)<|Zv (Y.fieldAddr Z xfo128_0)<|Zv (Y.load Z xts22 (Kn.at 4 Z) Z)<|Zv (Y.lenSl Z xes22)<|Zv (Y.int Z Z Z)<|Ze<|Zg<|?_
  refine Zq (decide ((i2 : Int) < ((q.l.length : Nat) : Int))) (fun h9 g9 => ?_) fun h9 g9 => ?_
  ·refine Tr.cond_t Z h9<|Zt<|Zg<|Zs<|Zb<|Zs<|Tr.quiet xmo WK<|ZV (Y.loadAgg Z xag162 (Kn.at 1 Z) Z)<|ZM Z<|ZV (Y.nilCheck Z)<|ZV (Y.fieldAddr Z xfo128_0)<|ZV (Y.load Z xts22 (Kn.at 4 Z) Z)<|ZM Z<|ZV (Y.idxR i2 Z Z xes22 (hl.rd 5 rfl) W W)<|ZV (Y.ldRA (vs := Le.cells (q.l.getD i2 Le.dflt)) rfl xag43 (hl.rd 5 rfl) rfl WD (fun o ho => flatm_atA Le.len W Le.dflt o ho))<|?_
   refine ZM Z<|ZM Z<|ZM Z<|YC Z Z Z ((rmay_c (r := q.x.rules) (l := (q.l.getD i2 Le.dflt)) (state := q.state) (now := q.now) (entry := q.entry)).frame)<|ZE<|Zg<|?_
   refine Zq (q.may (q.l.getD i2 Le.dflt)) (fun h10 g10 => ?_) fun h10 g10 => ?_
   ·refine Tr.cond_t Z h10<|Zs<|Zr<|Zm Z<|Zv (Y.nilCheck Z)<|Zv (Y.fieldAddr Z xfo128_0)<|Zv (Y.load Z xts22 (Kn.at 4 Z) Z)<|Zm Z<|Zv (Y.idxR i2 Z Z xes22 (hl.rd 5 rfl) W W)<|Zv (Y.ldRA (vs := Le.cells (q.l.getD i2 Le.dflt)) rfl xag43 (hl.rd 5 rfl) rfl WD (fun o ho => flatm_atA Le.len W Le.dflt o ho))<|?_
    refine Run.store (s := [(b2,.cells ((Le.cells (q.l.getD i2 Le.dflt)).toArray) 43 (0,0))]) Z Z xsz43 (i := 2) Z Z (le Z) Z Z ?_
    refine Za Z<|Ze<|Zg<|Zu<|Zk<|Zn<|Zn<|Zk<|Zn<|?_
    exact Ex.retCell2 [4,4] rfl rfl rfl xag43 (Kn.at 2 rfl) rfl ⟨by rw [Eg.pick_3 (Eg.fst_no (q := q.th) (l := q.l) fun j hj => hno j W) (.inr h8) (Eg.fst_at hno2 W h10)]; rfl,rfl,rfl⟩
   refine Tr.cond_f Z h10<|Zt<|Zc<|Zg<|Zr<|Zm Z<|Zv (Y.add Z Z W)<|Za Z<|Ze<|?_
   exact ZR (i2 + 1 : Nat) ⟨by omega,upto_succ hno2 h10⟩ W
  refine Tr.cond_f Z h9<|Zx<|Zy<|Zy<|Zi<|Zg<|Zs<|Zr<|Zv (Y.buildS (l := []) xzo43 xpl43 Z Z)<|Run.store (s := [(b2,.cells le0 43 (0,0))]) Z Z xsz43 (i := 2) Z Z (le Z) Z Z<|Za Z<|Ze<|Zg<|Zu<|?_
  exact Ex.retCell2 [4,4] rfl rfl rfl xag43 (Kn.at 2 rfl) rfl ⟨by rw [Eg.pick_3 (Eg.fst_no (q := q.th) (l := q.l) fun j hj => hno j W) (.inr h8) (Eg.fst_no fun j hj => hno2 j W)]; rfl,rfl,rfl⟩
 refine Zo h7 Z<|Zo h7 Z<|Zo h7 Z<|Zo h7 Z<|Zo h7 Z<|Zo h7 Z<|Zv (Y.pick_f Z h7 Z)<|Ze<|Zg<|Tr.cond_f Z Z<|Zt<|Zg<|Zs<|Zs<|Zr<|Za Z<|?_
 refine Ze<|Zg<|Zb<|?_
 refine ZL (X := Nat) (fun z0 => V) (fun z0 => [[(b6,.cells ((Le.cells ((Le.getE q.l q.addr).1)).toArray) 43 (0,0))],[(b5,.cells #[.int .i64 q.x.rules.id,.int .i64 q.x.rules.lead,.int .i64 q.x.rules.guard] 162 (0,0))],[(b2,.cells le0 43 (0,0))],[(b1,.cells (Si.cells q.x pv) 35 (0,0))],[(rx,.cells #[.slice pl q.l.length cl] 128 (0,0))],ql]) (fun z0 => [(1,(pZ rx)),(2,.int .i64 q.state),(3,.int .i64 q.now),(4,.int .i64 q.entry),(14,(pZ b2)),(15,.bool false),(17,(pZ b5)),(20,.int .i64 (z0 : Int))]) (fun z0 => z0 <= q.l.length /\ ∀ j,j < z0 -> q.may (q.l.getD j Le.dflt) = false) (fun z0 => q.l.length - z0) (0 : Nat) ⟨Nat.zero_le _,fun j hj => absurd hj (Nat.not_lt_zero j)⟩ ?_
 rintro i2 ⟨hi2,hno2⟩
 refine Zs<|Zs<|Zr<|Zm Z<|Zm Z<|Zv (Y.nilCheck Z)<|Zv (Y.fieldAddr Z xfo128_0)<|Zv (Y.load Z xts22 (Kn.at 4 Z) Z)<|Zv (Y.lenSl Z xes22)<|Zv (Y.int Z Z Z)<|Ze<|Zg<|?_
 refine Zq (decide ((i2 : Int) < ((q.l.length : Nat) : Int))) (fun h11 g11 => ?_) fun h11 g11 => ?_
 ·refine Tr.cond_t Z h11<|Zt<|Zg<|Zs<|Zb<|Zs<|Tr.quiet xmo WK<|ZV (Y.loadAgg Z xag162 (Kn.at 1 Z) Z)<|ZM Z<|ZV (Y.nilCheck Z)<|ZV (Y.fieldAddr Z xfo128_0)<|ZV (Y.load Z xts22 (Kn.at 4 Z) Z)<|ZM Z<|ZV (Y.idxR i2 Z Z xes22 (hl.rd 5 rfl) W W)<|ZV (Y.ldRA (vs := Le.cells (q.l.getD i2 Le.dflt)) rfl xag43 (hl.rd 5 rfl) rfl WD (fun o ho => flatm_atA Le.len W Le.dflt o ho))<|?_
  refine ZM Z<|ZM Z<|ZM Z<|YC Z Z Z ((rmay_c (r := q.x.rules) (l := (q.l.getD i2 Le.dflt)) (state := q.state) (now := q.now) (entry := q.entry)).frame)<|ZE<|Zg<|?_
  refine Zq (q.may (q.l.getD i2 Le.dflt)) (fun h12 g12 => ?_) fun h12 g12 => ?_
  ·refine Tr.cond_t Z h12<|Zs<|Zr<|Zm Z<|Zv (Y.nilCheck Z)<|Zv (Y.fieldAddr Z xfo128_0)<|Zv (Y.load Z xts22 (Kn.at 4 Z) Z)<|Zm Z<|Zv (Y.idxR i2 Z Z xes22 (hl.rd 5 rfl) W W)<|Zv (Y.ldRA (vs := Le.cells (q.l.getD i2 Le.dflt)) rfl xag43 (hl.rd 5 rfl) rfl WD (fun o ho => flatm_atA Le.len W Le.dflt o ho))<|?_
   refine Run.store (s := [(b2,.cells ((Le.cells (q.l.getD i2 Le.dflt)).toArray) 43 (0,0))]) Z Z xsz43 (i := 2) Z Z (le Z) Z Z ?_
   refine Za Z<|Ze<|Zg<|Zu<|Zk<|Zn<|Zn<|Zk<|Zn<|?_
   exact Ex.retCell2 [4,4] rfl rfl rfl xag43 (Kn.at 2 rfl) rfl ⟨by rw [Eg.pick_3 (Eg.fst_no (q := q.th) (l := q.l) fun j hj => hno j W) (.inl h7) (Eg.fst_at hno2 W h12)]; rfl,rfl,rfl⟩
  refine Tr.cond_f Z h12<|Zt<|Zc<|Zg<|Zr<|Zm Z<|Zv (Y.add Z Z W)<|Za Z<|Ze<|?_
  exact ZR (i2 + 1 : Nat) ⟨by omega,upto_succ hno2 h12⟩ W
 refine Tr.cond_f Z h11<|Zx<|Zy<|Zy<|Zi<|Zg<|Zs<|Zr<|Zv (Y.buildS (l := []) xzo43 xpl43 Z Z)<|Run.store (s := [(b2,.cells le0 43 (0,0))]) Z Z xsz43 (i := 2) Z Z (le Z) Z Z<|Za Z<|Ze<|Zg<|Zu<|?_
 exact Ex.retCell2 [4,4] rfl rfl rfl xag43 (Kn.at 2 rfl) rfl ⟨by rw [Eg.pick_3 (Eg.fst_no (q := q.th) (l := q.l) fun j hj => hno j W) (.inl h7) (Eg.fst_no fun j hj => hno2 j W)]; rfl,rfl,rfl⟩
set_option maxHeartbeats 2000000 in
theorem roffer_c {V : Vw} {x : Si} {pv : Value} {p : Pc} {hv0 ov0 : Value} (hp : Pc.R V p hv0 ov0) (hfew : p.few = true) (hci : 0 <= p.ci /\ p.ci <= 4294967295) (hsv : 0 <= x.server /\ x.server <= 4294967295) {state now entry : Int} {l : List Le} {rx : Nat} {pl : Option Addr} {cl : Nat} {ql : Sg} (hl : Ow 43 8 (.slice pl l.length cl) l.length (l.flatMap Le.cells) ql) (hlm : l.length <= 256) (hla : ∀ y,y ∈ l -> 0 <= y.addr /\ y.addr <= 4294967295)  : Does Tryz.prog 61 [.agg (x.cells pv),(pZ rx),.int .i64 state,.int .i64 now,.int .i64 entry,.agg (p.cells hv0 ov0)] V [[(rx,.cells #[.slice pl l.length cl] 128 (0,0))],ql] (fun u V' H' => V.le V' /\ H' = [[(rx,.cells #[.slice pl l.length cl] 128 (0,0))],ql] /\ ∃ hv' ov',u = .agg ((Eg.Qy.discover (Eg.qy x l state now entry p)).cells hv' ov') /\ Pc.R V' (Eg.Qy.discover (Eg.qy x l state now entry p)).reply hv' ov') := by
 obtain ⟨⟨ph,ch,rfl⟩,po9,no9,co9,rfl⟩ := hp.forms
 have hVle : V.le V := Vw.le_refl V
 refine Does.intro Tryz.func61 rfl rfl (le rfl) (fun B => ?_)
 refine Zs<|Zr<|?_
 refine Run.box rfl (lt rfl) (fun b1 => ?_)
 refine Run.box rfl (lt rfl) (fun b2 => ?_)
 refine Run.alloc xzo45 (lt rfl) (fun b3 => ?_)
 refine Ze<|Zg<|Zs<|Zr<|Zv (Y.loadAgg Z xag28 (Kn.at 1 Z) Z)<|Yc Z Z Z (client_h hp hfew)<|Za Z<|Ze<|Zg<|Zs<|?_
 refine Tr.cut V [[(b3,.cells an0 45 (0,0))],[(b2,.cells (Pc.cells p (.slice ph p.hw.length ch) (.slice po9 no9 co9)) 28 (0,0))],[(b1,.cells (Si.cells x pv) 35 (0,0))],[(rx,.cells #[.slice pl l.length cl] 128 (0,0))],ql] [(1,(pZ rx)),(2,.int .i64 state),(3,.int .i64 now),(4,.int .i64 entry),(6,(pZ b1)),(11,(pZ b2)),(12,(pZ b3)),(13,.string p.client),(28,.bool (Eg.Qy.shut (Eg.qy x l state now entry p)))] ?_ ?_
 ·refine Zr<|Zm Z<|Zv (Y.int Z Z Z)<|Zm Z<|?_
  refine Zq (state == 1) (fun h4 g4 => ?_) fun h4 g4 => ?_
  ·refine Zp h4<|Zv (Y.loadAgg Z xag35 (Kn.at 2 Z) Z)<|Zp h4<|Zm Z<|Zp h4<|Yc Z Z Z ((rmine_c (x := x) (pv := pv) (c := p.client) (Eg.client_sz hfew)).frame)<|Zp h4<|Zv (Y.not Z)<|Zv (Y.pick_t Z h4 Z)<|Ze<|?_
   have hshu : (!(Eg.mine x p.client)) = Eg.Qy.shut (Eg.qy x l state now entry p) := by show _ = ((state == 1) && !Eg.mine x p.client); rw [h4] <;> rfl
   exact Ex.cut rfl (by repeat (first | exact subB_nil _ | refine subB_cons (by first | rfl | exact congrArg (fun z => some (Value.int _ z)) W | exact congrArg (fun z => some (Value.bool z)) hshu) ?_))
  refine Zo h4 Z<|Zo h4 Z<|Zo h4 Z<|Zo h4 Z<|Zv (Y.pick_f Z h4 Z)<|Ze<|?_
  have hshu : (false) = Eg.Qy.shut (Eg.qy x l state now entry p) := by show _ = ((state == 1) && !Eg.mine x p.client); rw [h4] <;> rfl
  exact Ex.cut rfl (by repeat (first | exact subB_nil _ | refine subB_cons (by first | rfl | exact congrArg (fun z => some (Value.int _ z)) W | exact congrArg (fun z => some (Value.bool z)) hshu) ?_))
 refine Zq (Eg.Qy.shut (Eg.qy x l state now entry p)) (fun h5 g5 => ?_) fun h5 g5 => ?_
 ·refine Tr.cond_t Z h5<|Zs<|Zr<|Zv (Y.buildS (l := []) (r := (an0).toList) xzo45 xpl45 Z Z)<|Run.stAll (l2 := (an0).toList) (j := 0) Z Z xsz45 Z Z Z Z<|?_
  refine Run.heapTo (H' := [[(b3,.cells an0 45 (0,0))],[(b2,.cells (Pc.cells p (.slice ph p.hw.length ch) (.slice po9 no9 co9)) 28 (0,0))],[(b1,.cells (Si.cells x pv) 35 (0,0))],[(rx,.cells #[.slice pl l.length cl] 128 (0,0))],ql]) Z ?_
  refine Ze<|Zg<|Zu<|Zn<|?_
  exact Ex.retCell [3,3] rfl rfl xag45 (Kn.at 0 rfl) rfl ⟨hVle,rfl,.slice none 0 0,.slice none 0 0,by rw [Eg.shut_t (q := (Eg.qy x l state now entry p)) h5]; rfl,by rw [Eg.shut_t (q := (Eg.qy x l state now entry p)) h5]; exact Pc.zero_R _⟩
 refine Tr.cond_f Z h5<|Zt<|Zg<|Zs<|Zr<|Zv (Y.loadAgg Z xag35 (Kn.at 2 Z) Z)<|Zv (Y.loadAgg Z xag28 (Kn.at 1 Z) Z)<|Yc Z Z Z ((rasked20_c (x := x) (pv := pv) hp hfew).frame)<|Zm Z<|Zv (Y.extract Z Z)<|Zv (Y.extract Z Z)<|Za Z<|Za Z<|Ze<|Zg<|Zs<|?_
 refine Zr<|Zv (Y.loadAgg Z xag35 (Kn.at 2 Z) Z)<|Zm Z<|Zm Z<|Zm Z<|Zm Z<|Zm Z<|Zm Z<|Yc Z Z Z ((rpick_c (q := (Eg.qy x l state now entry p)) (pv := pv) hl hlm).frameP (pull_perm [3,3] [[(b3,.cells an0 45 (0,0))],[(b2,.cells (Pc.cells p (.slice ph p.hw.length ch) (.slice po9 no9 co9)) 28 (0,0))],[(b1,.cells (Si.cells x pv) 35 (0,0))],[(rx,.cells #[.slice pl l.length cl] 128 (0,0))],ql]))<|?_
 refine Zm Z<|Zv (Y.extract Z Z)<|Zv (Y.extract Z Z)<|?_
 refine Run.alloc xzo43 (lt rfl) (fun b6 => ?_)
 refine Run.store (s := [(b6,.cells ((Le.cells ((Eg.Qy.pick (Eg.qy x l state now entry p)).1)).toArray) 43 (0,0))]) Z Z xsz43 (i := 0) Z Z (le Z) Z Z ?_
 refine Za Z<|Ze<|Zg<|Zs<|Zr<|Zv (Y.loadAgg Z xag35 (Kn.at 3 Z) Z)<|Zv (Y.loadAgg Z xag43 (Kn.at 0 Z) Z)<|Zm Z<|Zm Z<|Zm Z<|Yc Z Z Z ((rtime20_c (x := x) (pv := pv) (l := (Eg.Qy.pick (Eg.qy x l state now entry p)).1) (c := p.client) (now := now) (want := min (if p.asks = 0 then x.want else p.asks) x.most)).frame)<|Za Z<|Ze<|Zg<|Zs<|Zs<|?_
 refine Zr<|Zm Z<|Zv (Y.not Z)<|Zm Z<|?_
 refine Zq ((Eg.Qy.pick (Eg.qy x l state now entry p)).2) (fun h7 g7 => ?_) fun h7 g7 => ?_
 ·refine Zp (congrArg Bool.not h7)<|Zm Z<|Zp (congrArg Bool.not h7)<|Zv (Y.int Z Z Z)<|Zv (Y.pick_f Z (congrArg Bool.not h7) Z)<|Ze<|Zg<|?_
  refine Zq (decide ((Eg.Qy.tm (Eg.qy x l state now entry p) ((Eg.Qy.pick (Eg.qy x l state now entry p)).1)) < 1)) (fun h8 g8 => ?_) fun h8 g8 => ?_
  ·refine Tr.cond_t Z h8<|Zs<|Zr<|Zv (Y.buildS (l := []) (r := (an0).toList) xzo45 xpl45 Z Z)<|Run.stAll (l2 := (an0).toList) (j := 1) Z Z xsz45 Z Z Z Z<|?_
   refine Run.heapTo (H' := [[(b6,.cells ((Le.cells ((Eg.Qy.pick (Eg.qy x l state now entry p)).1)).toArray) 43 (0,0))],[(b3,.cells an0 45 (0,0))],[(b2,.cells (Pc.cells p (.slice ph p.hw.length ch) (.slice po9 no9 co9)) 28 (0,0))],[(b1,.cells (Si.cells x pv) 35 (0,0))],[(rx,.cells #[.slice pl l.length cl] 128 (0,0))],ql]) Z ?_
   refine Ze<|Zg<|Zu<|Zn<|?_
   exact Ex.retCell [4,4] rfl rfl xag45 (Kn.at 1 rfl) rfl ⟨hVle,rfl,.slice none 0 0,.slice none 0 0,by rw [((Eg.disc_of (q := (Eg.qy x l state now entry p)) (Eg.shut_f (q := (Eg.qy x l state now entry p)) h5)).trans (if_pos h7)).trans (Eg.offer_no (of_decide_eq_true h8))]; rfl,by rw [((Eg.disc_of (q := (Eg.qy x l state now entry p)) (Eg.shut_f (q := (Eg.qy x l state now entry p)) h5)).trans (if_pos h7)).trans (Eg.offer_no (of_decide_eq_true h8))]; exact Pc.zero_R _⟩
  refine Tr.cond_f Z h8<|Zt<|Zg<|Zs<|Tr.anyD [(b2,.cells (Pc.cells p (.slice ph p.hw.length ch) (.slice po9 no9 co9)) 28 (0,0)),(b1,.cells (Si.cells x pv) 35 (0,0)),(b6,.cells ((Le.cells ((Eg.Qy.pick (Eg.qy x l state now entry p)).1)).toArray) 43 (0,0))] xmo<|?_
  refine ZD 0 1 Z Z (fun _ => (Y.loadAgg rfl xag35 Kn.vk1 rfl))<|ZD 1 1 Z Z (fun _ => (Y.loadAgg rfl xag35 Kn.vk1 rfl))<|ZD 2 0 Z Z (fun _ => (Y.loadAgg rfl xag28 Kn.vk1 rfl))<|Zd 4 Z (fun _ => (Y.fieldAddr rfl xfo43_0))<|ZD 5 2 Z Z (fun _ => (Y.load rfl xts24 Kn.vk1 rfl))<|Zd 6 Z (fun _ => (Y.move rfl))<|?_
  refine RunD.one (i := 3) WK rfl  ?_
  refine Yk [] Z Z Z (rreply_c (x := x) (p := p) (pv := pv) (kind := 2) hp hfew hsv) (fun v9 V9 H9 hle9 hR9 => ?_)
  obtain ⟨_,rfl,hv9,ov9,rfl,hRp9⟩ := hR9
  replace hp := hp.le hle9
  replace hVle := Vw.le_trans hVle hle9
  obtain ⟨⟨pg9,cg9,rfl⟩,pk9,nk9,ck9,rfl⟩ := hRp9.forms
  generalize hP9 : Eg.rep x p 2 = P9 at hRp9 ⊢
  refine Run.heapTo (H' := [[(b6,.cells ((Le.cells ((Eg.Qy.pick (Eg.qy x l state now entry p)).1)).toArray) 43 (0,0))],[(b3,.cells an0 45 (0,0))],[(b2,.cells (Pc.cells p (.slice ph p.hw.length ch) (.slice po9 no9 co9)) 28 (0,0))],[(b1,.cells (Si.cells x pv) 35 (0,0))],[(rx,.cells #[.slice pl l.length cl] 128 (0,0))],ql]) Z ?_
  refine Ze<|Zf<|?_
  refine RunD.one (i := 7) WK rfl  ?_
  refine Yk [] Z Z Z (rwith_c (x := x) (r := P9) (pv := pv) (a := (Eg.Qy.pick (Eg.qy x l state now entry p)).1.addr) (t := Eg.Qy.tm (Eg.qy x l state now entry p) ((Eg.Qy.pick (Eg.qy x l state now entry p)).1)) hRp9 (by rw [<- hP9]; exact (by decide : 2 <= 100)) (Eg.pick_la (q := (Eg.qy x l state now entry p)) h7 hla) ⟨Eg.tm_nn (Eg.qy x l state now entry p) _,Eg.tm_le (Eg.qy x l state now entry p) _⟩) (fun v10 V10 H10 hle10 hR10 => ?_)
  obtain ⟨_,rfl,hv10,ov10,rfl,hRp10⟩ := hR10
  replace hp := hp.le hle10
  replace hRp9 := hRp9.le hle10
  replace hVle := Vw.le_trans hVle hle10
  obtain ⟨⟨pg10,cg10,rfl⟩,pk10,nk10,ck10,rfl⟩ := hRp10.forms
  generalize hP10 : ({ P9 with yi := (Eg.Qy.pick (Eg.qy x l state now entry p)).1.addr,os := P9.os ++ Eg.times x (Eg.Qy.tm (Eg.qy x l state now entry p) ((Eg.Qy.pick (Eg.qy x l state now entry p)).1)) } : Pc) = P10 at hRp10 ⊢
  refine Run.heapTo (H' := [[(b6,.cells ((Le.cells ((Eg.Qy.pick (Eg.qy x l state now entry p)).1)).toArray) 43 (0,0))],[(b3,.cells an0 45 (0,0))],[(b2,.cells (Pc.cells p (.slice ph p.hw.length ch) (.slice po9 no9 co9)) 28 (0,0))],[(b1,.cells (Si.cells x pv) 35 (0,0))],[(rx,.cells #[.slice pl l.length cl] 128 (0,0))],ql]) Z ?_
  refine Ze<|Zf<|Zd 8 Z (fun _ => (Y.buildS (l := [(0,.const (.bool true)),(1,.tmp 67)]) (r := (An.cells ⟨true,P10,false,Le.dflt,0⟩ (.slice pg10 P10.hw.length cg10) (.slice pk10 nk10 ck10)).toList) xzo45 xpl45 rfl rfl))<|?_
  refine RunD.one (i := 9) WK rfl  ?_
  refine Run.stAll (l2 := (An.cells ⟨true,P10,false,Le.dflt,0⟩ (.slice pg10 P10.hw.length cg10) (.slice pk10 nk10 ck10)).toList) (j := 1) Z Z xsz45 Z Z Z Z ?_
  refine Run.heapTo (H' := [[(b6,.cells ((Le.cells ((Eg.Qy.pick (Eg.qy x l state now entry p)).1)).toArray) 43 (0,0))],[(b3,.cells (An.cells ⟨true,P10,false,Le.dflt,0⟩ (.slice pg10 P10.hw.length cg10) (.slice pk10 nk10 ck10)) 45 (0,0))],[(b2,.cells (Pc.cells p (.slice ph p.hw.length ch) (.slice po9 no9 co9)) 28 (0,0))],[(b1,.cells (Si.cells x pv) 35 (0,0))],[(rx,.cells #[.slice pl l.length cl] 128 (0,0))],ql]) Z ?_
  refine Ze<|Zf<|RunD.done WK<|Zg<|Zu<|?_
  have hPP : P10 = Eg.prom x p 2 (Eg.Qy.pick (Eg.qy x l state now entry p)).1.addr (Eg.Qy.tm (Eg.qy x l state now entry p) (Eg.Qy.pick (Eg.qy x l state now entry p)).1) := by rw [<- hP10,<- hP9]; rfl
  exact Ex.retCell [4,4] rfl rfl xag45 (Kn.at 1 rfl) rfl ⟨hVle,rfl,.slice pg10 P10.hw.length cg10,.slice pk10 nk10 ck10,by rw [((Eg.disc_of (q := (Eg.qy x l state now entry p)) (Eg.shut_f (q := (Eg.qy x l state now entry p)) h5)).trans (if_pos h7)).trans (Eg.offer_is (of_decide_eq_false h8)),hPP]; rfl,by rw [((Eg.disc_of (q := (Eg.qy x l state now entry p)) (Eg.shut_f (q := (Eg.qy x l state now entry p)) h5)).trans (if_pos h7)).trans (Eg.offer_is (of_decide_eq_false h8))]; show Pc.R _ (Eg.prom x p 2 (Eg.Qy.pick (Eg.qy x l state now entry p)).1.addr (Eg.Qy.tm (Eg.qy x l state now entry p) (Eg.Qy.pick (Eg.qy x l state now entry p)).1)) _ _; rw [<- hPP]; exact hRp10⟩
 refine Zo (congrArg Bool.not h7) Z<|Zo (congrArg Bool.not h7) Z<|Zv (Y.pick_t Z (congrArg Bool.not h7) Z)<|Ze<|Zg<|Tr.cond_t Z Z<|Zs<|Zr<|Zv (Y.buildS (l := []) (r := (an0).toList) xzo45 xpl45 Z Z)<|?_
 refine Run.stAll (l2 := (an0).toList) (j := 1) Z Z xsz45 Z Z Z Z<|Run.heapTo (H' := [[(b6,.cells ((Le.cells ((Eg.Qy.pick (Eg.qy x l state now entry p)).1)).toArray) 43 (0,0))],[(b3,.cells an0 45 (0,0))],[(b2,.cells (Pc.cells p (.slice ph p.hw.length ch) (.slice po9 no9 co9)) 28 (0,0))],[(b1,.cells (Si.cells x pv) 35 (0,0))],[(rx,.cells #[.slice pl l.length cl] 128 (0,0))],ql]) Z<|?_
 refine Ze<|Zg<|Zu<|Zn<|?_
 exact Ex.retCell [4,4] rfl rfl xag45 (Kn.at 1 rfl) rfl ⟨hVle,rfl,.slice none 0 0,.slice none 0 0,by rw [(Eg.disc_of (q := (Eg.qy x l state now entry p)) (Eg.shut_f (q := (Eg.qy x l state now entry p)) h5)).trans (if_neg (by rw [h7]; decide))]; rfl,by rw [(Eg.disc_of (q := (Eg.qy x l state now entry p)) (Eg.shut_f (q := (Eg.qy x l state now entry p)) h5)).trans (if_neg (by rw [h7]; decide))]; exact Pc.zero_R _⟩
set_option maxHeartbeats 2000000 in
theorem rrequest_c {V : Vw} {x : Si} {pv : Value} {p : Pc} {hv0 ov0 : Value} (hp : Pc.R V p hv0 ov0) (hfew : p.few = true) (hci : 0 <= p.ci /\ p.ci <= 4294967295) (hsv : 0 <= x.server /\ x.server <= 4294967295) {state now entry : Int} {l : List Le} {rx : Nat} {pl : Option Addr} {cl : Nat} {ql : Sg} (hl : Ow 43 8 (.slice pl l.length cl) l.length (l.flatMap Le.cells) ql) (hlm : l.length <= 256) (hla : ∀ y,y ∈ l -> 0 <= y.addr /\ y.addr <= 4294967295)  : Does Tryz.prog 62 [.agg (x.cells pv),(pZ rx),.int .i64 state,.int .i64 now,.int .i64 entry,.agg (p.cells hv0 ov0)] V [[(rx,.cells #[.slice pl l.length cl] 128 (0,0))],ql] (fun u V' H' => V.le V' /\ H' = [[(rx,.cells #[.slice pl l.length cl] 128 (0,0))],ql] /\ ∃ hv' ov',u = .agg ((Eg.Qy.request (Eg.qy x l state now entry p)).cells hv' ov') /\ Pc.R V' (Eg.Qy.request (Eg.qy x l state now entry p)).reply hv' ov') := by
 obtain ⟨⟨ph,ch,rfl⟩,po9,no9,co9,rfl⟩ := hp.forms
 have hVle : V.le V := Vw.le_refl V
 refine Does.intro Tryz.func62 rfl rfl (le rfl) (fun B => ?_)
 refine Zs<|Zr<|?_
 refine Run.box rfl (lt rfl) (fun b1 => ?_)
 refine Run.box rfl (lt rfl) (fun b2 => ?_)
 refine Run.alloc xzo45 (lt rfl) (fun b3 => ?_)
 refine Ze<|Zg<|Zs<|Zr<|Zv (Y.loadAgg Z xag28 (Kn.at 1 Z) Z)<|Yc Z Z Z (client_h hp hfew)<|Za Z<|Ze<|Zg<|Zs<|Zr<|Zv (Y.loadAgg Z xag35 (Kn.at 2 Z) Z)<|Zv (Y.loadAgg Z xag28 (Kn.at 1 Z) Z)<|Yc Z Z Z ((rasked20_c (x := x) (pv := pv) hp hfew).frame)<|Zm Z<|Zv (Y.extract Z Z)<|?_
 refine Zv (Y.extract Z Z)<|Za Z<|Za Z<|Ze<|Zg<|Zs<|Zr<|Zv (Y.loadAgg Z xag35 (Kn.at 2 Z) Z)<|Yc Z Z Z ((rrules_c (x := x)).frame)<|?_
 refine Run.alloc xzo162 (lt rfl) (fun b4 => ?_)
 refine Run.store (s := [(b4,.cells #[.int .i64 x.rules.id,.int .i64 x.rules.lead,.int .i64 x.rules.guard] 162 (0,0))]) Z Z xsz162 (i := 0) Z Z (le Z) Z Z<|Ze<|Zg<|Zs<|Zr<|Zv (Y.loadAgg Z xag28 (Kn.at 2 Z) Z)<|?_
 refine Yk [] Z Z Z (rchosen_c hp hfew) (fun v5 V2 H2 _ hR => ?_)
 obtain ⟨hV,rfl,sv5,rfl,hsv9⟩ := hR; replace hV := hV.symm; subst hV
 refine Run.heapTo (H' := [[(b4,.cells #[.int .i64 x.rules.id,.int .i64 x.rules.lead,.int .i64 x.rules.guard] 162 (0,0))],[(b3,.cells an0 45 (0,0))],[(b2,.cells (Pc.cells p (.slice ph p.hw.length ch) (.slice po9 no9 co9)) 28 (0,0))],[(b1,.cells (Si.cells x pv) 35 (0,0))],[(rx,.cells #[.slice pl l.length cl] 128 (0,0))],ql]) Z ?_
 refine Zm Z<|Zv (Y.extract Z Z)<|Zv (Y.extract Z Z)<|Za Z<|Za Z<|Ze<|Zg<|Zs<|?_
 refine Tr.cut V [[(b4,.cells #[.int .i64 x.rules.id,.int .i64 x.rules.lead,.int .i64 x.rules.guard] 162 (0,0))],[(b3,.cells an0 45 (0,0))],[(b2,.cells (Pc.cells p (.slice ph p.hw.length ch) (.slice po9 no9 co9)) 28 (0,0))],[(b1,.cells (Si.cells x pv) 35 (0,0))],[(rx,.cells #[.slice pl l.length cl] 128 (0,0))],ql] [(1,(pZ rx)),(2,.int .i64 state),(3,.int .i64 now),(4,.int .i64 entry),(6,(pZ b1)),(11,(pZ b2)),(12,(pZ b3)),(13,.string p.client),(14,.int .u32 p.asked),(15,.int .i64 (min (if p.asks = 0 then x.want else p.asks) x.most)),(16,(pZ b4)),(18,.bool ((Oc.fd 54 p.os).length == 4)),(45,.bool (Eg.Qy.oth (Eg.qy x l state now entry p)))] ?_ ?_
 ·refine Zr<|Zm Z<|Zm Z<|?_
  refine Zq ((Oc.fd 54 p.os).length == 4) (fun h6 g6 => ?_) fun h6 g6 => ?_
  ·refine Zp h6<|Zm Z<|Zp h6<|Zv (Y.fieldAddr Z xfo35_3)<|Zp h6<|Zv (Y.load Z xts24 (Kn.at 3 Z) Z)<|Zp h6<|Zv (Y.int Z Z Z)<|Zv (Y.pick_t Z h6 Z)<|Ze<|?_
   have hoth : (sv5 != x.server) = Eg.Qy.oth (Eg.qy x l state now entry p) := Eg.oth_y (q := (Eg.qy x l state now entry p)) h6 hsv9
   exact Ex.cut rfl (by repeat (first | exact subB_nil _ | refine subB_cons (by first | rfl | exact congrArg (fun z => some (Value.int _ z)) W | exact congrArg (fun z => some (Value.bool z)) hoth) ?_))
  refine Zo h6 Z<|Zo h6 Z<|Zo h6 Z<|Zo h6 Z<|Zv (Y.pick_f Z h6 Z)<|Ze<|?_
  have hoth : (false) = Eg.Qy.oth (Eg.qy x l state now entry p) := Eg.oth_n (q := (Eg.qy x l state now entry p)) h6
  exact Ex.cut rfl (by repeat (first | exact subB_nil _ | refine subB_cons (by first | rfl | exact congrArg (fun z => some (Value.int _ z)) W | exact congrArg (fun z => some (Value.bool z)) hoth) ?_))
 refine Zq (Eg.Qy.oth (Eg.qy x l state now entry p)) (fun h7 g7 => ?_) fun h7 g7 => ?_
 ·refine Tr.cond_t Z h7<|Zs<|Zr<|Zv (Y.buildS (l := []) (r := (an0).toList) xzo45 xpl45 Z Z)<|Run.stAll (l2 := (an0).toList) (j := 1) Z Z xsz45 Z Z Z Z<|?_
  refine Run.heapTo (H' := [[(b4,.cells #[.int .i64 x.rules.id,.int .i64 x.rules.lead,.int .i64 x.rules.guard] 162 (0,0))],[(b3,.cells an0 45 (0,0))],[(b2,.cells (Pc.cells p (.slice ph p.hw.length ch) (.slice po9 no9 co9)) 28 (0,0))],[(b1,.cells (Si.cells x pv) 35 (0,0))],[(rx,.cells #[.slice pl l.length cl] 128 (0,0))],ql]) Z ?_
  refine Ze<|Zg<|Zu<|Zn<|?_
  exact Ex.retCell [4,4] rfl rfl xag45 (Kn.at 1 rfl) rfl ⟨hVle,rfl,.slice none 0 0,.slice none 0 0,by rw [Eg.oth_t (q := (Eg.qy x l state now entry p)) h7]; rfl,by rw [Eg.oth_t (q := (Eg.qy x l state now entry p)) h7]; exact Pc.zero_R _⟩
 refine Tr.cond_f Z h7<|Zt<|Zg<|Zs<|Zr<|Zm Z<|Zm Z<|Yc Z Z Z ((rget_c (a := p.asked) hl hlm).frameP (pull_perm [4,4] [[(b4,.cells #[.int .i64 x.rules.id,.int .i64 x.rules.lead,.int .i64 x.rules.guard] 162 (0,0))],[(b3,.cells an0 45 (0,0))],[(b2,.cells (Pc.cells p (.slice ph p.hw.length ch) (.slice po9 no9 co9)) 28 (0,0))],[(b1,.cells (Si.cells x pv) 35 (0,0))],[(rx,.cells #[.slice pl l.length cl] 128 (0,0))],ql]))<|?_
 refine Zm Z<|Zv (Y.extract Z Z)<|Zv (Y.extract Z Z)<|?_
 refine Run.alloc xzo43 (lt rfl) (fun b8 => ?_)
 refine Run.store (s := [(b8,.cells ((Le.cells ((Le.getE l p.asked).1)).toArray) 43 (0,0))]) Z Z xsz43 (i := 0) Z Z (le Z) Z Z ?_
 refine Za Z<|Ze<|Zg<|?_
 refine Tr.cut V [[(b8,.cells ((Le.cells ((Le.getE l p.asked).1)).toArray) 43 (0,0))],[(b4,.cells #[.int .i64 x.rules.id,.int .i64 x.rules.lead,.int .i64 x.rules.guard] 162 (0,0))],[(b3,.cells an0 45 (0,0))],[(b2,.cells (Pc.cells p (.slice ph p.hw.length ch) (.slice po9 no9 co9)) 28 (0,0))],[(b1,.cells (Si.cells x pv) 35 (0,0))],[(rx,.cells #[.slice pl l.length cl] 128 (0,0))],ql] [(1,(pZ rx)),(3,.int .i64 now),(6,(pZ b1)),(11,(pZ b2)),(12,(pZ b3)),(13,.string p.client),(14,.int .u32 p.asked),(15,.int .i64 (min (if p.asks = 0 then x.want else p.asks) x.most)),(16,(pZ b4)),(18,.bool ((Oc.fd 54 p.os).length == 4)),(19,(pZ b8)),(20,.int .i64 ((Le.getE l p.asked).2)),(21,.bool (Eg.Qy.has (Eg.qy x l state now entry p)))] ?_ ?_
 ·refine Zr<|Zm Z<|Zv (Y.int Z Z Z)<|Zm Z<|?_
  refine Zq (((Le.getE l p.asked).2) == 0) (fun h9 g9 => ?_) fun h9 g9 => ?_
  ·refine Zp h9<|Zv (Y.loadAgg Z xag43 (Kn.at 0 Z) Z)<|Zp h9<|Zm Z<|Zp h9<|Yc Z Z Z ((rtheirs_c (l := (Le.getE l p.asked).1) (c := p.client)).frame)<|Zp h9<|Zm Z<|?_
   refine Zq (Eg.Qy.th (Eg.qy x l state now entry p) ((Le.getE l p.asked).1)) (fun h10 g10 => ?_) fun h10 g10 => ?_
   ·refine Zo h10 Z<|Zo h10 Z<|Zo h10 Z<|Zo h10 Z<|Zo h10 Z<|Zo h10 Z<|Zp h9<|Zv (Y.pick_t Z h10 Z)<|Zv (Y.pick_t Z h9 Z)<|Za Z<|Ze<|?_
    have hidl : (true) = Eg.Qy.has (Eg.qy x l state now entry p) := by show _ = ((Le.getE l p.asked).2 == 0 && (Eg.Qy.th (Eg.qy x l state now entry p) (Le.getE l p.asked).1 || Eg.Qy.may (Eg.qy x l state now entry p) (Le.getE l p.asked).1)); rw [h9,h10] <;> rfl
    exact Ex.cut rfl (by repeat (first | exact subB_nil _ | refine subB_cons (by first | rfl | exact congrArg (fun z => some (Value.int _ z)) W | exact congrArg (fun z => some (Value.bool z)) hidl) ?_))
   refine Zp h10<|Zv (Y.loadAgg Z xag162 (Kn.at 1 Z) Z)<|Zp h10<|Zv (Y.loadAgg Z xag43 (Kn.at 0 Z) Z)<|Zp h10<|Zm Z<|Zp h10<|Zm Z<|Zp h10<|Zm Z<|Zp h10<|Yc Z Z Z ((rmay_c (r := x.rules) (l := (Le.getE l p.asked).1) (state := state) (now := now) (entry := entry)).frame)<|Zp h9<|Zv (Y.pick_f Z h10 Z)<|Zv (Y.pick_t Z h9 Z)<|Za Z<|?_
   refine Ze ?_
   have hidl : (Eg.Qy.may (Eg.qy x l state now entry p) ((Le.getE l p.asked).1)) = Eg.Qy.has (Eg.qy x l state now entry p) := by show _ = ((Le.getE l p.asked).2 == 0 && (Eg.Qy.th (Eg.qy x l state now entry p) (Le.getE l p.asked).1 || Eg.Qy.may (Eg.qy x l state now entry p) (Le.getE l p.asked).1)); rw [h9,h10] <;> rfl
   exact Ex.cut rfl (by repeat (first | exact subB_nil _ | refine subB_cons (by first | rfl | exact congrArg (fun z => some (Value.int _ z)) W | exact congrArg (fun z => some (Value.bool z)) hidl) ?_))
  refine Zo h9 Z<|Zo h9 Z<|Zo h9 Z<|Zo h9 Z<|Run.off_u Z Z Z Z (lt Z)<|Run.off_u Z Z Z Z (lt Z)<|Run.off_u Z Z Z Z (lt Z)<|Run.off_u Z Z Z Z (lt Z)<|Run.off_u Z Z Z Z (lt Z)<|Run.off_u Z Z Z Z (lt Z)<|Zo h9 Z<|Zv (Y.pick_f Z h9 Z)<|Za Z<|Ze<|?_
  have hidl : (false) = Eg.Qy.has (Eg.qy x l state now entry p) := by show _ = ((Le.getE l p.asked).2 == 0 && (Eg.Qy.th (Eg.qy x l state now entry p) (Le.getE l p.asked).1 || Eg.Qy.may (Eg.qy x l state now entry p) (Le.getE l p.asked).1)); rw [h9] <;> rfl
  exact Ex.cut rfl (by repeat (first | exact subB_nil _ | refine subB_cons (by first | rfl | exact congrArg (fun z => some (Value.int _ z)) W | exact congrArg (fun z => some (Value.bool z)) hidl) ?_))
 refine Zs<|Zr<|Zv (Y.loadAgg Z xag35 (Kn.at 4 Z) Z)<|Zv (Y.loadAgg Z xag43 (Kn.at 0 Z) Z)<|Zm Z<|Zm Z<|Zm Z<|Yc Z Z Z ((rtime20_c (x := x) (pv := pv) (l := (Le.getE l p.asked).1) (c := p.client) (now := now) (want := min (if p.asks = 0 then x.want else p.asks) x.most)).frame)<|Za Z<|Ze<|Zg<|Zs<|?_
 refine Tr.cut V [[(b8,.cells ((Le.cells ((Le.getE l p.asked).1)).toArray) 43 (0,0))],[(b4,.cells #[.int .i64 x.rules.id,.int .i64 x.rules.lead,.int .i64 x.rules.guard] 162 (0,0))],[(b3,.cells an0 45 (0,0))],[(b2,.cells (Pc.cells p (.slice ph p.hw.length ch) (.slice po9 no9 co9)) 28 (0,0))],[(b1,.cells (Si.cells x pv) 35 (0,0))],[(rx,.cells #[.slice pl l.length cl] 128 (0,0))],ql] [(1,(pZ rx)),(3,.int .i64 now),(6,(pZ b1)),(11,(pZ b2)),(12,(pZ b3)),(13,.string p.client),(14,.int .u32 p.asked),(15,.int .i64 (min (if p.asks = 0 then x.want else p.asks) x.most)),(16,(pZ b4)),(18,.bool ((Oc.fd 54 p.os).length == 4)),(19,(pZ b8)),(20,.int .i64 ((Le.getE l p.asked).2)),(22,.int .i64 (Eg.Qy.tm (Eg.qy x l state now entry p) ((Le.getE l p.asked).1))),(79,.bool (!(Eg.Qy.gives (Eg.qy x l state now entry p))))] ?_ ?_
 ·refine Zr<|Zm Z<|Zv (Y.not Z)<|Zm Z<|?_
  refine Zq (Eg.Qy.has (Eg.qy x l state now entry p)) (fun h11 g11 => ?_) fun h11 g11 => ?_
  ·refine Zp (congrArg Bool.not h11)<|Zm Z<|Zp (congrArg Bool.not h11)<|Zv (Y.int Z Z Z)<|Zv (Y.pick_f Z (congrArg Bool.not h11) Z)<|Ze<|?_
   have hgiv : (decide ((Eg.Qy.tm (Eg.qy x l state now entry p) ((Le.getE l p.asked).1)) < 1)) = !(Eg.Qy.gives (Eg.qy x l state now entry p)) := by rw [<- Eg.gives_ha (q := (Eg.qy x l state now entry p)) h11,Bool.not_not]; rfl
   exact Ex.cut rfl (by repeat (first | exact subB_nil _ | refine subB_cons (by first | rfl | exact congrArg (fun z => some (Value.int _ z)) W | exact congrArg (fun z => some (Value.bool z)) hgiv) ?_))
  refine Zo (congrArg Bool.not h11) Z<|Zo (congrArg Bool.not h11) Z<|Zv (Y.pick_t Z (congrArg Bool.not h11) Z)<|Ze<|?_
  have hgiv : (true) = !(Eg.Qy.gives (Eg.qy x l state now entry p)) := by rw [<- Eg.gives_nh (q := (Eg.qy x l state now entry p)) h11]; rfl
  exact Ex.cut rfl (by repeat (first | exact subB_nil _ | refine subB_cons (by first | rfl | exact congrArg (fun z => some (Value.int _ z)) W | exact congrArg (fun z => some (Value.bool z)) hgiv) ?_))
 refine Zq (Eg.Qy.gives (Eg.qy x l state now entry p)) (fun h12 g12 => ?_) fun h12 g12 => ?_
 ·refine Tr.cond_f Z (congrArg Bool.not h12)<|Zt<|Zg<|Zs<|Zr<|Zv (Y.loadAgg Z xag162 (Kn.at 1 Z) Z)<|Zv (Y.loadAgg Z xag43 (Kn.at 0 Z) Z)<|Zm Z<|Zm Z<|Zm Z<|Yc Z Z Z ((rglease_c (r := x.rules) (l := (Le.getE l p.asked).1) (client := p.client) (now := now) (want := min (if p.asks = 0 then x.want else p.asks) x.most)).frame)<|?_
  refine Run.alloc xzo43 (lt rfl) (fun b13 => ?_)
  refine Run.store (s := [(b13,.cells ((Le.cells (Eg.Qy.nl (Eg.qy x l state now entry p))).toArray) 43 (0,0))]) Z Z xsz43 (i := 0) Z Z (le Z) Z Z ?_
  refine Ze<|Zg<|Zs<|Tr.anyL [(b1,.cells (Si.cells x pv) 35 (0,0)),(b2,.cells (Pc.cells p (.slice ph p.hw.length ch) (.slice po9 no9 co9)) 28 (0,0)),(b13,.cells ((Le.cells (Eg.Qy.nl (Eg.qy x l state now entry p))).toArray) 43 (0,0)),(b4,.cells #[.int .i64 x.rules.id,.int .i64 x.rules.lead,.int .i64 x.rules.guard] 162 (0,0))] 14 xmo<|?_
  refine ZH 0 0 Z Z (fun _ => (Y.loadAgg rfl xag35 Kn.vk1 rfl))<|ZH 1 0 Z Z (fun _ => (Y.loadAgg rfl xag35 Kn.vk1 rfl))<|ZH 2 1 Z Z (fun _ => (Y.loadAgg rfl xag28 Kn.vk1 rfl))<|Zh 4 Z (fun _ => (Y.move rfl))<|Zh 5 Z (fun _ => (Y.move rfl))<|ZH 7 2 Z Z (fun _ => (Y.loadAgg rfl xag43 Kn.vk1 rfl))<|ZH 8 3 Z Z (fun _ => (Y.loadAgg rfl xag162 Kn.vk1 rfl))<|ZH 9 2 Z Z (fun _ => (Y.loadAgg rfl xag43 Kn.vk1 rfl))<|?_
  refine Zh 10 Z (fun _ => (Y.move rfl))<|Zh 11 Z (fun _ => (Y.move rfl))<|?_
  refine RunL.one (i := 3) WK rfl  ?_
  refine Yk [] Z Z Z (rreply_c (x := x) (p := p) (pv := pv) (kind := 5) hp hfew hsv) (fun v14 V14 H14 hle14 hR14 => ?_)
  obtain ⟨_,rfl,hv14,ov14,rfl,hRp14⟩ := hR14
  replace hp := hp.le hle14
  replace hVle := Vw.le_trans hVle hle14
  obtain ⟨⟨pg14,cg14,rfl⟩,pk14,nk14,ck14,rfl⟩ := hRp14.forms
  generalize hP14 : Eg.rep x p 5 = P14 at hRp14 ⊢
  refine Run.heapTo (H' := [[(b13,.cells ((Le.cells (Eg.Qy.nl (Eg.qy x l state now entry p))).toArray) 43 (0,0))],[(b8,.cells ((Le.cells ((Le.getE l p.asked).1)).toArray) 43 (0,0))],[(b4,.cells #[.int .i64 x.rules.id,.int .i64 x.rules.lead,.int .i64 x.rules.guard] 162 (0,0))],[(b3,.cells an0 45 (0,0))],[(b2,.cells (Pc.cells p (.slice ph p.hw.length ch) (.slice po9 no9 co9)) 28 (0,0))],[(b1,.cells (Si.cells x pv) 35 (0,0))],[(rx,.cells #[.slice pl l.length cl] 128 (0,0))],ql]) Z ?_
  refine Ze<|ZF<|?_
  refine RunL.one (i := 6) WK rfl  ?_
  refine Yk [] Z Z Z (rwith_c (x := x) (r := P14) (pv := pv) (a := p.asked) (t := Eg.Qy.tm (Eg.qy x l state now entry p) ((Le.getE l p.asked).1)) hRp14 (by rw [<- hP14]; exact (by decide : 2 <= 100)) (Eg.asked_bd hci) ⟨Eg.tm_nn (Eg.qy x l state now entry p) _,Eg.tm_le (Eg.qy x l state now entry p) _⟩) (fun v15 V15 H15 hle15 hR15 => ?_)
  obtain ⟨_,rfl,hv15,ov15,rfl,hRp15⟩ := hR15
  replace hp := hp.le hle15
  replace hRp14 := hRp14.le hle15
  replace hVle := Vw.le_trans hVle hle15
  obtain ⟨⟨pg15,cg15,rfl⟩,pk15,nk15,ck15,rfl⟩ := hRp15.forms
  generalize hP15 : ({ P14 with yi := p.asked,os := P14.os ++ Eg.times x (Eg.Qy.tm (Eg.qy x l state now entry p) ((Le.getE l p.asked).1)) } : Pc) = P15 at hRp15 ⊢
  refine Run.heapTo (H' := [[(b13,.cells ((Le.cells (Eg.Qy.nl (Eg.qy x l state now entry p))).toArray) 43 (0,0))],[(b8,.cells ((Le.cells ((Le.getE l p.asked).1)).toArray) 43 (0,0))],[(b4,.cells #[.int .i64 x.rules.id,.int .i64 x.rules.lead,.int .i64 x.rules.guard] 162 (0,0))],[(b3,.cells an0 45 (0,0))],[(b2,.cells (Pc.cells p (.slice ph p.hw.length ch) (.slice po9 no9 co9)) 28 (0,0))],[(b1,.cells (Si.cells x pv) 35 (0,0))],[(rx,.cells #[.slice pl l.length cl] 128 (0,0))],ql]) Z ?_
  refine Ze<|ZF<|?_
  refine RunL.one (i := 12) WK rfl  ?_
  refine Yc Z Z Z ((rpot_c (r := x.rules) (l := (Eg.Qy.nl (Eg.qy x l state now entry p))) (now := now) (want := min (if p.asks = 0 then x.want else p.asks) x.most)).frame)<|Ze<|ZF<|Zh 13 Z (fun _ => (Y.buildS (l := [(0,.const (.bool true)),(1,.tmp 113),(2,.const (.bool true)),(3,.tmp 114),(4,.tmp 119)]) (r := (An.cells ⟨true,P15,true,(Eg.Qy.nl (Eg.qy x l state now entry p)),Rul.potential (Eg.Qy.nl (Eg.qy x l state now entry p)) now (min (if p.asks = 0 then x.want else p.asks) x.most)⟩ (.slice pg15 P15.hw.length cg15) (.slice pk15 nk15 ck15)).toList) xzo45 xpl45 rfl WK))<|?_
  refine RunL.one (i := 14) WK rfl  ?_
  refine Run.stAll (l2 := (An.cells ⟨true,P15,true,(Eg.Qy.nl (Eg.qy x l state now entry p)),Rul.potential (Eg.Qy.nl (Eg.qy x l state now entry p)) now (min (if p.asks = 0 then x.want else p.asks) x.most)⟩ (.slice pg15 P15.hw.length cg15) (.slice pk15 nk15 ck15)).toList) (j := 3) Z Z xsz45 Z Z Z Z ?_
  refine Run.heapTo (H' := [[(b13,.cells ((Le.cells (Eg.Qy.nl (Eg.qy x l state now entry p))).toArray) 43 (0,0))],[(b8,.cells ((Le.cells ((Le.getE l p.asked).1)).toArray) 43 (0,0))],[(b4,.cells #[.int .i64 x.rules.id,.int .i64 x.rules.lead,.int .i64 x.rules.guard] 162 (0,0))],[(b3,.cells (An.cells ⟨true,P15,true,(Eg.Qy.nl (Eg.qy x l state now entry p)),Rul.potential (Eg.Qy.nl (Eg.qy x l state now entry p)) now (min (if p.asks = 0 then x.want else p.asks) x.most)⟩ (.slice pg15 P15.hw.length cg15) (.slice pk15 nk15 ck15)) 45 (0,0))],[(b2,.cells (Pc.cells p (.slice ph p.hw.length ch) (.slice po9 no9 co9)) 28 (0,0))],[(b1,.cells (Si.cells x pv) 35 (0,0))],[(rx,.cells #[.slice pl l.length cl] 128 (0,0))],ql]) Z ?_
  refine Ze<|Ex.anyLz Z<|RunL.done WK<|Zg<|Zu<|?_
  have hPP : P15 = Eg.prom x p 5 p.asked (Eg.Qy.tm (Eg.qy x l state now entry p) (Le.getE l p.asked).1) := by rw [<- hP15,<- hP14]; rfl
  exact Ex.retCell [6,6] rfl rfl xag45 (Kn.at 3 rfl) rfl ⟨hVle,rfl,.slice pg15 P15.hw.length cg15,.slice pk15 nk15 ck15,by rw [Eg.req_gives (q := (Eg.qy x l state now entry p)) (Eg.oth_f (q := (Eg.qy x l state now entry p)) h7) h12]; show _ = Value.agg ((⟨true,Eg.prom x p 5 p.asked (Eg.Qy.tm (Eg.qy x l state now entry p) (Le.getE l p.asked).1),true,(Eg.Qy.nl (Eg.qy x l state now entry p)),Rul.potential (Eg.Qy.nl (Eg.qy x l state now entry p)) now (min (if p.asks = 0 then x.want else p.asks) x.most)⟩ : An).cells _ _); rw [<- hPP]; rfl,by rw [Eg.req_gives (q := (Eg.qy x l state now entry p)) (Eg.oth_f (q := (Eg.qy x l state now entry p)) h7) h12]; show Pc.R _ (Eg.prom x p 5 p.asked (Eg.Qy.tm (Eg.qy x l state now entry p) (Le.getE l p.asked).1)) _ _; rw [<- hPP]; exact hRp15⟩
 refine Tr.cond_t Z (congrArg Bool.not h12)<|Zs<|?_
 refine Tr.cut V [[(b8,.cells ((Le.cells ((Le.getE l p.asked).1)).toArray) 43 (0,0))],[(b4,.cells #[.int .i64 x.rules.id,.int .i64 x.rules.lead,.int .i64 x.rules.guard] 162 (0,0))],[(b3,.cells an0 45 (0,0))],[(b2,.cells (Pc.cells p (.slice ph p.hw.length ch) (.slice po9 no9 co9)) 28 (0,0))],[(b1,.cells (Si.cells x pv) 35 (0,0))],[(rx,.cells #[.slice pl l.length cl] 128 (0,0))],ql] [(6,(pZ b1)),(11,(pZ b2)),(12,(pZ b3)),(95,.bool (Eg.Qy.mum (Eg.qy x l state now entry p)))] ?_ ?_
 ·refine Zr<|Zm Z<|Zv (Y.not Z)<|Zm Z<|?_
  refine Zq ((Oc.fd 54 p.os).length == 4) (fun h16 g16 => ?_) fun h16 g16 => ?_
  ·refine Zo (congrArg Bool.not h16) Z<|Zo (congrArg Bool.not h16) Z<|Zv (Y.pick_f Z (congrArg Bool.not h16) Z)<|Zm Z<|Zo Z Z<|Zo Z Z<|Zo Z Z<|Zo Z Z<|Run.off_u Z Z Z Z (lt Z)<|Run.off_u Z Z Z Z (lt Z)<|Run.off_u Z Z Z Z (lt Z)<|Zo Z Z<|Zv (Y.pick_f Z Z Z)<|Ze<|?_
   have hmum : (false) = Eg.Qy.mum (Eg.qy x l state now entry p) := by show _ = (!((Oc.fd 54 p.os).length == 4) && ((Le.getE l p.asked).2 == 0 && ((Le.getE l p.asked).1.bind == 0 || (Le.getE l p.asked).1.bind == 1))); rw [h16] <;> rfl
   exact Ex.cut rfl (by repeat (first | exact subB_nil _ | refine subB_cons (by first | rfl | exact congrArg (fun z => some (Value.int _ z)) W | exact congrArg (fun z => some (Value.bool z)) hmum) ?_))
  refine Zp (congrArg Bool.not h16)<|Zm Z<|Zp (congrArg Bool.not h16)<|Zv (Y.int Z Z Z)<|Zv (Y.pick_t Z (congrArg Bool.not h16) Z)<|Zm Z<|?_
  refine Zq (((Le.getE l p.asked).2) == 0) (fun h17 g17 => ?_) fun h17 g17 => ?_
  ·refine Zp h17<|Zv (Y.fieldAddr Z xfo43_1)<|Zp h17<|Zv (Y.load Z xts3 (Kn.at 0 Z) Z)<|Zp h17<|Zv (Y.int Z Z Z)<|Zp h17<|Zm Z<|?_
   refine Zq (((Le.getE l p.asked).1.bind) == 0) (fun h18 g18 => ?_) fun h18 g18 => ?_
   ·refine Zo h18 Z<|Zo h18 Z<|Zo h18 Z<|Zp h17<|Zv (Y.pick_t Z h18 Z)<|Zv (Y.pick_t Z h17 Z)<|Ze<|?_
    have hmum : (true) = Eg.Qy.mum (Eg.qy x l state now entry p) := by show _ = (!((Oc.fd 54 p.os).length == 4) && ((Le.getE l p.asked).2 == 0 && ((Le.getE l p.asked).1.bind == 0 || (Le.getE l p.asked).1.bind == 1))); rw [h16,h17,h18] <;> rfl
    exact Ex.cut rfl (by repeat (first | exact subB_nil _ | refine subB_cons (by first | rfl | exact congrArg (fun z => some (Value.int _ z)) W | exact congrArg (fun z => some (Value.bool z)) hmum) ?_))
   refine Zp h18<|Zv (Y.fieldAddr Z xfo43_1)<|Zp h18<|Zv (Y.load Z xts3 (Kn.at 0 Z) Z)<|Zp h18<|Zv (Y.int Z Z Z)<|Zp h17<|Zv (Y.pick_f Z h18 Z)<|Zv (Y.pick_t Z h17 Z)<|Ze<|?_
   have hmum : (((Le.getE l p.asked).1.bind) == 1) = Eg.Qy.mum (Eg.qy x l state now entry p) := by show _ = (!((Oc.fd 54 p.os).length == 4) && ((Le.getE l p.asked).2 == 0 && ((Le.getE l p.asked).1.bind == 0 || (Le.getE l p.asked).1.bind == 1))); rw [h16,h17,h18] <;> rfl
   exact Ex.cut rfl (by repeat (first | exact subB_nil _ | refine subB_cons (by first | rfl | exact congrArg (fun z => some (Value.int _ z)) W | exact congrArg (fun z => some (Value.bool z)) hmum) ?_))
  refine Zo h17 Z<|Zo h17 Z<|Zo h17 Z<|Zo h17 Z<|Run.off_u Z Z Z Z (lt Z)<|Run.off_u Z Z Z Z (lt Z)<|Run.off_u Z Z Z Z (lt Z)<|Zo h17 Z<|Zv (Y.pick_f Z h17 Z)<|Ze<|?_
  have hmum : (false) = Eg.Qy.mum (Eg.qy x l state now entry p) := by show _ = (!((Oc.fd 54 p.os).length == 4) && ((Le.getE l p.asked).2 == 0 && ((Le.getE l p.asked).1.bind == 0 || (Le.getE l p.asked).1.bind == 1))); rw [h16,h17] <;> rfl
  exact Ex.cut rfl (by repeat (first | exact subB_nil _ | refine subB_cons (by first | rfl | exact congrArg (fun z => some (Value.int _ z)) W | exact congrArg (fun z => some (Value.bool z)) hmum) ?_))
 refine Zq (Eg.Qy.mum (Eg.qy x l state now entry p)) (fun h19 g19 => ?_) fun h19 g19 => ?_
 ·refine Tr.cond_t Z h19<|Zs<|Zr<|Zv (Y.buildS (l := []) (r := (an0).toList) xzo45 xpl45 Z Z)<|Run.stAll (l2 := (an0).toList) (j := 2) Z Z xsz45 Z Z Z Z<|?_
  refine Run.heapTo (H' := [[(b8,.cells ((Le.cells ((Le.getE l p.asked).1)).toArray) 43 (0,0))],[(b4,.cells #[.int .i64 x.rules.id,.int .i64 x.rules.lead,.int .i64 x.rules.guard] 162 (0,0))],[(b3,.cells an0 45 (0,0))],[(b2,.cells (Pc.cells p (.slice ph p.hw.length ch) (.slice po9 no9 co9)) 28 (0,0))],[(b1,.cells (Si.cells x pv) 35 (0,0))],[(rx,.cells #[.slice pl l.length cl] 128 (0,0))],ql]) Z ?_
  refine Ze<|Zg<|Zu<|Zn<|Zn<|?_
  exact Ex.retCell [5,5] rfl rfl xag45 (Kn.at 2 rfl) rfl ⟨hVle,rfl,.slice none 0 0,.slice none 0 0,by rw [Eg.req_idle (q := (Eg.qy x l state now entry p)) (Eg.mum_t h19).1 h12 (Eg.mum_t h19).2]; rfl,by rw [Eg.req_idle (q := (Eg.qy x l state now entry p)) (Eg.mum_t h19).1 h12 (Eg.mum_t h19).2]; exact Pc.zero_R _⟩
 refine Tr.cond_f Z h19<|Zt<|Zg<|Zs<|Zr<|Zv (Y.loadAgg Z xag35 (Kn.at 4 Z) Z)<|Zv (Y.loadAgg Z xag28 (Kn.at 3 Z) Z)<|?_
 refine Yk [] Z Z Z (rreply_c (x := x) (p := p) (pv := pv) (kind := 6) hp hfew hsv) (fun v20 V20 H20 hle20 hR20 => ?_)
 obtain ⟨_,rfl,hv20,ov20,rfl,hRp20⟩ := hR20
 replace hp := hp.le hle20
 replace hVle := Vw.le_trans hVle hle20
 obtain ⟨⟨pg20,cg20,rfl⟩,pk20,nk20,ck20,rfl⟩ := hRp20.forms
 generalize hP20 : Eg.rep x p 6 = P20 at hRp20 ⊢
 refine Run.heapTo (H' := [[(b8,.cells ((Le.cells ((Le.getE l p.asked).1)).toArray) 43 (0,0))],[(b4,.cells #[.int .i64 x.rules.id,.int .i64 x.rules.lead,.int .i64 x.rules.guard] 162 (0,0))],[(b3,.cells an0 45 (0,0))],[(b2,.cells (Pc.cells p (.slice ph p.hw.length ch) (.slice po9 no9 co9)) 28 (0,0))],[(b1,.cells (Si.cells x pv) 35 (0,0))],[(rx,.cells #[.slice pl l.length cl] 128 (0,0))],ql]) Z ?_
 refine Zv (Y.buildS (l := [(0,.const (.bool true)),(1,.tmp 99)]) (r := (An.cells ⟨true,P20,false,Le.dflt,0⟩ (.slice pg20 P20.hw.length cg20) (.slice pk20 nk20 ck20)).toList) xzo45 xpl45 Z Z) ?_
 refine Run.stAll (l2 := (An.cells ⟨true,P20,false,Le.dflt,0⟩ (.slice pg20 P20.hw.length cg20) (.slice pk20 nk20 ck20)).toList) (j := 2) Z Z xsz45 Z Z Z Z ?_
 refine Run.heapTo (H' := [[(b8,.cells ((Le.cells ((Le.getE l p.asked).1)).toArray) 43 (0,0))],[(b4,.cells #[.int .i64 x.rules.id,.int .i64 x.rules.lead,.int .i64 x.rules.guard] 162 (0,0))],[(b3,.cells (An.cells ⟨true,P20,false,Le.dflt,0⟩ (.slice pg20 P20.hw.length cg20) (.slice pk20 nk20 ck20)) 45 (0,0))],[(b2,.cells (Pc.cells p (.slice ph p.hw.length ch) (.slice po9 no9 co9)) 28 (0,0))],[(b1,.cells (Si.cells x pv) 35 (0,0))],[(rx,.cells #[.slice pl l.length cl] 128 (0,0))],ql]) Z ?_
 refine Ze<|Zg<|Zu<|Zn<|?_
 exact Ex.retCell [5,5] rfl rfl xag45 (Kn.at 2 rfl) rfl ⟨hVle,rfl,.slice pg20 P20.hw.length cg20,.slice pk20 nk20 ck20,by rw [Eg.req_nak (q := (Eg.qy x l state now entry p)) (Eg.oth_f (q := (Eg.qy x l state now entry p)) h7) h12 (Eg.mum_f h19)]; show _ = Value.agg ((⟨true,Eg.rep x p 6,false,Le.dflt,0⟩ : An).cells _ _); rw [hP20]; rfl,by rw [Eg.req_nak (q := (Eg.qy x l state now entry p)) (Eg.oth_f (q := (Eg.qy x l state now entry p)) h7) h12 (Eg.mum_f h19)]; show Pc.R _ (Eg.rep x p 6) _ _; rw [hP20]; exact hRp20⟩
set_option maxHeartbeats 2000000 in
theorem ranswer_t {V : Vw} {x : Si} {pv : Value} (hv : Rd V [] 2 pv x.pool.length (x.pool.flatMap Rg.cells)) (hpl : x.pool.length <= 1000) (hpk : Rg.Oks x.pool) {p : Pc} {hv0 ov0 : Value} (hp : Pc.R V p hv0 ov0) (hfew : p.few = true) (hci : 0 <= p.ci /\ p.ci <= 4294967295) (hsv : 0 <= x.server /\ x.server <= 4294967295) {state now entry : Int} {l : List Le} {rx : Nat} {pl : Option Addr} {cl : Nat} {ql : Sg} (hl : Ow 43 8 (.slice pl l.length cl) l.length (l.flatMap Le.cells) ql) (hlm : l.length <= 256) (hla : ∀ y,y ∈ l -> 0 <= y.addr /\ y.addr <= 4294967295)  : Does Tryz.prog 23 [.agg (x.cells pv),(pZ rx),.int .i64 state,.int .i64 now,.int .i64 entry,.agg (p.cells hv0 ov0)] V [[(rx,.cells #[.slice pl l.length cl] 128 (0,0))],ql] (fun u V' H' => V.le V' /\ H' = [[(rx,.cells #[.slice pl l.length cl] 128 (0,0))],ql] /\ ∃ hv' ov',u = .agg ((Eg.ans x l state now entry p).cells hv' ov') /\ Pc.R V' (Eg.ans x l state now entry p).reply hv' ov') := by
 obtain ⟨⟨ph,ch,rfl⟩,po9,no9,co9,rfl⟩ := hp.forms
 have hVle : V.le V := Vw.le_refl V
 refine Does.intro Tryz.func23 rfl rfl (le rfl) (fun B => ?_)
 refine Zs<|Zr<|?_
 refine Run.box rfl (lt rfl) (fun b1 => ?_)
 refine Run.box rfl (lt rfl) (fun b2 => ?_)
 refine Run.alloc xzo45 (lt rfl) (fun b3 => ?_)
 refine Ze<|Zg<|Zs<|Zr<|Zv (Y.loadAgg Z xag35 (Kn.at 2 Z) Z)<|Yc Z Z Z (rright20_h (x := x) hv hpl hpk)<|Za Z<|Ze<|Zg<|Zs<|Zr<|Zv (Y.loadAgg Z xag28 (Kn.at 1 Z) Z)<|Yc Z Z Z (rright_h hp hfew)<|Za Z<|Ze<|Zg<|?_
 refine Zs<|Zs<|Zr<|Zm Z<|Zv (Y.not Z)<|Zm Z<|?_
 refine Zq (x.right) (fun h4 g4 => ?_) fun h4 g4 => ?_
 ·refine Zp (congrArg Bool.not h4)<|Zm Z<|Zp (congrArg Bool.not h4)<|Zv (Y.eqNil Z Z xpt39)<|Zv (Y.pick_f Z (congrArg Bool.not h4) Z)<|Zm Z<|Zp Z<|Zm Z<|Zp Z<|Yc Z Z Z ((rserves_c (n := state)).frame)<|Zp Z<|Zv (Y.not Z)<|Zv (Y.pick_f Z Z Z)<|Zm Z<|?_
  refine Zq (Rul.serves state) (fun h5 g5 => ?_) fun h5 g5 => ?_
  ·refine Zp (congrArg Bool.not h5)<|Zm Z<|Zp (congrArg Bool.not h5)<|Yc Z Z Z ((rwithin_c (n := now) (low := 0) (high := 1099511627776)).frame)<|Zp (congrArg Bool.not h5)<|Zv (Y.not Z)<|Zv (Y.pick_f Z (congrArg Bool.not h5) Z)<|Zm Z<|?_
   refine Zq (decide (0 <= now /\ now <= 1099511627776)) (fun h6 g6 => ?_) fun h6 g6 => ?_
   ·refine Zp (congrArg Bool.not h6)<|Zm Z<|Zp (congrArg Bool.not h6)<|Zv (Y.not Z)<|Zv (Y.pick_f Z (congrArg Bool.not h6) Z)<|Zm Z<|?_
    refine Zq (Pc.right p) (fun h7 g7 => ?_) fun h7 g7 => ?_
    ·refine Zp (congrArg Bool.not h7)<|Zv (Y.fieldAddr Z xfo28_0)<|Zp (congrArg Bool.not h7)<|Zv (Y.load Z xts3 (Kn.at 1 Z) Z)<|Zp (congrArg Bool.not h7)<|Zv (Y.int Z Z Z)<|Zv (Y.pick_f Z (congrArg Bool.not h7) Z)<|Ze<|Zg<|?_
     refine Zq (p.op != 1) (fun h8 g8 => ?_) fun h8 g8 => ?_
     ·refine Tr.cond_t Z h8<|Zs<|Zr<|Zv (Y.buildS (l := []) (r := (an0).toList) xzo45 xpl45 Z Z)<|Run.stAll (l2 := (an0).toList) (j := 0) Z Z xsz45 Z Z Z Z<|?_
      refine Run.heapTo (H' := [[(b3,.cells an0 45 (0,0))],[(b2,.cells (Pc.cells p (.slice ph p.hw.length ch) (.slice po9 no9 co9)) 28 (0,0))],[(b1,.cells (Si.cells x pv) 35 (0,0))],[(rx,.cells #[.slice pl l.length cl] 128 (0,0))],ql]) Z ?_
      refine Ze<|Zg<|Zu<|Zn<|?_
      exact Ex.retCell [3,3] rfl rfl xag45 (Kn.at 0 rfl) rfl ⟨hVle,rfl,.slice none 0 0,.slice none 0 0,by rw [Eg.ans_no (Eg.fits_n (.inr (.inr (.inr (.inr W)))))]; rfl,by rw [Eg.ans_no (Eg.fits_n (.inr (.inr (.inr (.inr W)))))]; exact Pc.zero_R _⟩
     refine Tr.cond_f Z h8<|Zt<|Zg<|Zs<|Zr<|?_
     have hfit : Eg.fits x state now p = true := Eg.fits_y h4 h5 h6 h7 W
     have hqe : Eg.ans x l state now entry p = Eg.Qy.answer (Eg.qy x l state now entry p) := Eg.ans_yes hfit
     refine Zv (Y.loadAgg Z xag28 (Kn.at 1 Z) Z)<|Yc Z Z Z (client_h hp hfew)<|Za Z<|Ze<|Zg<|Zs<|Zr<|Zv (Y.loadAgg Z xag35 (Kn.at 2 Z) Z)<|Zv (Y.loadAgg Z xag28 (Kn.at 1 Z) Z)<|Yc Z Z Z ((rasked20_c (x := x) (pv := pv) hp hfew).frame)<|Zm Z<|Zv (Y.extract Z Z)<|Zv (Y.extract Z Z)<|Za Z<|Za Z<|Ze<|?_
     refine Zg<|Zs<|Zs<|Zr<|Zv (Y.loadAgg Z xag28 (Kn.at 1 Z) Z)<|Yc Z Z Z (rkind_h hp hfew)<|Ze<|Zg<|Zb<|Zs<|Zr<|Zv (Y.int Z Z Z)<|Za Z<|Ze<|Zg<|?_
     refine Zq ((Pc.kind p) == 1) (fun h9 g9 => ?_) fun h9 g9 => ?_
     ·refine Tr.cond_t Z h9<|Zs<|Zr<|Zv (Y.loadAgg Z xag35 (Kn.at 2 Z) Z)<|Zm Z<|Zm Z<|Zm Z<|Zm Z<|Zv (Y.loadAgg Z xag28 (Kn.at 1 Z) Z)<|?_
      refine Yk [3,3] Z Z Z (roffer_c (x := x) (pv := pv) (p := p) (state := state) (now := now) (entry := entry) hp hfew hci hsv hl hlm hla) (fun v10 V10 H10 hle10 hR10 => ?_)
      obtain ⟨_,rfl,hv10,ov10,rfl,hRp10⟩ := hR10
      replace hv := hv.le hle10
      replace hp := hp.le hle10
      replace hVle := Vw.le_trans hVle hle10
      obtain ⟨⟨pg10,cg10,rfl⟩,pk10,nk10,ck10,rfl⟩ := hRp10.forms
      generalize hP10 : (Eg.Qy.discover (Eg.qy x l state now entry p)) = P10 at hRp10 ⊢
      refine Run.heapTo (H' := [[(b3,.cells an0 45 (0,0))],[(b2,.cells (Pc.cells p (.slice ph p.hw.length ch) (.slice po9 no9 co9)) 28 (0,0))],[(b1,.cells (Si.cells x pv) 35 (0,0))],[(rx,.cells #[.slice pl l.length cl] 128 (0,0))],ql]) Z ?_
      refine Run.stAll (l2 := (An.cells P10 (.slice pg10 P10.reply.hw.length cg10) (.slice pk10 nk10 ck10)).toList) (j := 0) Z Z xsz45 Z Z Z Z ?_
      refine Run.heapTo (H' := [[(b3,.cells (An.cells P10 (.slice pg10 P10.reply.hw.length cg10) (.slice pk10 nk10 ck10)) 45 (0,0))],[(b2,.cells (Pc.cells p (.slice ph p.hw.length ch) (.slice po9 no9 co9)) 28 (0,0))],[(b1,.cells (Si.cells x pv) 35 (0,0))],[(rx,.cells #[.slice pl l.length cl] 128 (0,0))],ql]) Z ?_
      refine Ze<|Zg<|Zu<|Zk<|Zn<|?_
      exact Ex.retCell [3,3] rfl rfl xag45 (Kn.at 0 rfl) rfl ⟨hVle,rfl,.slice pg10 P10.reply.hw.length cg10,.slice pk10 nk10 ck10,by rw [hqe.trans (Eg.ans_1 (show Pc.kind p = 1 by omega)),hP10]; rfl,by rw [hqe.trans (Eg.ans_1 (show Pc.kind p = 1 by omega)),hP10]; exact hRp10⟩
     refine Tr.cond_f Z h9<|Zs<|Zr<|Zv (Y.int Z Z Z)<|Za Z<|Ze<|Zg<|?_
     refine Zq ((Pc.kind p) == 3) (fun h11 g11 => ?_) fun h11 g11 => ?_
     ·refine Tr.cond_t Z h11<|Zs<|Zr<|Zv (Y.loadAgg Z xag35 (Kn.at 2 Z) Z)<|Zm Z<|Zm Z<|Zm Z<|Zm Z<|Zv (Y.loadAgg Z xag28 (Kn.at 1 Z) Z)<|?_
      refine Yk [3,3] Z Z Z (rrequest_c (x := x) (pv := pv) (p := p) (state := state) (now := now) (entry := entry) hp hfew hci hsv hl hlm hla) (fun v12 V12 H12 hle12 hR12 => ?_)
      obtain ⟨_,rfl,hv12,ov12,rfl,hRp12⟩ := hR12
      replace hv := hv.le hle12
      replace hp := hp.le hle12
      replace hVle := Vw.le_trans hVle hle12
      obtain ⟨⟨pg12,cg12,rfl⟩,pk12,nk12,ck12,rfl⟩ := hRp12.forms
      generalize hP12 : (Eg.Qy.request (Eg.qy x l state now entry p)) = P12 at hRp12 ⊢
      refine Run.heapTo (H' := [[(b3,.cells an0 45 (0,0))],[(b2,.cells (Pc.cells p (.slice ph p.hw.length ch) (.slice po9 no9 co9)) 28 (0,0))],[(b1,.cells (Si.cells x pv) 35 (0,0))],[(rx,.cells #[.slice pl l.length cl] 128 (0,0))],ql]) Z ?_
      refine Run.stAll (l2 := (An.cells P12 (.slice pg12 P12.reply.hw.length cg12) (.slice pk12 nk12 ck12)).toList) (j := 0) Z Z xsz45 Z Z Z Z ?_
      refine Run.heapTo (H' := [[(b3,.cells (An.cells P12 (.slice pg12 P12.reply.hw.length cg12) (.slice pk12 nk12 ck12)) 45 (0,0))],[(b2,.cells (Pc.cells p (.slice ph p.hw.length ch) (.slice po9 no9 co9)) 28 (0,0))],[(b1,.cells (Si.cells x pv) 35 (0,0))],[(rx,.cells #[.slice pl l.length cl] 128 (0,0))],ql]) Z ?_
      refine Ze<|Zg<|Zu<|Zk<|Zn<|?_
      exact Ex.retCell [3,3] rfl rfl xag45 (Kn.at 0 rfl) rfl ⟨hVle,rfl,.slice pg12 P12.reply.hw.length cg12,.slice pk12 nk12 ck12,by rw [hqe.trans (Eg.ans_3 (show Pc.kind p = 3 by omega)),hP12]; rfl,by rw [hqe.trans (Eg.ans_3 (show Pc.kind p = 3 by omega)),hP12]; exact hRp12⟩
     refine Tr.cond_f Z h11<|Zs<|Zr<|Zv (Y.int Z Z Z)<|Za Z<|Ze<|Zg<|?_
     refine Zq ((Pc.kind p) == 4) (fun h13 g13 => ?_) fun h13 g13 => ?_
     ·refine Tr.cond_t Z h13<|Zs<|Zr<|Zm Z<|Zm Z<|Yc Z Z Z ((rget_c (a := p.asked) hl hlm).frameP (pull_perm [3,3] [[(b3,.cells an0 45 (0,0))],[(b2,.cells (Pc.cells p (.slice ph p.hw.length ch) (.slice po9 no9 co9)) 28 (0,0))],[(b1,.cells (Si.cells x pv) 35 (0,0))],[(rx,.cells #[.slice pl l.length cl] 128 (0,0))],ql]))<|?_
      refine Zm Z<|Zv (Y.extract Z Z)<|Zv (Y.extract Z Z)<|?_
      refine Run.alloc xzo43 (lt rfl) (fun b14 => ?_)
      refine Run.store (s := [(b14,.cells ((Le.cells ((Le.getE l p.asked).1)).toArray) 43 (0,0))]) Z Z xsz43 (i := 0) Z Z (le Z) Z Z ?_
      refine Za Z<|Ze<|Zg<|Zs<|Zr<|Zm Z<|Zv (Y.int Z Z Z)<|Zm Z<|?_
      refine Zq (((Le.getE l p.asked).2) == 0) (fun h15 g15 => ?_) fun h15 g15 => ?_
      ·refine Zp h15<|Zv (Y.loadAgg Z xag43 (Kn.at 0 Z) Z)<|Zp h15<|Zm Z<|Zp h15<|Yc Z Z Z ((rtheirs_c (l := (Le.getE l p.asked).1) (c := p.client)).frame)<|Zv (Y.pick_t Z h15 Z)<|Ze<|Zg<|?_
       refine Zq (Eg.Qy.th (Eg.qy x l state now entry p) ((Le.getE l p.asked).1)) (fun h16 g16 => ?_) fun h16 g16 => ?_
       ·refine Tr.cond_t Z h16<|Zs<|Zr<|Zv (Y.fieldAddr Z xfo43_0)<|Zv (Y.load Z xts24 (Kn.at 0 Z) Z)<|Zv (Y.fieldAddr Z xfo43_7)<|Zv (Y.load Z xts3 (Kn.at 0 Z) Z)<|Yc Z Z Z ((rbare_c (a := (Le.getE l p.asked).1.addr) (b := 5) (v := (Le.getE l p.asked).1.ver)).frame)<|Zv (Y.buildS (l := [(2,.const (.bool true)),(3,.tmp 99)]) (r := (An.cells ⟨false,Cli.zeroP,true,(Le.bare ((Le.getE l p.asked).1.addr) 5 ((Le.getE l p.asked).1.ver)),0⟩ (.slice none 0 0) (.slice none 0 0)).toList) xzo45 xpl45 Z Z)<|?_
        refine Run.stAll (l2 := (An.cells ⟨false,Cli.zeroP,true,(Le.bare ((Le.getE l p.asked).1.addr) 5 ((Le.getE l p.asked).1.ver)),0⟩ (.slice none 0 0) (.slice none 0 0)).toList) (j := 1) Z Z xsz45 Z Z Z Z ?_
        refine Run.heapTo (H' := [[(b14,.cells ((Le.cells ((Le.getE l p.asked).1)).toArray) 43 (0,0))],[(b3,.cells (An.cells ⟨false,Cli.zeroP,true,(Le.bare ((Le.getE l p.asked).1.addr) 5 ((Le.getE l p.asked).1.ver)),0⟩ (.slice none 0 0) (.slice none 0 0)) 45 (0,0))],[(b2,.cells (Pc.cells p (.slice ph p.hw.length ch) (.slice po9 no9 co9)) 28 (0,0))],[(b1,.cells (Si.cells x pv) 35 (0,0))],[(rx,.cells #[.slice pl l.length cl] 128 (0,0))],ql]) Z ?_
        refine Ze<|Zg<|Zu<|Zk<|Zn<|?_
        exact Ex.retCell [4,4] rfl rfl xag45 (Kn.at 1 rfl) rfl ⟨hVle,rfl,.slice none 0 0,.slice none 0 0,by rw [(hqe.trans (Eg.ans_4 (show Pc.kind p = 4 by omega))).trans (if_pos (show ((Le.getE l p.asked).2 == 0 && Eg.Qy.th (Eg.qy x l state now entry p) (Le.getE l p.asked).1) = true from by rw [h15,h16] <;> rfl))]; rfl,by rw [(hqe.trans (Eg.ans_4 (show Pc.kind p = 4 by omega))).trans (if_pos (show ((Le.getE l p.asked).2 == 0 && Eg.Qy.th (Eg.qy x l state now entry p) (Le.getE l p.asked).1) = true from by rw [h15,h16] <;> rfl))]; exact Pc.zero_R _⟩
       refine Tr.cond_f Z h16<|Zt<|Zc<|Zg<|Zs<|Zr<|Zv (Y.buildS (l := []) (r := (an0).toList) xzo45 xpl45 Z Z)<|Run.stAll (l2 := (an0).toList) (j := 1) Z Z xsz45 Z Z Z Z<|?_
       refine Run.heapTo (H' := [[(b14,.cells ((Le.cells ((Le.getE l p.asked).1)).toArray) 43 (0,0))],[(b3,.cells an0 45 (0,0))],[(b2,.cells (Pc.cells p (.slice ph p.hw.length ch) (.slice po9 no9 co9)) 28 (0,0))],[(b1,.cells (Si.cells x pv) 35 (0,0))],[(rx,.cells #[.slice pl l.length cl] 128 (0,0))],ql]) Z ?_
       refine Ze<|Zg<|Zu<|?_
       exact Ex.retCell [4,4] rfl rfl xag45 (Kn.at 1 rfl) rfl ⟨hVle,rfl,.slice none 0 0,.slice none 0 0,by rw [(hqe.trans (Eg.ans_4 (show Pc.kind p = 4 by omega))).trans (if_neg (by rw [show (Eg.of (Eg.Qy.th (Eg.qy x l state now entry p)) (Eg.Qy.l (Eg.qy x l state now entry p)) (Eg.Qy.addr (Eg.qy x l state now entry p))).2 = false from (show ((Le.getE l p.asked).2 == 0 && Eg.Qy.th (Eg.qy x l state now entry p) (Le.getE l p.asked).1) = false from by rw [h15,h16] <;> rfl)]; decide))]; rfl,by rw [(hqe.trans (Eg.ans_4 (show Pc.kind p = 4 by omega))).trans (if_neg (by rw [show (Eg.of (Eg.Qy.th (Eg.qy x l state now entry p)) (Eg.Qy.l (Eg.qy x l state now entry p)) (Eg.Qy.addr (Eg.qy x l state now entry p))).2 = false from (show ((Le.getE l p.asked).2 == 0 && Eg.Qy.th (Eg.qy x l state now entry p) (Le.getE l p.asked).1) = false from by rw [h15,h16] <;> rfl)]; decide))]; exact Pc.zero_R _⟩
      refine Zo h15 Z<|Zo h15 Z<|Zo h15 Z<|Zv (Y.pick_f Z h15 Z)<|Ze<|Zg<|Tr.cond_f Z Z<|Zt<|Zc<|Zg<|Zs<|Zr<|Zv (Y.buildS (l := []) (r := (an0).toList) xzo45 xpl45 Z Z)<|?_
      refine Run.stAll (l2 := (an0).toList) (j := 1) Z Z xsz45 Z Z Z Z<|Run.heapTo (H' := [[(b14,.cells ((Le.cells ((Le.getE l p.asked).1)).toArray) 43 (0,0))],[(b3,.cells an0 45 (0,0))],[(b2,.cells (Pc.cells p (.slice ph p.hw.length ch) (.slice po9 no9 co9)) 28 (0,0))],[(b1,.cells (Si.cells x pv) 35 (0,0))],[(rx,.cells #[.slice pl l.length cl] 128 (0,0))],ql]) Z<|?_
      refine Ze<|Zg<|Zu<|?_
      exact Ex.retCell [4,4] rfl rfl xag45 (Kn.at 1 rfl) rfl ⟨hVle,rfl,.slice none 0 0,.slice none 0 0,by rw [(hqe.trans (Eg.ans_4 (show Pc.kind p = 4 by omega))).trans (if_neg (by rw [show (Eg.of (Eg.Qy.th (Eg.qy x l state now entry p)) (Eg.Qy.l (Eg.qy x l state now entry p)) (Eg.Qy.addr (Eg.qy x l state now entry p))).2 = false from (show ((Le.getE l p.asked).2 == 0 && Eg.Qy.th (Eg.qy x l state now entry p) (Le.getE l p.asked).1) = false from by rw [h15] <;> rfl)]; decide))]; rfl,by rw [(hqe.trans (Eg.ans_4 (show Pc.kind p = 4 by omega))).trans (if_neg (by rw [show (Eg.of (Eg.Qy.th (Eg.qy x l state now entry p)) (Eg.Qy.l (Eg.qy x l state now entry p)) (Eg.Qy.addr (Eg.qy x l state now entry p))).2 = false from (show ((Le.getE l p.asked).2 == 0 && Eg.Qy.th (Eg.qy x l state now entry p) (Le.getE l p.asked).1) = false from by rw [h15] <;> rfl)]; decide))]; exact Pc.zero_R _⟩
     refine Tr.cond_f Z h13<|Zs<|Zr<|Zv (Y.int Z Z Z)<|Za Z<|Ze<|Zg<|?_
     refine Zq ((Pc.kind p) == 7) (fun h17 g17 => ?_) fun h17 g17 => ?_
     ·refine Tr.cond_t Z h17<|Zs<|Zr<|Zm Z<|Zv (Y.fieldAddr Z xfo28_4)<|Zv (Y.load Z xts24 (Kn.at 1 Z) Z)<|Yc Z Z Z ((rget_c (a := p.ci) hl hlm).frameP (pull_perm [3,3] [[(b3,.cells an0 45 (0,0))],[(b2,.cells (Pc.cells p (.slice ph p.hw.length ch) (.slice po9 no9 co9)) 28 (0,0))],[(b1,.cells (Si.cells x pv) 35 (0,0))],[(rx,.cells #[.slice pl l.length cl] 128 (0,0))],ql]))<|?_
      refine Zm Z<|Zv (Y.extract Z Z)<|Zv (Y.extract Z Z)<|?_
      refine Run.alloc xzo43 (lt rfl) (fun b18 => ?_)
      refine Run.store (s := [(b18,.cells ((Le.cells ((Le.getE l p.ci).1)).toArray) 43 (0,0))]) Z Z xsz43 (i := 0) Z Z (le Z) Z Z<|Za Z<|Ze<|Zg<|Zs<|Zr<|Zm Z<|Zv (Y.int Z Z Z)<|?_
      refine Zm Z ?_
      refine Zq (((Le.getE l p.ci).2) == 0) (fun h19 g19 => ?_) fun h19 g19 => ?_
      ·refine Zp h19<|Zv (Y.loadAgg Z xag43 (Kn.at 0 Z) Z)<|Zp h19<|Zm Z<|Zp h19<|Yc Z Z Z ((rtheirs_c (l := (Le.getE l p.ci).1) (c := p.client)).frame)<|Zv (Y.pick_t Z h19 Z)<|Ze<|Zg<|?_
       refine Zq (Eg.Qy.th (Eg.qy x l state now entry p) ((Le.getE l p.ci).1)) (fun h20 g20 => ?_) fun h20 g20 => ?_
       ·refine Tr.cond_t Z h20<|Zs<|Zr<|Zv (Y.fieldAddr Z xfo43_1)<|Run.store (s := [(b18,.cells #[.int .u32 ((Le.getE l p.ci).1.addr),.int .i64 4,.string ((Le.getE l p.ci).1.client),.int .i64 ((Le.getE l p.ci).1.till),.int .i64 ((Le.getE l p.ci).1.acked),.int .i64 ((Le.getE l p.ci).1.told),.int .i64 ((Le.getE l p.ci).1.at_),.int .i64 ((Le.getE l p.ci).1.ver)] 43 (0,0))]) Z Z xsz3 (i := 0) Z Z (le Z) Z Z<|?_
        refine Ze<|Zg<|Zs<|Zr<|Zm Z<|Zv (Y.fieldAddr Z xfo43_6)<|Run.store (s := [(b18,.cells #[.int .u32 ((Le.getE l p.ci).1.addr),.int .i64 4,.string ((Le.getE l p.ci).1.client),.int .i64 ((Le.getE l p.ci).1.till),.int .i64 ((Le.getE l p.ci).1.acked),.int .i64 ((Le.getE l p.ci).1.told),.int .i64 now,.int .i64 ((Le.getE l p.ci).1.ver)] 43 (0,0))]) Z Z xsz3 (i := 0) Z Z (le Z) Z Z<|Ze<|Zg<|Zs<|Zr<|Zv (Y.loadAgg Z xag43 (Kn.at 0 Z) Z)<|?_
        refine Zv (Y.buildS (l := [(2,.const (.bool true)),(3,.tmp 120)]) (r := [.bool false,.int .i64 0,.int .u32 0,.int .i64 0,.int .i64 0,.int .u32 0,.int .u32 0,.int .u32 0,.int .u32 0,.slice none 0 0,.slice none 0 0,.bool true,.int .u32 ((Le.getE l p.ci).1.addr),.int .i64 4,.string ((Le.getE l p.ci).1.client),.int .i64 ((Le.getE l p.ci).1.till),.int .i64 ((Le.getE l p.ci).1.acked),.int .i64 ((Le.getE l p.ci).1.told),.int .i64 now,.int .i64 ((Le.getE l p.ci).1.ver),.int .i64 0]) xzo45 xpl45 Z Z) ?_
        refine Run.stAll (l2 := [.bool false,.int .i64 0,.int .u32 0,.int .i64 0,.int .i64 0,.int .u32 0,.int .u32 0,.int .u32 0,.int .u32 0,.slice none 0 0,.slice none 0 0,.bool true,.int .u32 ((Le.getE l p.ci).1.addr),.int .i64 4,.string ((Le.getE l p.ci).1.client),.int .i64 ((Le.getE l p.ci).1.till),.int .i64 ((Le.getE l p.ci).1.acked),.int .i64 ((Le.getE l p.ci).1.told),.int .i64 now,.int .i64 ((Le.getE l p.ci).1.ver),.int .i64 0]) (j := 1) Z Z xsz45 Z Z Z Z ?_
        refine Run.heapTo (H' := [[(b18,.cells #[.int .u32 ((Le.getE l p.ci).1.addr),.int .i64 4,.string ((Le.getE l p.ci).1.client),.int .i64 ((Le.getE l p.ci).1.till),.int .i64 ((Le.getE l p.ci).1.acked),.int .i64 ((Le.getE l p.ci).1.told),.int .i64 now,.int .i64 ((Le.getE l p.ci).1.ver)] 43 (0,0))],[(b3,.cells #[.bool false,.int .i64 0,.int .u32 0,.int .i64 0,.int .i64 0,.int .u32 0,.int .u32 0,.int .u32 0,.int .u32 0,.slice none 0 0,.slice none 0 0,.bool true,.int .u32 ((Le.getE l p.ci).1.addr),.int .i64 4,.string ((Le.getE l p.ci).1.client),.int .i64 ((Le.getE l p.ci).1.till),.int .i64 ((Le.getE l p.ci).1.acked),.int .i64 ((Le.getE l p.ci).1.told),.int .i64 now,.int .i64 ((Le.getE l p.ci).1.ver),.int .i64 0] 45 (0,0))],[(b2,.cells (Pc.cells p (.slice ph p.hw.length ch) (.slice po9 no9 co9)) 28 (0,0))],[(b1,.cells (Si.cells x pv) 35 (0,0))],[(rx,.cells #[.slice pl l.length cl] 128 (0,0))],ql]) Z ?_
        refine Ze<|Zg<|Zu<|Zk<|Zn<|?_
        exact Ex.retCell [4,4] rfl rfl xag45 (Kn.at 1 rfl) rfl ⟨hVle,rfl,.slice none 0 0,.slice none 0 0,by rw [(hqe.trans (Eg.ans_7 (show Pc.kind p = 7 by omega))).trans (if_pos (show ((Le.getE l p.ci).2 == 0 && Eg.Qy.th (Eg.qy x l state now entry p) (Le.getE l p.ci).1) = true from by rw [h19,h20] <;> rfl))]; rfl,by rw [(hqe.trans (Eg.ans_7 (show Pc.kind p = 7 by omega))).trans (if_pos (show ((Le.getE l p.ci).2 == 0 && Eg.Qy.th (Eg.qy x l state now entry p) (Le.getE l p.ci).1) = true from by rw [h19,h20] <;> rfl))]; exact Pc.zero_R _⟩
       refine Tr.cond_f Z h20<|Zt<|Zc<|Zg<|Zs<|Zr<|Zv (Y.buildS (l := []) (r := (an0).toList) xzo45 xpl45 Z Z)<|Run.stAll (l2 := (an0).toList) (j := 1) Z Z xsz45 Z Z Z Z<|?_
       refine Run.heapTo (H' := [[(b18,.cells ((Le.cells ((Le.getE l p.ci).1)).toArray) 43 (0,0))],[(b3,.cells an0 45 (0,0))],[(b2,.cells (Pc.cells p (.slice ph p.hw.length ch) (.slice po9 no9 co9)) 28 (0,0))],[(b1,.cells (Si.cells x pv) 35 (0,0))],[(rx,.cells #[.slice pl l.length cl] 128 (0,0))],ql]) Z ?_
       refine Ze<|Zg<|Zu<|?_
       exact Ex.retCell [4,4] rfl rfl xag45 (Kn.at 1 rfl) rfl ⟨hVle,rfl,.slice none 0 0,.slice none 0 0,by rw [(hqe.trans (Eg.ans_7 (show Pc.kind p = 7 by omega))).trans (if_neg (by rw [show (Eg.of (Eg.Qy.th (Eg.qy x l state now entry p)) (Eg.Qy.l (Eg.qy x l state now entry p)) ((Eg.Qy.p (Eg.qy x l state now entry p)).ci)).2 = false from (show ((Le.getE l p.ci).2 == 0 && Eg.Qy.th (Eg.qy x l state now entry p) (Le.getE l p.ci).1) = false from by rw [h19,h20] <;> rfl)]; decide))]; rfl,by rw [(hqe.trans (Eg.ans_7 (show Pc.kind p = 7 by omega))).trans (if_neg (by rw [show (Eg.of (Eg.Qy.th (Eg.qy x l state now entry p)) (Eg.Qy.l (Eg.qy x l state now entry p)) ((Eg.Qy.p (Eg.qy x l state now entry p)).ci)).2 = false from (show ((Le.getE l p.ci).2 == 0 && Eg.Qy.th (Eg.qy x l state now entry p) (Le.getE l p.ci).1) = false from by rw [h19,h20] <;> rfl)]; decide))]; exact Pc.zero_R _⟩
      refine Zo h19 Z<|Zo h19 Z<|Zo h19 Z<|Zv (Y.pick_f Z h19 Z)<|Ze<|Zg<|Tr.cond_f Z Z<|Zt<|Zc<|Zg<|Zs<|Zr<|Zv (Y.buildS (l := []) (r := (an0).toList) xzo45 xpl45 Z Z)<|?_
      refine Run.stAll (l2 := (an0).toList) (j := 1) Z Z xsz45 Z Z Z Z<|Run.heapTo (H' := [[(b18,.cells ((Le.cells ((Le.getE l p.ci).1)).toArray) 43 (0,0))],[(b3,.cells an0 45 (0,0))],[(b2,.cells (Pc.cells p (.slice ph p.hw.length ch) (.slice po9 no9 co9)) 28 (0,0))],[(b1,.cells (Si.cells x pv) 35 (0,0))],[(rx,.cells #[.slice pl l.length cl] 128 (0,0))],ql]) Z<|?_
      refine Ze<|Zg<|Zu<|?_
      exact Ex.retCell [4,4] rfl rfl xag45 (Kn.at 1 rfl) rfl ⟨hVle,rfl,.slice none 0 0,.slice none 0 0,by rw [(hqe.trans (Eg.ans_7 (show Pc.kind p = 7 by omega))).trans (if_neg (by rw [show (Eg.of (Eg.Qy.th (Eg.qy x l state now entry p)) (Eg.Qy.l (Eg.qy x l state now entry p)) ((Eg.Qy.p (Eg.qy x l state now entry p)).ci)).2 = false from (show ((Le.getE l p.ci).2 == 0 && Eg.Qy.th (Eg.qy x l state now entry p) (Le.getE l p.ci).1) = false from by rw [h19] <;> rfl)]; decide))]; rfl,by rw [(hqe.trans (Eg.ans_7 (show Pc.kind p = 7 by omega))).trans (if_neg (by rw [show (Eg.of (Eg.Qy.th (Eg.qy x l state now entry p)) (Eg.Qy.l (Eg.qy x l state now entry p)) ((Eg.Qy.p (Eg.qy x l state now entry p)).ci)).2 = false from (show ((Le.getE l p.ci).2 == 0 && Eg.Qy.th (Eg.qy x l state now entry p) (Le.getE l p.ci).1) = false from by rw [h19] <;> rfl)]; decide))]; exact Pc.zero_R _⟩
     refine Tr.cond_f Z h17<|Zs<|Zr<|Zv (Y.int Z Z Z)<|Za Z<|Ze<|Zg<|?_
     refine Zq ((Pc.kind p) == 8) (fun h21 g21 => ?_) fun h21 g21 => ?_
     ·refine Tr.cond_t Z h21<|Zs<|Zr<|Zv (Y.loadAgg Z xag35 (Kn.at 2 Z) Z)<|Zv (Y.loadAgg Z xag28 (Kn.at 1 Z) Z)<|?_
      refine Yk [] Z Z Z (rreply_c (x := x) (p := p) (pv := pv) (kind := 5) hp hfew hsv) (fun v22 V22 H22 hle22 hR22 => ?_)
      obtain ⟨_,rfl,hv22,ov22,rfl,hRp22⟩ := hR22
      replace hv := hv.le hle22
      replace hp := hp.le hle22
      replace hVle := Vw.le_trans hVle hle22
      obtain ⟨⟨pg22,cg22,rfl⟩,pk22,nk22,ck22,rfl⟩ := hRp22.forms
      generalize hP22 : Eg.rep x p 5 = P22 at hRp22 ⊢
      refine Run.heapTo (H' := [[(b3,.cells an0 45 (0,0))],[(b2,.cells (Pc.cells p (.slice ph p.hw.length ch) (.slice po9 no9 co9)) 28 (0,0))],[(b1,.cells (Si.cells x pv) 35 (0,0))],[(rx,.cells #[.slice pl l.length cl] 128 (0,0))],ql]) Z ?_
      refine Zv (Y.buildS (l := [(0,.const (.bool true)),(1,.tmp 126)]) (r := (An.cells ⟨true,P22,false,Le.dflt,0⟩ (.slice pg22 P22.hw.length cg22) (.slice pk22 nk22 ck22)).toList) xzo45 xpl45 Z Z) ?_
      refine Run.stAll (l2 := (An.cells ⟨true,P22,false,Le.dflt,0⟩ (.slice pg22 P22.hw.length cg22) (.slice pk22 nk22 ck22)).toList) (j := 0) Z Z xsz45 Z Z Z Z ?_
      refine Run.heapTo (H' := [[(b3,.cells (An.cells ⟨true,P22,false,Le.dflt,0⟩ (.slice pg22 P22.hw.length cg22) (.slice pk22 nk22 ck22)) 45 (0,0))],[(b2,.cells (Pc.cells p (.slice ph p.hw.length ch) (.slice po9 no9 co9)) 28 (0,0))],[(b1,.cells (Si.cells x pv) 35 (0,0))],[(rx,.cells #[.slice pl l.length cl] 128 (0,0))],ql]) Z ?_
      refine Ze<|Zg<|Zu<|Zk<|Zn<|?_
      exact Ex.retCell [3,3] rfl rfl xag45 (Kn.at 0 rfl) rfl ⟨hVle,rfl,.slice pg22 P22.hw.length cg22,.slice pk22 nk22 ck22,by rw [hqe.trans (Eg.ans_8 (show Pc.kind p = 8 by omega))]; show _ = Value.agg ((⟨true,Eg.rep x p 5,false,Le.dflt,0⟩ : An).cells _ _); rw [hP22]; rfl,by rw [hqe.trans (Eg.ans_8 (show Pc.kind p = 8 by omega))]; show Pc.R _ (Eg.rep x p 5) _ _; rw [hP22]; exact hRp22⟩
     refine Tr.cond_f Z h21<|Zt<|Zc<|Zg<|Zs<|Zr<|Zv (Y.buildS (l := []) (r := (an0).toList) xzo45 xpl45 Z Z)<|Run.stAll (l2 := (an0).toList) (j := 0) Z Z xsz45 Z Z Z Z<|?_
     refine Run.heapTo (H' := [[(b3,.cells an0 45 (0,0))],[(b2,.cells (Pc.cells p (.slice ph p.hw.length ch) (.slice po9 no9 co9)) 28 (0,0))],[(b1,.cells (Si.cells x pv) 35 (0,0))],[(rx,.cells #[.slice pl l.length cl] 128 (0,0))],ql]) Z ?_
     refine Ze<|Zg<|Zu<|?_
     exact Ex.retCell [3,3] rfl rfl xag45 (Kn.at 0 rfl) rfl ⟨hVle,rfl,.slice none 0 0,.slice none 0 0,by rw [hqe.trans (Eg.ans_0 (show ¬ Pc.kind p = 1 by omega) (show ¬ Pc.kind p = 3 by omega) (show ¬ Pc.kind p = 4 by omega) (show ¬ Pc.kind p = 7 by omega) (show ¬ Pc.kind p = 8 by omega))]; rfl,by rw [hqe.trans (Eg.ans_0 (show ¬ Pc.kind p = 1 by omega) (show ¬ Pc.kind p = 3 by omega) (show ¬ Pc.kind p = 4 by omega) (show ¬ Pc.kind p = 7 by omega) (show ¬ Pc.kind p = 8 by omega))]; exact Pc.zero_R _⟩
    refine Zo (congrArg Bool.not h7) Z<|Zo (congrArg Bool.not h7) Z<|Zo (congrArg Bool.not h7) Z<|Zv (Y.pick_t Z (congrArg Bool.not h7) Z)<|Ze<|Zg<|Tr.cond_t Z Z<|Zs<|Zr<|Zv (Y.buildS (l := []) (r := (an0).toList) xzo45 xpl45 Z Z)<|?_
    refine Run.stAll (l2 := (an0).toList) (j := 0) Z Z xsz45 Z Z Z Z<|Run.heapTo (H' := [[(b3,.cells an0 45 (0,0))],[(b2,.cells (Pc.cells p (.slice ph p.hw.length ch) (.slice po9 no9 co9)) 28 (0,0))],[(b1,.cells (Si.cells x pv) 35 (0,0))],[(rx,.cells #[.slice pl l.length cl] 128 (0,0))],ql]) Z<|?_
    refine Ze<|Zg<|Zu<|Zn<|?_
    exact Ex.retCell [3,3] rfl rfl xag45 (Kn.at 0 rfl) rfl ⟨hVle,rfl,.slice none 0 0,.slice none 0 0,by rw [Eg.ans_no (Eg.fits_n (.inr (.inr (.inr (.inl h7)))))]; rfl,by rw [Eg.ans_no (Eg.fits_n (.inr (.inr (.inr (.inl h7)))))]; exact Pc.zero_R _⟩
   refine Zo (congrArg Bool.not h6) Z<|Zo (congrArg Bool.not h6) Z<|Zv (Y.pick_t Z (congrArg Bool.not h6) Z)<|Zm Z<|Zo Z Z<|Zo Z Z<|Zo Z Z<|Zv (Y.pick_t Z Z Z)<|Ze<|Zg<|Tr.cond_t Z Z<|Zs<|Zr<|Zv (Y.buildS (l := []) (r := (an0).toList) xzo45 xpl45 Z Z)<|?_
   refine Run.stAll (l2 := (an0).toList) (j := 0) Z Z xsz45 Z Z Z Z<|Run.heapTo (H' := [[(b3,.cells an0 45 (0,0))],[(b2,.cells (Pc.cells p (.slice ph p.hw.length ch) (.slice po9 no9 co9)) 28 (0,0))],[(b1,.cells (Si.cells x pv) 35 (0,0))],[(rx,.cells #[.slice pl l.length cl] 128 (0,0))],ql]) Z<|?_
   refine Ze<|Zg<|Zu<|Zn<|?_
   exact Ex.retCell [3,3] rfl rfl xag45 (Kn.at 0 rfl) rfl ⟨hVle,rfl,.slice none 0 0,.slice none 0 0,by rw [Eg.ans_no (Eg.fits_n (.inr (.inr (.inl h6))))]; rfl,by rw [Eg.ans_no (Eg.fits_n (.inr (.inr (.inl h6))))]; exact Pc.zero_R _⟩
  refine Zo (congrArg Bool.not h5) Z<|Zo (congrArg Bool.not h5) Z<|Zo (congrArg Bool.not h5) Z<|Zv (Y.pick_t Z (congrArg Bool.not h5) Z)<|Zm Z<|Zo Z Z<|Zo Z Z<|Zv (Y.pick_t Z Z Z)<|Zm Z<|Zo Z Z<|Zo Z Z<|Zo Z Z<|Zv (Y.pick_t Z Z Z)<|Ze<|Zg<|Tr.cond_t Z Z<|?_
  refine Zs<|Zr<|Zv (Y.buildS (l := []) (r := (an0).toList) xzo45 xpl45 Z Z)<|Run.stAll (l2 := (an0).toList) (j := 0) Z Z xsz45 Z Z Z Z<|?_
  refine Run.heapTo (H' := [[(b3,.cells an0 45 (0,0))],[(b2,.cells (Pc.cells p (.slice ph p.hw.length ch) (.slice po9 no9 co9)) 28 (0,0))],[(b1,.cells (Si.cells x pv) 35 (0,0))],[(rx,.cells #[.slice pl l.length cl] 128 (0,0))],ql]) Z ?_
  refine Ze<|Zg<|Zu<|Zn<|?_
  exact Ex.retCell [3,3] rfl rfl xag45 (Kn.at 0 rfl) rfl ⟨hVle,rfl,.slice none 0 0,.slice none 0 0,by rw [Eg.ans_no (Eg.fits_n (.inr (.inl h5)))]; rfl,by rw [Eg.ans_no (Eg.fits_n (.inr (.inl h5)))]; exact Pc.zero_R _⟩
 refine Zo (congrArg Bool.not h4) Z<|Zo (congrArg Bool.not h4) Z<|Zv (Y.pick_t Z (congrArg Bool.not h4) Z)<|Zm Z<|Zo Z Z<|Zo Z Z<|Zo Z Z<|Zv (Y.pick_t Z Z Z)<|Zm Z<|Zo Z Z<|Zo Z Z<|Zo Z Z<|Zv (Y.pick_t Z Z Z)<|Zm Z<|Zo Z Z<|Zo Z Z<|?_
 refine Zv (Y.pick_t Z Z Z)<|Zm Z<|Zo Z Z<|Zo Z Z<|Zo Z Z<|Zv (Y.pick_t Z Z Z)<|Ze<|Zg<|Tr.cond_t Z Z<|Zs<|Zr<|Zv (Y.buildS (l := []) (r := (an0).toList) xzo45 xpl45 Z Z)<|?_
 refine Run.stAll (l2 := (an0).toList) (j := 0) Z Z xsz45 Z Z Z Z<|Run.heapTo (H' := [[(b3,.cells an0 45 (0,0))],[(b2,.cells (Pc.cells p (.slice ph p.hw.length ch) (.slice po9 no9 co9)) 28 (0,0))],[(b1,.cells (Si.cells x pv) 35 (0,0))],[(rx,.cells #[.slice pl l.length cl] 128 (0,0))],ql]) Z<|?_
 refine Ze<|Zg<|Zu<|Zn<|?_
 exact Ex.retCell [3,3] rfl rfl xag45 (Kn.at 0 rfl) rfl ⟨hVle,rfl,.slice none 0 0,.slice none 0 0,by rw [Eg.ans_no (Eg.fits_n (.inl h4))]; rfl,by rw [Eg.ans_no (Eg.fits_n (.inl h4))]; exact Pc.zero_R _⟩
set_option maxHeartbeats 2000000 in
theorem ranswer_n {V : Vw} {x : Si} {pv : Value} (hv : Rd V [] 2 pv x.pool.length (x.pool.flatMap Rg.cells)) (hpl : x.pool.length <= 1000) (hpk : Rg.Oks x.pool) {p : Pc} {hv0 ov0 : Value} (hp : Pc.R V p hv0 ov0) (hfew : p.few = true) (hci : 0 <= p.ci /\ p.ci <= 4294967295) (hsv : 0 <= x.server /\ x.server <= 4294967295) {state now entry : Int} {l : List Le} (hbad : ¬ (Rg.pool x.pool).2 = 0)  : Does Tryz.prog 23 [.agg (x.cells pv),.pointer none,.int .i64 state,.int .i64 now,.int .i64 entry,.agg (p.cells hv0 ov0)] V [] (fun u V' H' => V.le V' /\ H' = [] /\ ∃ hv' ov',u = .agg ((Eg.ans x l state now entry p).cells hv' ov') /\ Pc.R V' (Eg.ans x l state now entry p).reply hv' ov') := by
 obtain ⟨⟨ph,ch,rfl⟩,po9,no9,co9,rfl⟩ := hp.forms
 have hVle : V.le V := Vw.le_refl V
 refine Does.intro Tryz.func23 rfl rfl (le rfl) (fun B => ?_)
 refine Zs<|Zr<|?_
 refine Run.box rfl (lt rfl) (fun b1 => ?_)
 refine Run.box rfl (lt rfl) (fun b2 => ?_)
 refine Run.alloc xzo45 (lt rfl) (fun b3 => ?_)
 refine Ze<|Zg<|Zs<|Zr<|Zv (Y.loadAgg Z xag35 (Kn.at 2 Z) Z)<|Yc Z Z Z (rright20_h (x := x) hv hpl hpk)<|Za Z<|Ze<|Zg<|Zs<|Zr<|Zv (Y.loadAgg Z xag28 (Kn.at 1 Z) Z)<|Yc Z Z Z (rright_h hp hfew)<|Za Z<|Ze<|Zg<|?_
 refine Zs<|Zs<|Zr<|Zm Z<|Zv (Y.not Z)<|Zm Z<|?_
 refine Zq (x.right) (fun h4 g4 => ?_) fun h4 g4 => ?_
 ·refine Zp (congrArg Bool.not h4)<|Zm Z<|Zp (congrArg Bool.not h4)<|Zv (Y.eqNil Z Z xpt39)<|Zv (Y.pick_f Z (congrArg Bool.not h4) Z)<|Zm Z<|Zo Z Z<|Zo Z Z<|Zo Z Z<|Zv (Y.pick_t Z Z Z)<|Zm Z<|Zo Z Z<|Zo Z Z<|Zo Z Z<|Zv (Y.pick_t Z Z Z)<|Zm Z<|?_
  refine Zo Z Z<|Zo Z Z<|Zv (Y.pick_t Z Z Z)<|Zm Z<|Zo Z Z<|Zo Z Z<|Zo Z Z<|Zv (Y.pick_t Z Z Z)<|Ze<|Zg<|Tr.cond_t Z Z<|Zs<|Zr<|Zv (Y.buildS (l := []) (r := (an0).toList) xzo45 xpl45 Z Z)<|?_
  refine Run.stAll (l2 := (an0).toList) (j := 0) Z Z xsz45 Z Z Z Z<|Run.heapTo (H' := [[(b3,.cells an0 45 (0,0))],[(b2,.cells (Pc.cells p (.slice ph p.hw.length ch) (.slice po9 no9 co9)) 28 (0,0))],[(b1,.cells (Si.cells x pv) 35 (0,0))]]) Z<|?_
  refine Ze<|Zg<|Zu<|Zn<|?_
  exact Ex.retCell [] rfl rfl xag45 (Kn.at 0 rfl) rfl (by exfalso; exact hbad (Si.right_t.1 h4).1)
 refine Zo (congrArg Bool.not h4) Z<|Zo (congrArg Bool.not h4) Z<|Zv (Y.pick_t Z (congrArg Bool.not h4) Z)<|Zm Z<|Zo Z Z<|Zo Z Z<|Zo Z Z<|Zv (Y.pick_t Z Z Z)<|Zm Z<|Zo Z Z<|Zo Z Z<|Zo Z Z<|Zv (Y.pick_t Z Z Z)<|Zm Z<|Zo Z Z<|Zo Z Z<|?_
 refine Zv (Y.pick_t Z Z Z)<|Zm Z<|Zo Z Z<|Zo Z Z<|Zo Z Z<|Zv (Y.pick_t Z Z Z)<|Ze<|Zg<|Tr.cond_t Z Z<|Zs<|Zr<|Zv (Y.buildS (l := []) (r := (an0).toList) xzo45 xpl45 Z Z)<|?_
 refine Run.stAll (l2 := (an0).toList) (j := 0) Z Z xsz45 Z Z Z Z<|Run.heapTo (H' := [[(b3,.cells an0 45 (0,0))],[(b2,.cells (Pc.cells p (.slice ph p.hw.length ch) (.slice po9 no9 co9)) 28 (0,0))],[(b1,.cells (Si.cells x pv) 35 (0,0))]]) Z<|?_
 refine Ze<|Zg<|Zu<|Zn<|?_
 exact Ex.retCell [] rfl rfl xag45 (Kn.at 0 rfl) rfl ⟨hVle,rfl,.slice none 0 0,.slice none 0 0,by rw [Eg.ans_no (Eg.fits_n (.inl h4))]; rfl,by rw [Eg.ans_no (Eg.fits_n (.inl h4))]; exact Pc.zero_R _⟩
theorem same20_c {V : Vw} {A : An} {hv1 ov1 hv2 ov2 : Value} (h1 : Pc.R V A.reply hv1 ov1) (h2 : Pc.R V A.reply hv2 ov2) (hol : A.reply.os.length <= 1000000)  : Does Tryz.prog 24 [.agg (A.cells hv1 ov1),.agg (A.cells hv2 ov2)] V [] (Pv (.bool true) V []) := by
 obtain ⟨⟨p1,c1,rfl⟩,q1,n1,d1,rfl⟩ := h1.forms
 obtain ⟨⟨p2,c2,rfl⟩,q2,n2,d2,rfl⟩ := h2.forms
 refine Does.intro Tryz.func24 rfl rfl (le rfl) (fun B => ?_)
 refine Zs<|Zr<|?_
 refine Run.box rfl (lt rfl) (fun b1 => ?_)
 refine Run.box rfl (lt rfl) (fun b2 => ?_)
 refine Za Z<|Ze<|Zg<|Zs<|Zr<|Zv (Y.fieldAddr Z xfo45_1)<|Zv (Y.loadAgg Z xag28 (Kn.at 1 Z) Z)<|Zv (Y.fieldAddr Z xfo45_1)<|Zv (Y.loadAgg Z xag28 (Kn.at 0 Z) Z)<|Yc Z Z Z (same_h h1.hw h1.os h2.hw h2.os hol)<|Za Z<|Ze<|Zg<|Zs<|Zr<|Zm Z<|?_
 refine Zm Z<|Zp Z<|Zv (Y.fieldAddr Z xfo45_0)<|Zp Z<|Zv (Y.load Z xts4 (Kn.at 1 Z) Z)<|Zp Z<|Zv (Y.fieldAddr Z xfo45_0)<|Zp Z<|Zv (Y.load Z xts4 (Kn.at 0 Z) Z)<|Zp Z<|Zv (Y.eqB_t Z Z xtg4)<|Zv (Y.pick_t Z Z Z)<|Zm Z<|Zp Z<|Zv (Y.fieldAddr Z xfo45_2)<|Zp Z<|?_
 refine Zv (Y.load Z xts4 (Kn.at 1 Z) Z)<|Zp Z<|Zv (Y.fieldAddr Z xfo45_2)<|Zp Z<|Zv (Y.load Z xts4 (Kn.at 0 Z) Z)<|Zp Z<|Zv (Y.eqB_t Z Z xtg4)<|Zv (Y.pick_t Z Z Z)<|Zm Z<|Zp Z<|Zv (Y.fieldAddr Z xfo45_3)<|Zp Z<|Zv (Y.loadAgg Z xag43 (Kn.at 1 Z) Z)<|Zp Z<|Zv (Y.fieldAddr Z xfo45_3)<|Zp Z<|?_
 refine Zv (Y.loadAgg Z xag43 (Kn.at 0 Z) Z)<|Zp Z<|Zv (Y.eqS_self Z Z xtgs43 Z)<|Zv (Y.pick_t Z Z Z)<|Zm Z<|Zp Z<|Zv (Y.fieldAddr Z xfo45_4)<|Zp Z<|Zv (Y.load Z xts3 (Kn.at 1 Z) Z)<|Zp Z<|Zv (Y.fieldAddr Z xfo45_4)<|Zp Z<|Zv (Y.load Z xts3 (Kn.at 0 Z) Z)<|Zp Z<|Zv (Y.eqI_t Z Z)<|Zv (Y.pick_t Z Z Z)<|?_
 refine Za Z<|Ze<|Zg<|Zu<|Ex.keep []<|?_
 exact Ex.ret1 rfl rfl  ⟨rfl,rfl,rfl⟩
end Go.Proofs.YtfgblingojgafaaGreat
namespace Go.Proofs.YtfgblingojgafaaGreat
open Go Go.K
attribute [local irreducible] Code.wp wpList Calls wpQuiet
set_option maxHeartbeats 1000000 in
theorem answers20_c {V : Vw} {x : Si} {pp : Option Addr} {cp : Nat} (hpv : Rd V [] 2 (.slice pp x.pool.length cp) x.pool.length (x.pool.flatMap Rg.cells)) (hpk : Rg.Oks x.pool) (hsv : 0 <= x.server /\ x.server <= 4294967295) {ls : List Le} {p2 : Option Addr} {c2 : Nat} (hv2 : Rd V [] 8 (.slice p2 ls.length c2) ls.length (ls.flatMap Le.cells)) (hl9 : ls.length <= 9223372036854775807) (hcs : ∀ x,x ∈ ls -> x.client.size <= 9223372036854775807) {c : Eg.Cs} (hco : Eg.Csok V c)  : Does Tryz.prog 7 [.agg (x.cells (.slice pp x.pool.length cp)),.slice p2 ls.length c2,.agg c.cells] V [] (fun v _ _ => v = .bool true) := by
 refine Does.intro Tryz.func7 rfl rfl (le rfl) (fun B => ?_)
 refine Zs<|Zr<|?_
 refine Run.box rfl (lt rfl) (fun b1 => ?_)
 refine Run.box rfl (lt rfl) (fun b2 => ?_)
 refine Za Z<|Ze<|Zg<|Zs<|Zr<|?_
 refine Yk [] Z Z Z awake20_c (fun v3 V3 H3 hle3 hR3 => ?_)
 obtain ⟨_,rfl,rfl⟩ := hR3
 replace hv2 := hv2.le hle3
 replace hco := hco.le hle3
 replace hpv := hpv.le hle3
 have hVle := hle3
 refine Run.heapTo (H' := [[(b2,.cells (Eg.Cs.cells c) 30 (0,0))],[(b1,.cells (Si.cells x (.slice pp x.pool.length cp)) 35 (0,0))]]) Z ?_
 refine Za Z<|Ze<|Zg<|Zs<|Zr<|Zv (Y.loadAgg Z xag35 (Kn.at 1 Z) Z)<|Zm Z<|Zv (Y.loadAgg Z xag30 (Kn.at 0 Z) Z)<|Yc Z Z Z ((long20_c (x := x) (c := c) hv2 hl9 hco.r.hw hco.r.os).frame)<|Za Z<|Ze<|Zg<|Zs<|Zs<|Zr<|Zm Z<|?_
 refine Zv (Y.not Z)<|Zm Z<|Zp Z<|Zm Z<|Zv (Y.pick_f Z Z Z)<|Ze<|Zg<|?_
 refine Zq (Eg.long c.p ls x.pool.length) (fun h4 g4 => ?_) fun h4 g4 => ?_
 ·refine Tr.cond_t Z h4<|Zs<|Zr<|Zm Z<|Za Z<|Ze<|Zg<|Zu<|Zn<|Ex.keep []<|?_
  exact Ex.ret1 rfl rfl  rfl
 obtain ⟨hfew,hlen,hnp⟩ := Eg.long_f h4
 have hw3 : c.p.hw.length < 1000 := by have h := hfew; simp only [Pc.few,Bool.and_eq_true,decide_eq_true_eq] at h; omega
 refine Tr.cond_f Z h4<|Zt<|Zg<|Zs<|Zr<|?_
 by_cases hp0 : (Rg.pool x.pool).2 = 0
 ·refine Zv (Y.loadAgg Z xag35 (Kn.at 1 Z) Z)<|Zm Z<|?_
  refine Yk [] Z Z Z (made20_c (x := x) hpv W hpk hv2 hl9 hcs) (fun v5 V5 H5 hle5 hR5 => ?_)
  rcases hR5 with ⟨_,⟨hpn,_⟩ | ⟨_,l,tx,rx,s1,pl,cl,ql,rfl,hin,hl,had,hab,rfl⟩⟩
  · exact absurd hp0 hpn
  replace hv2 := hv2.le hle5
  replace hco := hco.le hle5
  replace hpv := hpv.le hle5
  replace hVle := Vw.le_trans hVle hle5
  have hin2 := hin
  obtain ⟨hris,hlm3,_⟩ := hin2
  refine Run.heapTo (H' := [[(b2,.cells (Eg.Cs.cells c) 30 (0,0))],[(b1,.cells (Si.cells x (.slice pp x.pool.length cp)) 35 (0,0))],s1,[(rx,.cells #[.slice pl l.length cl] 128 (0,0))],ql]) Z ?_
  refine Zm Z<|Zv (Y.extract Z Z)<|Zv (Y.extract Z Z)<|Za Z<|Za Z<|Ze<|Zg<|Zs<|Zr<|Zv (Y.loadAgg Z xag35 (Kn.at 1 Z) Z)<|Zm Z<|Zv (Y.fieldAddr Z xfo30_0)<|Zv (Y.load Z xts3 (Kn.at 0 Z) Z)<|Zv (Y.fieldAddr Z xfo30_1)<|Zv (Y.load Z xts3 (Kn.at 0 Z) Z)<|Zv (Y.fieldAddr Z xfo30_2)<|?_
  refine Zv (Y.load Z xts3 (Kn.at 0 Z) Z)<|Zv (Y.fieldAddr Z xfo30_3)<|Zv (Y.loadAgg Z xag28 (Kn.at 0 Z) Z)<|?_
  refine Yk [2] Z Z Z (answer_t (x := x) (p := c.p) (l := l) (state := c.state) (now := c.now) (entry := c.entry) hpv W hpk hco.r hfew hco.ci hsv hin (Eg.la_of had hpk)) (fun v6 V6 H6 hle6 hR6 => ?_)
  obtain ⟨_,rfl,hv6,ov6,rfl,hRa⟩ := hR6
  replace hv2 := hv2.le hle6
  replace hco := hco.le hle6
  replace hpv := hpv.le hle6
  replace hVle := Vw.le_trans hVle hle6
  obtain ⟨⟨pg6,cg6,rfl⟩,pk6,nk6,ck6,rfl⟩ := hRa.forms
  generalize hA : Eg.ans (x) l c.state c.now c.entry c.p = A at hRa ⊢
  have hC : Eg.Case (x) l c A := by rw [<- hA]; exact Eg.cases _ hris c
  refine Run.heapTo (H' := [[(b2,.cells (Eg.Cs.cells c) 30 (0,0))],[(b1,.cells (Si.cells x (.slice pp x.pool.length cp)) 35 (0,0))],[(rx,.cells #[.slice pl l.length cl] 128 (0,0))],ql,s1]) Z ?_
  refine Run.alloc xzo45 (lt rfl) (fun b7 => ?_)
  refine Run.stAll (l2 := (An.cells A (.slice pg6 A.reply.hw.length cg6) (.slice pk6 nk6 ck6)).toList) (j := 0) Z Z xsz45 Z Z Z Z ?_
  refine Run.heapTo (H' := [[(b7,.cells (An.cells A (.slice pg6 A.reply.hw.length cg6) (.slice pk6 nk6 ck6)) 45 (0,0))],[(b2,.cells (Eg.Cs.cells c) 30 (0,0))],[(b1,.cells (Si.cells x (.slice pp x.pool.length cp)) 35 (0,0))],[(rx,.cells #[.slice pl l.length cl] 128 (0,0))],ql,s1]) Z ?_
  refine Ze<|Zg<|Zs<|Zr<|Zv (Y.loadAgg Z xag35 (Kn.at 2 Z) Z)<|Zm Z<|Zv (Y.fieldAddr Z xfo30_0)<|Zv (Y.load Z xts3 (Kn.at 1 Z) Z)<|Zv (Y.fieldAddr Z xfo30_1)<|Zv (Y.load Z xts3 (Kn.at 1 Z) Z)<|Zv (Y.fieldAddr Z xfo30_2)<|Zv (Y.load Z xts3 (Kn.at 1 Z) Z)<|Zv (Y.fieldAddr Z xfo30_3)<|Zv (Y.loadAgg Z xag28 (Kn.at 1 Z) Z)<|?_
  refine Yk [3,3] Z Z Z (ranswer_t (x := x) (p := c.p) (l := l) (state := c.state) (now := c.now) (entry := c.entry) hpv W hpk hco.r hfew hco.ci hsv hl hlm3 (Eg.la_of had hpk)) (fun v8 V8 H8 hle8 hR8 => ?_)
  obtain ⟨_,rfl,hv8,ov8,rfl,hRb⟩ := hR8
  replace hv2 := hv2.le hle8
  replace hco := hco.le hle8
  replace hpv := hpv.le hle8
  replace hRa := hRa.le hle8
  replace hVle := Vw.le_trans hVle hle8
  rw [hA] at hRb ⊢
  obtain ⟨⟨pg8,cg8,rfl⟩,pk8,nk8,ck8,rfl⟩ := hRb.forms
  refine Run.heapTo (H' := [[(b7,.cells (An.cells A (.slice pg6 A.reply.hw.length cg6) (.slice pk6 nk6 ck6)) 45 (0,0))],[(b2,.cells (Eg.Cs.cells c) 30 (0,0))],[(b1,.cells (Si.cells x (.slice pp x.pool.length cp)) 35 (0,0))],s1,[(rx,.cells #[.slice pl l.length cl] 128 (0,0))],ql]) Z ?_
  refine Run.alloc xzo45 (lt rfl) (fun b9 => ?_)
  refine Run.stAll (l2 := (An.cells A (.slice pg8 A.reply.hw.length cg8) (.slice pk8 nk8 ck8)).toList) (j := 0) Z Z xsz45 Z Z Z Z ?_
  refine Run.heapTo (H' := [[(b9,.cells (An.cells A (.slice pg8 A.reply.hw.length cg8) (.slice pk8 nk8 ck8)) 45 (0,0))],[(b7,.cells (An.cells A (.slice pg6 A.reply.hw.length cg6) (.slice pk6 nk6 ck6)) 45 (0,0))],[(b2,.cells (Eg.Cs.cells c) 30 (0,0))],[(b1,.cells (Si.cells x (.slice pp x.pool.length cp)) 35 (0,0))],s1,[(rx,.cells #[.slice pl l.length cl] 128 (0,0))],ql]) Z ?_
  refine Ze<|Zg<|Zs<|Tr.quiet xmo WK<|ZV (Y.loadAgg Z xag45 (Kn.at 1 Z) Z)<|ZV (Y.loadAgg Z xag45 (Kn.at 0 Z) Z)<|YC Z Z Z ((same20_c hRa hRb (Eg.case_os hC)).frame)<|ZM Z<|ZP Z<|ZV (Y.loadAgg Z xag35 (Kn.at 3 Z) Z)<|ZP Z<|YC Z Z Z (eright_h (x := x) hpv W hpk)<|ZP Z<|ZV (Y.loadAgg Z xag35 (Kn.at 3 Z) Z)<|ZP Z<|YC Z Z Z (rright20_h (x := x) hpv W hpk)<|?_
  refine ZP Z<|ZV (Y.eqB_t Z Z xtg4)<|ZV (Y.pick_t Z Z Z)<|ZA Z<|ZE<|Zg<|Zu<|Ex.keep []<|?_
  exact Ex.ret1 rfl rfl  rfl
 refine Zv (Y.loadAgg Z xag35 (Kn.at 1 Z) Z)<|Zm Z<|?_
 refine Yk [] Z Z Z (made20_c (x := x) hpv W hpk hv2 hl9 hcs) (fun v10 V10 H10 hle10 hR10 => ?_)
 obtain ⟨_,rfl,rfl⟩ := hR10.2.resolve_right fun h9 => hp0 h9.1
 replace hv2 := hv2.le hle10
 replace hco := hco.le hle10
 replace hpv := hpv.le hle10
 replace hVle := Vw.le_trans hVle hle10
 refine Run.heapTo (H' := [[(b2,.cells (Eg.Cs.cells c) 30 (0,0))],[(b1,.cells (Si.cells x (.slice pp x.pool.length cp)) 35 (0,0))]]) Z ?_
 refine Zm Z<|Zv (Y.extract Z Z)<|Zv (Y.extract Z Z)<|Za Z<|Za Z<|Ze<|Zg<|Zs<|Zr<|Zv (Y.loadAgg Z xag35 (Kn.at 1 Z) Z)<|Zm Z<|Zv (Y.fieldAddr Z xfo30_0)<|Zv (Y.load Z xts3 (Kn.at 0 Z) Z)<|Zv (Y.fieldAddr Z xfo30_1)<|Zv (Y.load Z xts3 (Kn.at 0 Z) Z)<|Zv (Y.fieldAddr Z xfo30_2)<|?_
 refine Zv (Y.load Z xts3 (Kn.at 0 Z) Z)<|Zv (Y.fieldAddr Z xfo30_3)<|Zv (Y.loadAgg Z xag28 (Kn.at 0 Z) Z)<|?_
 refine Yk [] Z Z Z (answer_n (x := x) (p := c.p) (l := []) (state := c.state) (now := c.now) (entry := c.entry) hpv W hpk hco.r hfew hco.ci hsv hp0) (fun v11 V11 H11 hle11 hR11 => ?_)
 obtain ⟨_,rfl,hv11,ov11,rfl,hRa⟩ := hR11
 replace hv2 := hv2.le hle11
 replace hco := hco.le hle11
 replace hpv := hpv.le hle11
 replace hVle := Vw.le_trans hVle hle11
 obtain ⟨⟨pg11,cg11,rfl⟩,pk11,nk11,ck11,rfl⟩ := hRa.forms
 generalize hA : Eg.ans (x) [] c.state c.now c.entry c.p = A at hRa ⊢
 have hC : Eg.Case (x) [] c A := by rw [<- hA]; exact Eg.cases _ List.Pairwise.nil c
 refine Run.heapTo (H' := [[(b2,.cells (Eg.Cs.cells c) 30 (0,0))],[(b1,.cells (Si.cells x (.slice pp x.pool.length cp)) 35 (0,0))]]) Z ?_
 refine Run.alloc xzo45 (lt rfl) (fun b12 => ?_)
 refine Run.stAll (l2 := (An.cells A (.slice pg11 A.reply.hw.length cg11) (.slice pk11 nk11 ck11)).toList) (j := 0) Z Z xsz45 Z Z Z Z ?_
 refine Run.heapTo (H' := [[(b12,.cells (An.cells A (.slice pg11 A.reply.hw.length cg11) (.slice pk11 nk11 ck11)) 45 (0,0))],[(b2,.cells (Eg.Cs.cells c) 30 (0,0))],[(b1,.cells (Si.cells x (.slice pp x.pool.length cp)) 35 (0,0))]]) Z ?_
 refine Ze<|Zg<|Zs<|Zr<|Zv (Y.loadAgg Z xag35 (Kn.at 2 Z) Z)<|Zm Z<|Zv (Y.fieldAddr Z xfo30_0)<|Zv (Y.load Z xts3 (Kn.at 1 Z) Z)<|Zv (Y.fieldAddr Z xfo30_1)<|Zv (Y.load Z xts3 (Kn.at 1 Z) Z)<|Zv (Y.fieldAddr Z xfo30_2)<|Zv (Y.load Z xts3 (Kn.at 1 Z) Z)<|Zv (Y.fieldAddr Z xfo30_3)<|Zv (Y.loadAgg Z xag28 (Kn.at 1 Z) Z)<|?_
 refine Yk [] Z Z Z (ranswer_n (x := x) (p := c.p) (l := []) (state := c.state) (now := c.now) (entry := c.entry) hpv W hpk hco.r hfew hco.ci hsv hp0) (fun v13 V13 H13 hle13 hR13 => ?_)
 obtain ⟨_,rfl,hv13,ov13,rfl,hRb⟩ := hR13
 replace hv2 := hv2.le hle13
 replace hco := hco.le hle13
 replace hpv := hpv.le hle13
 replace hRa := hRa.le hle13
 replace hVle := Vw.le_trans hVle hle13
 rw [hA] at hRb ⊢
 obtain ⟨⟨pg13,cg13,rfl⟩,pk13,nk13,ck13,rfl⟩ := hRb.forms
 refine Run.heapTo (H' := [[(b12,.cells (An.cells A (.slice pg11 A.reply.hw.length cg11) (.slice pk11 nk11 ck11)) 45 (0,0))],[(b2,.cells (Eg.Cs.cells c) 30 (0,0))],[(b1,.cells (Si.cells x (.slice pp x.pool.length cp)) 35 (0,0))]]) Z ?_
 refine Run.alloc xzo45 (lt rfl) (fun b14 => ?_)
 refine Run.stAll (l2 := (An.cells A (.slice pg13 A.reply.hw.length cg13) (.slice pk13 nk13 ck13)).toList) (j := 0) Z Z xsz45 Z Z Z Z ?_
 refine Run.heapTo (H' := [[(b14,.cells (An.cells A (.slice pg13 A.reply.hw.length cg13) (.slice pk13 nk13 ck13)) 45 (0,0))],[(b12,.cells (An.cells A (.slice pg11 A.reply.hw.length cg11) (.slice pk11 nk11 ck11)) 45 (0,0))],[(b2,.cells (Eg.Cs.cells c) 30 (0,0))],[(b1,.cells (Si.cells x (.slice pp x.pool.length cp)) 35 (0,0))]]) Z ?_
 refine Ze<|Zg<|Zs<|Tr.quiet xmo WK<|ZV (Y.loadAgg Z xag45 (Kn.at 1 Z) Z)<|ZV (Y.loadAgg Z xag45 (Kn.at 0 Z) Z)<|YC Z Z Z ((same20_c hRa hRb (Eg.case_os hC)).frame)<|ZM Z<|ZP Z<|ZV (Y.loadAgg Z xag35 (Kn.at 3 Z) Z)<|ZP Z<|YC Z Z Z (eright_h (x := x) hpv W hpk)<|ZP Z<|ZV (Y.loadAgg Z xag35 (Kn.at 3 Z) Z)<|ZP Z<|YC Z Z Z (rright20_h (x := x) hpv W hpk)<|?_
 refine ZP Z<|ZV (Y.eqB_t Z Z xtg4)<|ZV (Y.pick_t Z Z Z)<|ZA Z<|ZE<|Zg<|Zu<|Ex.keep []<|?_
 exact Ex.ret1 rfl rfl  rfl
theorem answers20_h {V : Vw} {x : Si} {pv : Value} (hpv : Rd V [] 2 pv x.pool.length (x.pool.flatMap Rg.cells)) (hpk : Rg.Oks x.pool) (hsv : 0 <= x.server /\ x.server <= 4294967295) {ls : List Le} {v1 : Value} (hv2 : Rd V [] 8 v1 ls.length (ls.map Le.cells).flatten) (hcs : ∀ x,x ∈ ls -> Le.Ok x) (hl9 : ls.length <= 9223372036854775807) {c : Eg.Cs} (hco : Eg.Csok V c) : Does Tryz.prog 7 [.agg (x.cells pv),v1,.agg c.cells] V [] (fun v _ _ => v = .bool true) := by
  obtain ⟨p2,c2,rfl,_⟩ := hv2.form
  obtain ⟨pp,cp,rfl,_⟩ := hpv.form
  rw [<- List.flatMap_def] at hv2
  exact answers20_c hpv hpk hsv hv2 hl9 (fun x hx => (hcs x hx).client) hco
end Go.Proofs.YtfgblingojgafaaGreat
