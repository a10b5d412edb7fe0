/- A server's packets, offers and promises, walked.
Conditions: as each theorem names them. -/
import Derived.Test.YtfgblingojgafaaGreatSortnum
import Derived.Test.YtfgblingojgafaaGreatProg
import Derived.Test.YtfgblingojgafaaGreatTimes
import Derived.Test.YtfgblingojgafaaGreatFA
import Derived.Test.YtfgblingojgafaaGreatKI
import Derived.Test.YtfgblingojgafaaGreatTA
import Derived.Test.YtfgblingojgafaaGreatTable5
set_option linter.unusedSimpArgs false
set_option linter.unusedVariables false
set_option maxRecDepth 4000
namespace Go.Proofs.YtfgblingojgafaaGreat
open Go Go.K
attribute [local irreducible] Code.wp wpList Calls wpQuiet
theorem put_q {V : Vw} {bp k : Nat} {po : Option Addr} {so : Sg} {x0 x1 x2 x3 x4 x5 x6 x7 x8 : Value} {L : List Opn} {cs : List Cn} {pl : Option Addr} {cl : Nat} (ho : Ow 81 2 (.slice po L.length k) L.length (L.flatMap Opn.cells) so) (hr : Opn.Rds V L) (hv : Rd V [] 2 (.slice pl cs.length cl) cs.length (cs.flatMap Cn.cells)) (hcn : Cn.Fine cs) (hcl : cs.length <= 100) (hLl : L.length <= 100)  : Does Tryz.prog 105 [(pZ bp),.slice pl cs.length cl] V [[(bp,.cells #[x0,x1,x2,x3,x4,x5,x6,x7,x8,.slice po L.length k] 28 (0,0))],so] (fun u V' H' => V.le V' /\ u = .tuple #[] /\ ∃ L' po' k' so',H' = [[(bp,.cells #[x0,x1,x2,x3,x4,x5,x6,x7,x8,.slice po' L'.length k'] 28 (0,0))],so'] /\ Ow 81 2 (.slice po' L'.length k') L'.length (L'.flatMap Opn.cells) so' /\ Opn.Rds V' L' /\ L'.map Opn.c = L.map Opn.c ++ cs.map Cn.oc) := by
 refine Does.intro Tryz.func105 rfl rfl (le rfl) (fun B => ?_)
 refine Zs<|Zr<|Zm Z<|Zv (Y.lenSl Z xes185)<|Zm Z<|Ze<|Zg<|Zb<|?_
 refine ZL (X := Nat × Vw × List Opn × Nat × Option Addr × Nat × Sg) (fun z0 => z0.2.1) (fun z0 => [[(bp,.cells #[x0,x1,x2,x3,x4,x5,x6,x7,x8,.slice z0.2.2.2.2.1 z0.2.2.2.1 z0.2.2.2.2.2.1] 28 (0,0))],z0.2.2.2.2.2.2]) (fun z0 => [(8,.slice pl cs.length cl),(0,(pZ bp)),(9,.int .i64 ((cs.length : Nat) : Int)),(10,.int .i64 (z0.1 : Int))]) (fun z0 => V.le z0.2.1 /\ Ow 81 2 (.slice z0.2.2.2.2.1 z0.2.2.2.1 z0.2.2.2.2.2.1) z0.2.2.2.1 (z0.2.2.1.flatMap Opn.cells) z0.2.2.2.2.2.2 /\ Opn.Rds z0.2.1 z0.2.2.1 /\ z0.2.2.1.map Opn.c = L.map Opn.c ++ (cs.take z0.1).map Cn.oc /\ z0.2.2.2.1 = z0.2.2.1.length /\ z0.1 <= cs.length) (fun z0 => cs.length - z0.1) (⟨0,V,L,L.length,po,k,so⟩ : Nat × Vw × List Opn × Nat × Option Addr × Nat × Sg) ⟨Vw.le_refl _,ho,hr,by rw [List.take_zero,List.map_nil,List.append_nil],rfl,Nat.zero_le _⟩ ?_
 rintro ⟨i1,V1,L1,n1,po1,k1,so1⟩ ⟨hVle,ho1,hr1,hm1,hn1,hi⟩
 try dsimp only at hVle ho1 hr1 hm1 hn1 hi ⊢
 refine Zs<|Zr<|Zv (Y.int Z Z Z)<|Ze<|Zg<|Zs<|?_
 refine Zq (decide ((i1 : Int) < ((cs.length : Nat) : Int))) (fun h1 g1 => ?_) fun h1 g1 => ?_
 ·refine Tr.cond_t Z h1<|Zt<|Zg<|Zs<|Zb<|Zs<|Zr<|?_
  have hci := hcn.at (i := i1) W
  have hv := hv.le hVle
  have hlb : n1 <= 200 := by have h := congrArg List.length hm1; rw [List.length_map,List.length_append,List.length_map,List.length_map,List.length_take] at h; omega
  refine Zv (Y.idxR i1 Z Z xes185 hv.of_nil W W)<|Zv (Y.ldRA (vs := [.int .i64 ((cs.getD i1 Cn.dflt).code),.int .i64 ((cs.getD i1 Cn.dflt).n)]) rfl xag142 hv.of_nil rfl WD (fun o ho => flatm_atA Cn.len W Cn.dflt o ho))<|?_
  refine Run.alloc xzo142 (lt rfl) (fun b2 => ?_)
  refine Run.store (s := [(b2,.cells #[.int .i64 ((cs.getD i1 Cn.dflt).code),.int .i64 ((cs.getD i1 Cn.dflt).n)] 142 (0,0))]) Z Z xsz142 (i := 0) Z Z (le Z) Z Z<|Ze<|Zg<|Zs<|Zr<|Zv (Y.idxArr Z Z xal142 WD WD)<|Zv (Y.load Z xts3 (Kn.at 0 Z) Z)<|?_
  refine Yk [] Z Z Z (bytes_c (n := (cs.getD i1 Cn.dflt).n) W) (fun v3 V2 H2 _ hR => ?_)
  obtain ⟨hV,z4,s5,rfl,rfl,ho6⟩ := hR; replace hV := hV.symm; subst hV; obtain ⟨p7,c8,rfl⟩ := ho6.form
  refine Run.heapTo (H' := [[(b2,.cells #[.int .i64 ((cs.getD i1 Cn.dflt).code),.int .i64 ((cs.getD i1 Cn.dflt).n)] 142 (0,0))],[(bp,.cells #[x0,x1,x2,x3,x4,x5,x6,x7,x8,.slice po1 n1 k1] 28 (0,0))],so1,s5]) Z<|Zm Z<|Zv (Y.extract Z Z)<|Zv (Y.extract Z Z)<|Za Z<|Run.keepTo (H' := [s5,[(b2,.cells #[.int .i64 ((cs.getD i1 Cn.dflt).code),.int .i64 ((cs.getD i1 Cn.dflt).n)] 142 (0,0))],[(bp,.cells #[x0,x1,x2,x3,x4,x5,x6,x7,x8,.slice po1 n1 k1] 28 (0,0))],so1]) [3,0,0,0] Z<|?_
  refine Run.show (fun V9 hleV9 hshV9 => ?_)
  have hhd := ho6.shows _ hshV9
  replace hv := hv.le hleV9
  replace hr1 := hr1.le hleV9
  replace hVle := Vw.le_trans hVle hleV9
  refine Za Z<|Ze<|Zg<|Tr.anyL [(bp,.cells #[x0,x1,x2,x3,x4,x5,x6,x7,x8,.slice po1 n1 k1] 28 (0,0)),(b2,.cells #[.int .i64 ((cs.getD i1 Cn.dflt).code),.int .i64 ((cs.getD i1 Cn.dflt).n)] 142 (0,0))] 13 xmo<|Zh 0 Z (fun _ => (Y.move rfl))<|Zh 1 Z (fun _ => (Y.move rfl))<|Zh 2 Z (fun _ => (Y.nilCheck rfl))<|Zh 3 Z (fun _ => (Y.fieldAddr rfl xfo28_9))<|ZH 4 0 Z Z (fun _ => (Y.load rfl xts26 Kn.vk1 rfl))<|?_
  refine Zh 5 Z (fun _ => (Y.idxArr rfl rfl xal142 WD WD))<|ZH 6 1 Z Z (fun _ => (Y.load rfl xts3 Kn.vk1 rfl))<|Zh 7 Z (fun _ => (Y.move rfl))<|Zh 8 Z (fun _ => (Y.buildS (l := [(0,.tmp 26),(1,.tmp 27)]) xzo81 xpl81 rfl rfl))<|?_
  refine RunL.one (i := 9) WK rfl  ?_
  refine Run.buildSlice (l := [(0,.tmp 28)]) xes26 xzo81 rfl WD rfl rfl WD (lt rfl) (fun b10 => ?_)
  refine Ze<|ZF<|?_
  refine RunL.one (i := 10) WK rfl  ?_
  refine Run.append (n := n1) (m := 1) (xs := L1.flatMap Opn.cells) (ys := [.int .i64 ((cs.getD i1 Cn.dflt).code),.slice p7 4 c8]) rfl rfl xes26 xzi81 WD (j := 3) rfl ho1 (Src.of_rd xes26 (Rd.one (Kn.at 0 rfl) rfl)) W W rfl (lt rfl) (fun v11 s12 ho13 hf => ?_)
  obtain ⟨p11,c11,rfl⟩ := hf
  replace ho13 := Ow.app1 (f := Opn.cells) (l := L1) (x := (⟨(cs.getD i1 Cn.dflt).code,.slice p7 4 c8,Msg.be 4 (cs.getD i1 Cn.dflt).n⟩ : Opn)) ho13
  refine Ze<|ZF<|?_
  refine RunL.one (i := 11) WK rfl  ?_
  refine Zv (Y.nilCheck Z)<|Ze<|ZF<|Zh 12 Z (fun _ => (Y.fieldAddr rfl xfo28_9))<|?_
  refine RunL.one (i := 13) WK rfl  ?_
  refine Run.store (s := [(bp,.cells #[x0,x1,x2,x3,x4,x5,x6,x7,x8,.slice p11 (n1 + 1) c11] 28 (0,0))]) Z Z xsz26 (i := 2) Z Z (le Z) Z Z<|Ze<|Ex.anyLz Z<|RunL.done WK<|Zc<|Zg<|Zr<|Zv (Y.add Z Z W)<|Zm Z<|Ze<|Ex.keep [2,2]<|?_
  exact ZR (⟨i1 + 1,V9,L1 ++ [(⟨(cs.getD i1 Cn.dflt).code,.slice p7 4 c8,Msg.be 4 (cs.getD i1 Cn.dflt).n⟩ : Opn)],n1 + 1,p11,c11,s12⟩ : Nat × Vw × List Opn × Nat × Option Addr × Nat × Sg) ⟨hVle,ho13,hr1.snoc hhd,by rw [List.map_append,hm1,Cn.take_oc W,List.append_assoc]; rfl,by rw [List.length_append,<- hn1]; rfl,by omega⟩ (by dsimp only; omega)
 refine Tr.cond_f Z h1<|Zx<|Zy<|Zy<|Zi<|Ex.keep [0,0]<|?_
 exact Ex.end0 rfl ⟨hVle,rfl,L1,po1,k1,so1,by rw [hn1]; rfl,by rw [hn1] at ho1; exact ho1,hr1,by rw [hm1,List.take_of_length_le W]⟩
theorem sclone_c {V : Vw} {bs : List UInt8} {pb : Option Addr} {cb : Nat} (hvb : Rd V [] 1 (.slice pb bs.length cb) bs.length (bs.map byteV)) (hl : bs.length <= 1000000)  : Does Tryz.prog 104 [.slice pb bs.length cb] V [] (fun u V' H' => V' = V /\ ∃ s',H' = [s'] /\ Ow 5 1 u bs.length (bs.map byteV) s') := by
 refine Does.intro Tryz.func104 rfl rfl (le rfl) (fun B => ?_)
 refine Zs<|Zr<|Za Z<|Ze<|Zg<|Zs<|Zs<|Zr<|Zm Z<|Zv (Y.eqNilS Z Z xsl25)<|Ze<|Zg<|?_
 refine Zq (Option.isNone pb) (fun h1 g1 => ?_) fun h1 g1 => ?_
 ·refine Tr.cond_t Z h1<|Zs<|Zr<|Run.nilseg<|Za Z<|Ze<|Zg<|Zu<|Zn<|?_
  obtain rfl : pb = none := by simpa using h1
  obtain rfl : bs = [] := List.eq_nil_of_length_eq_zero hvb.none
  exact Ex.ret1 rfl rfl  ⟨rfl,[],rfl,Ow.nil _ _⟩
 refine Tr.cond_f Z h1<|Zt<|Zg<|Zs<|Zr<|?_
 refine Run.buildSlice0 xes25 (lt rfl) (fun b2 => ?_)
 refine Zm Z ?_
 refine Run.append (n := 0) (m := bs.length) (xs := []) (ys := bs.map byteV) rfl rfl xes25 xzi5 WD (j := 0) rfl (Ow.lit (cur := #[]) rfl WD) (Src.of_rd xes25 hvb.of_nil) W W (all_one_bytes _) (lt rfl) (fun v3 s4 ho5 hf => ?_)
 obtain ⟨p3,c3,rfl⟩ := hf
 refine Za Z<|Ze<|Zg<|Zu<|?_
 exact Ex.ret1 rfl rfl  ⟨rfl,_,rfl,by have h := ho5; simpa using h⟩
theorem sclone_h {V : Vw} {v : Value} {bs : List UInt8} (hv : Rd V [] 1 v bs.length (bs.map byteV)) (hl : bs.length <= 1000000) : Does Tryz.prog 104 [v] V [] (fun u V' H' => V' = V /\ ∃ s',H' = [s'] /\ Ow 5 1 u bs.length (bs.map byteV) s') := by
  obtain ⟨p,c,rfl,_⟩ := hv.form
  exact sclone_c hv hl
set_option maxHeartbeats 1000000 in
theorem reply_q {V : Vw} {bq tx : Nat} {q : Eg.Qy} {pv hv ov : Value} (hkq : Kn V [] bq (.cells (q.cells pv tx hv ov) 90 (0,0))) (hok : Eg.Qok V q hv ov) {kind : Int}  : Does Tryz.prog 45 [(pZ bq),.int .i64 kind] V [] (fun u V' H' => V.le V' /\ ∃ hv' L po k so,u = .agg ((Eg.rep q.x q.p kind).cells hv' (.slice po L.length k)) /\ H' = [so] /\ Ow 81 2 (.slice po L.length k) L.length (L.flatMap Opn.cells) so /\ Opn.Rds V' L /\ L.map Opn.c = (Eg.rep q.x q.p kind).os /\ Rd V' [] 1 hv' q.p.hw.length (q.p.hw.map byteV)) := by
 obtain ⟨⟨ph,ch,rfl⟩,po9,no9,co9,rfl⟩ := hok.forms
 refine Does.intro Tryz.func45 rfl rfl (le rfl) (fun B => ?_)
 refine Zs<|Zr<|?_
 refine Run.alloc xzo28 (lt rfl) (fun b1 => ?_)
 refine Ze<|Zg<|Zs<|Zr<|Zm Z<|Zv (Y.nilCheck Z)<|Zv (Y.fieldAddr Z xfo90_6)<|Zv (Y.loadAgg Z xag28 hkq.of_nil Z)<|?_
 refine Run.alloc xzo28 (lt rfl) (fun b2 => ?_)
 refine Run.store (s := [(b2,.cells (Pc.cells q.p (.slice ph q.p.hw.length ch) (.slice po9 no9 co9)) 28 (0,0))]) Z Z xsz28 (i := 0) Z Z (le Z) Z Z<|Ze<|Zg<|?_
 refine Tr.cutx (X := Nat × Sg × Option Addr × Nat) (fun y => V) (fun y => [[(y.1,.cells #[.int .i64 2,.int .u32 q.p.xid,.int .i64 0,.int .i64 q.p.flags,.int .u32 0,.int .u32 0,.int .u32 q.x.server,.int .u32 q.p.gi,.slice y.2.2.1 q.p.hw.length y.2.2.2,.slice none 0 0] 28 (0,0))],y.2.1,[(b2,.cells (Pc.cells q.p (.slice ph q.p.hw.length ch) (.slice po9 no9 co9)) 28 (0,0))],[(b1,.cells #[.int .i64 0,.int .u32 0,.int .i64 0,.int .i64 0,.int .u32 0,.int .u32 0,.int .u32 0,.int .u32 0,.slice none 0 0,.slice none 0 0] 28 (0,0))]]) (fun y => [(0,(pZ bq)),(1,.int .i64 kind),(4,(pZ b1)),(5,(pZ b2)),(6,.pointer (some ⟨y.1,0,none⟩))]) (fun y => Ow 5 1 (.slice y.2.2.1 q.p.hw.length y.2.2.2) q.p.hw.length (q.p.hw.map byteV) y.2.1) ?_ ?_
 ·refine Tr.anyL [(b2,.cells (Pc.cells q.p (.slice ph q.p.hw.length ch) (.slice po9 no9 co9)) 28 (0,0)),(bq,.cells (q.cells pv tx (.slice ph q.p.hw.length ch) (.slice po9 no9 co9)) 90 (0,0))] 16 xmo<|Zh 0 Z (fun _ => (Y.fieldAddr rfl xfo28_1))<|ZH 1 0 Z Z (fun _ => (Y.load rfl xts23 Kn.vk1 rfl))<|?_
  refine Zh 2 Z (fun _ => (Y.fieldAddr rfl xfo28_3))<|ZH 3 0 Z Z (fun _ => (Y.load rfl xts3 Kn.vk1 rfl))<|Zh 4 Z (fun _ => (Y.fieldAddr rfl xfo28_7))<|ZH 5 0 Z Z (fun _ => (Y.load rfl xts24 Kn.vk1 rfl))<|Zh 6 Z (fun _ => (Y.fieldAddr rfl xfo28_8))<|ZH 7 0 Z Z (fun _ => (Y.load rfl xts25 Kn.vk1 rfl))<|Zh 9 Z (fun _ => (Y.move rfl))<|Zh 10 Z (fun _ => (Y.nilCheck rfl))<|Zh 11 Z (fun _ => (Y.fieldAddr rfl xfo90_0))<|?_
  refine Zh 12 Z (fun _ => (Y.fieldAddr rfl xfo35_3))<|ZH 13 1 Z Z (fun _ => (Y.load rfl xts24 Kn.vk1 rfl))<|?_
  refine RunL.two (i := 8) (j := 15) WK rfl rfl  ?_ ?_
  ·refine Yk [] Z Z Z (sclone_h hok.hw (Nat.le_trans (Nat.le_of_lt hok.hl) WD)) (fun v3 V2 H2 _ hR => ?_)
   obtain ⟨hV,s3,rfl,ho3⟩ := hR; replace hV := hV.symm; subst hV; obtain ⟨p3,c3,rfl⟩ := ho3.form
   refine Run.heapTo (H' := [[(b2,.cells (Pc.cells q.p (.slice ph q.p.hw.length ch) (.slice po9 no9 co9)) 28 (0,0))],[(b1,.cells #[.int .i64 0,.int .u32 0,.int .i64 0,.int .i64 0,.int .u32 0,.int .u32 0,.int .u32 0,.int .u32 0,.slice none 0 0,.slice none 0 0] 28 (0,0))],s3]) Z ?_
   refine Ze<|ZF<|Zh 14 Z (fun _ => (Y.buildS (l := [(0,.const (.int .i64 2)),(1,.tmp 12),(3,.tmp 14),(7,.tmp 16),(8,.tmp 19),(6,.tmp 24)]) xzo28 xpl28 rfl rfl))<|?_
   refine RunL.one (i := 15) WK rfl  ?_
   refine Run.alloc xzo28 (lt rfl) (fun b4 => ?_)
   refine Ze<|ZF<|?_
   refine RunL.one (i := 16) WK rfl  ?_
   refine Run.store (s := [(b4,.cells #[.int .i64 2,.int .u32 q.p.xid,.int .i64 0,.int .i64 q.p.flags,.int .u32 0,.int .u32 0,.int .u32 q.x.server,.int .u32 q.p.gi,.slice p3 q.p.hw.length c3,.slice none 0 0] 28 (0,0))]) Z Z xsz28 (i := 0) Z Z (le Z) Z Z<|Ze<|Ex.anyLz Z<|RunL.done WK<|Ex.keep [0,2,0,0]<|?_
   exact ZX (b4,s3,p3,c3) ho3
  refine Run.alloc xzo28 (lt rfl) (fun b5 => ?_)
  refine Ze<|ZF<|?_
  refine RunL.one (i := 8) WK rfl  ?_
  refine Yk [] Z Z Z (sclone_h hok.hw (Nat.le_trans (Nat.le_of_lt hok.hl) WD)) (fun v6 V2 H2 _ hR => ?_)
  obtain ⟨hV,s6,rfl,ho6⟩ := hR; replace hV := hV.symm; subst hV; obtain ⟨p6,c6,rfl⟩ := ho6.form
  refine Run.heapTo (H' := [[(b5,.cells #[.int .i64 0,.int .u32 0,.int .i64 0,.int .i64 0,.int .u32 0,.int .u32 0,.int .u32 0,.int .u32 0,.slice none 0 0,.slice none 0 0] 28 (0,0))],[(b2,.cells (Pc.cells q.p (.slice ph q.p.hw.length ch) (.slice po9 no9 co9)) 28 (0,0))],[(b1,.cells #[.int .i64 0,.int .u32 0,.int .i64 0,.int .i64 0,.int .u32 0,.int .u32 0,.int .u32 0,.int .u32 0,.slice none 0 0,.slice none 0 0] 28 (0,0))],s6]) Z ?_
  refine Ze<|ZF<|Zh 14 Z (fun _ => (Y.buildS (l := [(0,.const (.int .i64 2)),(1,.tmp 12),(3,.tmp 14),(7,.tmp 16),(8,.tmp 19),(6,.tmp 24)]) xzo28 xpl28 rfl rfl))<|?_
  refine RunL.one (i := 16) WK rfl  ?_
  refine Run.store (s := [(b5,.cells #[.int .i64 2,.int .u32 q.p.xid,.int .i64 0,.int .i64 q.p.flags,.int .u32 0,.int .u32 0,.int .u32 q.x.server,.int .u32 q.p.gi,.slice p6 q.p.hw.length c6,.slice none 0 0] 28 (0,0))]) Z Z xsz28 (i := 0) Z Z (le Z) Z Z<|Ze<|Ex.anyLz Z<|RunL.done WK<|Ex.keep [0,2,0,0]<|?_
  exact ZX (b5,s6,p6,c6) ho6
 rintro y hy
 refine Tr.cut V [[(y.1,.cells #[.int .i64 2,.int .u32 q.p.xid,.int .i64 0,.int .i64 q.p.flags,.int .u32 (if kind = 5 then q.p.ci else 0),.int .u32 0,.int .u32 q.x.server,.int .u32 q.p.gi,.slice y.2.2.1 q.p.hw.length y.2.2.2,.slice none 0 0] 28 (0,0))],y.2.1,[(b2,.cells (Pc.cells q.p (.slice ph q.p.hw.length ch) (.slice po9 no9 co9)) 28 (0,0))],[(b1,.cells #[.int .i64 0,.int .u32 0,.int .i64 0,.int .i64 0,.int .u32 0,.int .u32 0,.int .u32 0,.int .u32 0,.slice none 0 0,.slice none 0 0] 28 (0,0))]] [(0,(pZ bq)),(1,.int .i64 kind),(4,(pZ b1)),(5,(pZ b2)),(6,.pointer (some ⟨y.1,0,none⟩))] ?_ ?_
 ·refine Zs<|Zr<|Zm Z<|Zv (Y.int Z Z Z)<|Ze<|Zg<|?_
  refine Zq (kind == 5) (fun h7 g7 => ?_) fun h7 g7 => ?_
  ·refine Tr.cond_t Z h7<|Zr<|Zv (Y.fieldAddr Z xfo28_4)<|Zv (Y.load Z xts24 (Kn.at 2 Z) Z)<|Zv (Y.fieldAddr Z xfo28_4)<|Run.store (s := [(y.1,.cells #[.int .i64 2,.int .u32 q.p.xid,.int .i64 0,.int .i64 q.p.flags,.int .u32 q.p.ci,.int .u32 0,.int .u32 q.x.server,.int .u32 q.p.gi,.slice y.2.2.1 q.p.hw.length y.2.2.2,.slice none 0 0] 28 (0,0))]) Z Z xsz24 (i := 0) Z Z (le Z) Z Z<|Ze<|?_
   exact Ex.cut (by rw [if_pos (show kind = 5 by omega)]; try rfl) ZS
  refine Tr.cond_f Z h7<|Zt<|?_
  exact Ex.cut (by rw [if_neg (show ¬ kind = 5 by omega)]; try rfl) ZS
 refine Zs<|Zr<|Run.keepTo (H' := [y.2.1,[(y.1,.cells #[.int .i64 2,.int .u32 q.p.xid,.int .i64 0,.int .i64 q.p.flags,.int .u32 (if kind = 5 then q.p.ci else 0),.int .u32 0,.int .u32 q.x.server,.int .u32 q.p.gi,.slice y.2.2.1 q.p.hw.length y.2.2.2,.slice none 0 0] 28 (0,0))],[(b2,.cells (Pc.cells q.p (.slice ph q.p.hw.length ch) (.slice po9 no9 co9)) 28 (0,0))],[(b1,.cells #[.int .i64 0,.int .u32 0,.int .i64 0,.int .i64 0,.int .u32 0,.int .u32 0,.int .u32 0,.int .u32 0,.slice none 0 0,.slice none 0 0] 28 (0,0))]]) [1,0,0,0] Z<|?_
 refine Run.show (fun V8 hleV8 hshV8 => ?_)
 have hhw1 := hy.shows _ hshV8
 replace hkq := hkq.le hleV8
 replace hok := hok.le hleV8
 have hVle := hleV8
 refine Zm Z<|Zv (Y.conv (kind % 256) Z xit3_5 (wrap_u8m _))<|?_
 refine Run.buildSlice (l := [(0,.tmp 32)]) xes25 xzo5 rfl WD rfl rfl WD (lt rfl) (fun b9 => ?_)
 refine Zv (Y.buildS (l := [(0,.const (.int .i64 53)),(1,.tmp 33)]) xzo81 xpl81 Z Z) ?_
 refine Run.buildSlice (l := [(0,.tmp 34)]) xes26 xzo81 rfl WD rfl rfl WD (lt rfl) (fun b10 => ?_)
 refine Zv (Y.fieldAddr Z xfo28_9)<|Run.store (s := [(y.1,.cells #[.int .i64 2,.int .u32 q.p.xid,.int .i64 0,.int .i64 q.p.flags,.int .u32 (if kind = 5 then q.p.ci else 0),.int .u32 0,.int .u32 q.x.server,.int .u32 q.p.gi,.slice y.2.2.1 q.p.hw.length y.2.2.2,.slice (some ⟨b10,0,none⟩) 1 1] 28 (0,0))]) Z Z xsz26 (i := 2) Z Z (le Z) Z Z<|Ze<|Zg<|Zs<|Zr<|Zm Z<|Zv (Y.nilCheck Z)<|Zv (Y.fieldAddr Z xfo90_0)<|?_
 refine Zv (Y.fieldAddr Z xfo35_3)<|Zv (Y.load Z xts24 hkq.of_nil Z)<|Zv (Y.conv (q.x.server) rfl xit24_3 (wrap_i64 (by have := hok.sv; omega)))<|Zv (Y.buildA (l := [(0,.const (.int .i64 54)),(1,.tmp 42)]) xzo142 xea142 Z Z)<|?_
 refine Run.buildSlice (l := [(0,.tmp 43)]) xes185 xzo142 rfl WD rfl rfl WD (lt rfl) (fun b11 => ?_)
 refine Run.keepTo (H' := [[(b9,.cells #[.int .u8 (kind % 256)] 5 (0,0))],[(b11,.cells #[.int .i64 54,.int .i64 q.x.server] 142 (0,0))],[(b10,.cells #[.int .i64 53,.slice (some ⟨b9,0,none⟩) 1 1] 81 (0,0))],[(y.1,.cells #[.int .i64 2,.int .u32 q.p.xid,.int .i64 0,.int .i64 q.p.flags,.int .u32 (if kind = 5 then q.p.ci else 0),.int .u32 0,.int .u32 q.x.server,.int .u32 q.p.gi,.slice y.2.2.1 q.p.hw.length y.2.2.2,.slice (some ⟨b10,0,none⟩) 1 1] 28 (0,0))],[(b2,.cells (Pc.cells q.p (.slice ph q.p.hw.length ch) (.slice po9 no9 co9)) 28 (0,0))],[(b1,.cells #[.int .i64 0,.int .u32 0,.int .i64 0,.int .i64 0,.int .u32 0,.int .u32 0,.int .u32 0,.int .u32 0,.slice none 0 0,.slice none 0 0] 28 (0,0))]]) [2,0,0,0,0,0] Z ?_
 refine Run.show (fun V12 hleV12 hshV12 => ?_)
 have hdA := (Ow.lit (e := 5) (k := 1) (b := b9) (n := 1) (cur := #[.int .u8 (kind % 256)]) rfl WD).shows _ hshV12
 replace hkq := hkq.le hleV12
 replace hok := hok.le hleV12
 replace hhw1 := hhw1.le hleV12
 replace hVle := Vw.le_trans hVle hleV12
 have hr0 : Opn.Rds V12 [(⟨53,.slice (some ⟨b9,0,none⟩) 1 1,[Eg.bt kind]⟩ : Opn)] := Opn.Rds.one (by rw [byte_row] at hdA; exact hdA)
 have ho0 : Ow 81 2 (.slice (some ⟨b10,0,none⟩) 1 1) [(⟨53,.slice (some ⟨b9,0,none⟩) 1 1,[Eg.bt kind]⟩ : Opn)].length ([(⟨53,.slice (some ⟨b9,0,none⟩) 1 1,[Eg.bt kind]⟩ : Opn)].flatMap Opn.cells) [(b10,.cells #[.int .i64 53,.slice (some ⟨b9,0,none⟩) 1 1] 81 (0,0))] := Ow.lit (cur := #[.int .i64 53,.slice (some ⟨b9,0,none⟩) 1 1]) rfl WD
 refine Run.keepTo (H' := [[(b11,.cells #[.int .i64 54,.int .i64 q.x.server] 142 (0,0))],[(b10,.cells #[.int .i64 53,.slice (some ⟨b9,0,none⟩) 1 1] 81 (0,0))],[(y.1,.cells #[.int .i64 2,.int .u32 q.p.xid,.int .i64 0,.int .i64 q.p.flags,.int .u32 (if kind = 5 then q.p.ci else 0),.int .u32 0,.int .u32 q.x.server,.int .u32 q.p.gi,.slice y.2.2.1 q.p.hw.length y.2.2.2,.slice (some ⟨b10,0,none⟩) 1 1] 28 (0,0))],[(b2,.cells (Pc.cells q.p (.slice ph q.p.hw.length ch) (.slice po9 no9 co9)) 28 (0,0))],[(b1,.cells #[.int .i64 0,.int .u32 0,.int .i64 0,.int .i64 0,.int .u32 0,.int .u32 0,.int .u32 0,.int .u32 0,.slice none 0 0,.slice none 0 0] 28 (0,0))]]) [0,0,0,0,0] Z ?_
 refine Run.show (fun V13 hleV13 hshV13 => ?_)
 have hcs := (Ow.lit (e := 142) (k := 2) (b := b11) (n := 1) (cur := #[.int .i64 54,.int .i64 q.x.server]) rfl WD).shows _ hshV13
 replace hkq := hkq.le hleV13
 replace hok := hok.le hleV13
 replace hhw1 := hhw1.le hleV13
 replace hr0 := hr0.le hleV13
 replace hVle := Vw.le_trans hVle hleV13
 refine Yk [1,0] Z Z Z (put_q (L := [(⟨53,.slice (some ⟨b9,0,none⟩) 1 1,[Eg.bt kind]⟩ : Opn)]) (cs := [(⟨54,q.x.server⟩ : Cn)]) ho0 hr0 hcs (Cn.fine1 hok.sv) (Nat.le_of_ble_eq_true rfl) (Nat.le_of_ble_eq_true rfl)) (fun v14 V14 H14 hle14 hR14 => ?_)
 obtain ⟨_,rfl,L14,po14,k14,so14,rfl,ho14,hr14,hm14⟩ := hR14
 replace hkq := hkq.le hle14
 replace hok := hok.le hle14
 replace hhw1 := hhw1.le hle14
 replace hVle := Vw.le_trans hVle hle14
 refine Run.heapTo (H' := [[(b2,.cells (Pc.cells q.p (.slice ph q.p.hw.length ch) (.slice po9 no9 co9)) 28 (0,0))],[(b1,.cells #[.int .i64 0,.int .u32 0,.int .i64 0,.int .i64 0,.int .u32 0,.int .u32 0,.int .u32 0,.int .u32 0,.slice none 0 0,.slice none 0 0] 28 (0,0))],[(y.1,.cells #[.int .i64 2,.int .u32 q.p.xid,.int .i64 0,.int .i64 q.p.flags,.int .u32 (if kind = 5 then q.p.ci else 0),.int .u32 0,.int .u32 q.x.server,.int .u32 q.p.gi,.slice y.2.2.1 q.p.hw.length y.2.2.2,.slice po14 L14.length k14] 28 (0,0))],so14]) Z ?_
 refine Ze<|Zg<|Zs<|Zr<|Zv (Y.loadAgg Z xag28 (Kn.at 2 Z) Z)<|Run.store (s := [(b1,.cells #[.int .i64 2,.int .u32 q.p.xid,.int .i64 0,.int .i64 q.p.flags,.int .u32 (if kind = 5 then q.p.ci else 0),.int .u32 0,.int .u32 q.x.server,.int .u32 q.p.gi,.slice y.2.2.1 q.p.hw.length y.2.2.2,.slice po14 L14.length k14] 28 (0,0))]) Z Z xsz28 (i := 1) Z Z (le Z) Z Z<|Ze<|Zg<|Zu<|?_
 exact Ex.retCell [3] rfl rfl xag28 (Kn.at 1 rfl) rfl ⟨hVle,_,L14,po14,k14,so14,rfl,rfl,ho14,hr14,by rw [hm14]; rfl,hhw1⟩
theorem promise_q {V : Vw} {bq tx : Nat} {q : Eg.Qy} {pv hv ov : Value} (hkq : Kn V [] bq (.cells (q.cells pv tx hv ov) 90 (0,0))) (hok : Eg.Qok V q hv ov) {kind a t : Int} (ha : 0 <= a /\ a <= 4294967295) (ht : 0 <= t /\ t <= 4294967295)  : Does Tryz.prog 99 [(pZ bq),.int .i64 kind,.int .u32 a,.int .i64 t] V [] (fun u V' H' => V.le V' /\ H' = [] /\ ∃ hv' ov',u = .agg ((Eg.prom q.x q.p kind a t).cells hv' ov') /\ Pc.R V' (Eg.prom q.x q.p kind a t) hv' ov') := by
 have h58 : 0 <= Fl.part t q.x.renew /\ Fl.part t q.x.renew <= 4294967295 := by have := Fl.part_range ht.1 q.x.renew; omega
 have h59 : 0 <= max (Fl.part t q.x.renew) (Fl.part t q.x.rebind) /\ max (Fl.part t q.x.renew) (Fl.part t q.x.rebind) <= 4294967295 := by have := Fl.part_range ht.1 q.x.rebind; omega
 refine Does.intro Tryz.func99 rfl rfl (le rfl) (fun B => ?_)
 refine Zs<|Zr<|?_
 refine Run.alloc xzo28 (lt rfl) (fun b1 => ?_)
 refine Ze<|Zg<|Zs<|Zr<|Zm Z<|Zm Z<|?_
 refine Yk [] Z Z Z (reply_q (q := q) (kind := kind) hkq hok) (fun v2 V2 H2 hle2 hR2 => ?_)
 obtain ⟨_,hv2,L2,po2,k2,so2,rfl,rfl,ho2,hr2,hm2,hh2⟩ := hR2
 replace hkq := hkq.le hle2
 replace hok := hok.le hle2
 have hVle := hle2
 obtain ⟨ph2,ch2,rfl,_⟩ := hh2.form
 refine Run.heapTo (H' := [[(b1,.cells #[.int .i64 0,.int .u32 0,.int .i64 0,.int .i64 0,.int .u32 0,.int .u32 0,.int .u32 0,.int .u32 0,.slice none 0 0,.slice none 0 0] 28 (0,0))],so2]) Z<|Run.heapTo (H' := [[(b1,.cells #[.int .i64 0,.int .u32 0,.int .i64 0,.int .i64 0,.int .u32 0,.int .u32 0,.int .u32 0,.int .u32 0,.slice none 0 0,.slice none 0 0] 28 (0,0))],so2]) Z<|?_
 refine Run.alloc xzo28 (lt rfl) (fun b3 => ?_)
 refine Run.store (s := [(b3,.cells (Pc.cells (Eg.rep q.x q.p kind) (.slice ph2 q.p.hw.length ch2) (.slice po2 L2.length k2)) 28 (0,0))]) Z Z xsz28 (i := 0) Z Z (le Z) Z Z ?_
 refine Ze<|Zg<|Zs<|Tr.quiet xmo WK<|ZM Z<|ZM Z<|ZV (Y.nilCheck Z)<|ZV (Y.fieldAddr Z xfo90_0)<|ZV (Y.fieldAddr Z xfo35_9)<|ZV (Y.load Z xts32 hkq.of_nil Z)<|ZM Z<|ZV (Y.nilCheck Z)<|ZV (Y.fieldAddr Z xfo90_0)<|ZV (Y.fieldAddr Z xfo35_10)<|ZV (Y.load Z xts32 hkq.of_nil Z)<|YC Z Z Z ((tms_c (n := t) (y := q.x.renew) (z := q.x.rebind)).frame)<|?_
 refine ZM Z<|ZV (Y.extract Z Z)<|ZV (Y.extract Z Z)<|ZA Z<|ZA Z<|ZE<|Zg<|Zs<|Zr<|Zm Z<|Zv (Y.fieldAddr Z xfo28_5)<|Run.store (s := [(b3,.cells #[.int .i64 ((Eg.rep q.x q.p kind).op),.int .u32 ((Eg.rep q.x q.p kind).xid),.int .i64 ((Eg.rep q.x q.p kind).secs),.int .i64 ((Eg.rep q.x q.p kind).flags),.int .u32 ((Eg.rep q.x q.p kind).ci),.int .u32 a,.int .u32 ((Eg.rep q.x q.p kind).si),.int .u32 ((Eg.rep q.x q.p kind).gi),.slice ph2 q.p.hw.length ch2,.slice po2 L2.length k2] 28 (0,0))]) Z Z xsz24 (i := 0) Z Z (le Z) Z Z<|?_
 refine Ze<|Zg<|Zs<|Zr<|Zm Z<|Zv (Y.buildA (l := [(0,.const (.int .i64 51)),(1,.tmp 32)]) xzo142 xea142 Z Z)<|Zm Z<|Zv (Y.buildA (l := [(0,.const (.int .i64 58)),(1,.tmp 34)]) xzo142 xea142 Z Z)<|Zm Z<|Zv (Y.buildA (l := [(0,.const (.int .i64 59)),(1,.tmp 36)]) xzo142 xea142 Z Z)<|?_
 refine Run.buildSlice (l := [(0,.tmp 33),(1,.tmp 35),(2,.tmp 37)]) (r := [.int .i64 51,.int .i64 t,.int .i64 58,.int .i64 (Fl.part t q.x.renew),.int .i64 59,.int .i64 (max (Fl.part t q.x.renew) (Fl.part t q.x.rebind))]) xes185 xzo142 rfl WD rfl rfl WD (lt rfl) (fun b4 => ?_)
 refine Run.keepTo (H' := [[(b4,.cells #[.int .i64 51,.int .i64 t,.int .i64 58,.int .i64 (Fl.part t q.x.renew),.int .i64 59,.int .i64 (max (Fl.part t q.x.renew) (Fl.part t q.x.rebind))] 142 (0,0))],[(b3,.cells #[.int .i64 ((Eg.rep q.x q.p kind).op),.int .u32 ((Eg.rep q.x q.p kind).xid),.int .i64 ((Eg.rep q.x q.p kind).secs),.int .i64 ((Eg.rep q.x q.p kind).flags),.int .u32 ((Eg.rep q.x q.p kind).ci),.int .u32 a,.int .u32 ((Eg.rep q.x q.p kind).si),.int .u32 ((Eg.rep q.x q.p kind).gi),.slice ph2 q.p.hw.length ch2,.slice po2 L2.length k2] 28 (0,0))],[(b1,.cells #[.int .i64 0,.int .u32 0,.int .i64 0,.int .i64 0,.int .u32 0,.int .u32 0,.int .u32 0,.int .u32 0,.slice none 0 0,.slice none 0 0] 28 (0,0))],so2]) [0,0,0,0] Z ?_
 refine Run.show (fun V5 hleV5 hshV5 => ?_)
 have hcs := (Ow.lit (e := 142) (k := 2) (b := b4) (n := 3) (cur := #[.int .i64 51,.int .i64 t,.int .i64 58,.int .i64 (Fl.part t q.x.renew),.int .i64 59,.int .i64 (max (Fl.part t q.x.renew) (Fl.part t q.x.rebind))]) rfl WD).shows _ hshV5
 replace hkq := hkq.le hleV5
 replace hok := hok.le hleV5
 replace hr2 := hr2.le hleV5
 replace hh2 := hh2.le hleV5
 replace hVle := Vw.le_trans hVle hleV5
 refine Yk [0,1] Z Z Z (put_q (L := L2) (cs := [(⟨51,t⟩ : Cn),(⟨58,Fl.part t q.x.renew⟩ : Cn),(⟨59,max (Fl.part t q.x.renew) (Fl.part t q.x.rebind)⟩ : Cn)]) ho2 hr2 hcs (Cn.fine3 ht h58 h59) (Nat.le_of_ble_eq_true rfl) (by have h := congrArg List.length hm2; rw [List.length_map] at h; rw [h]; exact Nat.le_of_ble_eq_true rfl)) (fun v6 V6 H6 hle6 hR6 => ?_)
 obtain ⟨_,rfl,L6,po6,k6,so6,rfl,ho6,hr6,hm6⟩ := hR6
 replace hkq := hkq.le hle6
 replace hok := hok.le hle6
 replace hh2 := hh2.le hle6
 replace hVle := Vw.le_trans hVle hle6
 refine Run.heapTo (H' := [[(b1,.cells #[.int .i64 0,.int .u32 0,.int .i64 0,.int .i64 0,.int .u32 0,.int .u32 0,.int .u32 0,.int .u32 0,.slice none 0 0,.slice none 0 0] 28 (0,0))],[(b3,.cells #[.int .i64 ((Eg.rep q.x q.p kind).op),.int .u32 ((Eg.rep q.x q.p kind).xid),.int .i64 ((Eg.rep q.x q.p kind).secs),.int .i64 ((Eg.rep q.x q.p kind).flags),.int .u32 ((Eg.rep q.x q.p kind).ci),.int .u32 a,.int .u32 ((Eg.rep q.x q.p kind).si),.int .u32 ((Eg.rep q.x q.p kind).gi),.slice ph2 q.p.hw.length ch2,.slice po6 L6.length k6] 28 (0,0))],so6]) Z ?_
 refine Ze<|Zg<|Zs<|Zr<|Zv (Y.loadAgg Z xag28 (Kn.at 1 Z) Z)<|Run.store (s := [(b1,.cells #[.int .i64 ((Eg.rep q.x q.p kind).op),.int .u32 ((Eg.rep q.x q.p kind).xid),.int .i64 ((Eg.rep q.x q.p kind).secs),.int .i64 ((Eg.rep q.x q.p kind).flags),.int .u32 ((Eg.rep q.x q.p kind).ci),.int .u32 a,.int .u32 ((Eg.rep q.x q.p kind).si),.int .u32 ((Eg.rep q.x q.p kind).gi),.slice ph2 q.p.hw.length ch2,.slice po6 L6.length k6] 28 (0,0))]) Z Z xsz28 (i := 0) Z Z (le Z) Z Z<|?_
 refine Ze<|Zg<|Zu<|Ex.keepTo (H' := [so6,[(b1,.cells #[.int .i64 ((Eg.rep q.x q.p kind).op),.int .u32 ((Eg.rep q.x q.p kind).xid),.int .i64 ((Eg.rep q.x q.p kind).secs),.int .i64 ((Eg.rep q.x q.p kind).flags),.int .u32 ((Eg.rep q.x q.p kind).ci),.int .u32 a,.int .u32 ((Eg.rep q.x q.p kind).si),.int .u32 ((Eg.rep q.x q.p kind).gi),.slice ph2 q.p.hw.length ch2,.slice po6 L6.length k6] 28 (0,0))],[(b3,.cells #[.int .i64 ((Eg.rep q.x q.p kind).op),.int .u32 ((Eg.rep q.x q.p kind).xid),.int .i64 ((Eg.rep q.x q.p kind).secs),.int .i64 ((Eg.rep q.x q.p kind).flags),.int .u32 ((Eg.rep q.x q.p kind).ci),.int .u32 a,.int .u32 ((Eg.rep q.x q.p kind).si),.int .u32 ((Eg.rep q.x q.p kind).gi),.slice ph2 q.p.hw.length ch2,.slice po6 L6.length k6] 28 (0,0))]]) [2,0,0] Z<|?_
 refine Ex.show (fun V7 hleV7 hshV7 => ?_)
 have hso := ho6.shows _ hshV7
 replace hkq := hkq.le hleV7
 replace hok := hok.le hleV7
 replace hh2 := hh2.le hleV7
 replace hr6 := hr6.le hleV7
 replace hVle := Vw.le_trans hVle hleV7
 exact Ex.retCell [] rfl rfl xag28 (Kn.at 0 rfl) rfl ⟨hVle,rfl,.slice ph2 q.p.hw.length ch2,.slice po6 L6.length k6,rfl,hh2,Pc.rs_of hso hr6 (by rw [hm6,hm2]; rfl),hok.xid,ha,hok.sv⟩
set_option maxHeartbeats 1000000 in
theorem discover_q {V : Vw} {bq tx : Nat} {q : Eg.Qy} {pv hv ov : Value} (hkq : Kn V [] bq (.cells (q.cells pv tx hv ov) 90 (0,0))) (hok : Eg.Qok V q hv ov) {s : Sg} (hin : Le.In 99 q.l tx s)  : Does Tryz.prog 40 [(pZ bq)] V [s] (fun u V' H' => V.le V' /\ H' = [s] /\ ∃ hv' ov',u = .agg ((q.discover).cells hv' ov') /\ Pc.R V' (q.discover).reply hv' ov') := by
 refine Does.intro Tryz.func40 rfl rfl (le rfl) (fun B => ?_)
 refine Zs<|Zr<|?_
 refine Run.box rfl (lt rfl) (fun b1 => ?_)
 refine Run.show (fun U2 hle2 hsh2 => ?_)
 replace hkq := hkq.le hle2
 replace hok := hok.le hle2
 have hVle := hle2
 have hk1 := Kn.shown hsh2
 refine Run.alloc xzo45 (lt rfl) (fun b3 => ?_)
 refine Ze<|Zg<|Zs<|?_
 refine Tr.cut U2 [[(b3,.cells an0 45 (0,0))],s] [(0,(pZ bq)),(1,(pZ b1)),(2,(pZ b3)),(17,.bool q.shut)] ?_ ?_
 ·refine Zr<|Zv (Y.load Z xts88 hk1.of_nil Z)<|Zv (Y.nilCheck Z)<|Zv (Y.fieldAddr Z xfo90_3)<|Zv (Y.load Z xts3 hkq.of_nil Z)<|Zv (Y.int Z Z Z)<|Zm Z<|?_
  refine Zq (q.state == 1) (fun h4 g4 => ?_) fun h4 g4 => ?_
  ·refine Zp h4<|Zv (Y.load Z xts88 hk1.of_nil Z)<|Zp h4<|Yc Z Z Z ((mine_q hkq hok.cl).frame)<|Zp h4<|Zv (Y.not Z)<|Zv (Y.pick_t Z h4 Z)<|Ze<|?_
   have hshu : (!(Eg.mine q.x q.client)) = q.shut := by unfold Eg.Qy.shut; rw [h4] <;> rfl
   exact Ex.cut rfl (by repeat (first | exact subB_nil _ | refine subB_cons (by first | rfl | exact congrArg (fun z => some (Value.int _ z)) W | exact congrArg (fun z => some (Value.bool z)) hshu) ?_))
  refine Zo h4 Z<|Zo h4 Z<|Zo h4 Z<|Zv (Y.pick_f Z h4 Z)<|Ze<|?_
  have hshu : (false) = q.shut := by unfold Eg.Qy.shut; rw [h4] <;> rfl
  exact Ex.cut rfl (by repeat (first | exact subB_nil _ | refine subB_cons (by first | rfl | exact congrArg (fun z => some (Value.int _ z)) W | exact congrArg (fun z => some (Value.bool z)) hshu) ?_))
 refine Zq (q.shut) (fun h5 g5 => ?_) fun h5 g5 => ?_
 ·refine Tr.cond_t Z h5<|Zs<|Zr<|Zv (Y.buildS (l := []) (r := (an0).toList) xzo45 xpl45 Z Z)<|Run.stAll (l2 := (an0).toList) (j := 0) Z Z xsz45 Z Z Z Z<|?_
  refine Run.heapTo (H' := [[(b3,.cells an0 45 (0,0))],s]) Z<|Ze<|Zg<|Zu<|Zn<|?_
  exact Ex.retCell [1] rfl rfl xag45 (Kn.at 0 rfl) rfl ⟨hVle,rfl,.slice none 0 0,.slice none 0 0,by rw [Eg.shut_t h5]; rfl,by rw [Eg.shut_t h5]; exact Pc.zero_R _⟩
 refine Tr.cond_f Z h5<|Zt<|Zg<|Zs<|Zs<|Zr<|Zv (Y.makeFunc (l := []) (l' := [.tmp 1]) Z Z)<|Zv (Y.makeFunc (l := []) (l' := [.tmp 1]) Z Z)<|Zv (Y.makeFunc (l := []) (l' := [.tmp 1]) Z Z)<|?_
 refine Run.buildSlice (l := [(0,.tmp 19),(1,.tmp 20),(2,.tmp 21)]) xes135 xzo134 rfl WD rfl rfl WD (lt rfl) (fun b6 => ?_)
 refine Zv (Y.lenSl Z xes135)<|Zm Z<|Ze<|Zg<|Zb<|Tr.unroll 3<|Zs<|Zr<|Zv (Y.int (r := .bool true) Z Z Z)<|Ze<|Zg<|Zs<|Tr.cond_t Z Z<|Zt<|Zg<|Zs<|?_
 refine Zb<|Zs<|Zr<|Zv (Y.idxAddr Z Z xes135 WD WD)<|Zv (Y.load Z xts134 (Kn.at 0 Z) Z)<|Za Z<|Ze<|Zg<|Zs<|Zr<|Zm Z<|Yc Z Z Z (Does.frame1 2 Z (disc1_q hkq hk1 hin))<|Zm Z<|Zv (Y.extract Z Z)<|Zv (Y.extract Z Z)<|?_
 refine Run.alloc xzo43 (lt rfl) (fun b7 => ?_)
 refine Run.store (s := [(b7,.cells ((Le.cells ((Eg.fst q.th q.l).1)).toArray) 43 (0,0))]) Z Z xsz43 (i := 0) Z Z (le Z) Z Z<|Za Z<|Ze<|Zg<|Zs<|Zs<|Zr<|?_
 refine Zm Z<|Zv (Y.not Z)<|Ze<|Zg<|?_
 refine Zq ((Eg.fst q.th q.l).2) (fun h8 g8 => ?_) fun h8 g8 => ?_
 ·refine Tr.cond_f Z (congrArg Bool.not h8)<|Zt<|Zg<|Zs<|Zr<|Zv (Y.load Z xts88 hk1.of_nil Z)<|Zv (Y.loadAgg Z xag43 (Kn.at 0 Z) Z)<|Yc Z Z Z ((time_q (l := (Eg.fst q.th q.l).1) hkq).frame)<|Za Z<|Ze<|Zg<|Zs<|Zs<|Zr<|Zm Z<|Zv (Y.int Z Z Z)<|?_
  refine Ze<|Zg<|?_
  refine Zq (decide ((q.tm ((Eg.fst q.th q.l).1)) < 1)) (fun h9 g9 => ?_) fun h9 g9 => ?_
  ·refine Tr.cond_t Z h9<|Zs<|Zr<|Zv (Y.buildS (l := []) (r := (an0).toList) xzo45 xpl45 Z Z)<|Run.stAll (l2 := (an0).toList) (j := 2) Z Z xsz45 Z Z Z Z<|?_
   refine Run.heapTo (H' := [[(b7,.cells ((Le.cells ((Eg.fst q.th q.l).1)).toArray) 43 (0,0))],[(b6,.cells #[.func (.func 93) #[] #[(pZ b1)],.func (.func 95) #[] #[(pZ b1)],.func (.func 97) #[] #[(pZ b1)]] 134 (0,0))],[(b3,.cells an0 45 (0,0))],s]) Z ?_
   refine Ze<|Zg<|Zu<|Zn<|Zk<|Zn<|Zn<|Zk<|Zn<|?_
   exact Ex.retCell [3] rfl rfl xag45 (Kn.at 2 rfl) rfl ⟨hVle,rfl,.slice none 0 0,.slice none 0 0,by rw [(Eg.disc_1 (Eg.shut_f h5) h8).trans (Eg.offer_no (of_decide_eq_true h9))]; rfl,by rw [(Eg.disc_1 (Eg.shut_f h5) h8).trans (Eg.offer_no (of_decide_eq_true h9))]; exact Pc.zero_R _⟩
  refine Tr.cond_f Z h9<|Zt<|Zg<|Zs<|Zr<|Zv (Y.load Z xts88 hk1.of_nil Z)<|Zv (Y.fieldAddr Z xfo43_0)<|Zv (Y.load Z xts24 (Kn.at 0 Z) Z)<|Zm Z<|?_
  refine Yk [] Z Z Z (promise_q (q := q) (kind := 2) (a := (Eg.fst q.th q.l).1.addr) (t := q.tm ((Eg.fst q.th q.l).1)) hkq hok (Eg.fst_la h8 hok.la) ⟨Eg.tm_nn _ _,Eg.tm_le _ _⟩) (fun v10 V10 H10 hle10 hR10 => ?_)
  obtain ⟨_,rfl,hv10,ov10,rfl,hRp10⟩ := hR10
  replace hkq := hkq.le hle10
  replace hok := hok.le hle10
  replace hk1 := hk1.le hle10
  replace hVle := Vw.le_trans hVle hle10
  obtain ⟨⟨pg10,cg10,rfl⟩,pk10,nk10,ck10,rfl⟩ := hRp10.forms
  generalize hP10 : Eg.prom q.x q.p 2 ((Eg.fst q.th q.l).1.addr) (q.tm ((Eg.fst q.th q.l).1)) = P10 at hRp10 ⊢
  refine Run.heapTo (H' := [[(b7,.cells ((Le.cells ((Eg.fst q.th q.l).1)).toArray) 43 (0,0))],[(b6,.cells #[.func (.func 93) #[] #[(pZ b1)],.func (.func 95) #[] #[(pZ b1)],.func (.func 97) #[] #[(pZ b1)]] 134 (0,0))],[(b3,.cells an0 45 (0,0))],s]) Z ?_
  refine Zv (Y.buildS (l := [(0,.const (.bool true)),(1,.tmp 45)]) (r := (An.cells ⟨true,P10,false,Le.dflt,0⟩ (.slice pg10 P10.hw.length cg10) (.slice pk10 nk10 ck10)).toList) xzo45 xpl45 Z Z) ?_
  refine Run.stAll (l2 := (An.cells ⟨true,P10,false,Le.dflt,0⟩ (.slice pg10 P10.hw.length cg10) (.slice pk10 nk10 ck10)).toList) (j := 2) Z Z xsz45 Z Z Z Z ?_
  refine Run.heapTo (H' := [[(b7,.cells ((Le.cells ((Eg.fst q.th q.l).1)).toArray) 43 (0,0))],[(b6,.cells #[.func (.func 93) #[] #[(pZ b1)],.func (.func 95) #[] #[(pZ b1)],.func (.func 97) #[] #[(pZ b1)]] 134 (0,0))],[(b3,.cells (An.cells ⟨true,P10,false,Le.dflt,0⟩ (.slice pg10 P10.hw.length cg10) (.slice pk10 nk10 ck10)) 45 (0,0))],s]) Z ?_
  refine Ze<|Zg<|Zu<|Zk<|Zn<|Zn<|Zk<|Zn<|?_
  exact Ex.retCell [3] rfl rfl xag45 (Kn.at 2 rfl) rfl ⟨hVle,rfl,.slice pg10 P10.hw.length cg10,.slice pk10 nk10 ck10,by rw [(Eg.disc_1 (Eg.shut_f h5) h8).trans (Eg.offer_is (of_decide_eq_false h9)),hP10]; rfl,by rw [(Eg.disc_1 (Eg.shut_f h5) h8).trans (Eg.offer_is (of_decide_eq_false h9)),hP10]; exact hRp10⟩
 refine Tr.cond_t Z (congrArg Bool.not h8)<|Zx<|Zy<|Zi<|Zg<|Zr<|Zv (Y.int (r := .int .i64 1) Z Z Z)<|Zm Z<|Ze<|Ex.goU<|Zs<|Zr<|Zv (Y.int (r := .bool true) Z Z Z)<|Ze<|Zg<|Zs<|?_
 refine Tr.cond_t Z Z<|Zt<|Zg<|Zs<|Zb<|Zs<|Zr<|Zv (Y.idxAddr Z Z xes135 WD WD)<|Zv (Y.load Z xts134 (Kn.at 1 Z) Z)<|Za Z<|Ze<|Zg<|Zs<|Zr<|Zm Z<|Yc Z Z Z (Does.frame1 3 Z (disc2_q hkq hk1 hin))<|?_
 refine Zm Z<|Zv (Y.extract Z Z)<|Zv (Y.extract Z Z)<|?_
 refine Run.alloc xzo43 (lt rfl) (fun b11 => ?_)
 refine Run.store (s := [(b11,.cells ((Le.cells ((Eg.of q.may q.l q.addr).1)).toArray) 43 (0,0))]) Z Z xsz43 (i := 0) Z Z (le Z) Z Z ?_
 refine Za Z<|Ze<|Zg<|Zs<|Zs<|Zr<|Zm Z<|Zv (Y.not Z)<|Ze<|Zg<|?_
 refine Zq ((Eg.of q.may q.l q.addr).2) (fun h12 g12 => ?_) fun h12 g12 => ?_
 ·refine Tr.cond_f Z (congrArg Bool.not h12)<|Zt<|Zg<|Zs<|Zr<|Zv (Y.load Z xts88 hk1.of_nil Z)<|Zv (Y.loadAgg Z xag43 (Kn.at 0 Z) Z)<|Yc Z Z Z ((time_q (l := (Eg.of q.may q.l q.addr).1) hkq).frame)<|Za Z<|Ze<|Zg<|Zs<|Zs<|Zr<|Zm Z<|Zv (Y.int Z Z Z)<|?_
  refine Ze<|Zg<|?_
  refine Zq (decide ((q.tm ((Eg.of q.may q.l q.addr).1)) < 1)) (fun h13 g13 => ?_) fun h13 g13 => ?_
  ·refine Tr.cond_t Z h13<|Zs<|Zr<|Zv (Y.buildS (l := []) (r := (an0).toList) xzo45 xpl45 Z Z)<|Run.stAll (l2 := (an0).toList) (j := 3) Z Z xsz45 Z Z Z Z<|?_
   refine Run.heapTo (H' := [[(b11,.cells ((Le.cells ((Eg.of q.may q.l q.addr).1)).toArray) 43 (0,0))],[(b7,.cells ((Le.cells ((Eg.fst q.th q.l).1)).toArray) 43 (0,0))],[(b6,.cells #[.func (.func 93) #[] #[(pZ b1)],.func (.func 95) #[] #[(pZ b1)],.func (.func 97) #[] #[(pZ b1)]] 134 (0,0))],[(b3,.cells an0 45 (0,0))],s]) Z ?_
   refine Ze<|Zg<|Zu<|Zn<|Zk<|Zn<|Zn<|Zk<|Zn<|?_
   exact Ex.retCell [4] rfl rfl xag45 (Kn.at 3 rfl) rfl ⟨hVle,rfl,.slice none 0 0,.slice none 0 0,by rw [(Eg.disc_2 (Eg.shut_f h5) h8 h12).trans (Eg.offer_no (of_decide_eq_true h13))]; rfl,by rw [(Eg.disc_2 (Eg.shut_f h5) h8 h12).trans (Eg.offer_no (of_decide_eq_true h13))]; exact Pc.zero_R _⟩
  refine Tr.cond_f Z h13<|Zt<|Zg<|Zs<|Zr<|Zv (Y.load Z xts88 hk1.of_nil Z)<|Zv (Y.fieldAddr Z xfo43_0)<|Zv (Y.load Z xts24 (Kn.at 0 Z) Z)<|Zm Z<|?_
  refine Yk [] Z Z Z (promise_q (q := q) (kind := 2) (a := (Eg.of q.may q.l q.addr).1.addr) (t := q.tm ((Eg.of q.may q.l q.addr).1)) hkq hok (Eg.of_la h12 hok.la) ⟨Eg.tm_nn _ _,Eg.tm_le _ _⟩) (fun v14 V14 H14 hle14 hR14 => ?_)
  obtain ⟨_,rfl,hv14,ov14,rfl,hRp14⟩ := hR14
  replace hkq := hkq.le hle14
  replace hok := hok.le hle14
  replace hk1 := hk1.le hle14
  replace hVle := Vw.le_trans hVle hle14
  obtain ⟨⟨pg14,cg14,rfl⟩,pk14,nk14,ck14,rfl⟩ := hRp14.forms
  generalize hP14 : Eg.prom q.x q.p 2 ((Eg.of q.may q.l q.addr).1.addr) (q.tm ((Eg.of q.may q.l q.addr).1)) = P14 at hRp14 ⊢
  refine Run.heapTo (H' := [[(b11,.cells ((Le.cells ((Eg.of q.may q.l q.addr).1)).toArray) 43 (0,0))],[(b7,.cells ((Le.cells ((Eg.fst q.th q.l).1)).toArray) 43 (0,0))],[(b6,.cells #[.func (.func 93) #[] #[(pZ b1)],.func (.func 95) #[] #[(pZ b1)],.func (.func 97) #[] #[(pZ b1)]] 134 (0,0))],[(b3,.cells an0 45 (0,0))],s]) Z ?_
  refine Zv (Y.buildS (l := [(0,.const (.bool true)),(1,.tmp 45)]) (r := (An.cells ⟨true,P14,false,Le.dflt,0⟩ (.slice pg14 P14.hw.length cg14) (.slice pk14 nk14 ck14)).toList) xzo45 xpl45 Z Z) ?_
  refine Run.stAll (l2 := (An.cells ⟨true,P14,false,Le.dflt,0⟩ (.slice pg14 P14.hw.length cg14) (.slice pk14 nk14 ck14)).toList) (j := 3) Z Z xsz45 Z Z Z Z ?_
  refine Run.heapTo (H' := [[(b11,.cells ((Le.cells ((Eg.of q.may q.l q.addr).1)).toArray) 43 (0,0))],[(b7,.cells ((Le.cells ((Eg.fst q.th q.l).1)).toArray) 43 (0,0))],[(b6,.cells #[.func (.func 93) #[] #[(pZ b1)],.func (.func 95) #[] #[(pZ b1)],.func (.func 97) #[] #[(pZ b1)]] 134 (0,0))],[(b3,.cells (An.cells ⟨true,P14,false,Le.dflt,0⟩ (.slice pg14 P14.hw.length cg14) (.slice pk14 nk14 ck14)) 45 (0,0))],s]) Z ?_
  refine Ze<|Zg<|Zu<|Zk<|Zn<|Zn<|Zk<|Zn<|?_
  exact Ex.retCell [4] rfl rfl xag45 (Kn.at 3 rfl) rfl ⟨hVle,rfl,.slice pg14 P14.hw.length cg14,.slice pk14 nk14 ck14,by rw [(Eg.disc_2 (Eg.shut_f h5) h8 h12).trans (Eg.offer_is (of_decide_eq_false h13)),hP14]; rfl,by rw [(Eg.disc_2 (Eg.shut_f h5) h8 h12).trans (Eg.offer_is (of_decide_eq_false h13)),hP14]; exact hRp14⟩
 refine Tr.cond_t Z (congrArg Bool.not h12)<|Zx<|Zy<|Zi<|Zg<|Zr<|Zv (Y.int (r := .int .i64 2) Z Z Z)<|Zm Z<|Ze<|Ex.goU<|Zs<|Zr<|Zv (Y.int (r := .bool true) Z Z Z)<|Ze<|Zg<|Zs<|?_
 refine Tr.cond_t Z Z<|Zt<|Zg<|Zs<|Zb<|Zs<|Zr<|Zv (Y.idxAddr Z Z xes135 WD WD)<|Zv (Y.load Z xts134 (Kn.at 2 Z) Z)<|Za Z<|Ze<|Zg<|Zs<|Zr<|Zm Z<|Yc Z Z Z (Does.frame1 4 Z (disc3_q hkq hk1 hin))<|?_
 refine Zm Z<|Zv (Y.extract Z Z)<|Zv (Y.extract Z Z)<|?_
 refine Run.alloc xzo43 (lt rfl) (fun b15 => ?_)
 refine Run.store (s := [(b15,.cells ((Le.cells ((Eg.fst q.may q.l).1)).toArray) 43 (0,0))]) Z Z xsz43 (i := 0) Z Z (le Z) Z Z<|Za Z<|?_
 refine Ze<|Zg<|Zs<|Zs<|Zr<|Zm Z<|Zv (Y.not Z)<|Ze<|Zg<|?_
 refine Zq ((Eg.fst q.may q.l).2) (fun h16 g16 => ?_) fun h16 g16 => ?_
 ·refine Tr.cond_f Z (congrArg Bool.not h16)<|Zt<|Zg<|Zs<|Zr<|Zv (Y.load Z xts88 hk1.of_nil Z)<|Zv (Y.loadAgg Z xag43 (Kn.at 0 Z) Z)<|Yc Z Z Z ((time_q (l := (Eg.fst q.may q.l).1) hkq).frame)<|Za Z<|Ze<|Zg<|Zs<|Zs<|Zr<|Zm Z<|Zv (Y.int Z Z Z)<|?_
  refine Ze<|Zg<|?_
  refine Zq (decide ((q.tm ((Eg.fst q.may q.l).1)) < 1)) (fun h17 g17 => ?_) fun h17 g17 => ?_
  ·refine Tr.cond_t Z h17<|Zs<|Zr<|Zv (Y.buildS (l := []) (r := (an0).toList) xzo45 xpl45 Z Z)<|Run.stAll (l2 := (an0).toList) (j := 4) Z Z xsz45 Z Z Z Z<|?_
   refine Run.heapTo (H' := [[(b15,.cells ((Le.cells ((Eg.fst q.may q.l).1)).toArray) 43 (0,0))],[(b11,.cells ((Le.cells ((Eg.of q.may q.l q.addr).1)).toArray) 43 (0,0))],[(b7,.cells ((Le.cells ((Eg.fst q.th q.l).1)).toArray) 43 (0,0))],[(b6,.cells #[.func (.func 93) #[] #[(pZ b1)],.func (.func 95) #[] #[(pZ b1)],.func (.func 97) #[] #[(pZ b1)]] 134 (0,0))],[(b3,.cells an0 45 (0,0))],s]) Z ?_
   refine Ze<|Zg<|Zu<|Zn<|Zk<|Zn<|Zn<|Zk<|Zn<|?_
   exact Ex.retCell [5] rfl rfl xag45 (Kn.at 4 rfl) rfl ⟨hVle,rfl,.slice none 0 0,.slice none 0 0,by rw [((Eg.disc_3 (Eg.shut_f h5) h8 h12).trans (if_pos h16)).trans (Eg.offer_no (of_decide_eq_true h17))]; rfl,by rw [((Eg.disc_3 (Eg.shut_f h5) h8 h12).trans (if_pos h16)).trans (Eg.offer_no (of_decide_eq_true h17))]; exact Pc.zero_R _⟩
  refine Tr.cond_f Z h17<|Zt<|Zg<|Zs<|Zr<|Zv (Y.load Z xts88 hk1.of_nil Z)<|Zv (Y.fieldAddr Z xfo43_0)<|Zv (Y.load Z xts24 (Kn.at 0 Z) Z)<|Zm Z<|?_
  refine Yk [] Z Z Z (promise_q (q := q) (kind := 2) (a := (Eg.fst q.may q.l).1.addr) (t := q.tm ((Eg.fst q.may q.l).1)) hkq hok (Eg.fst_la h16 hok.la) ⟨Eg.tm_nn _ _,Eg.tm_le _ _⟩) (fun v18 V18 H18 hle18 hR18 => ?_)
  obtain ⟨_,rfl,hv18,ov18,rfl,hRp18⟩ := hR18
  replace hkq := hkq.le hle18
  replace hok := hok.le hle18
  replace hk1 := hk1.le hle18
  replace hVle := Vw.le_trans hVle hle18
  obtain ⟨⟨pg18,cg18,rfl⟩,pk18,nk18,ck18,rfl⟩ := hRp18.forms
  generalize hP18 : Eg.prom q.x q.p 2 ((Eg.fst q.may q.l).1.addr) (q.tm ((Eg.fst q.may q.l).1)) = P18 at hRp18 ⊢
  refine Run.heapTo (H' := [[(b15,.cells ((Le.cells ((Eg.fst q.may q.l).1)).toArray) 43 (0,0))],[(b11,.cells ((Le.cells ((Eg.of q.may q.l q.addr).1)).toArray) 43 (0,0))],[(b7,.cells ((Le.cells ((Eg.fst q.th q.l).1)).toArray) 43 (0,0))],[(b6,.cells #[.func (.func 93) #[] #[(pZ b1)],.func (.func 95) #[] #[(pZ b1)],.func (.func 97) #[] #[(pZ b1)]] 134 (0,0))],[(b3,.cells an0 45 (0,0))],s]) Z ?_
  refine Zv (Y.buildS (l := [(0,.const (.bool true)),(1,.tmp 45)]) (r := (An.cells ⟨true,P18,false,Le.dflt,0⟩ (.slice pg18 P18.hw.length cg18) (.slice pk18 nk18 ck18)).toList) xzo45 xpl45 Z Z) ?_
  refine Run.stAll (l2 := (An.cells ⟨true,P18,false,Le.dflt,0⟩ (.slice pg18 P18.hw.length cg18) (.slice pk18 nk18 ck18)).toList) (j := 4) Z Z xsz45 Z Z Z Z ?_
  refine Run.heapTo (H' := [[(b15,.cells ((Le.cells ((Eg.fst q.may q.l).1)).toArray) 43 (0,0))],[(b11,.cells ((Le.cells ((Eg.of q.may q.l q.addr).1)).toArray) 43 (0,0))],[(b7,.cells ((Le.cells ((Eg.fst q.th q.l).1)).toArray) 43 (0,0))],[(b6,.cells #[.func (.func 93) #[] #[(pZ b1)],.func (.func 95) #[] #[(pZ b1)],.func (.func 97) #[] #[(pZ b1)]] 134 (0,0))],[(b3,.cells (An.cells ⟨true,P18,false,Le.dflt,0⟩ (.slice pg18 P18.hw.length cg18) (.slice pk18 nk18 ck18)) 45 (0,0))],s]) Z ?_
  refine Ze<|Zg<|Zu<|Zk<|Zn<|Zn<|Zk<|Zn<|?_
  exact Ex.retCell [5] rfl rfl xag45 (Kn.at 4 rfl) rfl ⟨hVle,rfl,.slice pg18 P18.hw.length cg18,.slice pk18 nk18 ck18,by rw [((Eg.disc_3 (Eg.shut_f h5) h8 h12).trans (if_pos h16)).trans (Eg.offer_is (of_decide_eq_false h17)),hP18]; rfl,by rw [((Eg.disc_3 (Eg.shut_f h5) h8 h12).trans (if_pos h16)).trans (Eg.offer_is (of_decide_eq_false h17)),hP18]; exact hRp18⟩
 refine Tr.cond_t Z (congrArg Bool.not h16)<|Zx<|Zy<|Zi<|Zg<|Zr<|Zv (Y.int (r := .int .i64 3) Z Z Z)<|Zm Z<|Ze<|Ex.goU<|Zs<|Zr<|Zv (Y.int (r := .bool false) Z Z Z)<|Ze<|Zg<|Zs<|?_
 refine Tr.cond_f Z Z<|Zx<|Zy<|Zy<|Zi<|Zg<|Zs<|Zr<|Zv (Y.buildS (l := []) (r := (an0).toList) xzo45 xpl45 Z Z)<|Run.stAll (l2 := (an0).toList) (j := 4) Z Z xsz45 Z Z Z Z<|?_
 refine Run.heapTo (H' := [[(b15,.cells ((Le.cells ((Eg.fst q.may q.l).1)).toArray) 43 (0,0))],[(b11,.cells ((Le.cells ((Eg.of q.may q.l q.addr).1)).toArray) 43 (0,0))],[(b7,.cells ((Le.cells ((Eg.fst q.th q.l).1)).toArray) 43 (0,0))],[(b6,.cells #[.func (.func 93) #[] #[(pZ b1)],.func (.func 95) #[] #[(pZ b1)],.func (.func 97) #[] #[(pZ b1)]] 134 (0,0))],[(b3,.cells an0 45 (0,0))],s]) Z ?_
 refine Ze<|Zg<|Zu<|?_
 exact Ex.retCell [5] rfl rfl xag45 (Kn.at 4 rfl) rfl ⟨hVle,rfl,.slice none 0 0,.slice none 0 0,by rw [(Eg.disc_3 (Eg.shut_f h5) h8 h12).trans (if_neg (by rw [h16]; decide))]; rfl,by rw [(Eg.disc_3 (Eg.shut_f h5) h8 h12).trans (if_neg (by rw [h16]; decide))]; exact Pc.zero_R _⟩
set_option maxHeartbeats 2000000 in
theorem request_q {V : Vw} {bq tx : Nat} {q : Eg.Qy} {pv hv ov : Value} (hkq : Kn V [] bq (.cells (q.cells pv tx hv ov) 90 (0,0))) (hok : Eg.Qok V q hv ov) {s : Sg} (hin : Le.In 99 q.l tx s)  : Does Tryz.prog 41 [(pZ bq)] V [s] (fun u V' H' => V.le V' /\ H' = [s] /\ ∃ hv' ov',u = .agg ((q.request).cells hv' ov') /\ Pc.R V' (q.request).reply hv' ov') := by
 refine Does.intro Tryz.func41 rfl rfl (le rfl) (fun B => ?_)
 refine Zs<|Zr<|?_
 refine Run.box rfl (lt rfl) (fun b1 => ?_)
 refine Run.alloc xzo45 (lt rfl) (fun b2 => ?_)
 refine Ze<|Zg<|Zs<|Zr<|Run.keepTo (H' := [(cL 88 b1 bq),[(b2,.cells an0 45 (0,0))],s]) [1,0,0] Z<|?_
 refine Run.show (fun U3 hle3 hsh3 => ?_)
 replace hkq := hkq.le hle3
 replace hok := hok.le hle3
 have hVle := hle3
 have hk1 := Kn.shown hsh3
 refine Zv (Y.load Z xts88 hk1.of_nil Z) ?_
 refine Yk [] Z Z Z (chosen_h hkq hok.os hok.few) (fun v4 V2 H2 _ hR => ?_)
 obtain ⟨hV,rfl,sv4,rfl,hsv⟩ := hR; replace hV := hV.symm; subst hV
 refine Run.heapTo (H' := [[(b2,.cells an0 45 (0,0))],s]) Z<|Run.heapTo (H' := [[(b2,.cells an0 45 (0,0))],s]) Z<|?_
 refine Zm Z<|Zv (Y.extract Z Z)<|Zv (Y.extract Z Z)<|Za Z<|Za Z<|Ze<|Zg<|?_
 refine Tr.cutx (X := Nat) (fun y5 => U3) (fun y5 => [[(y5,.cells ((Le.cells ((Eg.of (fun l => q.th l || q.may l) q.l q.addr).1)).toArray) 43 (0,0))],[(b2,.cells an0 45 (0,0))],s]) (fun y5 => [(0,(pZ bq)),(1,(pZ b1)),(2,(pZ b2)),(3,.int .u32 sv4),(4,.bool q.told),(5,(pZ y5)),(6,.bool ((Eg.of (fun l => q.th l || q.may l) q.l q.addr).2))]) (fun y5 => True) ?_ ?_
 ·refine Tr.anyD [(bq,.cells (q.cells pv tx hv ov) 90 (0,0)),(b1,.cells #[(pZ bq)] 88 (0,0))] xmo<|ZD 0 1 Z Z (fun _ => (Y.load rfl xts88 Kn.vk1 rfl))<|ZD 1 1 Z Z (fun _ => (Y.load rfl xts88 Kn.vk1 rfl))<|Zd 2 Z (fun _ => (Y.nilCheck rfl))<|Zd 3 Z (fun _ => (Y.fieldAddr rfl xfo90_8))<|ZD 4 0 Z Z (fun _ => (Y.load rfl xts24 Kn.vk1 rfl))<|Zd 5 Z (fun _ => (Y.makeFunc (l := []) (l' := [.tmp 1]) rfl rfl))<|?_
  refine RunD.two (i := 6) (j := 10) WK rfl rfl  ?_ ?_
  ·refine Yc Z Z Z (Does.frame1 1 rfl (of_q (a := q.addr) (fi := 101) (bl := []) (fl := [(pZ b1)]) (f := fun l => q.th l || q.may l) hkq hin fun l => req1_q hkq hk1))<|Ze<|Zf<|Zd 7 Z (fun _ => (Y.move rfl))<|Zd 8 Z (fun _ => (Y.extract rfl rfl))<|Zd 9 Z (fun _ => (Y.extract rfl rfl))<|?_
   refine RunD.one (i := 10) WK rfl  ?_
   refine Run.alloc xzo43 (lt rfl) (fun b5 => ?_)
   refine Ze<|Zf<|?_
   refine RunD.one (i := 11) WK rfl  ?_
   refine Run.store (s := [(b5,.cells ((Le.cells ((Eg.of (fun l => q.th l || q.may l) q.l q.addr).1)).toArray) 43 (0,0))]) rfl rfl xsz43 (i := 0) rfl rfl (le rfl) rfl rfl ?_
   refine Ze<|Zf<|Zd 12 Z (fun _ => (Y.assign rfl))<|RunD.done WK<|Ex.keep [0,0,0]<|?_
   exact ZX b5 trivial
  refine Run.alloc xzo43 (lt rfl) (fun b6 => ?_)
  refine Ze<|Zf<|?_
  refine RunD.one (i := 6) WK rfl  ?_
  refine Yc Z Z Z (Does.frame1 2 rfl (of_q (a := q.addr) (fi := 101) (bl := []) (fl := [(pZ b1)]) (f := fun l => q.th l || q.may l) hkq hin fun l => req1_q hkq hk1))<|Ze<|Zf<|Zd 7 Z (fun _ => (Y.move rfl))<|Zd 8 Z (fun _ => (Y.extract rfl rfl))<|Zd 9 Z (fun _ => (Y.extract rfl rfl))<|?_
  refine RunD.one (i := 11) WK rfl  ?_
  refine Run.store (s := [(b6,.cells ((Le.cells ((Eg.of (fun l => q.th l || q.may l) q.l q.addr).1)).toArray) 43 (0,0))]) rfl rfl xsz43 (i := 0) rfl rfl (le rfl) rfl rfl ?_
  refine Ze<|Zf<|Zd 12 Z (fun _ => (Y.assign rfl))<|RunD.done WK<|Ex.keep [0,0,0]<|?_
  exact ZX b6 trivial
 rintro y5 _
 refine Tr.cut U3 [[(y5,.cells ((Le.cells ((Eg.of (fun l => q.th l || q.may l) q.l q.addr).1)).toArray) 43 (0,0))],[(b2,.cells an0 45 (0,0))],s] [(0,(pZ bq)),(1,(pZ b1)),(2,(pZ b2)),(3,.int .u32 sv4),(4,.bool q.told),(5,(pZ y5)),(6,.bool ((Eg.of (fun l => q.th l || q.may l) q.l q.addr).2)),(8,.int .i64 ((Le.getE q.l q.addr).2))] ?_ ?_
 ·refine Tr.anyD [(bq,.cells (q.cells pv tx hv ov) 90 (0,0)),(b1,.cells #[(pZ bq)] 88 (0,0))] xmo<|ZD 0 1 Z Z (fun _ => (Y.load rfl xts88 Kn.vk1 rfl))<|Zd 1 Z (fun _ => (Y.nilCheck rfl))<|Zd 2 Z (fun _ => (Y.fieldAddr rfl xfo90_2))<|ZD 3 0 Z Z (fun _ => (Y.load rfl xts38 Kn.vk1 rfl))<|ZD 4 1 Z Z (fun _ => (Y.load rfl xts88 Kn.vk1 rfl))<|Zd 5 Z (fun _ => (Y.nilCheck rfl))<|?_
  refine Zd 6 Z (fun _ => (Y.fieldAddr rfl xfo90_8))<|ZD 7 0 Z Z (fun _ => (Y.load rfl xts24 Kn.vk1 rfl))<|?_
  refine RunD.two (i := 8) (j := 12) WK rfl rfl  ?_ ?_
  ·refine Yc Z Z Z (Does.frame1 2 Z (get_o (a := q.addr) hin))<|Ze<|Zf<|Zd 9 Z (fun _ => (Y.move rfl))<|Zd 10 Z (fun _ => (Y.extract rfl rfl))<|Zd 11 Z (fun _ => (Y.extract rfl rfl))<|?_
   refine RunD.one (i := 12) WK rfl  ?_
   refine Run.alloc xzo43 (lt rfl) (fun b7 => ?_)
   refine Ze<|Zf<|?_
   refine RunD.one (i := 13) WK rfl  ?_
   refine Run.store (s := [(b7,.cells ((Le.cells ((Le.getE q.l q.addr).1)).toArray) 43 (0,0))]) Z Z xsz43 (i := 0) Z Z (le Z) Z Z ?_
   refine Ze<|Zf<|Zd 14 Z (fun _ => (Y.assign rfl))<|RunD.done WK<|Ex.keep [1,1,1]<|?_
   exact Ex.cut rfl ZS
  refine Run.alloc xzo43 (lt rfl) (fun b8 => ?_)
  refine Ze<|Zf<|?_
  refine RunD.one (i := 8) WK rfl  ?_
  refine Yc Z Z Z (Does.frame1 3 Z (get_o (a := q.addr) hin))<|Ze<|Zf<|Zd 9 Z (fun _ => (Y.move rfl))<|Zd 10 Z (fun _ => (Y.extract rfl rfl))<|Zd 11 Z (fun _ => (Y.extract rfl rfl))<|?_
  refine RunD.one (i := 13) WK rfl  ?_
  refine Run.store (s := [(b8,.cells ((Le.cells ((Le.getE q.l q.addr).1)).toArray) 43 (0,0))]) Z Z xsz43 (i := 0) Z Z (le Z) Z Z ?_
  refine Ze<|Zf<|Zd 14 Z (fun _ => (Y.assign rfl))<|RunD.done WK<|Ex.keep [1,1,1]<|?_
  exact Ex.cut rfl ZS
 refine Zs<|Zr<|Zv (Y.load Z xts88 hk1.of_nil Z)<|Zv (Y.loadAgg Z xag43 (Kn.at 0 Z) Z)<|Yc Z Z Z ((time_q (l := (Eg.of (fun l => q.th l || q.may l) q.l q.addr).1) hkq).frame)<|Za Z<|Ze<|Zg<|?_
 refine Tr.cut U3 [[(y5,.cells ((Le.cells ((Eg.of (fun l => q.th l || q.may l) q.l q.addr).1)).toArray) 43 (0,0))],[(b2,.cells an0 45 (0,0))],s] [(0,(pZ bq)),(1,(pZ b1)),(2,(pZ b2)),(3,.int .u32 sv4),(4,.bool q.told),(5,(pZ y5)),(6,.bool ((Eg.of (fun l => q.th l || q.may l) q.l q.addr).2)),(9,.int .i64 (q.tm ((Eg.of (fun l => q.th l || q.may l) q.l q.addr).1))),(10,.bool q.idle)] ?_ ?_
 ·refine Zr<|Zm Z<|Zv (Y.int Z Z Z)<|Zm Z<|?_
  refine Zq (((Le.getE q.l q.addr).2) == 0) (fun h9 g9 => ?_) fun h9 g9 => ?_
  ·refine Zp h9<|Zv (Y.fieldAddr Z xfo43_1)<|Zp h9<|Zv (Y.load Z xts3 (Kn.at 0 Z) Z)<|Zp h9<|Zv (Y.int Z Z Z)<|Zp h9<|Zm Z<|?_
   refine Zq (((Eg.of (fun l => q.th l || q.may l) q.l q.addr).1.bind) == 0) (fun h10 g10 => ?_) fun h10 g10 => ?_
   ·refine Zo h10 Z<|Zo h10 Z<|Zo h10 Z<|Zp h9<|Zv (Y.pick_t Z h10 Z)<|Zv (Y.pick_t Z h9 Z)<|Za Z<|Ze<|?_
    have hidl : (true) = q.idle := by show _ = ((Le.getE q.l q.addr).2 == 0 && ((Le.getE q.l q.addr).1.bind == 0 || (Le.getE q.l q.addr).1.bind == 1)); have e1 : (Eg.of (fun l => q.th l || q.may l) q.l q.addr).1 = (Le.getE q.l q.addr).1 := rfl; simp only [e1] at *; simp_all
    exact Ex.cut rfl (by repeat (first | exact subB_nil _ | refine subB_cons (by first | rfl | exact congrArg (fun z => some (Value.int _ z)) W | exact congrArg (fun z => some (Value.bool z)) hidl) ?_))
   refine Zp h10<|Zv (Y.fieldAddr Z xfo43_1)<|Zp h10<|Zv (Y.load Z xts3 (Kn.at 0 Z) Z)<|Zp h10<|Zv (Y.int Z Z Z)<|Zp h9<|Zv (Y.pick_f Z h10 Z)<|Zv (Y.pick_t Z h9 Z)<|Za Z<|Ze<|?_
   have hidl : (((Eg.of (fun l => q.th l || q.may l) q.l q.addr).1.bind) == 1) = q.idle := by show _ = ((Le.getE q.l q.addr).2 == 0 && ((Le.getE q.l q.addr).1.bind == 0 || (Le.getE q.l q.addr).1.bind == 1)); have e1 : (Eg.of (fun l => q.th l || q.may l) q.l q.addr).1 = (Le.getE q.l q.addr).1 := rfl; simp only [e1] at *; simp_all
   exact Ex.cut rfl (by repeat (first | exact subB_nil _ | refine subB_cons (by first | rfl | exact congrArg (fun z => some (Value.int _ z)) W | exact congrArg (fun z => some (Value.bool z)) hidl) ?_))
  refine Zo h9 Z<|Zo h9 Z<|Zo h9 Z<|Zo h9 Z<|Run.off_u Z Z Z Z (lt Z)<|Run.off_u Z Z Z Z (lt Z)<|Run.off_u Z Z Z Z (lt Z)<|Zo h9 Z<|Zv (Y.pick_f Z h9 Z)<|Za Z<|Ze<|?_
  have hidl : (false) = q.idle := by show _ = ((Le.getE q.l q.addr).2 == 0 && ((Le.getE q.l q.addr).1.bind == 0 || (Le.getE q.l q.addr).1.bind == 1)); have e1 : (Eg.of (fun l => q.th l || q.may l) q.l q.addr).1 = (Le.getE q.l q.addr).1 := rfl; simp only [e1] at *; simp_all
  exact Ex.cut rfl (by repeat (first | exact subB_nil _ | refine subB_cons (by first | rfl | exact congrArg (fun z => some (Value.int _ z)) W | exact congrArg (fun z => some (Value.bool z)) hidl) ?_))
 refine Zs<|Zb<|?_
 refine Tr.cut U3 [[(y5,.cells ((Le.cells ((Eg.of (fun l => q.th l || q.may l) q.l q.addr).1)).toArray) 43 (0,0))],[(b2,.cells an0 45 (0,0))],s] [(0,(pZ bq)),(1,(pZ b1)),(2,(pZ b2)),(3,.int .u32 sv4),(4,.bool q.told),(5,(pZ y5)),(6,.bool ((Eg.of (fun l => q.th l || q.may l) q.l q.addr).2)),(9,.int .i64 (q.tm ((Eg.of (fun l => q.th l || q.may l) q.l q.addr).1))),(10,.bool q.idle),(57,.bool q.oth)] ?_ ?_
 ·refine Zr<|Zm Z<|Zm Z<|?_
  refine Zq (q.told) (fun h11 g11 => ?_) fun h11 g11 => ?_
  ·refine Zp h11<|Zm Z<|Zp h11<|Zv (Y.load Z xts88 hk1.of_nil Z)<|Zp h11<|Zv (Y.nilCheck Z)<|Zp h11<|Zv (Y.fieldAddr Z xfo90_0)<|Zp h11<|Zv (Y.fieldAddr Z xfo35_3)<|Zp h11<|Zv (Y.load Z xts24 hkq.of_nil Z)<|Zp h11<|Zv (Y.int Z Z Z)<|Zv (Y.pick_t Z h11 Z)<|Za Z<|?_
   refine Ze ?_
   have hoth : (sv4 != q.x.server) = q.oth := Eg.oth_y h11 hsv
   exact Ex.cut rfl (by repeat (first | exact subB_nil _ | refine subB_cons (by first | rfl | exact congrArg (fun z => some (Value.int _ z)) W | exact congrArg (fun z => some (Value.bool z)) hoth) ?_))
  refine Zo h11 Z<|Zo h11 Z<|Zo h11 Z<|Zo h11 Z<|Zo h11 Z<|Zo h11 Z<|Zo h11 Z<|Zv (Y.pick_f Z h11 Z)<|Za Z<|Ze<|?_
  have hoth : (false) = q.oth := Eg.oth_n h11
  exact Ex.cut rfl (by repeat (first | exact subB_nil _ | refine subB_cons (by first | rfl | exact congrArg (fun z => some (Value.int _ z)) W | exact congrArg (fun z => some (Value.bool z)) hoth) ?_))
 refine Zq (q.oth) (fun h12 g12 => ?_) fun h12 g12 => ?_
 ·refine Tr.cond_t Z h12<|Zs<|Zr<|Zv (Y.buildS (l := []) (r := (an0).toList) xzo45 xpl45 Z Z)<|Run.stAll (l2 := (an0).toList) (j := 1) Z Z xsz45 Z Z Z Z<|?_
  refine Run.heapTo (H' := [[(y5,.cells ((Le.cells ((Eg.of (fun l => q.th l || q.may l) q.l q.addr).1)).toArray) 43 (0,0))],[(b2,.cells an0 45 (0,0))],s]) rfl ?_
  refine Ze<|Zg<|Zu<|Zk<|Zn<|?_
  exact Ex.retCell [2] rfl rfl xag45 (Kn.at 1 rfl) rfl ⟨hVle,rfl,.slice none 0 0,.slice none 0 0,by rw [Eg.oth_t h12]; rfl,by rw [Eg.oth_t h12]; exact Pc.zero_R _⟩
 refine Tr.cond_f Z h12 ?_
 refine Tr.cut U3 [[(y5,.cells ((Le.cells ((Eg.of (fun l => q.th l || q.may l) q.l q.addr).1)).toArray) 43 (0,0))],[(b2,.cells an0 45 (0,0))],s] [(0,(pZ bq)),(1,(pZ b1)),(2,(pZ b2)),(4,.bool q.told),(5,(pZ y5)),(6,.bool ((Eg.of (fun l => q.th l || q.may l) q.l q.addr).2)),(9,.int .i64 (q.tm ((Eg.of (fun l => q.th l || q.may l) q.l q.addr).1))),(10,.bool q.idle),(69,.bool q.gives)] ?_ ?_
 ·refine Zr<|Zm Z<|Zm Z<|?_
  refine Zq ((Eg.of (fun l => q.th l || q.may l) q.l q.addr).2) (fun h13 g13 => ?_) fun h13 g13 => ?_
  ·refine Zp h13<|Zm Z<|Zp h13<|Zv (Y.int Z Z Z)<|Zv (Y.pick_t Z h13 Z)<|Za Z<|Ze<|?_
   have hgiv : (decide ((q.tm ((Eg.of (fun l => q.th l || q.may l) q.l q.addr).1)) > 0)) = q.gives := Eg.gives_eq h13
   exact Ex.cut rfl (by repeat (first | exact subB_nil _ | refine subB_cons (by first | rfl | exact congrArg (fun z => some (Value.int _ z)) W | exact congrArg (fun z => some (Value.bool z)) hgiv) ?_))
  refine Zo h13 Z<|Zo h13 Z<|Zv (Y.pick_f Z h13 Z)<|Za Z<|Ze<|?_
  have hgiv : (false) = q.gives := (Eg.gives_no (.inl h13)).symm
  exact Ex.cut rfl (by repeat (first | exact subB_nil _ | refine subB_cons (by first | rfl | exact congrArg (fun z => some (Value.int _ z)) W | exact congrArg (fun z => some (Value.bool z)) hgiv) ?_))
 refine Zq (q.gives) (fun h14 g14 => ?_) fun h14 g14 => ?_
 ·refine Tr.cond_t Z h14<|Zt<|Zc<|Zg<|?_
  refine Tr.cutx (X := Nat) (fun y11 => U3) (fun y11 => [[(y11,.cells ((Le.cells q.nl).toArray) 43 (0,0))],[(y5,.cells ((Le.cells ((Eg.of (fun l => q.th l || q.may l) q.l q.addr).1)).toArray) 43 (0,0))],[(b2,.cells an0 45 (0,0))],s]) (fun y11 => [(0,(pZ bq)),(1,(pZ b1)),(2,(pZ b2)),(5,(pZ y5)),(9,.int .i64 (q.tm ((Eg.of (fun l => q.th l || q.may l) q.l q.addr).1))),(11,(pZ y11))]) (fun y11 => True) ?_ ?_
  ·refine Tr.anyD [(y5,.cells ((Le.cells ((Eg.of (fun l => q.th l || q.may l) q.l q.addr).1)).toArray) 43 (0,0)),(bq,.cells (q.cells pv tx hv ov) 90 (0,0)),(b1,.cells #[(pZ bq)] 88 (0,0))] xmo ?_
   refine ZD 0 2 Z Z (fun _ => (Y.load rfl xts88 Kn.vk1 rfl))<|Zd 1 Z (fun _ => (Y.nilCheck rfl))<|Zd 2 Z (fun _ => (Y.fieldAddr rfl xfo90_1))<|ZD 3 1 Z Z (fun _ => (Y.loadAgg rfl xag58 Kn.vk1 rfl))<|ZD 4 0 Z Z (fun _ => (Y.loadAgg rfl xag43 Kn.vk1 rfl))<|ZD 5 2 Z Z (fun _ => (Y.load rfl xts88 Kn.vk1 rfl))<|Zd 6 Z (fun _ => (Y.nilCheck rfl))<|Zd 7 Z (fun _ => (Y.fieldAddr rfl xfo90_7))<|?_
   refine ZD 8 1 Z Z (fun _ => (Y.load rfl xts9 Kn.vk1 rfl))<|ZD 9 2 Z Z (fun _ => (Y.load rfl xts88 Kn.vk1 rfl))<|Zd 10 Z (fun _ => (Y.nilCheck rfl))<|Zd 11 Z (fun _ => (Y.fieldAddr rfl xfo90_4))<|ZD 12 1 Z Z (fun _ => (Y.load rfl xts3 Kn.vk1 rfl))<|ZD 13 2 Z Z (fun _ => (Y.load rfl xts88 Kn.vk1 rfl))<|Zd 14 Z (fun _ => (Y.nilCheck rfl))<|Zd 15 Z (fun _ => (Y.fieldAddr rfl xfo90_9))<|?_
   refine ZD 16 1 Z Z (fun _ => (Y.load rfl xts3 Kn.vk1 rfl)) ?_
   refine RunD.two (i := 17) (j := 18) WK rfl rfl  ?_ ?_
   ·refine Yc Z Z Z ((glease_c (r := q.x.rules) (l := q.g.1) (client := q.client) (now := q.now) (want := q.want)).frame)<|Ze<|Zf<|?_
    refine RunD.one (i := 18) WK rfl  ?_
    refine Run.alloc xzo43 (lt rfl) (fun b15 => ?_)
    refine Ze<|Zf<|?_
    refine RunD.one (i := 19) WK rfl  ?_
    refine Run.store (s := [(b15,.cells ((Le.cells q.nl).toArray) 43 (0,0))]) Z Z xsz43 (i := 0) Z Z (le Z) Z Z<|Ze<|Zf<|RunD.done WK<|Ex.keep [0,0,0,0]<|?_
    exact ZX b15 trivial
   refine Run.alloc xzo43 (lt rfl) (fun b16 => ?_)
   refine Ze<|Zf<|?_
   refine RunD.one (i := 17) WK rfl  ?_
   refine Yc Z Z Z ((glease_c (r := q.x.rules) (l := q.g.1) (client := q.client) (now := q.now) (want := q.want)).frame)<|Ze<|Zf<|?_
   refine RunD.one (i := 19) WK rfl  ?_
   refine Run.store (s := [(b16,.cells ((Le.cells q.nl).toArray) 43 (0,0))]) Z Z xsz43 (i := 0) Z Z (le Z) Z Z<|Ze<|Zf<|RunD.done WK<|Ex.keep [0,0,0,0]<|?_
   exact ZX b16 trivial
  rintro y11 _
  refine Zs<|Tr.anyL [(y11,.cells ((Le.cells q.nl).toArray) 43 (0,0)),(bq,.cells (q.cells pv tx hv ov) 90 (0,0)),(b1,.cells #[(pZ bq)] 88 (0,0))] 23 xmo<|ZH 0 2 Z Z (fun _ => (Y.load rfl xts88 Kn.vk1 rfl))<|ZH 1 2 Z Z (fun _ => (Y.load rfl xts88 Kn.vk1 rfl))<|?_
  refine Zh 2 Z (fun _ => (Y.nilCheck rfl))<|Zh 3 Z (fun _ => (Y.fieldAddr rfl xfo90_8))<|ZH 4 1 Z Z (fun _ => (Y.load rfl xts24 Kn.vk1 rfl))<|Zh 5 Z (fun _ => (Y.move rfl))<|ZH 7 0 Z Z (fun _ => (Y.loadAgg rfl xag43 Kn.vk1 rfl))<|ZH 8 2 Z Z (fun _ => (Y.load rfl xts88 Kn.vk1 rfl))<|Zh 9 Z (fun _ => (Y.nilCheck rfl))<|Zh 10 Z (fun _ => (Y.fieldAddr rfl xfo90_1))<|ZH 11 1 Z Z (fun _ => (Y.loadAgg rfl xag58 Kn.vk1 rfl))<|?_
  refine ZH 12 0 Z Z (fun _ => (Y.loadAgg rfl xag43 Kn.vk1 rfl))<|ZH 13 2 Z Z (fun _ => (Y.load rfl xts88 Kn.vk1 rfl))<|Zh 14 Z (fun _ => (Y.nilCheck rfl))<|Zh 15 Z (fun _ => (Y.fieldAddr rfl xfo90_4))<|ZH 16 1 Z Z (fun _ => (Y.load rfl xts3 Kn.vk1 rfl))<|ZH 17 2 Z Z (fun _ => (Y.load rfl xts88 Kn.vk1 rfl))<|Zh 18 Z (fun _ => (Y.nilCheck rfl))<|Zh 19 Z (fun _ => (Y.fieldAddr rfl xfo90_9))<|?_
  refine ZH 20 1 Z Z (fun _ => (Y.load rfl xts3 Kn.vk1 rfl)) ?_
  refine RunL.one (i := 6) WK rfl  ?_
  refine Yk [] Z Z Z (promise_q (q := q) (kind := 5) (a := q.addr) (t := q.tm ((Eg.of (fun l => q.th l || q.may l) q.l q.addr).1)) hkq hok hok.ad ⟨Eg.tm_nn _ _,Eg.tm_le _ _⟩) (fun v17 V17 H17 hle17 hR17 => ?_)
  obtain ⟨_,rfl,hv17,ov17,rfl,hRp17⟩ := hR17
  replace hkq := hkq.le hle17
  replace hok := hok.le hle17
  replace hk1 := hk1.le hle17
  replace hVle := Vw.le_trans hVle hle17
  obtain ⟨⟨pg17,cg17,rfl⟩,pk17,nk17,ck17,rfl⟩ := hRp17.forms
  generalize hP17 : Eg.prom q.x q.p 5 q.addr (q.tm ((Eg.of (fun l => q.th l || q.may l) q.l q.addr).1)) = P17 at hRp17 ⊢
  refine Run.heapTo (H' := [[(y11,.cells ((Le.cells q.nl).toArray) 43 (0,0))],[(y5,.cells ((Le.cells ((Eg.of (fun l => q.th l || q.may l) q.l q.addr).1)).toArray) 43 (0,0))],[(b2,.cells an0 45 (0,0))],s]) rfl ?_
  refine Ze<|ZF<|?_
  refine RunL.one (i := 21) WK rfl  ?_
  refine Yc Z Z Z ((pot_c (r := q.x.rules) (l := q.nl) (now := q.now) (want := q.want)).frame)<|Ze<|ZF<|Zh 22 Z (fun _ => (Y.buildS (l := [(0,.const (.bool true)),(1,.tmp 106),(2,.const (.bool true)),(3,.tmp 107),(4,.tmp 121)]) (r := (An.cells ⟨true,P17,true,q.nl,Rul.potential q.nl q.now q.want⟩ (.slice pg17 P17.hw.length cg17) (.slice pk17 nk17 ck17)).toList) xzo45 xpl45 rfl WK))<|?_
  refine RunL.one (i := 23) WK rfl  ?_
  refine Run.stAll (l2 := (An.cells ⟨true,P17,true,q.nl,Rul.potential q.nl q.now q.want⟩ (.slice pg17 P17.hw.length cg17) (.slice pk17 nk17 ck17)).toList) (j := 2) Z Z xsz45 Z Z Z Z ?_
  refine Run.heapTo (H' := [[(y11,.cells ((Le.cells q.nl).toArray) 43 (0,0))],[(y5,.cells ((Le.cells ((Eg.of (fun l => q.th l || q.may l) q.l q.addr).1)).toArray) 43 (0,0))],[(b2,.cells (An.cells ⟨true,P17,true,q.nl,Rul.potential q.nl q.now q.want⟩ (.slice pg17 P17.hw.length cg17) (.slice pk17 nk17 ck17)) 45 (0,0))],s]) rfl ?_
  refine Ze<|Ex.anyLz Z<|RunL.done WK<|Zg<|Zu<|?_
  exact Ex.retCell [3] rfl rfl xag45 (Kn.at 2 rfl) rfl ⟨hVle,rfl,.slice pg17 P17.hw.length cg17,.slice pk17 nk17 ck17,by rw [Eg.req_gives (Eg.oth_f h12) h14,show q.tm q.g.1 = q.tm (Eg.of (fun l => q.th l || q.may l) q.l q.addr).1 from rfl,hP17]; rfl,by rw [Eg.req_gives (Eg.oth_f h12) h14,show q.tm q.g.1 = q.tm (Eg.of (fun l => q.th l || q.may l) q.l q.addr).1 from rfl,hP17]; exact hRp17⟩
 refine Tr.cond_f Z h14 ?_
 refine Tr.cut U3 [[(y5,.cells ((Le.cells ((Eg.of (fun l => q.th l || q.may l) q.l q.addr).1)).toArray) 43 (0,0))],[(b2,.cells an0 45 (0,0))],s] [(0,(pZ bq)),(1,(pZ b1)),(2,(pZ b2)),(75,.bool q.mum)] ?_ ?_
 ·refine Zr<|Zm Z<|Zv (Y.not Z)<|Zm Z<|?_
  refine Zq (q.told) (fun h18 g18 => ?_) fun h18 g18 => ?_
  ·refine Zo (congrArg Bool.not h18) Z<|Zv (Y.pick_f Z (congrArg Bool.not h18) Z)<|Za Z<|Ze<|?_
   have hmum : (false) = q.mum := by unfold Eg.Qy.mum; rw [h18] <;> rfl
   exact Ex.cut rfl (by repeat (first | exact subB_nil _ | refine subB_cons (by first | rfl | exact congrArg (fun z => some (Value.int _ z)) W | exact congrArg (fun z => some (Value.bool z)) hmum) ?_))
  refine Zp (congrArg Bool.not h18)<|Zm Z<|Zv (Y.pick_t Z (congrArg Bool.not h18) Z)<|Za Z<|Ze<|?_
  have hmum : (q.idle) = q.mum := by unfold Eg.Qy.mum; rw [h18] <;> rfl
  exact Ex.cut rfl (by repeat (first | exact subB_nil _ | refine subB_cons (by first | rfl | exact congrArg (fun z => some (Value.int _ z)) W | exact congrArg (fun z => some (Value.bool z)) hmum) ?_))
 refine Zq (q.mum) (fun h19 g19 => ?_) fun h19 g19 => ?_
 ·refine Tr.cond_t Z h19<|Zs<|Zr<|Zv (Y.buildS (l := []) (r := (an0).toList) xzo45 xpl45 Z Z)<|Run.stAll (l2 := (an0).toList) (j := 1) Z Z xsz45 Z Z Z Z<|?_
  refine Run.heapTo (H' := [[(y5,.cells ((Le.cells ((Eg.of (fun l => q.th l || q.may l) q.l q.addr).1)).toArray) 43 (0,0))],[(b2,.cells an0 45 (0,0))],s]) rfl ?_
  refine Ze<|Zg<|Zu<|Zk<|Zn<|?_
  exact Ex.retCell [2] rfl rfl xag45 (Kn.at 1 rfl) rfl ⟨hVle,rfl,.slice none 0 0,.slice none 0 0,by rw [Eg.req_idle (Eg.mum_t h19).1 h14 (Eg.mum_t h19).2]; rfl,by rw [Eg.req_idle (Eg.mum_t h19).1 h14 (Eg.mum_t h19).2]; exact Pc.zero_R _⟩
 refine Tr.cond_f Z h19<|Zs<|Zr<|Zv (Y.load Z xts88 hk1.of_nil Z)<|?_
 refine Yk [] Z Z Z (reply_q (q := q) (kind := 6) hkq hok) (fun v20 V20 H20 hle20 hR20 => ?_)
 obtain ⟨_,hv20,L20,po20,k20,so20,rfl,rfl,ho20,hr20,hm20,hh20⟩ := hR20
 replace hkq := hkq.le hle20
 replace hok := hok.le hle20
 replace hk1 := hk1.le hle20
 replace hVle := Vw.le_trans hVle hle20
 obtain ⟨ph20,ch20,rfl,_⟩ := hh20.form
 refine Run.heapTo (H' := [[(y5,.cells ((Le.cells ((Eg.of (fun l => q.th l || q.may l) q.l q.addr).1)).toArray) 43 (0,0))],[(b2,.cells an0 45 (0,0))],s,so20]) rfl ?_
 refine Zv (Y.buildS (l := [(0,.const (.bool true)),(1,.tmp 55)]) (r := (An.cells ⟨true,(Eg.rep q.x q.p 6),false,Le.dflt,0⟩ (.slice ph20 q.p.hw.length ch20) (.slice po20 L20.length k20)).toList) xzo45 xpl45 Z Z) ?_
 refine Run.stAll (l2 := (An.cells ⟨true,(Eg.rep q.x q.p 6),false,Le.dflt,0⟩ (.slice ph20 q.p.hw.length ch20) (.slice po20 L20.length k20)).toList) (j := 1) Z Z xsz45 Z Z Z Z ?_
 refine Run.heapTo (H' := [[(y5,.cells ((Le.cells ((Eg.of (fun l => q.th l || q.may l) q.l q.addr).1)).toArray) 43 (0,0))],[(b2,.cells (An.cells ⟨true,(Eg.rep q.x q.p 6),false,Le.dflt,0⟩ (.slice ph20 q.p.hw.length ch20) (.slice po20 L20.length k20)) 45 (0,0))],s,so20]) rfl ?_
 refine Ze<|Zg<|Zu<|Zk<|Zn<|Ex.keepTo (H' := [so20,[(y5,.cells ((Le.cells ((Eg.of (fun l => q.th l || q.may l) q.l q.addr).1)).toArray) 43 (0,0))],[(b2,.cells (An.cells ⟨true,(Eg.rep q.x q.p 6),false,Le.dflt,0⟩ (.slice ph20 q.p.hw.length ch20) (.slice po20 L20.length k20)) 45 (0,0))],s]) [3,0,0,0] rfl<|?_
 refine Ex.show (fun V21 hleV21 hshV21 => ?_)
 have hso := ho20.shows _ hshV21
 replace hkq := hkq.le hleV21
 replace hok := hok.le hleV21
 replace hk1 := hk1.le hleV21
 replace hr20 := hr20.le hleV21
 replace hh20 := hh20.le hleV21
 replace hVle := Vw.le_trans hVle hleV21
 exact Ex.retCell [2] rfl rfl xag45 (Kn.at 1 rfl) rfl ⟨hVle,rfl,.slice ph20 q.p.hw.length ch20,.slice po20 L20.length k20,by rw [Eg.req_nak (Eg.oth_f h12) h14 (Eg.mum_f h19)]; rfl,by rw [Eg.req_nak (Eg.oth_f h12) h14 (Eg.mum_f h19)]; exact ⟨hh20,Pc.rs_of hso hr20 hm20,hok.xid,⟨Int.le_refl 0,(by decide : (0 : Int) <= 4294967295)⟩,hok.sv⟩⟩
end Go.Proofs.YtfgblingojgafaaGreat
namespace Go.Proofs.YtfgblingojgafaaGreat
open Go Go.K
attribute [local irreducible] Code.wp wpList Calls wpQuiet
end Go.Proofs.YtfgblingojgafaaGreat
namespace Go.Proofs.YtfgblingojgafaaGreat
open Go Go.K
attribute [local irreducible] Code.wp wpList Calls wpQuiet
end Go.Proofs.YtfgblingojgafaaGreat
namespace Go.Proofs.YtfgblingojgafaaGreat
open Go Go.K
attribute [local irreducible] Code.wp wpList Calls wpQuiet
theorem eright_c {V : Vw} {x : Si} {pp : Option Addr} {cp : Nat} (hv : Rd V [] 2 (.slice pp x.pool.length cp) x.pool.length (x.pool.flatMap Rg.cells)) (hlm : x.pool.length <= 1000) (hok : Rg.Oks x.pool)  : Does Tryz.prog 20 [.agg (Si.cells x (.slice pp x.pool.length cp))] V [] (fun u V' H' => V.le V' /\ u = .bool x.right /\ H' = []) := by
 refine Does.intro Tryz.func20 rfl rfl (le rfl) (fun B => ?_)
 refine Zs<|Zr<|?_
 refine Run.box rfl (lt rfl) (fun b1 => ?_)
 refine Za Z<|Ze<|Zg<|Zs<|Zr<|Zv (Y.fieldAddr Z xfo35_11)<|Zv (Y.load Z xts33 (Kn.at 0 Z) Z)<|?_
 refine Yk [] Z Z Z (pool_h (l := x.pool) hv hlm hok) (fun v2 V2 H2 hle2 hR2 => ?_)
 obtain ⟨_,rfl,w2,rfl,hr2⟩ := hR2
 replace hv := hv.le hle2
 have hVle := hle2
 refine Run.heapTo (H' := [[(b1,.cells (Si.cells x (.slice pp x.pool.length cp)) 35 (0,0))]]) Z<|Run.heapTo (H' := [[(b1,.cells (Si.cells x (.slice pp x.pool.length cp)) 35 (0,0))]]) Z<|?_
 refine Zm Z<|Zv (Y.extract Z Z)<|Zv (Y.extract Z Z)<|Za Z<|Za Z<|Ze<|Zg<|Zs<|Zb<|Zs<|Zs<|Zr<|Zm Z<|Zv (Y.int Z Z Z)<|Za Z<|Ze<|?_
 refine Zg ?_
 refine Zq (((Rg.pool x.pool).2) != 0) (fun h3 g3 => ?_) fun h3 g3 => ?_
 ·refine Tr.cond_t Z h3<|Zt<|Zg<|Tr.cond_t Z h3<|Zs<|Zr<|Za Z<|Ze<|Zg<|Zu<|Zk<|Zn<|Ex.keep []<|?_
  exact Ex.ret1 rfl rfl  ⟨hVle,congrArg Value.bool (Si.right_n (by unfold Si.nums; omega)).symm,rfl⟩
 refine Tr.cond_f Z h3<|Zs<|Zr<|Zv (Y.fieldAddr Z xfo35_0)<|Zv (Y.load Z xts3 (Kn.at 0 Z) Z)<|Yc Z Z Z ((within_c (n := x.id) (low := 0) (high := 1)).frame)<|Zv (Y.not Z)<|Za Z<|Ze<|Zg<|?_
 refine Zq (decide (0 <= x.id /\ x.id <= 1)) (fun h4 g4 => ?_) fun h4 g4 => ?_
 ·refine Tr.cond_f Z (congrArg Bool.not h4)<|Zs<|Zr<|Zv (Y.fieldAddr Z xfo35_1)<|Zv (Y.load Z xts3 (Kn.at 0 Z) Z)<|Yc Z Z Z ((within_c (n := x.lead) (low := 0) (high := 1073741824)).frame)<|Zv (Y.not Z)<|Za Z<|Ze<|Zg<|?_
  refine Zq (decide (0 <= x.lead /\ x.lead <= 1073741824)) (fun h5 g5 => ?_) fun h5 g5 => ?_
  ·refine Tr.cond_f Z (congrArg Bool.not h5)<|Zr<|Zv (Y.fieldAddr Z xfo35_2)<|Zv (Y.load Z xts3 (Kn.at 0 Z) Z)<|Yc Z Z Z ((within_c (n := x.guard) (low := 0) (high := 1073741824)).frame)<|Zv (Y.not Z)<|Za Z<|Ze<|Zg<|?_
   refine Zq (decide (0 <= x.guard /\ x.guard <= 1073741824)) (fun h6 g6 => ?_) fun h6 g6 => ?_
   ·refine Tr.cond_f Z (congrArg Bool.not h6)<|Zs<|Zs<|Zr<|Zv (Y.fieldAddr Z xfo35_4)<|Zv (Y.load Z xts3 (Kn.at 0 Z) Z)<|Zv (Y.fieldAddr Z xfo35_5)<|Zv (Y.load Z xts3 (Kn.at 0 Z) Z)<|Yc Z Z Z ((within_c (n := x.want) (low := 1) (high := x.most)).frame)<|Zv (Y.not Z)<|Za Z<|Ze<|Zg<|?_
    refine Zq (decide (1 <= x.want /\ x.want <= x.most)) (fun h7 g7 => ?_) fun h7 g7 => ?_
    ·refine Tr.cond_f Z (congrArg Bool.not h7)<|Zs<|Zr<|Zv (Y.fieldAddr Z xfo35_5)<|Zv (Y.load Z xts3 (Kn.at 0 Z) Z)<|Zv (Y.int Z Z Z)<|Za Z<|Ze<|Zg<|?_
     refine Zq (decide (x.most > 1073741824)) (fun h8 g8 => ?_) fun h8 g8 => ?_
     ·refine Tr.cond_t Z h8<|Zt<|Zg<|Tr.cond_t Z h8<|Zs<|Zr<|Za Z<|Ze<|Zg<|Zu<|Zk<|Zn<|Ex.keep []<|?_
      exact Ex.ret1 rfl rfl  ⟨hVle,congrArg Value.bool (Si.right_n (by unfold Si.nums; omega)).symm,rfl⟩
     refine Tr.cond_f Z h8<|Zr<|Zv (Y.fieldAddr Z xfo35_6)<|Zv (Y.load Z xts3 (Kn.at 0 Z) Z)<|Yc Z Z Z ((within_c (n := x.first) (low := 0) (high := 256)).frame)<|Zv (Y.not Z)<|Za Z<|Ze<|Zg<|?_
     refine Zq (decide (0 <= x.first /\ x.first <= 256)) (fun h9 g9 => ?_) fun h9 g9 => ?_
     ·refine Tr.cond_f Z (congrArg Bool.not h9)<|Zt<|Zc<|Zg<|Zs<|Zr<|Zv (Y.fieldAddr Z xfo35_12)<|Zv (Y.load Z xts3 (Kn.at 0 Z) Z)<|Yc Z Z Z ((within_c (n := x.room) (low := 1) (high := 1048576)).frame)<|Za Z<|Ze<|Zg<|Zu<|Ex.keep []<|?_
      exact Ex.ret1 rfl rfl  ⟨hVle,congrArg Value.bool (decide_eq_decide.2 (by unfold Si.nums; omega)),rfl⟩
     refine Tr.cond_t Z (congrArg Bool.not h9)<|Zs<|Zr<|Za Z<|Ze<|Zg<|Zu<|Zk<|Zn<|Ex.keep []<|?_
     exact Ex.ret1 rfl rfl  ⟨hVle,congrArg Value.bool (Si.right_n (by unfold Si.nums; omega)).symm,rfl⟩
    refine Tr.cond_t Z (congrArg Bool.not h7)<|Zt<|Zg<|Tr.cond_t Z (congrArg Bool.not h7)<|Zs<|Zr<|Za Z<|Ze<|Zg<|Zu<|Zk<|Zn<|Ex.keep []<|?_
    exact Ex.ret1 rfl rfl  ⟨hVle,congrArg Value.bool (Si.right_n (by unfold Si.nums; omega)).symm,rfl⟩
   refine Tr.cond_t Z (congrArg Bool.not h6)<|Zs<|Zr<|Za Z<|Ze<|Zg<|Zu<|Zk<|Zn<|Ex.keep []<|?_
   exact Ex.ret1 rfl rfl  ⟨hVle,congrArg Value.bool (Si.right_n (by unfold Si.nums; omega)).symm,rfl⟩
  refine Tr.cond_t Z (congrArg Bool.not h5)<|Zt<|Zg<|Tr.cond_t Z (congrArg Bool.not h5)<|Zs<|Zr<|Za Z<|Ze<|Zg<|Zu<|Zk<|Zn<|Ex.keep []<|?_
  exact Ex.ret1 rfl rfl  ⟨hVle,congrArg Value.bool (Si.right_n (by unfold Si.nums; omega)).symm,rfl⟩
 refine Tr.cond_t Z (congrArg Bool.not h4)<|Zt<|Zg<|Tr.cond_t Z (congrArg Bool.not h4)<|Zs<|Zr<|Za Z<|Ze<|Zg<|Zu<|Zk<|Zn<|Ex.keep []<|?_
 exact Ex.ret1 rfl rfl  ⟨hVle,congrArg Value.bool (Si.right_n (by unfold Si.nums; omega)).symm,rfl⟩
theorem eright_h {V : Vw} {x : Si} {pv : Value} (hv : Rd V [] 2 pv x.pool.length (x.pool.flatMap Rg.cells)) (hlm : x.pool.length <= 1000) (hok : Rg.Oks x.pool) {H : Hp} : Does Tryz.prog 20 [.agg (x.cells pv)] V H (Pv (.bool x.right) V H) := by
  obtain ⟨pp,cp,rfl,_⟩ := hv.form
  exact ((eright_c hv hlm hok).forget (R' := Pv (.bool x.right) V []) fun v V' H' _ h => ⟨h.2.1,rfl,h.2.2⟩).frame
set_option maxHeartbeats 2000000 in
theorem answer_t {V : Vw} {x : Si} {pv : Value} (hv : Rd V [] 2 pv x.pool.length (x.pool.flatMap Rg.cells)) (hlm : x.pool.length <= 1000) (hok : Rg.Oks x.pool) {p : Pc} {hv0 ov0 : Value} (hp : Pc.R V p hv0 ov0) (hfew : p.few = true) (hci : 0 <= p.ci /\ p.ci <= 4294967295) (hsv : 0 <= x.server /\ x.server <= 4294967295) {state now entry : Int} {l : List Le} {tx : Nat} {s : Sg} (hin : Le.In 99 l tx s) (hla : ∀ y,y ∈ l -> 0 <= y.addr /\ y.addr <= 4294967295)  : Does Tryz.prog 13 [.agg (x.cells pv),(pZ tx),.int .i64 state,.int .i64 now,.int .i64 entry,.agg (p.cells hv0 ov0)] V [s] (fun u V' H' => V.le V' /\ H' = [s] /\ ∃ hv' ov',u = .agg ((Eg.ans x l state now entry p).cells hv' ov') /\ Pc.R V' (Eg.ans x l state now entry p).reply hv' ov') := by
 obtain ⟨⟨ph,ch,rfl⟩,po9,no9,co9,rfl⟩ := hp.forms
 obtain ⟨pp,cp,rfl,_⟩ := hv.form
 have hVle : V.le V := Vw.le_refl V
 refine Does.intro Tryz.func13 rfl rfl (le rfl) (fun B => ?_)
 refine Zs<|Zr<|?_
 refine Run.box rfl (lt rfl) (fun b1 => ?_)
 refine Run.box rfl (lt rfl) (fun b2 => ?_)
 refine Run.alloc xzo45 (lt rfl) (fun b3 => ?_)
 refine Ze<|Zg<|Zs<|Zs<|Zr<|Zv (Y.loadAgg Z xag35 (Kn.at 2 Z) Z)<|Yc Z Z Z (eright_h (x := x) hv hlm hok)<|Zv (Y.not Z)<|Zm Z<|?_
 refine Zq (x.right) (fun h4 g4 => ?_) fun h4 g4 => ?_
 ·refine Zp (congrArg Bool.not h4)<|Zm Z<|Zp (congrArg Bool.not h4)<|Zv (Y.eqNil Z Z xpt38)<|Zv (Y.pick_f Z (congrArg Bool.not h4) Z)<|Zm Z<|Zp Z<|Zm Z<|Zp Z<|Yc Z Z Z ((serves_c (n := state)).frame)<|Zp Z<|Zv (Y.not Z)<|Zv (Y.pick_f Z Z Z)<|Zm Z<|?_
  refine Zq (Rul.serves state) (fun h5 g5 => ?_) fun h5 g5 => ?_
  ·refine Zp (congrArg Bool.not h5)<|Zm Z<|Zp (congrArg Bool.not h5)<|Yc Z Z Z ((within_c (n := now) (low := 0) (high := 1099511627776)).frame)<|Zp (congrArg Bool.not h5)<|Zv (Y.not Z)<|Zv (Y.pick_f Z (congrArg Bool.not h5) Z)<|Zm Z<|?_
   refine Zq (decide (0 <= now /\ now <= 1099511627776)) (fun h6 g6 => ?_) fun h6 g6 => ?_
   ·refine Zp (congrArg Bool.not h6)<|Zv (Y.loadAgg Z xag28 (Kn.at 1 Z) Z)<|Zp (congrArg Bool.not h6)<|Yc Z Z Z (pright_h hp hfew)<|Zp (congrArg Bool.not h6)<|Zv (Y.not Z)<|Zv (Y.pick_f Z (congrArg Bool.not h6) Z)<|Zm Z<|?_
    refine Zq (Pc.right p) (fun h7 g7 => ?_) fun h7 g7 => ?_
    ·refine Zp (congrArg Bool.not h7)<|Zv (Y.fieldAddr Z xfo28_0)<|Zp (congrArg Bool.not h7)<|Zv (Y.load Z xts3 (Kn.at 1 Z) Z)<|Zp (congrArg Bool.not h7)<|Zv (Y.int Z Z Z)<|Zv (Y.pick_f Z (congrArg Bool.not h7) Z)<|Ze<|Zg<|?_
     refine Zq (p.op != 1) (fun h8 g8 => ?_) fun h8 g8 => ?_
     ·refine Tr.cond_t Z h8<|Zs<|Zr<|Zv (Y.buildS (l := []) (r := (an0).toList) xzo45 xpl45 Z Z)<|Run.stAll (l2 := (an0).toList) (j := 0) Z Z xsz45 Z Z Z Z<|?_
      refine Run.heapTo (H' := [[(b3,.cells an0 45 (0,0))],[(b2,.cells (Pc.cells p (.slice ph p.hw.length ch) (.slice po9 no9 co9)) 28 (0,0))],[(b1,.cells (Si.cells x (.slice pp x.pool.length cp)) 35 (0,0))],s]) Z ?_
      refine Ze<|Zg<|Zu<|Zn<|?_
      exact Ex.retCell [3] rfl rfl xag45 (Kn.at 0 rfl) rfl ⟨hVle,rfl,.slice none 0 0,.slice none 0 0,by rw [Eg.ans_no (Eg.fits_n (.inr (.inr (.inr (.inr W)))))]; rfl,by rw [Eg.ans_no (Eg.fits_n (.inr (.inr (.inr (.inr W)))))]; exact Pc.zero_R _⟩
     refine Tr.cond_f Z h8<|Zt<|Zg<|Zs<|Zr<|Zv (Y.loadAgg Z xag28 (Kn.at 1 Z) Z)<|Yc Z Z Z (pasked_h hp hfew)<|Zm Z<|Zv (Y.extract Z Z)<|Zv (Y.extract Z Z)<|Za Z<|Za Z<|Ze<|Zg<|?_
     refine Tr.cut V [[(b3,.cells an0 45 (0,0))],[(b2,.cells (Pc.cells p (.slice ph p.hw.length ch) (.slice po9 no9 co9)) 28 (0,0))],[(b1,.cells (Si.cells x (.slice pp x.pool.length cp)) 35 (0,0))],s] [(1,(pZ tx)),(2,.int .i64 state),(3,.int .i64 now),(4,.int .i64 entry),(6,(pZ b1)),(11,(pZ b2)),(12,(pZ b3)),(13,.int .u32 p.asked),(14,.int .i64 (if p.asks = 0 then x.want else p.asks))] ?_ ?_
     ·refine Zs<|Zr<|Zm Z<|Zv (Y.int Z Z Z)<|Ze<|Zg<|?_
      refine Zq (p.asks == 0) (fun h9 g9 => ?_) fun h9 g9 => ?_
      ·refine Tr.cond_t Z h9<|Zr<|Zv (Y.fieldAddr Z xfo35_4)<|Zv (Y.load Z xts3 (Kn.at 2 Z) Z)<|Za Z<|Ze<|?_
       have hwt : x.want = (if p.asks = 0 then x.want else p.asks) := (if_pos W).symm
       exact Ex.cut rfl (by repeat (first | exact subB_nil _ | refine subB_cons (by first | rfl | exact congrArg (fun z => some (Value.int _ z)) W | exact congrArg (fun z => some (Value.int _ z)) hwt) ?_))
      refine Tr.cond_f Z h9<|Zt<|?_
      have hwt : p.asks = (if p.asks = 0 then x.want else p.asks) := (if_neg W).symm
      exact Ex.cut rfl (by repeat (first | exact subB_nil _ | refine subB_cons (by first | rfl | exact congrArg (fun z => some (Value.int _ z)) W | exact congrArg (fun z => some (Value.int _ z)) hwt) ?_))
     refine Zs<|Tr.tail 21 xmo WK<|ZV (Y.loadAgg Z xag35 (Kn.at 2 Z) Z)<|ZV (Y.fieldAddr Z xfo35_0)<|ZV (Y.load Z xts3 (Kn.at 2 Z) Z)<|ZV (Y.fieldAddr Z xfo35_1)<|ZV (Y.load Z xts3 (Kn.at 2 Z) Z)<|ZV (Y.fieldAddr Z xfo35_2)<|ZV (Y.load Z xts3 (Kn.at 2 Z) Z)<|ZV (Y.buildS (l := [(0,.tmp 59),(1,.tmp 61),(2,.tmp 63)]) xzo58 xpl58 Z Z)<|ZM Z<|ZM Z<|ZM Z<|?_
     refine ZM Z<|ZV (Y.loadAgg Z xag28 (Kn.at 1 Z) Z)<|ZV (Y.loadAgg Z xag28 (Kn.at 1 Z) Z)<|YC Z Z Z (pclient_h hp hfew)<|ZM Z<|ZM Z<|ZV (Y.fieldAddr Z xfo35_5)<|ZV (Y.load Z xts3 (Kn.at 2 Z) Z)<|ZV (Y.min2 Z Z)<|ZV (Y.buildS (l := [(0,.tmp 57),(1,.tmp 64),(2,.tmp 65),(3,.tmp 66),(4,.tmp 67),(5,.tmp 68),(6,.tmp 69),(7,.tmp 71),(8,.tmp 72),(9,.tmp 76)]) (r := [.int .i64 x.id,.int .i64 x.lead,.int .i64 x.guard,.int .u32 x.server,.int .i64 x.want,.int .i64 x.most,.int .i64 x.first,.float .f64 x.part,.float .f64 x.slack,.float .f64 x.renew,.float .f64 x.rebind,.slice pp x.pool.length cp,.int .i64 x.room,.int .i64 x.id,.int .i64 x.lead,.int .i64 x.guard,(pZ tx),.int .i64 state,.int .i64 now,.int .i64 entry,.int .i64 p.op,.int .u32 p.xid,.int .i64 p.secs,.int .i64 p.flags,.int .u32 p.ci,.int .u32 p.yi,.int .u32 p.si,.int .u32 p.gi,.slice ph p.hw.length ch,.slice po9 no9 co9,.string p.client,.int .u32 p.asked,.int .i64 (min (if p.asks = 0 then x.want else p.asks) x.most)]) xzo90 xpl90 rfl WK)<|?_
     refine RunQ.nil_run ?_
     refine Run.box rfl (lt rfl) (fun b10 => ?_)
     refine Za Z<|Ze<|Zg<|Zs<|Zs<|Zr<|?_
     have hfit : Eg.fits x state now p = true := Eg.fits_y h4 h5 h6 h7 W
     have hqe : Eg.ans x l state now entry p = Eg.Qy.answer (Eg.qy x l state now entry p) := Eg.ans_yes hfit
     refine Run.show (fun U11 hle11 hsh11 => ?_)
     replace hv := hv.le hle11
     replace hp := hp.le hle11
     replace hVle := Vw.le_trans hVle hle11
     have hkq0 := Kn.shown hsh11
     have hkq : Kn U11 [] b10 (.cells (Eg.Qy.cells (Eg.qy x l state now entry p) (.slice pp x.pool.length cp) tx (.slice ph p.hw.length ch) (.slice po9 no9 co9)) 90 (0,0)) := hkq0
     have hok2 : Eg.Qok U11 (Eg.qy x l state now entry p) (.slice ph p.hw.length ch) (.slice po9 no9 co9) := Eg.qok_of hp hfew hci hsv hla
     refine Zv (Y.loadAgg Z xag28 (Kn.at 1 Z) Z)<|Yc Z Z Z (kind_h hp hfew)<|Ze<|Zg<|Zb<|Zs<|Zr<|Zv (Y.int Z Z Z)<|Za Z<|Ze<|Zg<|?_
     refine Zq ((Pc.kind p) == 1) (fun h12 g12 => ?_) fun h12 g12 => ?_
     ·refine Tr.cond_t Z h12<|Zs<|Zr<|Zm Z<|?_
      refine Yk [3] Z Z Z (discover_q (q := (Eg.qy x l state now entry p)) hkq hok2 hin) (fun v13 V13 H13 hle13 hR13 => ?_)
      obtain ⟨_,rfl,hv13,ov13,rfl,hRp13⟩ := hR13
      replace hkq := hkq.le hle13
      replace hok2 := hok2.le hle13
      replace hp := hp.le hle13
      replace hVle := Vw.le_trans hVle hle13
      obtain ⟨⟨pg13,cg13,rfl⟩,pk13,nk13,ck13,rfl⟩ := hRp13.forms
      generalize hP13 : (Eg.Qy.discover (Eg.qy x l state now entry p)) = P13 at hRp13 ⊢
      refine Run.heapTo (H' := [[(b3,.cells an0 45 (0,0))],[(b2,.cells (Pc.cells p (.slice ph p.hw.length ch) (.slice po9 no9 co9)) 28 (0,0))],[(b1,.cells (Si.cells x (.slice pp x.pool.length cp)) 35 (0,0))],s]) Z ?_
      refine Run.stAll (l2 := (An.cells P13 (.slice pg13 P13.reply.hw.length cg13) (.slice pk13 nk13 ck13)).toList) (j := 0) Z Z xsz45 Z Z Z Z ?_
      refine Run.heapTo (H' := [[(b3,.cells (An.cells P13 (.slice pg13 P13.reply.hw.length cg13) (.slice pk13 nk13 ck13)) 45 (0,0))],[(b2,.cells (Pc.cells p (.slice ph p.hw.length ch) (.slice po9 no9 co9)) 28 (0,0))],[(b1,.cells (Si.cells x (.slice pp x.pool.length cp)) 35 (0,0))],s]) Z ?_
      refine Ze<|Zg<|Zu<|Zk<|Zn<|?_
      exact Ex.retCell [3] rfl rfl xag45 (Kn.at 0 rfl) rfl ⟨hVle,rfl,.slice pg13 P13.reply.hw.length cg13,.slice pk13 nk13 ck13,by rw [hqe.trans (Eg.ans_1 (show Pc.kind p = 1 by omega)),hP13]; rfl,by rw [hqe.trans (Eg.ans_1 (show Pc.kind p = 1 by omega)),hP13]; exact hRp13⟩
     refine Tr.cond_f Z h12<|Zs<|Zr<|Zv (Y.int Z Z Z)<|Za Z<|Ze<|Zg<|?_
     refine Zq ((Pc.kind p) == 3) (fun h14 g14 => ?_) fun h14 g14 => ?_
     ·refine Tr.cond_t Z h14<|Zs<|Zr<|Zm Z<|?_
      refine Yk [3] Z Z Z (request_q (q := (Eg.qy x l state now entry p)) hkq hok2 hin) (fun v15 V15 H15 hle15 hR15 => ?_)
      obtain ⟨_,rfl,hv15,ov15,rfl,hRp15⟩ := hR15
      replace hkq := hkq.le hle15
      replace hok2 := hok2.le hle15
      replace hp := hp.le hle15
      replace hVle := Vw.le_trans hVle hle15
      obtain ⟨⟨pg15,cg15,rfl⟩,pk15,nk15,ck15,rfl⟩ := hRp15.forms
      generalize hP15 : (Eg.Qy.request (Eg.qy x l state now entry p)) = P15 at hRp15 ⊢
      refine Run.heapTo (H' := [[(b3,.cells an0 45 (0,0))],[(b2,.cells (Pc.cells p (.slice ph p.hw.length ch) (.slice po9 no9 co9)) 28 (0,0))],[(b1,.cells (Si.cells x (.slice pp x.pool.length cp)) 35 (0,0))],s]) Z ?_
      refine Run.stAll (l2 := (An.cells P15 (.slice pg15 P15.reply.hw.length cg15) (.slice pk15 nk15 ck15)).toList) (j := 0) Z Z xsz45 Z Z Z Z ?_
      refine Run.heapTo (H' := [[(b3,.cells (An.cells P15 (.slice pg15 P15.reply.hw.length cg15) (.slice pk15 nk15 ck15)) 45 (0,0))],[(b2,.cells (Pc.cells p (.slice ph p.hw.length ch) (.slice po9 no9 co9)) 28 (0,0))],[(b1,.cells (Si.cells x (.slice pp x.pool.length cp)) 35 (0,0))],s]) Z ?_
      refine Ze<|Zg<|Zu<|Zk<|Zn<|?_
      exact Ex.retCell [3] rfl rfl xag45 (Kn.at 0 rfl) rfl ⟨hVle,rfl,.slice pg15 P15.reply.hw.length cg15,.slice pk15 nk15 ck15,by rw [hqe.trans (Eg.ans_3 (show Pc.kind p = 3 by omega)),hP15]; rfl,by rw [hqe.trans (Eg.ans_3 (show Pc.kind p = 3 by omega)),hP15]; exact hRp15⟩
     refine Tr.cond_f Z h14<|Zs<|Zr<|Zv (Y.int Z Z Z)<|Za Z<|Ze<|Zg<|?_
     refine Zq ((Pc.kind p) == 4) (fun h16 g16 => ?_) fun h16 g16 => ?_
     ·refine Tr.cond_t Z h16<|Zs<|Zr<|Zm Z<|Zm Z<|Zm Z<|Zv (Y.makeFunc (l := [.tmp 94]) (l' := []) Z Z)<|Yc Z Z Z (Does.frame1 3 rfl (of_q (q := (Eg.qy x l state now entry p)) (a := p.asked) (fi := 43) (bl := [(pZ b10)]) (fl := []) (f := Eg.Qy.th (Eg.qy x l state now entry p)) hkq hin fun l => theirs_c hkq))<|Zm Z<|Zv (Y.extract Z Z)<|Zv (Y.extract Z Z)<|?_
      refine Run.alloc xzo43 (lt rfl) (fun b17 => ?_)
      refine Run.store (s := [(b17,.cells ((Le.cells ((Eg.of (Eg.Qy.th (Eg.qy x l state now entry p)) l p.asked).1)).toArray) 43 (0,0))]) Z Z xsz43 (i := 0) Z Z (le Z) Z Z ?_
      refine Za Z<|Ze<|Zg<|Zs<|Zr<|Zm Z<|Ze<|Zg<|?_
      refine Zq ((Eg.of (Eg.Qy.th (Eg.qy x l state now entry p)) l p.asked).2) (fun h18 g18 => ?_) fun h18 g18 => ?_
      ·refine Tr.cond_t Z h18<|Zs<|Zr<|Zv (Y.fieldAddr Z xfo43_0)<|Zv (Y.load Z xts24 (Kn.at 0 Z) Z)<|Zv (Y.fieldAddr Z xfo43_7)<|Zv (Y.load Z xts3 (Kn.at 0 Z) Z)<|Yc Z Z Z ((bare_c (a := (Eg.of (Eg.Qy.th (Eg.qy x l state now entry p)) l p.asked).1.addr) (b := 5) (v := (Eg.of (Eg.Qy.th (Eg.qy x l state now entry p)) l p.asked).1.ver)).frame)<|Zv (Y.buildS (l := [(2,.const (.bool true)),(3,.tmp 104)]) (r := (An.cells ⟨false,Cli.zeroP,true,(Le.bare ((Eg.of (Eg.Qy.th (Eg.qy x l state now entry p)) l p.asked).1.addr) 5 ((Eg.of (Eg.Qy.th (Eg.qy x l state now entry p)) l p.asked).1.ver)),0⟩ (.slice none 0 0) (.slice none 0 0)).toList) xzo45 xpl45 Z Z)<|?_
       refine Run.stAll (l2 := (An.cells ⟨false,Cli.zeroP,true,(Le.bare ((Eg.of (Eg.Qy.th (Eg.qy x l state now entry p)) l p.asked).1.addr) 5 ((Eg.of (Eg.Qy.th (Eg.qy x l state now entry p)) l p.asked).1.ver)),0⟩ (.slice none 0 0) (.slice none 0 0)).toList) (j := 1) Z Z xsz45 Z Z Z Z ?_
       refine Run.heapTo (H' := [[(b17,.cells ((Le.cells ((Eg.of (Eg.Qy.th (Eg.qy x l state now entry p)) l p.asked).1)).toArray) 43 (0,0))],[(b3,.cells (An.cells ⟨false,Cli.zeroP,true,(Le.bare ((Eg.of (Eg.Qy.th (Eg.qy x l state now entry p)) l p.asked).1.addr) 5 ((Eg.of (Eg.Qy.th (Eg.qy x l state now entry p)) l p.asked).1.ver)),0⟩ (.slice none 0 0) (.slice none 0 0)) 45 (0,0))],[(b2,.cells (Pc.cells p (.slice ph p.hw.length ch) (.slice po9 no9 co9)) 28 (0,0))],[(b1,.cells (Si.cells x (.slice pp x.pool.length cp)) 35 (0,0))],s]) Z ?_
       refine Ze<|Zg<|Zu<|Zk<|Zn<|?_
       exact Ex.retCell [4] rfl rfl xag45 (Kn.at 1 rfl) rfl ⟨hVle,rfl,.slice none 0 0,.slice none 0 0,by rw [(hqe.trans (Eg.ans_4 (show Pc.kind p = 4 by omega))).trans (if_pos h18)]; rfl,by rw [(hqe.trans (Eg.ans_4 (show Pc.kind p = 4 by omega))).trans (if_pos h18)]; exact Pc.zero_R _⟩
      refine Tr.cond_f Z h18<|Zt<|Zc<|Zg<|Zs<|Zr<|Zv (Y.buildS (l := []) (r := (an0).toList) xzo45 xpl45 Z Z)<|Run.stAll (l2 := (an0).toList) (j := 1) Z Z xsz45 Z Z Z Z<|?_
      refine Run.heapTo (H' := [[(b17,.cells ((Le.cells ((Eg.of (Eg.Qy.th (Eg.qy x l state now entry p)) l p.asked).1)).toArray) 43 (0,0))],[(b3,.cells an0 45 (0,0))],[(b2,.cells (Pc.cells p (.slice ph p.hw.length ch) (.slice po9 no9 co9)) 28 (0,0))],[(b1,.cells (Si.cells x (.slice pp x.pool.length cp)) 35 (0,0))],s]) Z ?_
      refine Ze<|Zg<|Zu<|?_
      exact Ex.retCell [4] rfl rfl xag45 (Kn.at 1 rfl) rfl ⟨hVle,rfl,.slice none 0 0,.slice none 0 0,by rw [(hqe.trans (Eg.ans_4 (show Pc.kind p = 4 by omega))).trans (if_neg (by rw [show (Eg.of (Eg.Qy.th (Eg.qy x l state now entry p)) (Eg.Qy.l (Eg.qy x l state now entry p)) (Eg.Qy.addr (Eg.qy x l state now entry p))).2 = false from h18]; decide))]; rfl,by rw [(hqe.trans (Eg.ans_4 (show Pc.kind p = 4 by omega))).trans (if_neg (by rw [show (Eg.of (Eg.Qy.th (Eg.qy x l state now entry p)) (Eg.Qy.l (Eg.qy x l state now entry p)) (Eg.Qy.addr (Eg.qy x l state now entry p))).2 = false from h18]; decide))]; exact Pc.zero_R _⟩
     refine Tr.cond_f Z h16<|Zs<|Zr<|Zv (Y.int Z Z Z)<|Za Z<|Ze<|Zg<|?_
     refine Zq ((Pc.kind p) == 7) (fun h19 g19 => ?_) fun h19 g19 => ?_
     ·refine Tr.cond_t Z h19<|Zs<|Zr<|Zm Z<|Zv (Y.fieldAddr Z xfo28_4)<|Zv (Y.load Z xts24 (Kn.at 1 Z) Z)<|Zm Z<|Zv (Y.makeFunc (l := [.tmp 112]) (l' := []) Z Z)<|Yc Z Z Z (Does.frame1 3 rfl (of_q (q := (Eg.qy x l state now entry p)) (a := p.ci) (fi := 43) (bl := [(pZ b10)]) (fl := []) (f := Eg.Qy.th (Eg.qy x l state now entry p)) hkq hin fun l => theirs_c hkq))<|Zm Z<|Zv (Y.extract Z Z)<|Zv (Y.extract Z Z)<|?_
      refine Run.alloc xzo43 (lt rfl) (fun b20 => ?_)
      refine Run.store (s := [(b20,.cells ((Le.cells ((Eg.of (Eg.Qy.th (Eg.qy x l state now entry p)) l p.ci).1)).toArray) 43 (0,0))]) Z Z xsz43 (i := 0) Z Z (le Z) Z Z ?_
      refine Za Z<|Ze<|Zg<|Zs<|Zr<|Zm Z<|Ze<|Zg<|?_
      refine Zq ((Eg.of (Eg.Qy.th (Eg.qy x l state now entry p)) l p.ci).2) (fun h21 g21 => ?_) fun h21 g21 => ?_
      ·refine Tr.cond_t Z h21<|Zs<|Zr<|Zm Z<|Zv (Y.fieldAddr Z xfo43_1)<|Run.store (s := [(b20,.cells #[.int .u32 ((Eg.of (Eg.Qy.th (Eg.qy x l state now entry p)) l p.ci).1.addr),.int .i64 4,.string ((Eg.of (Eg.Qy.th (Eg.qy x l state now entry p)) l p.ci).1.client),.int .i64 ((Eg.of (Eg.Qy.th (Eg.qy x l state now entry p)) l p.ci).1.till),.int .i64 ((Eg.of (Eg.Qy.th (Eg.qy x l state now entry p)) l p.ci).1.acked),.int .i64 ((Eg.of (Eg.Qy.th (Eg.qy x l state now entry p)) l p.ci).1.told),.int .i64 ((Eg.of (Eg.Qy.th (Eg.qy x l state now entry p)) l p.ci).1.at_),.int .i64 ((Eg.of (Eg.Qy.th (Eg.qy x l state now entry p)) l p.ci).1.ver)] 43 (0,0))]) Z Z xsz3 (i := 0) Z Z (le Z) Z Z<|?_
       refine Zv (Y.fieldAddr Z xfo43_6)<|Run.store (s := [(b20,.cells #[.int .u32 ((Eg.of (Eg.Qy.th (Eg.qy x l state now entry p)) l p.ci).1.addr),.int .i64 4,.string ((Eg.of (Eg.Qy.th (Eg.qy x l state now entry p)) l p.ci).1.client),.int .i64 ((Eg.of (Eg.Qy.th (Eg.qy x l state now entry p)) l p.ci).1.till),.int .i64 ((Eg.of (Eg.Qy.th (Eg.qy x l state now entry p)) l p.ci).1.acked),.int .i64 ((Eg.of (Eg.Qy.th (Eg.qy x l state now entry p)) l p.ci).1.told),.int .i64 now,.int .i64 ((Eg.of (Eg.Qy.th (Eg.qy x l state now entry p)) l p.ci).1.ver)] 43 (0,0))]) Z Z xsz3 (i := 0) Z Z (le Z) Z Z<|?_
       refine Ze<|Zg<|Zs<|Zr<|Zv (Y.loadAgg Z xag43 (Kn.at 0 Z) Z)<|Zv (Y.buildS (l := [(2,.const (.bool true)),(3,.tmp 121)]) (r := [.bool false,.int .i64 0,.int .u32 0,.int .i64 0,.int .i64 0,.int .u32 0,.int .u32 0,.int .u32 0,.int .u32 0,.slice none 0 0,.slice none 0 0,.bool true,.int .u32 ((Eg.of (Eg.Qy.th (Eg.qy x l state now entry p)) l p.ci).1.addr),.int .i64 4,.string ((Eg.of (Eg.Qy.th (Eg.qy x l state now entry p)) l p.ci).1.client),.int .i64 ((Eg.of (Eg.Qy.th (Eg.qy x l state now entry p)) l p.ci).1.till),.int .i64 ((Eg.of (Eg.Qy.th (Eg.qy x l state now entry p)) l p.ci).1.acked),.int .i64 ((Eg.of (Eg.Qy.th (Eg.qy x l state now entry p)) l p.ci).1.told),.int .i64 now,.int .i64 ((Eg.of (Eg.Qy.th (Eg.qy x l state now entry p)) l p.ci).1.ver),.int .i64 0]) xzo45 xpl45 Z Z)<|?_
       refine Run.stAll (l2 := [.bool false,.int .i64 0,.int .u32 0,.int .i64 0,.int .i64 0,.int .u32 0,.int .u32 0,.int .u32 0,.int .u32 0,.slice none 0 0,.slice none 0 0,.bool true,.int .u32 ((Eg.of (Eg.Qy.th (Eg.qy x l state now entry p)) l p.ci).1.addr),.int .i64 4,.string ((Eg.of (Eg.Qy.th (Eg.qy x l state now entry p)) l p.ci).1.client),.int .i64 ((Eg.of (Eg.Qy.th (Eg.qy x l state now entry p)) l p.ci).1.till),.int .i64 ((Eg.of (Eg.Qy.th (Eg.qy x l state now entry p)) l p.ci).1.acked),.int .i64 ((Eg.of (Eg.Qy.th (Eg.qy x l state now entry p)) l p.ci).1.told),.int .i64 now,.int .i64 ((Eg.of (Eg.Qy.th (Eg.qy x l state now entry p)) l p.ci).1.ver),.int .i64 0]) (j := 1) Z Z xsz45 Z Z Z Z ?_
       refine Run.heapTo (H' := [[(b20,.cells #[.int .u32 ((Eg.of (Eg.Qy.th (Eg.qy x l state now entry p)) l p.ci).1.addr),.int .i64 4,.string ((Eg.of (Eg.Qy.th (Eg.qy x l state now entry p)) l p.ci).1.client),.int .i64 ((Eg.of (Eg.Qy.th (Eg.qy x l state now entry p)) l p.ci).1.till),.int .i64 ((Eg.of (Eg.Qy.th (Eg.qy x l state now entry p)) l p.ci).1.acked),.int .i64 ((Eg.of (Eg.Qy.th (Eg.qy x l state now entry p)) l p.ci).1.told),.int .i64 now,.int .i64 ((Eg.of (Eg.Qy.th (Eg.qy x l state now entry p)) l p.ci).1.ver)] 43 (0,0))],[(b3,.cells #[.bool false,.int .i64 0,.int .u32 0,.int .i64 0,.int .i64 0,.int .u32 0,.int .u32 0,.int .u32 0,.int .u32 0,.slice none 0 0,.slice none 0 0,.bool true,.int .u32 ((Eg.of (Eg.Qy.th (Eg.qy x l state now entry p)) l p.ci).1.addr),.int .i64 4,.string ((Eg.of (Eg.Qy.th (Eg.qy x l state now entry p)) l p.ci).1.client),.int .i64 ((Eg.of (Eg.Qy.th (Eg.qy x l state now entry p)) l p.ci).1.till),.int .i64 ((Eg.of (Eg.Qy.th (Eg.qy x l state now entry p)) l p.ci).1.acked),.int .i64 ((Eg.of (Eg.Qy.th (Eg.qy x l state now entry p)) l p.ci).1.told),.int .i64 now,.int .i64 ((Eg.of (Eg.Qy.th (Eg.qy x l state now entry p)) l p.ci).1.ver),.int .i64 0] 45 (0,0))],[(b2,.cells (Pc.cells p (.slice ph p.hw.length ch) (.slice po9 no9 co9)) 28 (0,0))],[(b1,.cells (Si.cells x (.slice pp x.pool.length cp)) 35 (0,0))],s]) Z ?_
       refine Ze<|Zg<|Zu<|Zk<|Zn<|?_
       exact Ex.retCell [4] rfl rfl xag45 (Kn.at 1 rfl) rfl ⟨hVle,rfl,.slice none 0 0,.slice none 0 0,by rw [(hqe.trans (Eg.ans_7 (show Pc.kind p = 7 by omega))).trans (if_pos h21)]; rfl,by rw [(hqe.trans (Eg.ans_7 (show Pc.kind p = 7 by omega))).trans (if_pos h21)]; exact Pc.zero_R _⟩
      refine Tr.cond_f Z h21<|Zt<|Zc<|Zg<|Zs<|Zr<|Zv (Y.buildS (l := []) (r := (an0).toList) xzo45 xpl45 Z Z)<|Run.stAll (l2 := (an0).toList) (j := 1) Z Z xsz45 Z Z Z Z<|?_
      refine Run.heapTo (H' := [[(b20,.cells ((Le.cells ((Eg.of (Eg.Qy.th (Eg.qy x l state now entry p)) l p.ci).1)).toArray) 43 (0,0))],[(b3,.cells an0 45 (0,0))],[(b2,.cells (Pc.cells p (.slice ph p.hw.length ch) (.slice po9 no9 co9)) 28 (0,0))],[(b1,.cells (Si.cells x (.slice pp x.pool.length cp)) 35 (0,0))],s]) Z ?_
      refine Ze<|Zg<|Zu<|?_
      exact Ex.retCell [4] rfl rfl xag45 (Kn.at 1 rfl) rfl ⟨hVle,rfl,.slice none 0 0,.slice none 0 0,by rw [(hqe.trans (Eg.ans_7 (show Pc.kind p = 7 by omega))).trans (if_neg (by rw [show (Eg.of (Eg.Qy.th (Eg.qy x l state now entry p)) (Eg.Qy.l (Eg.qy x l state now entry p)) ((Eg.Qy.p (Eg.qy x l state now entry p)).ci)).2 = false from h21]; decide))]; rfl,by rw [(hqe.trans (Eg.ans_7 (show Pc.kind p = 7 by omega))).trans (if_neg (by rw [show (Eg.of (Eg.Qy.th (Eg.qy x l state now entry p)) (Eg.Qy.l (Eg.qy x l state now entry p)) ((Eg.Qy.p (Eg.qy x l state now entry p)).ci)).2 = false from h21]; decide))]; exact Pc.zero_R _⟩
     refine Tr.cond_f Z h19<|Zs<|Zr<|Zv (Y.int Z Z Z)<|Za Z<|Ze<|Zg<|?_
     refine Zq ((Pc.kind p) == 8) (fun h22 g22 => ?_) fun h22 g22 => ?_
     ·refine Tr.cond_t Z h22<|Zs<|Zr<|Zm Z<|?_
      have hok := hok2
      refine Yk [] Z Z Z (reply_q (q := (Eg.qy x l state now entry p)) (kind := 5) hkq hok) (fun v23 V23 H23 hle23 hR23 => ?_)
      obtain ⟨_,hv23,L23,po23,k23,so23,rfl,rfl,ho23,hr23,hm23,hh23⟩ := hR23
      replace hkq := hkq.le hle23
      replace hok2 := hok2.le hle23
      replace hp := hp.le hle23
      replace hok := hok.le hle23
      replace hVle := Vw.le_trans hVle hle23
      obtain ⟨ph23,ch23,rfl,_⟩ := hh23.form
      refine Run.heapTo (H' := [[(b3,.cells an0 45 (0,0))],[(b2,.cells (Pc.cells p (.slice ph p.hw.length ch) (.slice po9 no9 co9)) 28 (0,0))],[(b1,.cells (Si.cells x (.slice pp x.pool.length cp)) 35 (0,0))],s,so23]) Z ?_
      generalize hP23 : Eg.rep ((Eg.qy x l state now entry p)).x ((Eg.qy x l state now entry p)).p 5 = P23 at hm23 hh23 ⊢
      refine Run.heapTo (H' := [[(b3,.cells an0 45 (0,0))],[(b2,.cells (Pc.cells p (.slice ph p.hw.length ch) (.slice po9 no9 co9)) 28 (0,0))],[(b1,.cells (Si.cells x (.slice pp x.pool.length cp)) 35 (0,0))],s,so23]) Z ?_
      refine Zv (Y.buildS (l := [(0,.const (.bool true)),(1,.tmp 126)]) (r := (An.cells ⟨true,P23,false,Le.dflt,0⟩ (.slice ph23 p.hw.length ch23) (.slice po23 L23.length k23)).toList) xzo45 xpl45 Z Z) ?_
      refine Run.stAll (l2 := (An.cells ⟨true,P23,false,Le.dflt,0⟩ (.slice ph23 p.hw.length ch23) (.slice po23 L23.length k23)).toList) (j := 0) Z Z xsz45 Z Z Z Z ?_
      refine Run.heapTo (H' := [[(b3,.cells (An.cells ⟨true,P23,false,Le.dflt,0⟩ (.slice ph23 p.hw.length ch23) (.slice po23 L23.length k23)) 45 (0,0))],[(b2,.cells (Pc.cells p (.slice ph p.hw.length ch) (.slice po9 no9 co9)) 28 (0,0))],[(b1,.cells (Si.cells x (.slice pp x.pool.length cp)) 35 (0,0))],s,so23]) Z ?_
      refine Ze<|Zg<|Zu<|Zk<|Zn<|Ex.keepTo (H' := [so23,[(b3,.cells (An.cells ⟨true,P23,false,Le.dflt,0⟩ (.slice ph23 p.hw.length ch23) (.slice po23 L23.length k23)) 45 (0,0))],[(b2,.cells (Pc.cells p (.slice ph p.hw.length ch) (.slice po9 no9 co9)) 28 (0,0))],[(b1,.cells (Si.cells x (.slice pp x.pool.length cp)) 35 (0,0))],s]) [4,0,0,0,0] Z<|?_
      refine Ex.show (fun V24 hleV24 hshV24 => ?_)
      have hso := ho23.shows _ hshV24
      replace hkq := hkq.le hleV24
      replace hok2 := hok2.le hleV24
      replace hp := hp.le hleV24
      replace hok := hok.le hleV24
      replace hr23 := hr23.le hleV24
      replace hh23 := hh23.le hleV24
      replace hVle := Vw.le_trans hVle hleV24
      exact Ex.retCell [3] rfl rfl xag45 (Kn.at 0 rfl) rfl ⟨hVle,rfl,.slice ph23 p.hw.length ch23,.slice po23 L23.length k23,by rw [hqe.trans (Eg.ans_8 (show Pc.kind p = 8 by omega)),hP23]; rfl,by rw [hqe.trans (Eg.ans_8 (show Pc.kind p = 8 by omega)),hP23]; exact ⟨(by rw [<- hP23]; exact hh23),Pc.rs_of hso hr23 hm23,by rw [<- hP23]; exact hok2.xid,by rw [<- hP23]; exact ⟨Int.le_refl 0,(by decide : (0 : Int) <= 4294967295)⟩,by rw [<- hP23]; exact hok2.sv⟩⟩
     refine Tr.cond_f Z h22<|Zt<|Zc<|Zg<|Zs<|Zr<|Zv (Y.buildS (l := []) (r := (an0).toList) xzo45 xpl45 Z Z)<|Run.stAll (l2 := (an0).toList) (j := 0) Z Z xsz45 Z Z Z Z<|?_
     refine Run.heapTo (H' := [[(b3,.cells an0 45 (0,0))],[(b2,.cells (Pc.cells p (.slice ph p.hw.length ch) (.slice po9 no9 co9)) 28 (0,0))],[(b1,.cells (Si.cells x (.slice pp x.pool.length cp)) 35 (0,0))],s]) Z ?_
     refine Ze<|Zg<|Zu<|?_
     exact Ex.retCell [3] rfl rfl xag45 (Kn.at 0 rfl) rfl ⟨hVle,rfl,.slice none 0 0,.slice none 0 0,by rw [hqe.trans (Eg.ans_0 (show ¬ Pc.kind p = 1 by omega) (show ¬ Pc.kind p = 3 by omega) (show ¬ Pc.kind p = 4 by omega) (show ¬ Pc.kind p = 7 by omega) (show ¬ Pc.kind p = 8 by omega))]; rfl,by rw [hqe.trans (Eg.ans_0 (show ¬ Pc.kind p = 1 by omega) (show ¬ Pc.kind p = 3 by omega) (show ¬ Pc.kind p = 4 by omega) (show ¬ Pc.kind p = 7 by omega) (show ¬ Pc.kind p = 8 by omega))]; exact Pc.zero_R _⟩
    refine Zo (congrArg Bool.not h7) Z<|Zo (congrArg Bool.not h7) Z<|Zo (congrArg Bool.not h7) Z<|Zv (Y.pick_t Z (congrArg Bool.not h7) Z)<|Ze<|Zg<|Tr.cond_t Z Z<|Zs<|Zr<|Zv (Y.buildS (l := []) (r := (an0).toList) xzo45 xpl45 Z Z)<|?_
    refine Run.stAll (l2 := (an0).toList) (j := 0) Z Z xsz45 Z Z Z Z<|Run.heapTo (H' := [[(b3,.cells an0 45 (0,0))],[(b2,.cells (Pc.cells p (.slice ph p.hw.length ch) (.slice po9 no9 co9)) 28 (0,0))],[(b1,.cells (Si.cells x (.slice pp x.pool.length cp)) 35 (0,0))],s]) Z<|?_
    refine Ze<|Zg<|Zu<|Zn<|?_
    exact Ex.retCell [3] rfl rfl xag45 (Kn.at 0 rfl) rfl ⟨hVle,rfl,.slice none 0 0,.slice none 0 0,by rw [Eg.ans_no (Eg.fits_n (.inr (.inr (.inr (.inl h7)))))]; rfl,by rw [Eg.ans_no (Eg.fits_n (.inr (.inr (.inr (.inl h7)))))]; exact Pc.zero_R _⟩
   refine Zo (congrArg Bool.not h6) Z<|Zo (congrArg Bool.not h6) Z<|Zo (congrArg Bool.not h6) Z<|Zv (Y.pick_t Z (congrArg Bool.not h6) Z)<|Zm Z<|Zo Z Z<|Zo Z Z<|Zo Z Z<|Zv (Y.pick_t Z Z Z)<|Ze<|Zg<|Tr.cond_t Z Z<|Zs<|Zr<|Zv (Y.buildS (l := []) (r := (an0).toList) xzo45 xpl45 Z Z)<|?_
   refine Run.stAll (l2 := (an0).toList) (j := 0) Z Z xsz45 Z Z Z Z<|Run.heapTo (H' := [[(b3,.cells an0 45 (0,0))],[(b2,.cells (Pc.cells p (.slice ph p.hw.length ch) (.slice po9 no9 co9)) 28 (0,0))],[(b1,.cells (Si.cells x (.slice pp x.pool.length cp)) 35 (0,0))],s]) Z<|?_
   refine Ze<|Zg<|Zu<|Zn<|?_
   exact Ex.retCell [3] rfl rfl xag45 (Kn.at 0 rfl) rfl ⟨hVle,rfl,.slice none 0 0,.slice none 0 0,by rw [Eg.ans_no (Eg.fits_n (.inr (.inr (.inl h6))))]; rfl,by rw [Eg.ans_no (Eg.fits_n (.inr (.inr (.inl h6))))]; exact Pc.zero_R _⟩
  refine Zo (congrArg Bool.not h5) Z<|Zo (congrArg Bool.not h5) Z<|Zo (congrArg Bool.not h5) Z<|Zv (Y.pick_t Z (congrArg Bool.not h5) Z)<|Zm Z<|Zo Z Z<|Zo Z Z<|Zo Z Z<|Zv (Y.pick_t Z Z Z)<|Zm Z<|Zo Z Z<|Zo Z Z<|Zo Z Z<|Zv (Y.pick_t Z Z Z)<|Ze<|Zg<|?_
  refine Tr.cond_t Z Z<|Zs<|Zr<|Zv (Y.buildS (l := []) (r := (an0).toList) xzo45 xpl45 Z Z)<|Run.stAll (l2 := (an0).toList) (j := 0) Z Z xsz45 Z Z Z Z<|?_
  refine Run.heapTo (H' := [[(b3,.cells an0 45 (0,0))],[(b2,.cells (Pc.cells p (.slice ph p.hw.length ch) (.slice po9 no9 co9)) 28 (0,0))],[(b1,.cells (Si.cells x (.slice pp x.pool.length cp)) 35 (0,0))],s]) Z ?_
  refine Ze<|Zg<|Zu<|Zn<|?_
  exact Ex.retCell [3] rfl rfl xag45 (Kn.at 0 rfl) rfl ⟨hVle,rfl,.slice none 0 0,.slice none 0 0,by rw [Eg.ans_no (Eg.fits_n (.inr (.inl h5)))]; rfl,by rw [Eg.ans_no (Eg.fits_n (.inr (.inl h5)))]; exact Pc.zero_R _⟩
 refine Zo (congrArg Bool.not h4) Z<|Zo (congrArg Bool.not h4) Z<|Zv (Y.pick_t Z (congrArg Bool.not h4) Z)<|Zm Z<|Zo Z Z<|Zo Z Z<|Zo Z Z<|Zv (Y.pick_t Z Z Z)<|Zm Z<|Zo Z Z<|Zo Z Z<|Zo Z Z<|Zv (Y.pick_t Z Z Z)<|Zm Z<|Zo Z Z<|Zo Z Z<|?_
 refine Zo Z Z<|Zv (Y.pick_t Z Z Z)<|Zm Z<|Zo Z Z<|Zo Z Z<|Zo Z Z<|Zv (Y.pick_t Z Z Z)<|Ze<|Zg<|Tr.cond_t Z Z<|Zs<|Zr<|Zv (Y.buildS (l := []) (r := (an0).toList) xzo45 xpl45 Z Z)<|?_
 refine Run.stAll (l2 := (an0).toList) (j := 0) Z Z xsz45 Z Z Z Z<|Run.heapTo (H' := [[(b3,.cells an0 45 (0,0))],[(b2,.cells (Pc.cells p (.slice ph p.hw.length ch) (.slice po9 no9 co9)) 28 (0,0))],[(b1,.cells (Si.cells x (.slice pp x.pool.length cp)) 35 (0,0))],s]) Z<|?_
 refine Ze<|Zg<|Zu<|Zn<|?_
 exact Ex.retCell [3] rfl rfl xag45 (Kn.at 0 rfl) rfl ⟨hVle,rfl,.slice none 0 0,.slice none 0 0,by rw [Eg.ans_no (Eg.fits_n (.inl h4))]; rfl,by rw [Eg.ans_no (Eg.fits_n (.inl h4))]; exact Pc.zero_R _⟩
end Go.Proofs.YtfgblingojgafaaGreat
