/- What a packet asks, and whose it is.
Conditions: as each theorem names them. -/
import Derived.Test.YtfgblingojgafaaGreatFx
import Derived.Test.YtfgblingojgafaaGreatProg
import Derived.Test.YtfgblingojgafaaGreatEB
import Derived.Test.YtfgblingojgafaaGreatOpt3
import Derived.Test.YtfgblingojgafaaGreatBucket
import Derived.Test.YtfgblingojgafaaGreatTable5
import Derived.Test.YtfgblingojgafaaGreatRA
import Derived.Test.YtfgblingojgafaaGreatSA
set_option linter.unusedSimpArgs false
set_option linter.unusedVariables false
set_option maxRecDepth 4000
namespace Go.Proofs.YtfgblingojgafaaGreat
open Go Go.K
attribute [local irreducible] Code.wp wpList Calls wpQuiet
theorem rfind_h {V : Vw} {ov : Value} {os : List Oc} {code : Int} (hs : Pc.Rs V ov os) (hl : os.length <= 1000000) : Does Tryz.prog 15 [ov,.int .i64 code] V [] (fun u V' H' => V' = V /\ H' = [] /\ ∃ v,u = .tuple #[v,.bool (Oc.has code os)] /\ Rd V [] 1 v (Oc.fd code os).length ((Oc.fd code os).map byteV)) := by
  obtain ⟨L,rfl,ho,hr⟩ := hs
  obtain ⟨po,co,rfl,_⟩ := ho.form
  exact orfind_c ho hr (by rw [List.length_map] at hl; exact hl)
theorem told_c {V : Vw} {L : List Opn} {po : Option Addr} {co : Nat} (ho : Rd V [] 2 (.slice po L.length co) L.length (L.map Opn.cells).flatten) (hr : Opn.Rds V L) (hL : L.length <= 1000000) {p : Pc} {ph : Option Addr} {ch : Nat} (hh : Rd V [] 1 (.slice ph p.hw.length ch) p.hw.length (p.hw.map byteV)) (hLp : L.map Opn.c = p.os) {code : Int} (hf : Oc.few (L.map Opn.c) = true)  : Does Tryz.prog 91 [.agg #[.int .i64 p.op,.int .u32 p.xid,.int .i64 p.secs,.int .i64 p.flags,.int .u32 p.ci,.int .u32 p.yi,.int .u32 p.si,.int .u32 p.gi,.slice ph p.hw.length ch,.slice po L.length co],.int .i64 code] V [] (Pv (.tuple #[.int .i64 (Pc.num p code 0),.bool ((Oc.fd code p.os).length == 4)]) V []) := by
 refine Does.intro Tryz.func91 rfl rfl (le rfl) (fun B => ?_)
 refine Zs<|Zr<|?_
 refine Run.box rfl (lt rfl) (fun b1 => ?_)
 refine Za Z<|Za Z<|Ze<|Zg<|Zs<|Zr<|Zv (Y.fieldAddr Z xfo28_9)<|Zv (Y.load Z xts26 (Kn.at 0 Z) Z)<|Zm Z<|?_
 refine Yk [] Z Z Z (find_c (code := code) ho hr hL hf) (fun v2 V2 H2 _ hR => ?_)
 obtain ⟨hV,z3,s4,rfl,rfl,ho5⟩ := hR; replace hV := hV.symm; subst hV; obtain ⟨p6,c7,rfl⟩ := ho5.form
 refine Zm Z<|Zv (Y.extract Z Z)<|Zv (Y.extract Z Z)<|Za Z<|Za Z<|Ze<|Zg<|Zs<|Zs<|Zr<|Zm Z<|Zv (Y.lenSl Z xes25)<|Zv (Y.int Z Z Z)<|Ze<|Zg<|?_
 refine Zq ((((Oc.fd code (L.map Opn.c)).length : Nat) : Int) != 4) (fun h8 g8 => ?_) fun h8 g8 => ?_
 ·refine Tr.cond_t Z h8<|Zs<|Zr<|Za Z<|Za Z<|Ze<|Zg<|Zu<|Zn<|Ex.keep []<|?_
  exact Ex.ret2 rfl rfl rfl  ⟨by rw [<- hLp,show Pc.num p code 0 = _ from by unfold Pc.num; rw [<- hLp,if_neg W],show ((Oc.fd code (L.map Opn.c)).length == 4) = false from beq_eq_false_iff_ne.2 W]; try rfl,rfl,rfl⟩
 refine Tr.cond_f Z h8<|Zt<|Zg<|Zs<|Zr<|Zm Z<|Yc Z Z Z (number_h (bs := (Oc.fd code (L.map Opn.c))) (ho5.rd 1 rfl) W)<|Zm Z<|Zv (Y.extract Z Z)<|Zv (Y.extract Z Z)<|Za Z<|Za Z<|Ze<|Zg<|Zs<|Zr<|?_
 refine Zm Z<|Za Z<|Za Z<|Ze<|Zg<|Zu<|Ex.keep []<|?_
 exact Ex.ret2 rfl rfl rfl  ⟨by rw [<- hLp,show Pc.num p code 0 = _ from by unfold Pc.num; rw [<- hLp,if_pos W],show ((Oc.fd code (L.map Opn.c)).length == 4) = true from beq_iff_eq.2 W]; try rfl,rfl,rfl⟩
theorem pasked_c {V : Vw} {L : List Opn} {po : Option Addr} {co : Nat} (ho : Rd V [] 2 (.slice po L.length co) L.length (L.map Opn.cells).flatten) (hr : Opn.Rds V L) (hL : L.length <= 1000000) {p : Pc} {ph : Option Addr} {ch : Nat} (hh : Rd V [] 1 (.slice ph p.hw.length ch) p.hw.length (p.hw.map byteV)) (hLp : L.map Opn.c = p.os) (hf : Oc.few (L.map Opn.c) = true)  : Does Tryz.prog 39 [.agg #[.int .i64 p.op,.int .u32 p.xid,.int .i64 p.secs,.int .i64 p.flags,.int .u32 p.ci,.int .u32 p.yi,.int .u32 p.si,.int .u32 p.gi,.slice ph p.hw.length ch,.slice po L.length co]] V [] (Pv (.tuple #[.int .u32 (Pc.asked p),.int .i64 (Pc.asks p)]) V []) := by
 refine Does.intro Tryz.func39 rfl rfl (le rfl) (fun B => ?_)
 refine Zs<|Zr<|?_
 refine Run.box rfl (lt rfl) (fun b1 => ?_)
 refine Za Z<|Za Z<|Ze<|Zg<|Zs<|Zr<|Zv (Y.fieldAddr Z xfo28_4)<|Zv (Y.load Z xts24 (Kn.at 0 Z) Z)<|Za Z<|Ze<|Zg<|Zs<|Zs<|Zr<|Zv (Y.loadAgg Z xag28 (Kn.at 0 Z) Z)<|Yc Z Z Z ((told_c (code := 50) ho hr hL hh hLp hf).frame)<|?_
 refine Zm Z<|Zv (Y.extract Z Z)<|Zv (Y.extract Z Z)<|Za Z<|Za Z<|Ze<|Zg<|Zs<|Zr<|Zm Z<|Ze<|Zg<|?_
 refine Zq ((Oc.fd 50 p.os).length == 4) (fun h2 g2 => ?_) fun h2 g2 => ?_
 ·have h50 := beq_iff_eq.1 h2
  have hn50 : Pc.num p 50 0 = val (Oc.fd 50 p.os) := if_pos h50
  have hv50 := Cli.val4 h50
  refine Tr.cond_t Z h2<|Zr<|Zm Z<|Zv (Y.conv (Pc.num p 50 0) rfl xit3_24 (wrap_u32 W))<|Za Z<|Ze<|Zg<|Zs<|Zr<|Zv (Y.loadAgg Z xag28 (Kn.at 0 Z) Z)<|Yc Z Z Z ((told_c (code := 51) ho hr hL hh hLp hf).frame)<|Zm Z<|Zv (Y.extract Z Z)<|Zv (Y.extract Z Z)<|Za Z<|Za Z<|?_
  refine Ze<|Zg<|Zs<|Zr<|Zm Z<|Zm Z<|Za Z<|Za Z<|Ze<|Zg<|Zu<|Ex.keep []<|?_
  exact Ex.ret2 rfl rfl rfl  ⟨by rw [hn50,show Pc.asked p = _ from if_pos h50]; rfl,rfl,rfl⟩
 refine Tr.cond_f Z h2<|Zt<|Zg<|Zs<|Zr<|Zv (Y.loadAgg Z xag28 (Kn.at 0 Z) Z)<|Yc Z Z Z ((told_c (code := 51) ho hr hL hh hLp hf).frame)<|Zm Z<|Zv (Y.extract Z Z)<|Zv (Y.extract Z Z)<|Za Z<|Za Z<|Ze<|Zg<|Zs<|Zr<|?_
 refine Zm Z<|Zm Z<|Za Z<|Za Z<|Ze<|Zg<|Zu<|Ex.keep []<|?_
 exact Ex.ret2 rfl rfl rfl  ⟨by rw [show Pc.asked p = _ from if_neg (beq_eq_false_iff_ne.1 h2)]; rfl,rfl,rfl⟩
theorem pclient_c {V : Vw} {L : List Opn} {po : Option Addr} {co : Nat} (ho : Rd V [] 2 (.slice po L.length co) L.length (L.map Opn.cells).flatten) (hr : Opn.Rds V L) (hL : L.length <= 1000000) {p : Pc} {ph : Option Addr} {ch : Nat} (hh : Rd V [] 1 (.slice ph p.hw.length ch) p.hw.length (p.hw.map byteV)) (hLp : L.map Opn.c = p.os) (hf : Oc.few (L.map Opn.c) = true)  : Does Tryz.prog 17 [.agg #[.int .i64 p.op,.int .u32 p.xid,.int .i64 p.secs,.int .i64 p.flags,.int .u32 p.ci,.int .u32 p.yi,.int .u32 p.si,.int .u32 p.gi,.slice ph p.hw.length ch,.slice po L.length co]] V [] (Pv (.string (Pc.client p)) V []) := by
 refine Does.intro Tryz.func17 rfl rfl (le rfl) (fun B => ?_)
 refine Zs<|Zr<|?_
 refine Run.box rfl (lt rfl) (fun b1 => ?_)
 refine Za Z<|Ze<|Zg<|Zs<|Zr<|Zv (Y.fieldAddr Z xfo28_9)<|Zv (Y.load Z xts26 (Kn.at 0 Z) Z)<|?_
 refine Yk [] Z Z Z (find_c (code := 61) ho hr hL hf) (fun v2 V2 H2 _ hR => ?_)
 obtain ⟨hV,z3,s4,rfl,rfl,ho5⟩ := hR; replace hV := hV.symm; subst hV; obtain ⟨p6,c7,rfl⟩ := ho5.form
 refine Zm Z<|Zv (Y.extract Z Z)<|Zv (Y.extract Z Z)<|Za Z<|Za Z<|Ze<|Zg<|Zs<|Zs<|Zr<|Zm Z<|Zv (Y.lenSl Z xes25)<|Zv (Y.int Z Z Z)<|Zm Z<|?_
 refine Zq (decide ((((Oc.fd 61 (L.map Opn.c)).length : Nat) : Int) < 1)) (fun h8 g8 => ?_) fun h8 g8 => ?_
 ·refine Zo h8 Z<|Zo h8 Z<|Zo h8 Z<|Zv (Y.pick_t Z h8 Z)<|Ze<|Zg<|Tr.cond_t Z Z<|Zs<|Zr<|Zv (Y.fieldAddr Z xfo28_8)<|Zv (Y.load Z xts25 (Kn.at 0 Z) Z)<|Zv (Y.bytesStr (bs := p.hw) Z xes25 xtg5 xst9 hh.of_nil)<|Za Z<|Ze<|Zg<|Zu<|?_
  refine Zn<|Ex.keep []<|?_
  exact Ex.ret1 rfl rfl  ⟨congrArg Value.string (by unfold Pc.client; rw [<- hLp,if_neg W]),rfl,rfl⟩
 refine Zp h8<|Zm Z<|Zp h8<|Zv (Y.lenSl Z xes25)<|Zp h8<|Zv (Y.int Z Z Z)<|Zv (Y.pick_f Z h8 Z)<|Ze<|Zg<|?_
 refine Zq (decide ((((Oc.fd 61 (L.map Opn.c)).length : Nat) : Int) > 32)) (fun h9 g9 => ?_) fun h9 g9 => ?_
 ·refine Tr.cond_t Z h9<|Zs<|Zr<|Zv (Y.fieldAddr Z xfo28_8)<|Zv (Y.load Z xts25 (Kn.at 0 Z) Z)<|Zv (Y.bytesStr (bs := p.hw) Z xes25 xtg5 xst9 hh.of_nil)<|Za Z<|Ze<|Zg<|Zu<|Zn<|Ex.keep []<|?_
  exact Ex.ret1 rfl rfl  ⟨congrArg Value.string (by unfold Pc.client; rw [<- hLp,if_neg W]),rfl,rfl⟩
 refine Tr.cond_f Z h9<|Zt<|Zg<|Zs<|Zr<|Zm Z<|Zv (Y.bytesStr (bs := (Oc.fd 61 (L.map Opn.c))) Z xes25 xtg5 xst9 (ho5.rd 1 Z))<|Za Z<|Ze<|Zg<|Zu<|Ex.keep []<|?_
 exact Ex.ret1 rfl rfl  ⟨congrArg Value.string (by unfold Pc.client; rw [<- hLp,if_pos W]),rfl,rfl⟩
theorem pasked_h {V : Vw} {H : Hp} {p : Pc} {hv ov : Value} (hp : Pc.R V p hv ov) (hf : Pc.few p = true) : Does Tryz.prog 39 [.agg (p.cells hv ov)] V H (Pv (.tuple #[.int .u32 (Pc.asked p),.int .i64 (Pc.asks p)]) V H) := by
  obtain ⟨ph,ch,rfl,_⟩ := hp.hw.form
  obtain ⟨L,hLp,ho,hr⟩ := hp.os
  obtain ⟨po,co,rfl,_⟩ := ho.form
  have hf' : Oc.few (L.map Opn.c) = true := by rw [hLp]; simp only [Pc.few,Bool.and_eq_true] at hf; exact hf.1
  have hL : L.length <= 1000000 := by have := (Oc.few_iff.1 hf').1; rw [List.length_map] at this; omega
  exact (pasked_c ho hr hL hp.hw hLp hf').frame
theorem pclient_h {V : Vw} {H : Hp} {p : Pc} {hv ov : Value} (hp : Pc.R V p hv ov) (hf : Pc.few p = true) : Does Tryz.prog 17 [.agg (p.cells hv ov)] V H (Pv (.string (Pc.client p)) V H) := by
  obtain ⟨ph,ch,rfl,_⟩ := hp.hw.form
  obtain ⟨L,hLp,ho,hr⟩ := hp.os
  obtain ⟨po,co,rfl,_⟩ := ho.form
  have hf' : Oc.few (L.map Opn.c) = true := by rw [hLp]; simp only [Pc.few,Bool.and_eq_true] at hf; exact hf.1
  have hL : L.length <= 1000000 := by have := (Oc.few_iff.1 hf').1; rw [List.length_map] at this; omega
  exact (pclient_c ho hr hL hp.hw hLp hf').frame
theorem of3_c {V : Vw} {H : Hp} {bs : List UInt8} {pb : Option Addr} {cb : Nat} (hvb : Rd V H 1 (.slice pb bs.length cb) bs.length (bs.map byteV)) (h4 : bs.length <= 4)  : Does Tryz.prog 156 [.slice pb bs.length cb] V H (Pv (.int .i64 (val bs)) V H) := by
 refine Does.intro Tryz.func156 rfl rfl (le rfl) (fun B => ?_)
 refine Zs<|Zr<|Za Z<|Ze<|Zg<|Zs<|Zr<|Za Z<|Ze<|Zg<|Zs<|Zs<|Zr<|Za Z<|Ze<|Zg<|?_
 refine Zb ?_
 refine ZL (X := Nat) (fun i => V) (fun i => H) (fun i => [(0,.slice pb bs.length cb),(3,.int .i64 (val (bs.take i))),(4,.int .i64 (i : Int))]) (fun i => i <= bs.length) (fun i => bs.length - i) 0 (Nat.zero_le _) ?_ (by repeat (first | exact subB_nil _ | refine subB_cons (by first | rfl | exact congrArg (fun z => some (Value.int _ z)) W | exact congrArg (fun z => some (Value.int _ z)) (val_take W).symm) ?_))
 rintro i hi
 refine Zs<|Zs<|Zr<|Zm Z<|Zm Z<|Zv (Y.lenSl Z xes25)<|Zv (Y.int Z Z Z)<|Ze<|Zg<|?_
 refine Zq (decide ((i : Int) < ((bs.length : Nat) : Int))) (fun h1 g1 => ?_) fun h1 g1 => ?_
 ·obtain ⟨b,off,c2,cs,e,fz,hw,hc,hkb,hcs⟩ := hvb.opened W
  obtain ⟨rfl,rfl⟩ : pb = some ⟨b,off,none⟩ /\ cb = c2 := by cases hw; exact ⟨rfl,rfl⟩
  clear hw
  have hs := val_small (l := bs.take i) (by simp; omega)
  have hb := u8_lt (bs.getD i 0)
  refine Tr.cond_t Z h1<|Zt<|Zg<|Zs<|Zb<|Zr<|Zm Z<|Zv (Y.mul Z Z W)<|Zm Z<|Zm Z<|Zv (Y.idxAddr Z Z xes25 W W)<|Zv (Y.load Z xts5 hkb (at1 hcs W (map_at byteV 0 W)))<|Zv (Y.conv (((bs.getD i 0).toNat : Int)) rfl xit5_3 (wrap_i64 W))<|Zv (Y.add Z Z W)<|Za Z<|Ze<|?_
  refine Zc<|Zg<|Zr<|Zm Z<|Zv (Y.add Z Z W)<|Za Z<|Ze<|?_
  exact ZR (i + 1) (by show i + 1 <= bs.length; omega) W (by repeat (first | exact subB_nil _ | refine subB_cons (by first | rfl | exact congrArg (fun z => some (Value.int _ z)) W | exact congrArg (fun z => some (Value.int _ z)) (val_take W).symm) ?_))
 refine Tr.cond_f Z h1<|Zx<|Zy<|Zy<|Zi<|Zg<|Zs<|Zr<|Zm Z<|Za Z<|Ze<|Zg<|Zu<|?_
 exact Ex.ret1 rfl rfl  ⟨by rw [List.take_of_length_le W],rfl,rfl⟩
theorem of3_h {V : Vw} {H : Hp} {v : Value} {bs : List UInt8} {n : Nat} (hv : Rd V H 1 v n (bs.map byteV)) (h4 : bs.length <= 4) : Does Tryz.prog 156 [v] V H (Pv (.int .i64 (val bs)) V H) := by
  obtain rfl : n = bs.length := by have := hv.len; rw [List.length_map,Nat.mul_one] at this; exact this.symm
  obtain ⟨p,c,rfl,_⟩ := hv.form
  exact of3_c hv h4
theorem asked_c {V : Vw} {L : List Opn} {po : Option Addr} {co : Nat} (ho : Rd V [] 2 (.slice po L.length co) L.length (L.map Opn.cells).flatten) (hr : Opn.Rds V L) (hL : L.length <= 1000000) {p : Pc} {ph : Option Addr} {ch : Nat} (hh : Rd V [] 1 (.slice ph p.hw.length ch) p.hw.length (p.hw.map byteV)) (hLp : L.map Opn.c = p.os)  : Does Tryz.prog 119 [.agg #[.int .i64 p.op,.int .u32 p.xid,.int .i64 p.secs,.int .i64 p.flags,.int .u32 p.ci,.int .u32 p.yi,.int .u32 p.si,.int .u32 p.gi,.slice ph p.hw.length ch,.slice po L.length co]] V [] (Pv (.tuple #[.int .u32 (Pc.asked p),.int .i64 (Pc.asks p)]) V []) := by
 refine Does.intro Tryz.func119 rfl rfl (le rfl) (fun B => ?_)
 refine Zs<|Zr<|?_
 refine Run.box rfl (lt rfl) (fun b1 => ?_)
 refine Za Z<|Za Z<|Ze<|Zg<|Zs<|Zr<|Zv (Y.fieldAddr Z xfo28_4)<|Zv (Y.load Z xts24 (Kn.at 0 Z) Z)<|Za Z<|Ze<|Zg<|Zs<|Zr<|Za Z<|Ze<|Zg<|?_
 refine Zs<|Zr<|Zv (Y.fieldAddr Z xfo28_9)<|Zv (Y.load Z xts26 (Kn.at 0 Z) Z)<|?_
 refine Yk [] Z Z Z (orfind_c (code := 50) ho hr hL) (fun v2 V2 H2 _ hR => ?_)
 obtain ⟨hV,rfl,z3,rfl,hd4⟩ := hR; replace hV := hV.symm; subst hV; obtain ⟨p5,c6,rfl,_⟩ := hd4.form
 refine Zm Z<|Zv (Y.extract Z Z)<|Zv (Y.extract Z Z)<|Za Z<|Za Z<|Ze<|Zg<|Zs<|Zs<|Zr<|Zm Z<|Zv (Y.lenSl Z xes25)<|Zv (Y.int Z Z Z)<|Ze<|Zg<|?_
 refine Zq ((((Oc.fd 50 (L.map Opn.c)).length : Nat) : Int) == 4) (fun h7 g7 => ?_) fun h7 g7 => ?_
 ·have hv50 := Cli.val4 (l := (Oc.fd 50 (L.map Opn.c))) W
  refine Tr.cond_t Z h7<|Zr<|Zm Z<|Yc Z Z Z (of3_h (bs := (Oc.fd 50 (L.map Opn.c))) hd4.of_nil W)<|Zv (Y.conv (val (Oc.fd 50 (L.map Opn.c))) rfl xit3_24 (wrap_u32 W))<|Za Z<|Ze<|Zg<|Zs<|Zr<|Zv (Y.fieldAddr Z xfo28_9)<|Zv (Y.load Z xts26 (Kn.at 0 Z) Z)<|?_
  refine Yk [] Z Z Z (orfind_c (code := 51) ho hr hL) (fun v8 V2 H2 _ hR => ?_)
  obtain ⟨hV,rfl,z9,rfl,hd10⟩ := hR; replace hV := hV.symm; subst hV; obtain ⟨p11,c12,rfl,_⟩ := hd10.form
  refine Zm Z<|Zv (Y.extract Z Z)<|Zv (Y.extract Z Z)<|Za Z<|Za Z<|Ze<|Zg<|Zs<|Zs<|Zr<|Zm Z<|Zv (Y.lenSl Z xes25)<|Zv (Y.int Z Z Z)<|Ze<|Zg<|?_
  refine Zq ((((Oc.fd 51 (L.map Opn.c)).length : Nat) : Int) == 4) (fun h13 g13 => ?_) fun h13 g13 => ?_
  ·refine Tr.cond_t Z h13<|Zr<|Zm Z<|Yc Z Z Z (of3_h (bs := (Oc.fd 51 (L.map Opn.c))) hd10.of_nil W)<|Za Z<|Ze<|Zg<|Zs<|Zr<|Zm Z<|Zm Z<|Za Z<|Za Z<|Ze<|Zg<|Zu<|?_
   refine Ex.keep [] ?_
   exact Ex.ret2 rfl rfl rfl  ⟨by rw [show Pc.asked p = _ from by unfold Pc.asked; rw [<- hLp,if_pos W],show Pc.asks p = _ from by unfold Pc.asks; rw [<- hLp,if_pos W]]; try rfl,rfl,rfl⟩
  refine Tr.cond_f Z h13<|Zt<|Zg<|Zs<|Zr<|Zm Z<|Zm Z<|Za Z<|Za Z<|Ze<|Zg<|Zu<|Ex.keep []<|?_
  exact Ex.ret2 rfl rfl rfl  ⟨by rw [show Pc.asked p = _ from by unfold Pc.asked; rw [<- hLp,if_pos W],show Pc.asks p = _ from by unfold Pc.asks; rw [<- hLp,if_neg W]]; try rfl,rfl,rfl⟩
 refine Tr.cond_f Z h7<|Zt<|Zg<|Zs<|Zr<|Zv (Y.fieldAddr Z xfo28_9)<|Zv (Y.load Z xts26 (Kn.at 0 Z) Z)<|?_
 refine Yk [] Z Z Z (orfind_c (code := 51) ho hr hL) (fun v14 V2 H2 _ hR => ?_)
 obtain ⟨hV,rfl,z15,rfl,hd16⟩ := hR; replace hV := hV.symm; subst hV; obtain ⟨p17,c18,rfl,_⟩ := hd16.form
 refine Zm Z<|Zv (Y.extract Z Z)<|Zv (Y.extract Z Z)<|Za Z<|Za Z<|Ze<|Zg<|Zs<|Zs<|Zr<|Zm Z<|Zv (Y.lenSl Z xes25)<|Zv (Y.int Z Z Z)<|Ze<|Zg<|?_
 refine Zq ((((Oc.fd 51 (L.map Opn.c)).length : Nat) : Int) == 4) (fun h19 g19 => ?_) fun h19 g19 => ?_
 ·refine Tr.cond_t Z h19<|Zr<|Zm Z<|Yc Z Z Z (of3_h (bs := (Oc.fd 51 (L.map Opn.c))) hd16.of_nil W)<|Za Z<|Ze<|Zg<|Zs<|Zr<|Zm Z<|Zm Z<|Za Z<|Za Z<|Ze<|Zg<|Zu<|?_
  refine Ex.keep [] ?_
  exact Ex.ret2 rfl rfl rfl  ⟨by rw [show Pc.asked p = _ from by unfold Pc.asked; rw [<- hLp,if_neg W],show Pc.asks p = _ from by unfold Pc.asks; rw [<- hLp,if_pos W]]; try rfl,rfl,rfl⟩
 refine Tr.cond_f Z h19<|Zt<|Zg<|Zs<|Zr<|Zm Z<|Zm Z<|Za Z<|Za Z<|Ze<|Zg<|Zu<|Ex.keep []<|?_
 exact Ex.ret2 rfl rfl rfl  ⟨by rw [show Pc.asked p = _ from by unfold Pc.asked; rw [<- hLp,if_neg W],show Pc.asks p = _ from by unfold Pc.asks; rw [<- hLp,if_neg W]]; try rfl,rfl,rfl⟩
theorem client_c {V : Vw} {L : List Opn} {po : Option Addr} {co : Nat} (ho : Rd V [] 2 (.slice po L.length co) L.length (L.map Opn.cells).flatten) (hr : Opn.Rds V L) (hL : L.length <= 1000000) {p : Pc} {ph : Option Addr} {ch : Nat} (hh : Rd V [] 1 (.slice ph p.hw.length ch) p.hw.length (p.hw.map byteV)) (hLp : L.map Opn.c = p.os)  : Does Tryz.prog 58 [.agg #[.int .i64 p.op,.int .u32 p.xid,.int .i64 p.secs,.int .i64 p.flags,.int .u32 p.ci,.int .u32 p.yi,.int .u32 p.si,.int .u32 p.gi,.slice ph p.hw.length ch,.slice po L.length co]] V [] (Pv (.string (Pc.client p)) V []) := by
 refine Does.intro Tryz.func58 rfl rfl (le rfl) (fun B => ?_)
 refine Zs<|Zr<|?_
 refine Run.box rfl (lt rfl) (fun b1 => ?_)
 refine Za Z<|Ze<|Zg<|Zs<|Zr<|Zv (Y.fieldAddr Z xfo28_9)<|Zv (Y.load Z xts26 (Kn.at 0 Z) Z)<|?_
 refine Yk [] Z Z Z (orfind_c (code := 61) ho hr hL) (fun v2 V2 H2 _ hR => ?_)
 obtain ⟨hV,rfl,z3,rfl,hd4⟩ := hR; replace hV := hV.symm; subst hV; obtain ⟨p5,c6,rfl,_⟩ := hd4.form
 refine Zm Z<|Zv (Y.extract Z Z)<|Zv (Y.extract Z Z)<|Za Z<|Za Z<|Ze<|Zg<|Zs<|Zs<|Zr<|Zm Z<|Zv (Y.lenSl Z xes25)<|Zv (Y.int Z Z Z)<|Zm Z<|?_
 refine Zq (decide ((((Oc.fd 61 (L.map Opn.c)).length : Nat) : Int) < 1)) (fun h7 g7 => ?_) fun h7 g7 => ?_
 ·refine Zo h7 Z<|Zo h7 Z<|Zo h7 Z<|Zv (Y.pick_t Z h7 Z)<|Ze<|Zg<|Tr.cond_t Z Z<|Zs<|Zr<|Zv (Y.fieldAddr Z xfo28_8)<|Zv (Y.load Z xts25 (Kn.at 0 Z) Z)<|Zv (Y.bytesStr (bs := p.hw) Z xes25 xtg5 xst9 hh.of_nil)<|Za Z<|Ze<|Zg<|Zu<|?_
  refine Zn<|Ex.keep []<|?_
  exact Ex.ret1 rfl rfl  ⟨congrArg Value.string (by unfold Pc.client; rw [<- hLp,if_neg W]),rfl,rfl⟩
 refine Zp h7<|Zm Z<|Zp h7<|Zv (Y.lenSl Z xes25)<|Zp h7<|Zv (Y.int Z Z Z)<|Zv (Y.pick_f Z h7 Z)<|Ze<|Zg<|?_
 refine Zq (decide ((((Oc.fd 61 (L.map Opn.c)).length : Nat) : Int) > 32)) (fun h8 g8 => ?_) fun h8 g8 => ?_
 ·refine Tr.cond_t Z h8<|Zs<|Zr<|Zv (Y.fieldAddr Z xfo28_8)<|Zv (Y.load Z xts25 (Kn.at 0 Z) Z)<|Zv (Y.bytesStr (bs := p.hw) Z xes25 xtg5 xst9 hh.of_nil)<|Za Z<|Ze<|Zg<|Zu<|Zn<|Ex.keep []<|?_
  exact Ex.ret1 rfl rfl  ⟨congrArg Value.string (by unfold Pc.client; rw [<- hLp,if_neg W]),rfl,rfl⟩
 refine Tr.cond_f Z h8<|Zt<|Zg<|Zs<|Zr<|Zm Z<|Zv (Y.bytesStr (bs := (Oc.fd 61 (L.map Opn.c))) Z xes25 xtg5 xst9 hd4.of_nil)<|Za Z<|Ze<|Zg<|Zu<|Ex.keep []<|?_
 exact Ex.ret1 rfl rfl  ⟨congrArg Value.string (by unfold Pc.client; rw [<- hLp,if_pos W]),rfl,rfl⟩
theorem asked_h {V : Vw} {H : Hp} {p : Pc} {hv ov : Value} (hp : Pc.R V p hv ov) (hf : Pc.few p = true) : Does Tryz.prog 119 [.agg (p.cells hv ov)] V H (Pv (.tuple #[.int .u32 (Pc.asked p),.int .i64 (Pc.asks p)]) V H) := by
  obtain ⟨ph,ch,rfl,_⟩ := hp.hw.form
  obtain ⟨L,hLp,ho,hr⟩ := hp.os
  obtain ⟨po,co,rfl,_⟩ := ho.form
  have hf' : Oc.few (L.map Opn.c) = true := by rw [hLp]; simp only [Pc.few,Bool.and_eq_true] at hf; exact hf.1
  have hL : L.length <= 1000000 := by have := (Oc.few_iff.1 hf').1; rw [List.length_map] at this; omega
  exact (asked_c ho hr hL hp.hw hLp).frame
theorem client_h {V : Vw} {H : Hp} {p : Pc} {hv ov : Value} (hp : Pc.R V p hv ov) (hf : Pc.few p = true) : Does Tryz.prog 58 [.agg (p.cells hv ov)] V H (Pv (.string (Pc.client p)) V H) := by
  obtain ⟨ph,ch,rfl,_⟩ := hp.hw.form
  obtain ⟨L,hLp,ho,hr⟩ := hp.os
  obtain ⟨po,co,rfl,_⟩ := ho.form
  have hf' : Oc.few (L.map Opn.c) = true := by rw [hLp]; simp only [Pc.few,Bool.and_eq_true] at hf; exact hf.1
  have hL : L.length <= 1000000 := by have := (Oc.few_iff.1 hf').1; rw [List.length_map] at this; omega
  exact (client_c ho hr hL hp.hw hLp).frame
theorem number_o {V : Vw} {H : Hp} {bs : List UInt8} {pb : Option Addr} {cb : Nat} (hvb : Rd V H 1 (.slice pb bs.length cb) bs.length (bs.map byteV)) (h4 : ¬ bs.length = 4)  : Does Tryz.prog 139 [.slice pb bs.length cb] V H (fun u V' H' => V' = V /\ H' = H /\ ∃ n e,u = .tuple #[.int .i64 n,.int .i64 e]) := by
 have hlen : bs.length <= 2 \/ bs.length > 2 := by omega
 refine Does.intro Tryz.func139 rfl rfl (le rfl) (fun B => ?_)
 refine Zs<|Zr<|Za Z<|Za Z<|Ze<|Zg<|Zs<|Zs<|Zr<|Zm Z<|Zv (Y.lenSl Z xes25)<|Ze<|Zg<|Zb<|Zs<|Zs<|?_
 refine Zr<|Zv (Y.int Z Z Z)<|Za Z<|Ze<|Zg<|?_
 refine Zq (((bs.length : Nat) : Int) == 1) (fun h1 g1 => ?_) fun h1 g1 => ?_
 ·refine Tr.cond_t Z h1<|Zt<|Zg<|Tr.cond_t Z h1<|Zt<|Zc<|Zg<|Zs<|Zr<|Za Z<|Ze<|Zg<|Zs<|Zs<|Zr<|Zm Z<|?_
  refine Zv (Y.lenSl Z xes25)<|Zm Z<|Ze<|Zg<|Zb<|?_
  refine ZL (X := Nat) (fun i => V) (fun i => H) (fun i => [(13,.slice pb bs.length cb),(14,.int .i64 ((bs.length : Nat) : Int)),(4,.int .i64 (val (bs.take i))),(15,.int .i64 (i : Int))]) (fun i => i <= bs.length) (fun i => bs.length - i) 0 (Nat.zero_le _) ?_ (by repeat (first | exact subB_nil _ | refine subB_cons (by first | rfl | exact congrArg (fun z => some (Value.int _ z)) W | exact congrArg (fun z => some (Value.int _ z)) (val_take W).symm) ?_))
  rintro i hi
  refine Zs<|Zr<|Zv (Y.int Z Z Z)<|Ze<|Zg<|Zs<|?_
  refine Zq (decide ((i : Int) < ((bs.length : Nat) : Int))) (fun h2 g2 => ?_) fun h2 g2 => ?_
  ·obtain ⟨b,off,c2,cs,e,fz,hw,hc,hkb,hcs⟩ := hvb.opened W
   obtain ⟨rfl,rfl⟩ : pb = some ⟨b,off,none⟩ /\ cb = c2 := by cases hw; exact ⟨rfl,rfl⟩
   clear hw
   have hs := val_small (l := bs.take i) (by simp; omega)
   have hb := u8_lt (bs.getD i 0)
   refine Tr.cond_t Z h2<|Zt<|Zg<|Zs<|Zb<|Zs<|Zr<|Zv (Y.idxAddr Z Z xes25 W W)<|Zv (Y.load Z xts5 hkb (at1 hcs W (map_at byteV 0 W)))<|Za Z<|Ze<|Zg<|Zr<|Zm Z<|Zv (Y.shl (val (bs.take i) * 256) rfl rfl WD (shl_byte hs.1 hs.2))<|Zm Z<|?_
   refine Zv (Y.conv (((bs.getD i 0).toNat : Int)) rfl xit5_3 (wrap_i64 W))<|Zv (Y.int (r := .int .i64 (val (bs.take i) * 256 + ((bs.getD i 0).toNat : Int))) rfl rfl (by simp only [intRes]; rw [or_byte hs.1 hs.2 W W]))<|Za Z<|Ze<|Zc<|Zg<|Zr<|Zv (Y.add Z Z W)<|Zm Z<|Ze<|?_
   exact ZR (i + 1) (by show i + 1 <= bs.length; omega) W (by repeat (first | exact subB_nil _ | refine subB_cons (by first | rfl | exact congrArg (fun z => some (Value.int _ z)) W | exact congrArg (fun z => some (Value.int _ z)) (val_take W).symm) ?_))
  refine Tr.cond_f Z h2<|Zx<|Zy<|Zy<|Zi<|Zg<|Zs<|Zr<|Zm Z<|Za Z<|Za Z<|Ze<|Zg<|Zu<|?_
  exact Ex.ret2 rfl rfl rfl  ⟨rfl,rfl,_,_,rfl⟩
 refine Tr.cond_f Z h1<|Zs<|Zr<|Zv (Y.int Z Z Z)<|Za Z<|Ze<|Zg<|?_
 refine Zq (((bs.length : Nat) : Int) == 2) (fun h3 g3 => ?_) fun h3 g3 => ?_
 ·refine Tr.cond_t Z h3<|Zt<|Zg<|Tr.cond_t Z h3<|Zt<|Zc<|Zg<|Zs<|Zr<|Za Z<|Ze<|Zg<|Zs<|Zs<|Zr<|Zm Z<|?_
  refine Zv (Y.lenSl Z xes25)<|Zm Z<|Ze<|Zg<|Zb<|?_
  refine ZL (X := Nat) (fun i => V) (fun i => H) (fun i => [(13,.slice pb bs.length cb),(14,.int .i64 ((bs.length : Nat) : Int)),(4,.int .i64 (val (bs.take i))),(15,.int .i64 (i : Int))]) (fun i => i <= bs.length) (fun i => bs.length - i) 0 (Nat.zero_le _) ?_ (by repeat (first | exact subB_nil _ | refine subB_cons (by first | rfl | exact congrArg (fun z => some (Value.int _ z)) W | exact congrArg (fun z => some (Value.int _ z)) (val_take W).symm) ?_))
  rintro i hi
  refine Zs<|Zr<|Zv (Y.int Z Z Z)<|Ze<|Zg<|Zs<|?_
  refine Zq (decide ((i : Int) < ((bs.length : Nat) : Int))) (fun h4 g4 => ?_) fun h4 g4 => ?_
  ·obtain ⟨b,off,c2,cs,e,fz,hw,hc,hkb,hcs⟩ := hvb.opened W
   obtain ⟨rfl,rfl⟩ : pb = some ⟨b,off,none⟩ /\ cb = c2 := by cases hw; exact ⟨rfl,rfl⟩
   clear hw
   have hs := val_small (l := bs.take i) (by simp; omega)
   have hb := u8_lt (bs.getD i 0)
   refine Tr.cond_t Z h4<|Zt<|Zg<|Zs<|Zb<|Zs<|Zr<|Zv (Y.idxAddr Z Z xes25 W W)<|Zv (Y.load Z xts5 hkb (at1 hcs W (map_at byteV 0 W)))<|Za Z<|Ze<|Zg<|Zr<|Zm Z<|Zv (Y.shl (val (bs.take i) * 256) rfl rfl WD (shl_byte hs.1 hs.2))<|Zm Z<|?_
   refine Zv (Y.conv (((bs.getD i 0).toNat : Int)) rfl xit5_3 (wrap_i64 W))<|Zv (Y.int (r := .int .i64 (val (bs.take i) * 256 + ((bs.getD i 0).toNat : Int))) rfl rfl (by simp only [intRes]; rw [or_byte hs.1 hs.2 W W]))<|Za Z<|Ze<|Zc<|Zg<|Zr<|Zv (Y.add Z Z W)<|Zm Z<|Ze<|?_
   exact ZR (i + 1) (by show i + 1 <= bs.length; omega) W (by repeat (first | exact subB_nil _ | refine subB_cons (by first | rfl | exact congrArg (fun z => some (Value.int _ z)) W | exact congrArg (fun z => some (Value.int _ z)) (val_take W).symm) ?_))
  refine Tr.cond_f Z h4<|Zx<|Zy<|Zy<|Zi<|Zg<|Zs<|Zr<|Zm Z<|Za Z<|Za Z<|Ze<|Zg<|Zu<|?_
  exact Ex.ret2 rfl rfl rfl  ⟨rfl,rfl,_,_,rfl⟩
 refine Tr.cond_f Z h3<|Zr<|Zv (Y.int Z Z Z)<|Za Z<|Ze<|Zg<|Tr.cond_f rfl (beq_eq_false_iff_ne.2 W)<|Zs<|Zr<|Za Z<|Za Z<|Ze<|Zg<|Zu<|Zk<|Zn<|?_
 exact Ex.ret2 rfl rfl rfl  ⟨rfl,rfl,_,_,rfl⟩
theorem number_oh {V : Vw} {H : Hp} {v : Value} {bs : List UInt8} (hv : Rd V H 1 v bs.length (bs.map byteV)) (h4 : ¬ bs.length = 4) : Does Tryz.prog 139 [v] V H (fun u V' H' => V' = V /\ H' = H /\ ∃ n e,u = .tuple #[.int .i64 n,.int .i64 e]) := by
  obtain ⟨p,c,rfl,_⟩ := hv.form
  exact number_o hv h4
end Go.Proofs.YtfgblingojgafaaGreat
namespace Go.Proofs.YtfgblingojgafaaGreat
open Go Go.K
attribute [local irreducible] Code.wp wpList Calls wpQuiet
theorem theirs_c {V : Vw} {bq tx : Nat} {q : Eg.Qy} {pv hv ov : Value} (hkq : Kn V [] bq (.cells (q.cells pv tx hv ov) 90 (0,0))) {l : Le}  : Does Tryz.prog 43 [(pZ bq),.agg ((Le.cells l).toArray)] V [] (Pv (.bool (q.th l)) V []) := by
 refine Does.intro Tryz.func43 rfl rfl (le rfl) (fun B => ?_)
 refine Zs<|Zr<|?_
 refine Run.box rfl (lt rfl) (fun b1 => ?_)
 refine Za Z<|Ze<|Zg<|Zs<|Tr.quiet xmo WK<|ZV (Y.fieldAddr Z xfo43_1)<|ZV (Y.load Z xts3 (Kn.at 0 Z) Z)<|ZV (Y.int Z Z Z)<|ZM Z<|?_
 refine Zq (l.bind == 2) (fun h2 g2 => ?_) fun h2 g2 => ?_
 ·refine ZP h2<|ZV (Y.fieldAddr Z xfo43_2)<|ZP h2<|ZV (Y.load Z xts9 (Kn.at 0 Z) Z)<|ZP h2<|ZM Z<|ZP h2<|ZV (Y.nilCheck Z)<|ZP h2<|ZV (Y.fieldAddr Z xfo90_7)<|ZP h2<|ZV (Y.load Z xts9 hkq.of_nil Z)<|ZP h2<|ZV (Y.eqStr Z Z)<|ZV (Y.pick_t Z h2 Z)<|ZA Z<|?_
  refine ZE<|Zg<|Zu<|Ex.keep []<|?_
  exact Ex.ret1 rfl rfl  ⟨congrArg Value.bool (by show _ = (l.bind == 2 && _); rw [h2]; rfl),rfl,rfl⟩
 refine ZO h2 Z<|ZO h2 Z<|ZO h2 Z<|ZO h2 Z<|ZO h2 Z<|ZO h2 Z<|ZO h2 Z<|ZV (Y.pick_f Z h2 Z)<|ZA Z<|ZE<|Zg<|Zu<|Ex.keep []<|?_
 exact Ex.ret1 rfl rfl  ⟨congrArg Value.bool (by show _ = (l.bind == 2 && _); rw [h2]; rfl),rfl,rfl⟩
theorem may_q {V : Vw} {bq tx : Nat} {q : Eg.Qy} {pv hv ov : Value} (hkq : Kn V [] bq (.cells (q.cells pv tx hv ov) 90 (0,0))) {l : Le}  : Does Tryz.prog 96 [(pZ bq),.agg ((Le.cells l).toArray)] V [] (Pv (.bool (q.may l)) V []) := by
 refine Does.intro Tryz.func96 rfl rfl (le rfl) (fun B => ?_)
 refine Zs<|Zr<|?_
 refine Run.box rfl (lt rfl) (fun b1 => ?_)
 refine Za Z<|Ze<|Zg<|Zs<|Tr.quiet xmo WK<|ZM Z<|ZV (Y.nilCheck Z)<|ZV (Y.fieldAddr Z xfo90_1)<|ZV (Y.loadAgg Z xag58 hkq.of_nil Z)<|ZV (Y.loadAgg Z xag43 (Kn.at 0 Z) Z)<|ZM Z<|ZV (Y.nilCheck Z)<|ZV (Y.fieldAddr Z xfo90_3)<|ZV (Y.load Z xts3 hkq.of_nil Z)<|ZM Z<|ZV (Y.nilCheck Z)<|?_
 refine ZV (Y.fieldAddr Z xfo90_4)<|ZV (Y.load Z xts3 hkq.of_nil Z)<|ZM Z<|ZV (Y.nilCheck Z)<|ZV (Y.fieldAddr Z xfo90_5)<|ZV (Y.load Z xts3 hkq.of_nil Z)<|YC Z Z Z ((may_c (r := q.x.rules) (l := l) (state := q.state) (now := q.now) (entry := q.entry)).frame)<|ZA Z<|ZE<|Zg<|Zu<|Ex.keep []<|?_
 exact Ex.ret1 rfl rfl  ⟨rfl,rfl,rfl⟩
theorem time_q {V : Vw} {bq tx : Nat} {q : Eg.Qy} {pv hv ov : Value} (hkq : Kn V [] bq (.cells (q.cells pv tx hv ov) 90 (0,0))) {l : Le}  : Does Tryz.prog 98 [(pZ bq),.agg ((Le.cells l).toArray)] V [] (Pv (.int .i64 (q.tm l)) V []) := by
 refine Does.intro Tryz.func98 rfl rfl (le rfl) (fun B => ?_)
 refine Zs<|Zr<|?_
 refine Run.box rfl (lt rfl) (fun b1 => ?_)
 refine Za Z<|Ze<|Zg<|Zs<|Zr<|Za Z<|Ze<|Zg<|Zs<|Zs<|Zr<|Zm Z<|Zv (Y.loadAgg Z xag43 (Kn.at 0 Z) Z)<|Yc Z Z Z ((theirs_c (l := l) hkq).frame)<|Ze<|Zg<|?_
 refine Zq (q.th l) (fun h2 g2 => ?_) fun h2 g2 => ?_
 ·refine Tr.cond_t Z h2<|Zr<|Zv (Y.fieldAddr Z xfo43_4)<|Zv (Y.load Z xts3 (Kn.at 0 Z) Z)<|Za Z<|Ze<|Zg<|Zs<|Tr.quiet xmo WK<|ZM Z<|ZV (Y.nilCheck Z)<|ZV (Y.fieldAddr Z xfo90_4)<|ZV (Y.load Z xts3 hkq.of_nil Z)<|ZM Z<|ZV (Y.nilCheck Z)<|ZV (Y.fieldAddr Z xfo90_1)<|?_
  refine ZV (Y.loadAgg Z xag58 hkq.of_nil Z)<|ZM Z<|ZV (Y.nilCheck Z)<|ZV (Y.fieldAddr Z xfo90_4)<|ZV (Y.load Z xts3 hkq.of_nil Z)<|ZM Z<|ZV (Y.nilCheck Z)<|ZV (Y.fieldAddr Z xfo90_9)<|ZV (Y.load Z xts3 hkq.of_nil Z)<|ZM Z<|YC Z Z Z ((until_c (r := q.x.rules) (now := q.now) (want := q.want) (acked := l.acked)).frame)<|YC Z Z Z (left_c_h (now := q.now) (til := q.x.rules.until_ q.now q.want l.acked))<|?_
  refine ZV (Y.min2 Z Z)<|ZA Z<|ZE<|Zg<|Zu<|Ex.keep []<|?_
  exact Ex.ret1 rfl rfl  ⟨congrArg (Value.int _) (Eg.tm_y h2),rfl,rfl⟩
 refine Tr.cond_f Z h2<|Zt<|Zg<|Zs<|Tr.quiet xmo WK<|ZM Z<|ZV (Y.nilCheck Z)<|ZV (Y.fieldAddr Z xfo90_4)<|ZV (Y.load Z xts3 hkq.of_nil Z)<|ZM Z<|ZV (Y.nilCheck Z)<|ZV (Y.fieldAddr Z xfo90_1)<|ZV (Y.loadAgg Z xag58 hkq.of_nil Z)<|ZM Z<|ZV (Y.nilCheck Z)<|ZV (Y.fieldAddr Z xfo90_4)<|?_
 refine ZV (Y.load Z xts3 hkq.of_nil Z)<|ZM Z<|ZV (Y.nilCheck Z)<|ZV (Y.fieldAddr Z xfo90_9)<|ZV (Y.load Z xts3 hkq.of_nil Z)<|ZM Z<|YC Z Z Z ((until_c (r := q.x.rules) (now := q.now) (want := q.want) (acked := 0)).frame)<|YC Z Z Z (left_c_h (now := q.now) (til := q.x.rules.until_ q.now q.want 0))<|ZV (Y.min2 Z Z)<|ZA Z<|ZE<|Zg<|Zu<|Ex.keep []<|?_
 exact Ex.ret1 rfl rfl  ⟨congrArg (Value.int _) (Eg.tm_n h2),rfl,rfl⟩
theorem mine_q {V : Vw} {bq tx : Nat} {q : Eg.Qy} {pv hv ov : Value} (hkq : Kn V [] bq (.cells (q.cells pv tx hv ov) 90 (0,0))) (hc : q.client.size <= 9223372036854775807)  : Does Tryz.prog 92 [(pZ bq)] V [] (Pv (.bool (Eg.mine q.x q.client)) V []) := by
 have hbk := Eg.buk_lt q.client.toList
 refine Does.intro Tryz.func92 rfl rfl (le rfl) (fun B => ?_)
 refine Zs<|Zr<|Za Z<|Ze<|Zg<|Zs<|Zr<|Zm Z<|Zv (Y.nilCheck Z)<|Zv (Y.fieldAddr Z xfo90_0)<|Zv (Y.fieldAddr Z xfo35_6)<|Zv (Y.load Z xts3 hkq Z)<|Yc Z Z Z ((first_c6 (n := q.x.first)).frame)<|?_
 refine Run.alloc xzm178 (lt rfl) (fun b1 => ?_)
 refine Run.heapTo (H' := [[(b1,.cells (Bk.mks fun _ => false).toArray 178 (0,0))]]) rfl<|Run.stAll (j := 0) Z Z xsz178 Z (Bk.mks_len _) (Bk.mks_len _) (Bk.one_mks _)<|Run.heapTo (H' := [[(b1,.cells (Bk.mks (Bk.fr q.x.first)).toArray 178 (0,0))]]) Z<|Ze<|Zg<|Zs<|Zs<|Zr<|Zm Z<|Zv (Y.nilCheck Z)<|Zv (Y.fieldAddr Z xfo90_0)<|Zv (Y.fieldAddr Z xfo35_0)<|Zv (Y.load Z xts3 hkq.of_nil Z)<|Zv (Y.int Z Z Z)<|Ze<|?_
 refine Zg ?_
 refine Zq (q.x.id == 1) (fun h2 g2 => ?_) fun h2 g2 => ?_
 ·refine Tr.cond_t Z h2<|Zr<|Zv (Y.ldAll Z xag178 (Kn.at 0 rfl) (by first | exact Bk.mks_len _ | exact Bk.ins_len _ | exact Bk.nots_len _ _))<|Yc Z Z Z ((not_c6 (f := Bk.fr q.x.first)).frame)<|Run.stAll (j := 0) Z Z xsz178 Z (Bk.mks_len _) (Bk.mks_len _) (Bk.one_mks _)<|Run.heapTo (H' := [[(b1,.cells (Bk.mks (fun k => !Bk.fr q.x.first k)).toArray 178 (0,0))]]) rfl<|Ze<|Zg<|Zs<|Tr.quiet xmo WK<|?_
  refine ZV (Y.ldAll Z xag178 (Kn.at 0 rfl) (by first | exact Bk.mks_len _ | exact Bk.ins_len _ | exact Bk.nots_len _ _))<|ZM Z<|ZV (Y.nilCheck Z)<|ZV (Y.fieldAddr Z xfo90_7)<|ZV (Y.load Z xts9 hkq.of_nil Z)<|YC Z Z Z ((bucket_c hc).frame)<|YC Z Z Z ((has_c6 W).frame)<|ZA Z<|ZE<|Zg<|Zu<|Ex.keep []<|?_
  exact Ex.ret1 rfl rfl  ⟨congrArg Value.bool (Eg.mine_y W),rfl,rfl⟩
 refine Tr.cond_f Z h2<|Zt<|Zg<|Zs<|Tr.quiet xmo WK<|ZV (Y.ldAll Z xag178 (Kn.at 0 rfl) (by first | exact Bk.mks_len _ | exact Bk.ins_len _ | exact Bk.nots_len _ _))<|ZM Z<|ZV (Y.nilCheck Z)<|ZV (Y.fieldAddr Z xfo90_7)<|ZV (Y.load Z xts9 hkq.of_nil Z)<|YC Z Z Z ((bucket_c hc).frame)<|YC Z Z Z ((has_c6 W).frame)<|ZA Z<|ZE<|Zg<|Zu<|?_
 refine Ex.keep [] ?_
 exact Ex.ret1 rfl rfl  ⟨congrArg Value.bool (Eg.mine_n W),rfl,rfl⟩
theorem chosen_c {V : Vw} {L : List Opn} {po : Option Addr} {co : Nat} (ho : Rd V [] 2 (.slice po L.length co) L.length (L.map Opn.cells).flatten) (hr : Opn.Rds V L) (hL : L.length <= 1000000) {bq tx : Nat} {q : Eg.Qy} {pv hv : Value} (hkq : Kn V [] bq (.cells (q.cells pv tx hv (.slice po L.length co)) 90 (0,0))) (hLp : L.map Opn.c = q.p.os) (hf : Oc.few (L.map Opn.c) = true)  : Does Tryz.prog 100 [(pZ bq)] V [] (fun u V' H' => V' = V /\ H' = [] /\ ∃ s,u = .tuple #[.int .u32 s,.bool q.told] /\ (q.told = true -> s = q.server)) := by
 refine Does.intro Tryz.func100 rfl rfl (le rfl) (fun B => ?_)
 refine Zs<|Zr<|Za Z<|Za Z<|Ze<|Zg<|Zs<|Zr<|Zm Z<|Zv (Y.nilCheck Z)<|Zv (Y.fieldAddr Z xfo90_6)<|Zv (Y.fieldAddr Z xfo28_9)<|Zv (Y.load Z xts26 hkq Z)<|?_
 refine Yk [] Z Z Z (find_c (code := 54) ho hr hL hf) (fun v1 V2 H2 _ hR => ?_)
 obtain ⟨hV,z2,s3,rfl,rfl,ho4⟩ := hR; replace hV := hV.symm; subst hV; obtain ⟨p5,c6,rfl⟩ := ho4.form
 refine Zm Z<|Zv (Y.extract Z Z)<|Zv (Y.extract Z Z)<|Za Z<|Za Z<|Ze<|Zg<|Zs<|Zr<|Zm Z<|?_
 by_cases h4 : (Oc.fd 54 (L.map Opn.c)).length = 4
 ·refine Yc Z Z Z (number_h (bs := (Oc.fd 54 (L.map Opn.c))) (ho4.rd 0 Z) h4) ?_
  have hv4 := Cli.val4 h4
  refine Zm Z<|Zv (Y.extract Z Z)<|Zv (Y.extract Z Z)<|Za Z<|Za Z<|Ze<|Zg<|Zs<|Zr<|Zm Z<|Zv (Y.conv (val (Oc.fd 54 (L.map Opn.c))) rfl xit3_24 (wrap_u32 W))<|Zm Z<|Zv (Y.lenSl Z xes25)<|Zv (Y.int Z Z Z)<|Za Z<|Za Z<|?_
  refine Ze<|Zg<|Zu<|Ex.keep []<|?_
  exact Ex.ret2 rfl rfl rfl  ⟨rfl,rfl,_,by rw [show q.told = true from by unfold Eg.Qy.told; rw [<- hLp]; exact beq_iff_eq.2 h4,show ((((Oc.fd 54 (L.map Opn.c)).length : Nat) : Int) == 4) = true from beq_iff_eq.2 W],fun _ => by unfold Eg.Qy.server; rw [hLp]⟩
 refine Yk [0] Z Z Z (number_oh (bs := (Oc.fd 54 (L.map Opn.c))) (ho4.rd 0 rfl) h4) (fun v7 V2 H2 _ hR => ?_)
 obtain ⟨hV,rfl,n8,e9,rfl⟩ := hR; replace hV := hV.symm; subst hV
 refine Run.heapTo (H' := [s3]) Z<|Zm Z<|Zv (Y.extract Z Z)<|Zv (Y.extract Z Z)<|Za Z<|Za Z<|Ze<|Zg<|Zs<|Zr<|Zm Z<|Zv (Y.conv (IntKind.u32.wrap n8) Z xit3_24 Z)<|Zm Z<|Zv (Y.lenSl Z xes25)<|Zv (Y.int Z Z Z)<|Za Z<|?_
 refine Za Z<|Ze<|Zg<|Zu<|Ex.keep []<|?_
 exact Ex.ret2 rfl rfl rfl  ⟨rfl,rfl,_,by rw [show q.told = false from by unfold Eg.Qy.told; rw [<- hLp]; exact beq_eq_false_iff_ne.2 h4,show ((((Oc.fd 54 (L.map Opn.c)).length : Nat) : Int) == 4) = false from beq_eq_false_iff_ne.2 W],fun h => absurd h (by rw [show q.told = false from by unfold Eg.Qy.told; rw [<- hLp]; exact beq_eq_false_iff_ne.2 h4]; decide)⟩
theorem chosen_h {V : Vw} {bq tx : Nat} {q : Eg.Qy} {pv hv ov : Value} (hkq : Kn V [] bq (.cells (q.cells pv tx hv ov) 90 (0,0))) (hs : Pc.Rs V ov q.p.os) (hf : Oc.few q.p.os = true) : Does Tryz.prog 100 [(pZ bq)] V [] (fun u V' H' => V' = V /\ H' = [] /\ ∃ s,u = .tuple #[.int .u32 s,.bool q.told] /\ (q.told = true -> s = q.server)) := by
  obtain ⟨L,hLp,ho,hr⟩ := hs
  obtain ⟨po,co,rfl,_⟩ := ho.form
  have hf' : Oc.few (L.map Opn.c) = true := by rw [hLp]; exact hf
  have hL : L.length <= 1000000 := by have := (Oc.few_iff.1 hf').1; rw [List.length_map] at this; omega
  exact chosen_c ho hr hL hkq hLp hf'
theorem of_q {V : Vw} {bq tx : Nat} {q : Eg.Qy} {pv hv ov : Value} (hkq : Kn V [] bq (.cells (q.cells pv tx hv ov) 90 (0,0))) {a : Int} {s : Sg} (hin : Le.In 99 q.l tx s) {fi : FuncId} {bl fl : List Value} {f : Le -> Bool} (hf : ∀ l : Le,Does Tryz.prog fi (bl ++ [.agg l.cells.toArray] ++ fl) V [] (Pv (.bool (f l)) V []))  : Does Tryz.prog 42 [(pZ bq),.int .u32 a,.func (.func fi) bl.toArray fl.toArray] V [s] (Pv (.tuple #[.agg (Eg.of f q.l a).1.cells.toArray,.bool (Eg.of f q.l a).2]) V [s]) := by
 refine Does.intro Tryz.func42 rfl rfl (le rfl) (fun B => ?_)
 refine Zs<|Zr<|?_
 refine Run.alloc xzo43 (lt rfl) (fun b1 => ?_)
 refine Za Z<|Ze<|Zg<|Zs<|Zr<|Zm Z<|Zv (Y.nilCheck Z)<|Zv (Y.fieldAddr Z xfo90_2)<|Zv (Y.load Z xts38 hkq.of_nil Z)<|Zm Z<|Yc Z Z Z (Does.frame1 1 Z (get_o (a := a) hin))<|Zm Z<|Zv (Y.extract Z Z)<|Zv (Y.extract Z Z)<|?_
 refine Run.alloc xzo43 (lt rfl) (fun b2 => ?_)
 refine Run.store (s := [(b2,.cells ((Le.cells ((Le.getE q.l a).1)).toArray) 43 (0,0))]) Z Z xsz43 (i := 0) Z Z (le Z) Z Z ?_
 rcases Bool.eq_false_or_eq_true ((Le.getE q.l a).2 == 0) with hg | hg
 ·refine Za Z<|Ze<|Zg<|Zs<|Tr.anyD [(b2,.cells ((Le.cells ((Le.getE q.l a).1)).toArray) 43 (0,0))] xmo<|ZD 0 0 Z Z (fun _ => (Y.loadAgg rfl xag43 Kn.vk1 rfl))<|?_
  refine Zd 1 Z (fun _ => (Y.move rfl))<|Zd 2 Z (fun _ => (Y.int rfl rfl rfl))<|Zd 3 Z (fun _ => (Y.move rfl))<|RunD.pureG (i := 4) rfl rfl rfl hg WK WK WK (fun _ _ _ h => h) (lt rfl) (ZK 0 Z) (fun _ => (Y.move rfl))<|RunD.takeG (i := 5) 0 rfl rfl rfl rfl hg WK WK WK (fun _ _ _ h => h) (lt rfl) (ZK 0 Z) (fun _ => (Y.loadAgg rfl xag43 Kn.vk1 rfl))<|?_
  refine RunD.one (i := 6) WK rfl  ?_
  refine Zp hg<|Yc Z Z Z ((hf ((Le.getE q.l a).1)).frame)<|Ze<|Zf<|Zd 7 Z (fun _ => (Y.pick_t rfl hg rfl))<|?_
  refine RunD.one (i := 8) WK rfl  ?_
  refine Run.store (s := [(b1,.cells ((Le.cells ((Le.getE q.l a).1)).toArray) 43 (0,0))]) Z Z xsz43 (i := 1) Z Z (le Z) Z Z<|Ze<|Zf<|Zd 9 Z (fun _ => (Y.assign rfl))<|?_
  refine RunD.done WK<|Zg<|Zu<|?_
  exact Ex.retCell2 [2] rfl rfl rfl xag43 (Kn.at 1 rfl) rfl ⟨by show _ = Value.tuple #[.agg (Le.cells (Le.getE q.l a).1).toArray,.bool ((Le.getE q.l a).2 == 0 && f (Le.getE q.l a).1)]; rw [hg]; rfl,rfl,rfl⟩
 refine Za Z<|Ze<|Zg<|Zs<|Tr.anyD [(b2,.cells ((Le.cells ((Le.getE q.l a).1)).toArray) 43 (0,0))] xmo<|ZD 0 0 Z Z (fun _ => (Y.loadAgg rfl xag43 Kn.vk1 rfl))<|?_
 refine Zd 1 Z (fun _ => (Y.move rfl))<|Zd 2 Z (fun _ => (Y.int rfl rfl rfl))<|Zd 3 Z (fun _ => (Y.move rfl))<|?_
 refine RunD.two (i := 4) (j := 5) WK rfl rfl  ?_ ?_
 ·refine Zo hg Z<|Ze<|Zf<|?_
  refine RunD.one (i := 5) WK rfl  ?_
  refine Zo hg Z<|Ze<|Zf<|?_
  refine RunD.one (i := 6) WK rfl  ?_
  refine Zo hg Z<|Ze<|Zf<|Zd 7 Z (fun _ => (Y.pick_f rfl hg rfl))<|?_
  refine RunD.one (i := 8) WK rfl  ?_
  refine Run.store (s := [(b1,.cells ((Le.cells ((Le.getE q.l a).1)).toArray) 43 (0,0))]) Z Z xsz43 (i := 1) Z Z (le Z) Z Z<|Ze<|Zf<|Zd 9 Z (fun _ => (Y.assign rfl))<|?_
  refine RunD.done WK<|Zg<|Zu<|?_
  exact Ex.retCell2 [2] rfl rfl rfl xag43 (Kn.at 1 rfl) rfl ⟨by show _ = Value.tuple #[.agg (Le.cells (Le.getE q.l a).1).toArray,.bool ((Le.getE q.l a).2 == 0 && f (Le.getE q.l a).1)]; rw [hg]; rfl,rfl,rfl⟩
 refine Zo hg Z<|Ze<|Zf<|?_
 refine RunD.one (i := 4) WK rfl  ?_
 refine Zo hg Z<|Ze<|Zf<|?_
 refine RunD.one (i := 6) WK rfl  ?_
 refine Zo hg Z<|Ze<|Zf<|Zd 7 Z (fun _ => (Y.pick_f rfl hg rfl))<|?_
 refine RunD.one (i := 8) WK rfl  ?_
 refine Run.store (s := [(b1,.cells ((Le.cells ((Le.getE q.l a).1)).toArray) 43 (0,0))]) Z Z xsz43 (i := 1) Z Z (le Z) Z Z<|Ze<|Zf<|Zd 9 Z (fun _ => (Y.assign rfl))<|?_
 refine RunD.done WK<|Zg<|Zu<|?_
 exact Ex.retCell2 [2] rfl rfl rfl xag43 (Kn.at 1 rfl) rfl ⟨by show _ = Value.tuple #[.agg (Le.cells (Le.getE q.l a).1).toArray,.bool ((Le.getE q.l a).2 == 0 && f (Le.getE q.l a).1)]; rw [hg]; rfl,rfl,rfl⟩
theorem first_q {V : Vw} {bq tx : Nat} {q : Eg.Qy} {pv hv ov : Value} (hkq : Kn V [] bq (.cells (q.cells pv tx hv ov) 90 (0,0))) {s : Sg} (hin : Le.In 99 q.l tx s) {fi : FuncId} {bl fl : List Value} {f : Le -> Bool} (hf : ∀ l : Le,Does Tryz.prog fi (bl ++ [.agg l.cells.toArray] ++ fl) V [] (Pv (.bool (f l)) V []))  : Does Tryz.prog 94 [(pZ bq),.func (.func fi) bl.toArray fl.toArray] V [s] (Pv (.tuple #[.agg (Eg.fst f q.l).1.cells.toArray,.bool (Eg.fst f q.l).2]) V [s]) := by
 obtain ⟨_,hlm,_⟩ := id hin
 refine Does.intro Tryz.func94 rfl rfl (le rfl) (fun B => ?_)
 refine Zs<|Zr<|?_
 refine Run.alloc xzo43 (lt rfl) (fun b1 => ?_)
 refine Za Z<|Ze<|Zg<|Zs<|Zs<|Zr<|Zm Z<|Zv (Y.nilCheck Z)<|Zv (Y.fieldAddr Z xfo90_2)<|Zv (Y.load Z xts38 hkq.of_nil Z)<|?_
 refine Yk [1] Z Z Z (all_o hin) (fun v2 V2 H2 hle2 hR2 => ?_)
 obtain ⟨hV,q2,ho2,rfl⟩ := hR2; replace hV := hV.symm; subst hV
 obtain ⟨p2,c2,rfl⟩ := ho2.form
 refine Run.heapTo (H' := [[(b1,.cells le0 43 (0,0))],q2,s]) Z<|Run.heapTo (H' := [[(b1,.cells le0 43 (0,0))],q2,s]) Z<|Zv (Y.lenSl Z xes22)<|Zm Z<|Ze<|Zg<|Zb<|?_
 refine ZL (X := Nat) (fun z0 => V) (fun z0 => [[(b1,.cells le0 43 (0,0))],q2,s]) (fun z0 => [(1,.func (.func fi) bl.toArray fl.toArray),(4,(pZ b1)),(5,.bool false),(12,.slice p2 (q.l).length c2),(13,.int .i64 (((q.l).length : Nat) : Int)),(14,.int .i64 (z0 : Int))]) (fun z0 => z0 <= q.l.length /\ ∀ j,j < z0 -> f (q.l.getD j Le.dflt) = false) (fun z0 => q.l.length - z0) (0 : Nat) ⟨Nat.zero_le _,fun j hj => absurd hj (Nat.not_lt_zero j)⟩ ?_
 rintro i1 ⟨hi,hno⟩
 refine Zs<|Zr<|Zv (Y.int Z Z Z)<|Ze<|Zg<|Zs<|?_
 refine Zq (decide ((i1 : Int) < (((q.l).length : Nat) : Int))) (fun h3 g3 => ?_) fun h3 g3 => ?_
 ·refine Tr.cond_t Z h3<|Zt<|Zg<|Zs<|Zb<|Zs<|Zr<|Zv (Y.idxR i1 Z Z xes22 (ho2.rd 1 rfl) W W)<|Zv (Y.ldRA (vs := Le.cells (q.l.getD i1 Le.dflt)) rfl xag43 (ho2.rd 1 rfl) rfl WD (fun o ho => flatm_atA Le.len W Le.dflt o ho))<|?_
  refine Run.alloc xzo43 (lt rfl) (fun b4 => ?_)
  refine Run.store (s := [(b4,.cells ((Le.cells (q.l.getD i1 Le.dflt)).toArray) 43 (0,0))]) Z Z xsz43 (i := 0) Z Z (le Z) Z Z ?_
  refine Ze<|Zg<|Zs<|Zr<|Zm Z<|Zv (Y.loadAgg Z xag43 (Kn.at 0 Z) Z)<|Yc Z Z Z ((hf (q.l.getD i1 Le.dflt)).frame)<|Ze<|Zg<|?_
  refine Zq (f (q.l.getD i1 Le.dflt)) (fun h5 g5 => ?_) fun h5 g5 => ?_
  ·refine Tr.cond_t Z h5<|Zs<|Zr<|Zv (Y.loadAgg Z xag43 (Kn.at 0 Z) Z)<|Run.store (s := [(b1,.cells ((Le.cells (q.l.getD i1 Le.dflt)).toArray) 43 (0,0))]) Z Z xsz43 (i := 1) Z Z (le Z) Z Z<|?_
   refine Za Z<|Ze<|Zg<|Zu<|Zk<|Zn<|Zn<|Zk<|Zn<|?_
   exact Ex.retCell2 [3] rfl rfl rfl xag43 (Kn.at 1 rfl) rfl ⟨by rw [Eg.fst_at (q := f) (l := q.l) hno W h5]; rfl,rfl,rfl⟩
  refine Tr.cond_f Z h5<|Zt<|Zc<|Zg<|Zr<|Zv (Y.add Z Z W)<|Zm Z<|Ze<|Ex.keep [1,1,1]<|?_
  exact ZR (i1 + 1 : Nat) ⟨by omega,upto_succ hno h5⟩ W
 refine Tr.cond_f Z h3<|Zx<|Zy<|Zy<|Zi<|Zg<|Zs<|Zr<|Zv (Y.buildS (l := []) xzo43 xpl43 Z Z)<|Run.store (s := [(b1,.cells le0 43 (0,0))]) Z Z xsz43 (i := 0) Z Z (le Z) Z Z<|Za Z<|Ze<|Zg<|Zu<|?_
 exact Ex.retCell2 [2] rfl rfl rfl xag43 (Kn.at 0 rfl) rfl ⟨by rw [Eg.fst_no (q := f) (l := q.l) fun j hj => hno j W]; rfl,rfl,rfl⟩
theorem disc1_q {V : Vw} {bq tx : Nat} {q : Eg.Qy} {pv hv ov : Value} (hkq : Kn V [] bq (.cells (q.cells pv tx hv ov) 90 (0,0))) {bp1 : Nat} (hk1 : Kn V [] bp1 (.cells #[(pZ bq)] 88 (0,0))) {s : Sg} (hin : Le.In 99 q.l tx s)  : Does Tryz.prog 93 [(pZ bp1)] V [s] (Pv (.tuple #[.agg (Eg.fst q.th q.l).1.cells.toArray,.bool (Eg.fst q.th q.l).2]) V [s]) := by
 refine Does.intro Tryz.func93 rfl rfl (le rfl) (fun B => ?_)
 refine Zs<|Zr<|?_
 refine Run.alloc xzo43 (lt rfl) (fun b1 => ?_)
 refine Za Z<|Ze<|Zg<|Zs<|Zr<|Zv (Y.load Z xts88 hk1.of_nil Z)<|Zv (Y.load Z xts88 hk1.of_nil Z)<|Zv (Y.makeFunc (l := [.tmp 4]) (l' := []) Z Z)<|Yc Z Z Z (Does.frame1 1 rfl (first_q (fi := 43) (bl := [(pZ bq)]) (fl := []) (f := q.th) hkq hin fun l => theirs_c hkq))<|Zv (Y.extract Z Z)<|Zv (Y.extract Z Z)<|Run.store (s := [(b1,.cells ((Le.cells ((Eg.fst q.th q.l).1)).toArray) 43 (0,0))]) Z Z xsz43 (i := 0) Z Z (le Z) Z Z<|?_
 refine Za Z<|Ze<|Zg<|Zu<|?_
 exact Ex.retCell2 [1] rfl rfl rfl xag43 (Kn.at 0 rfl) rfl ⟨rfl,rfl,rfl⟩
theorem disc2_q {V : Vw} {bq tx : Nat} {q : Eg.Qy} {pv hv ov : Value} (hkq : Kn V [] bq (.cells (q.cells pv tx hv ov) 90 (0,0))) {bp1 : Nat} (hk1 : Kn V [] bp1 (.cells #[(pZ bq)] 88 (0,0))) {s : Sg} (hin : Le.In 99 q.l tx s)  : Does Tryz.prog 95 [(pZ bp1)] V [s] (Pv (.tuple #[.agg (Eg.of q.may q.l q.addr).1.cells.toArray,.bool (Eg.of q.may q.l q.addr).2]) V [s]) := by
 refine Does.intro Tryz.func95 rfl rfl (le rfl) (fun B => ?_)
 refine Zs<|Zr<|?_
 refine Run.alloc xzo43 (lt rfl) (fun b1 => ?_)
 refine Za Z<|Ze<|Zg<|Zs<|Tr.tail 10 xmo WK<|ZV (Y.load Z xts88 hk1.of_nil Z)<|ZV (Y.load Z xts88 hk1.of_nil Z)<|ZV (Y.nilCheck Z)<|ZV (Y.fieldAddr Z xfo90_8)<|ZV (Y.load Z xts24 hkq.of_nil Z)<|ZV (Y.load Z xts88 hk1.of_nil Z)<|ZV (Y.makeFunc (l := [.tmp 8]) (l' := []) Z Z)<|YC Z Z Z (Does.frame1 1 rfl (of_q (a := q.addr) (fi := 96) (bl := [(pZ bq)]) (fl := []) (f := q.may) hkq hin fun l => may_q hkq))<|?_
 refine ZV (Y.extract Z Z)<|ZV (Y.extract Z Z)<|RunQ.nil_run<|Run.store (s := [(b1,.cells ((Le.cells ((Eg.of q.may q.l q.addr).1)).toArray) 43 (0,0))]) Z Z xsz43 (i := 0) Z Z (le Z) Z Z<|?_
 refine Za Z<|Ze<|Zg<|Zu<|?_
 exact Ex.retCell2 [1] rfl rfl rfl xag43 (Kn.at 0 rfl) rfl ⟨rfl,rfl,rfl⟩
theorem disc3_q {V : Vw} {bq tx : Nat} {q : Eg.Qy} {pv hv ov : Value} (hkq : Kn V [] bq (.cells (q.cells pv tx hv ov) 90 (0,0))) {bp1 : Nat} (hk1 : Kn V [] bp1 (.cells #[(pZ bq)] 88 (0,0))) {s : Sg} (hin : Le.In 99 q.l tx s)  : Does Tryz.prog 97 [(pZ bp1)] V [s] (Pv (.tuple #[.agg (Eg.fst q.may q.l).1.cells.toArray,.bool (Eg.fst q.may q.l).2]) V [s]) := by
 refine Does.intro Tryz.func97 rfl rfl (le rfl) (fun B => ?_)
 refine Zs<|Zr<|?_
 refine Run.alloc xzo43 (lt rfl) (fun b1 => ?_)
 refine Za Z<|Ze<|Zg<|Zs<|Zr<|Zv (Y.load Z xts88 hk1.of_nil Z)<|Zv (Y.load Z xts88 hk1.of_nil Z)<|Zv (Y.makeFunc (l := [.tmp 4]) (l' := []) Z Z)<|Yc Z Z Z (Does.frame1 1 rfl (first_q (fi := 96) (bl := [(pZ bq)]) (fl := []) (f := q.may) hkq hin fun l => may_q hkq))<|Zv (Y.extract Z Z)<|Zv (Y.extract Z Z)<|Run.store (s := [(b1,.cells ((Le.cells ((Eg.fst q.may q.l).1)).toArray) 43 (0,0))]) Z Z xsz43 (i := 0) Z Z (le Z) Z Z<|?_
 refine Za Z<|Ze<|Zg<|Zu<|?_
 exact Ex.retCell2 [1] rfl rfl rfl xag43 (Kn.at 0 rfl) rfl ⟨rfl,rfl,rfl⟩
theorem req1_q {V : Vw} {bq tx : Nat} {q : Eg.Qy} {pv hv ov : Value} (hkq : Kn V [] bq (.cells (q.cells pv tx hv ov) 90 (0,0))) {bp1 : Nat} (hk1 : Kn V [] bp1 (.cells #[(pZ bq)] 88 (0,0))) {l : Le}  : Does Tryz.prog 101 [.agg ((Le.cells l).toArray),(pZ bp1)] V [] (Pv (.bool (q.th l || q.may l)) V []) := by
 refine Does.intro Tryz.func101 rfl rfl (le rfl) (fun B => ?_)
 refine Zs<|Zr<|?_
 refine Run.box rfl (lt rfl) (fun b1 => ?_)
 refine Za Z<|Ze<|Zg<|Zs<|Zr<|Zv (Y.load Z xts88 hk1.of_nil Z)<|Zv (Y.loadAgg Z xag43 (Kn.at 0 Z) Z)<|Yc Z Z Z ((theirs_c (l := l) hkq).frame)<|Zm Z<|?_
 refine Zq (q.th l) (fun h2 g2 => ?_) fun h2 g2 => ?_
 ·refine Zo h2 Z<|Zo h2 Z<|Zo h2 Z<|Zv (Y.pick_t Z h2 Z)<|Za Z<|Ze<|Zg<|Zu<|Ex.keep []<|?_
  exact Ex.ret1 rfl rfl  ⟨congrArg Value.bool (by rw [h2]; rfl),rfl,rfl⟩
 refine Zp h2<|Zv (Y.load Z xts88 hk1.of_nil Z)<|Zp h2<|Zv (Y.loadAgg Z xag43 (Kn.at 0 Z) Z)<|Zp h2<|Yc Z Z Z ((may_q (l := l) hkq).frame)<|Zv (Y.pick_f Z h2 Z)<|Za Z<|Ze<|Zg<|Zu<|Ex.keep []<|?_
 exact Ex.ret1 rfl rfl  ⟨congrArg Value.bool (by rw [h2]; rfl),rfl,rfl⟩
end Go.Proofs.YtfgblingojgafaaGreat
namespace Go.Proofs.YtfgblingojgafaaGreat
open Go Go.K
attribute [local irreducible] Code.wp wpList Calls wpQuiet
theorem isnan_c {f : Nat} {V : Vw} : Does Tryz.prog 198 [.float .f64 f] V [] (Pv (.bool (Fl.D.read f).isNaN) V []) := by
 refine Does.intro Tryz.func198 rfl rfl (le rfl) (fun B => ?_)
 refine Zs<|Zr<|Za Z<|Ze<|Zg<|Zs<|Zr<|Zm Z<|Zm Z<|Zv (Y.fcmp (r := .bool (Fl.D.order f f != some .eq)) Z Z Z)<|Za Z<|Ze<|Zg<|Zu<|?_
 exact Ex.ret1 rfl rfl  ⟨congrArg Value.bool (Fl.order_self f),rfl,rfl⟩
theorem isnan_h {f : Nat} {V : Vw} {H : Hp} : Does Tryz.prog 198 [.float .f64 f] V H (Pv (.bool (Fl.D.read f).isNaN) V H) := isnan_c.frame
theorem part_c {n : Int} {y : Nat} {V : Vw} : Does Tryz.prog 175 [.int .i64 n,.float .f64 y] V [] (Pv (.int .i64 (Fl.part n y)) V []) := by
 refine Does.intro Tryz.func175 rfl rfl (le rfl) (fun B => ?_)
 refine Zs<|Zr<|Za Z<|Ze<|Zg<|Zs<|Zr<|Zm Z<|Zv (Y.min2 Z Z)<|Za Z<|Ze<|Zg<|Zs<|Zb<|Zs<|Zr<|?_
 refine Zm Z<|Zv (Y.int Z Z Z)<|Zm Z<|?_
 refine Zq (decide ((min n 1099511627776) < 1)) (fun h1 g1 => ?_) fun h1 g1 => ?_
 ·refine Zo h1 Z<|Zo h1 Z<|Zo h1 Z<|Zv (Y.pick_t Z h1 Z)<|Za Z<|Ze<|Zg<|Tr.cond_t Z Z<|Zs<|Zr<|Za Z<|Ze<|Zg<|Zu<|Zk<|Zn<|?_
  exact Ex.ret1 rfl rfl  ⟨by rw [show Fl.part n y = _ from Fl.part_a rfl W],rfl,rfl⟩
 refine Zp h1<|Zm Z<|Zp h1<|Zv (Y.fcmp (r := .bool (Fl.D.order y 0 == some .gt)) Z Z Z)<|Zp h1<|Zv (Y.not Z)<|Zv (Y.pick_f Z h1 Z)<|Za Z<|Ze<|Zg<|?_
 refine Zq (Fl.D.order y 0 == some .gt) (fun h2 g2 => ?_) fun h2 g2 => ?_
 ·refine Tr.cond_f Z (congrArg Bool.not h2)<|Zs<|Zr<|Zm Z<|Zv (Y.fcmp (r := .bool (Fl.D.order y 4607182418800017408 == some .gt || Fl.D.order y 4607182418800017408 == some .eq)) Z Z Z)<|Za Z<|Ze<|Zg<|?_
  refine Zq (Fl.D.order y 4607182418800017408 == some .gt || Fl.D.order y 4607182418800017408 == some .eq) (fun h3 g3 => ?_) fun h3 g3 => ?_
  ·refine Tr.cond_t Z h3<|Zs<|Zr<|Zm Z<|Za Z<|Ze<|Zg<|Zu<|Zk<|Zn<|?_
   exact Ex.ret1 rfl rfl  ⟨by rw [show Fl.part n y = _ from Fl.part_c rfl W h2 h3],rfl,rfl⟩
  refine Tr.cond_f Z h3<|Zt<|Zc<|Zg<|Zs<|Zr<|?_
  obtain ⟨r,hm,hk,hk0,hnn,hord⟩ := Fl.part_facts (n := min n 1099511627776) (y := y) W W (h2) h3
  refine Zm Z<|Zv (Y.convIF Z xft3_32)<|Zm Z<|Zv (Y.farith (r := r) Z Z hm)<|Zv (Y.convFI (n := Fl.partK (min n 1099511627776) y) Z xit32_3 hk)<|Zm Z<|Zv (Y.min2 Z Z)<|Za Z<|Ze<|Zg<|Zu<|?_
  exact Ex.ret1 rfl rfl  ⟨by rw [show Fl.part n y = _ from Fl.part_d rfl W h2 h3],rfl,rfl⟩
 refine Tr.cond_t Z (congrArg Bool.not h2)<|Zs<|Zr<|Za Z<|Ze<|Zg<|Zu<|Zk<|Zn<|?_
 exact Ex.ret1 rfl rfl  ⟨by rw [show Fl.part n y = _ from Fl.part_b h2],rfl,rfl⟩
theorem rpart_c {n : Int} {y : Nat} {V : Vw} : Does Tryz.prog 182 [.int .i64 n,.float .f64 y] V [] (Pv (.int .i64 (Fl.part n y)) V []) := by
 refine Does.intro Tryz.func182 rfl rfl (le rfl) (fun B => ?_)
 refine Zs<|Zr<|Za Z<|Ze<|Zg<|Zs<|Zs<|Zr<|Zm Z<|Zv (Y.int Z Z Z)<|Zm Z<|?_
 refine Zq (decide (n < 1)) (fun h1 g1 => ?_) fun h1 g1 => ?_
 ·refine Zo h1 Z<|Zo h1 Z<|Zv (Y.pick_t Z h1 Z)<|Zm Z<|Zo Z Z<|Zo Z Z<|Zv (Y.pick_t Z Z Z)<|Ze<|Zg<|Tr.cond_t Z Z<|Zs<|Zr<|Za Z<|Ze<|Zg<|Zu<|?_
  refine Zn ?_
  exact Ex.ret1 rfl rfl  ⟨by rw [show Fl.part n y = _ from Fl.part_a (N := n) W W],rfl,rfl⟩
 refine Zp h1<|Zm Z<|Zp h1<|Yc Z Z Z isnan_h<|Zv (Y.pick_f Z h1 Z)<|Zm Z<|?_
 refine Zq ((Fl.D.read y).isNaN) (fun h2 g2 => ?_) fun h2 g2 => ?_
 ·refine Zo h2 Z<|Zo h2 Z<|Zv (Y.pick_t Z h2 Z)<|Ze<|Zg<|Tr.cond_t Z Z<|Zs<|Zr<|Za Z<|Ze<|Zg<|Zu<|Zn<|?_
  exact Ex.ret1 rfl rfl  ⟨by rw [show Fl.part n y = _ from Fl.part_b (Fl.above_nan h2)],rfl,rfl⟩
 refine Zp h2<|Zm Z<|Zp h2<|Zv (Y.fcmp (r := .bool (Fl.D.order y 0 == some .lt || Fl.D.order y 0 == some .eq)) Z Z Z)<|Zv (Y.pick_f Z h2 Z)<|Ze<|Zg<|?_
 refine Zq (Fl.D.order y 0 == some .lt || Fl.D.order y 0 == some .eq) (fun h3 g3 => ?_) fun h3 g3 => ?_
 ·refine Tr.cond_t Z h3<|Zs<|Zr<|Za Z<|Ze<|Zg<|Zu<|Zn<|?_
  exact Ex.ret1 rfl rfl  ⟨by rw [show Fl.part n y = _ from Fl.part_b (Fl.above_le h3)],rfl,rfl⟩
 refine Tr.cond_f Z h3<|Zt<|Zg<|Zs<|Zs<|Zr<|Zm Z<|Zv (Y.int Z Z Z)<|Ze<|Zg<|?_
 refine Zq (decide (n > 1099511627776)) (fun h4 g4 => ?_) fun h4 g4 => ?_
 ·refine Tr.cond_t Z h4<|Zr<|Za Z<|Ze<|Zg<|Zs<|Zs<|Zr<|Zm Z<|Zv (Y.fcmp (r := .bool (Fl.D.order y 4607182418800017408 == some .gt || Fl.D.order y 4607182418800017408 == some .eq)) Z Z Z)<|Ze<|Zg<|?_
  refine Zq (Fl.D.order y 4607182418800017408 == some .gt || Fl.D.order y 4607182418800017408 == some .eq) (fun h5 g5 => ?_) fun h5 g5 => ?_
  ·refine Tr.cond_t Z h5<|Zs<|Zr<|Zm Z<|Za Z<|Ze<|Zg<|Zu<|Zn<|?_
   exact Ex.ret1 rfl rfl  ⟨by rw [show Fl.part n y = _ from Fl.part_c (N := 1099511627776) W W (Fl.above_gt h2 h3) h5],rfl,rfl⟩
  refine Tr.cond_f Z h5<|Zt<|Zg<|Zs<|Zr<|?_
  obtain ⟨r,hm,hk,hk0,hnn,hord⟩ := Fl.part_facts (n := 1099511627776) (y := y) W W (Fl.above_gt h2 h3) h5
  refine Zm Z<|Zv (Y.convIF Z xft3_32)<|Zm Z<|Zv (Y.farith (r := r) Z Z hm)<|Za Z<|Ze<|Zg<|Zs<|Zs<|Zr<|Zm Z<|Zm Z<|Zv (Y.convIF Z xft3_32)<|Zv (Y.fcmp (r := .bool (Fl.D.order r (Fl.fl 1099511627776) == some .gt || Fl.D.order r (Fl.fl 1099511627776) == some .eq)) Z Z Z)<|Ze<|Zg<|?_
  refine Zq (Fl.D.order r (Fl.fl 1099511627776) == some .gt || Fl.D.order r (Fl.fl 1099511627776) == some .eq) (fun h6 g6 => ?_) fun h6 g6 => ?_
  ·refine Tr.cond_t Z h6<|Zs<|Zr<|Zm Z<|Za Z<|Ze<|Zg<|Zu<|Zn<|?_
   exact Ex.ret1 rfl rfl  ⟨by rw [show Fl.part n y = _ from (Fl.part_d (N := 1099511627776) W W (Fl.above_gt h2 h3) h5).trans (Fl.part_ge hord h6)],rfl,rfl⟩
  refine Tr.cond_f Z h6<|Zt<|Zg<|Zs<|Zr<|Zm Z<|Zv (Y.convFI (n := Fl.partK 1099511627776 y) Z xit32_3 hk)<|Za Z<|Ze<|Zg<|Zu<|?_
  exact Ex.ret1 rfl rfl  ⟨by rw [show Fl.part n y = _ from (Fl.part_d (N := 1099511627776) W W (Fl.above_gt h2 h3) h5).trans (Fl.part_lt hord h6)],rfl,rfl⟩
 refine Tr.cond_f Z h4<|Zt<|Zg<|Zs<|Zs<|Zr<|Zm Z<|Zv (Y.fcmp (r := .bool (Fl.D.order y 4607182418800017408 == some .gt || Fl.D.order y 4607182418800017408 == some .eq)) Z Z Z)<|Ze<|Zg<|?_
 refine Zq (Fl.D.order y 4607182418800017408 == some .gt || Fl.D.order y 4607182418800017408 == some .eq) (fun h7 g7 => ?_) fun h7 g7 => ?_
 ·refine Tr.cond_t Z h7<|Zs<|Zr<|Zm Z<|Za Z<|Ze<|Zg<|Zu<|Zn<|?_
  exact Ex.ret1 rfl rfl  ⟨by rw [show Fl.part n y = _ from Fl.part_c (N := n) W W (Fl.above_gt h2 h3) h7],rfl,rfl⟩
 refine Tr.cond_f Z h7<|Zt<|Zg<|Zs<|Zr<|?_
 obtain ⟨r,hm,hk,hk0,hnn,hord⟩ := Fl.part_facts (n := n) (y := y) W W (Fl.above_gt h2 h3) h7
 refine Zm Z<|Zv (Y.convIF Z xft3_32)<|Zm Z<|Zv (Y.farith (r := r) Z Z hm)<|Za Z<|Ze<|Zg<|Zs<|Zs<|Zr<|Zm Z<|Zm Z<|Zv (Y.convIF Z xft3_32)<|Zv (Y.fcmp (r := .bool (Fl.D.order r (Fl.fl n) == some .gt || Fl.D.order r (Fl.fl n) == some .eq)) Z Z Z)<|Ze<|Zg<|?_
 refine Zq (Fl.D.order r (Fl.fl n) == some .gt || Fl.D.order r (Fl.fl n) == some .eq) (fun h8 g8 => ?_) fun h8 g8 => ?_
 ·refine Tr.cond_t Z h8<|Zs<|Zr<|Zm Z<|Za Z<|Ze<|Zg<|Zu<|Zn<|?_
  exact Ex.ret1 rfl rfl  ⟨by rw [show Fl.part n y = _ from (Fl.part_d (N := n) W W (Fl.above_gt h2 h3) h7).trans (Fl.part_ge hord h8)],rfl,rfl⟩
 refine Tr.cond_f Z h8<|Zt<|Zg<|Zs<|Zr<|Zm Z<|Zv (Y.convFI (n := Fl.partK n y) Z xit32_3 hk)<|Za Z<|Ze<|Zg<|Zu<|?_
 exact Ex.ret1 rfl rfl  ⟨by rw [show Fl.part n y = _ from (Fl.part_d (N := n) W W (Fl.above_gt h2 h3) h7).trans (Fl.part_lt hord h8)],rfl,rfl⟩
end Go.Proofs.YtfgblingojgafaaGreat
namespace Go.Proofs.YtfgblingojgafaaGreat
open Go Go.K
attribute [local irreducible] Code.wp wpList Calls wpQuiet
theorem tms_c {V : Vw} {n : Int} {y z : Nat}  : Does Tryz.prog 149 [.int .i64 n,.float .f64 y,.float .f64 z] V [] (Pv (.tuple #[.int .i64 (Fl.part n y),.int .i64 (max (Fl.part n y) (Fl.part n z))]) V []) := by
 refine Does.intro Tryz.func149 rfl rfl (le rfl) (fun B => ?_)
 refine Zs<|Zr<|Za Z<|Za Z<|Ze<|Zg<|Zs<|Zr<|Zm Z<|Zm Z<|Yc Z Z Z ((part_c (n := n) (y := y)).frame)<|Za Z<|Ze<|Zg<|Zs<|Zr<|?_
 refine Zm Z<|Zm Z<|Zm Z<|Zm Z<|Yc Z Z Z ((part_c (n := n) (y := z)).frame)<|Zv (Y.max2 Z Z)<|Za Z<|Za Z<|Ze<|Zg<|Zu<|Ex.keep []<|?_
 exact Ex.ret2 rfl rfl rfl  ⟨by first | rfl | (congr 2; try (congr 1; first | rfl | omega)),rfl,rfl⟩
theorem rtms_c {V : Vw} {n : Int} {y z : Nat}  : Does Tryz.prog 163 [.int .i64 n,.float .f64 y,.float .f64 z] V [] (Pv (.tuple #[.int .i64 (Fl.part n y),.int .i64 (max (Fl.part n y) (Fl.part n z))]) V []) := by
 refine Does.intro Tryz.func163 rfl rfl (le rfl) (fun B => ?_)
 refine Zs<|Zr<|Za Z<|Za Z<|Ze<|Zg<|Zs<|Zr<|Zm Z<|Zm Z<|Yc Z Z Z ((rpart_c (n := n) (y := y)).frame)<|Za Z<|Ze<|Zg<|Zs<|Zr<|?_
 refine Zm Z<|Zm Z<|Yc Z Z Z ((rpart_c (n := n) (y := z)).frame)<|Za Z<|Ze<|Zg<|Zs<|Zr<|Zm Z<|Zm Z<|Zm Z<|Zv (Y.max2 Z Z)<|Za Z<|Za Z<|Ze<|Zg<|?_
 refine Zu<|Ex.keep []<|?_
 exact Ex.ret2 rfl rfl rfl  ⟨by first | rfl | (congr 2; try (congr 1; first | rfl | omega)),rfl,rfl⟩
end Go.Proofs.YtfgblingojgafaaGreat
