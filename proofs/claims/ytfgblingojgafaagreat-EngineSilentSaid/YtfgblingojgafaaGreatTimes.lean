/- What a packet asks, and whose it is.
Conditions: as each theorem names them. -/
import Derived.Test.YtfgblingojgafaaGreatProg
import Derived.Test.YtfgblingojgafaaGreatEB
import Derived.Test.YtfgblingojgafaaGreatOpt3
import Derived.Test.YtfgblingojgafaaGreatSortnum
import Derived.Test.YtfgblingojgafaaGreatKA
import Derived.Test.YtfgblingojgafaaGreatSA
import Derived.Test.YtfgblingojgafaaGreatBucket
import Derived.Test.YtfgblingojgafaaGreatRA
set_option linter.unusedSimpArgs false
set_option linter.unusedVariables false
set_option maxRecDepth 4000
set_option linter.unusedSectionVars false
namespace Go.Proofs.YtfgblingojgafaaGreat
open Go Go.K
attribute [local irreducible] Code.wp wpList Calls wpQuiet
theorem Ask_fo28_9 : fieldOff Tryz.prog 28 9 = some 9 := by kernel_rfl
theorem Ask_ts26 : scal Tryz.prog 26 = true := by kernel_rfl
theorem Ask_es25 : elemS Tryz.prog 25 = some (5,1) := by kernel_rfl
theorem Ask_fo28_4 : fieldOff Tryz.prog 28 4 = some 4 := by kernel_rfl
theorem Ask_ts24 : scal Tryz.prog 24 = true := by kernel_rfl
theorem Ask_ag28 : aggsz Tryz.prog 28 = some 10 := by kernel_rfl
theorem Ask_it3_24 : intT Tryz.prog 3 24 = some .u32 := by kernel_rfl
theorem Ask_fo28_8 : fieldOff Tryz.prog 28 8 = some 8 := by kernel_rfl
theorem Ask_ts25 : scal Tryz.prog 25 = true := by kernel_rfl
theorem Ask_tg5 : tagOf Tryz.prog 5 = some (0,.u8) := by kernel_rfl
theorem Ask_st9 : strT Tryz.prog 9 = true := by kernel_rfl
theorem Ask_ts5 : scal Tryz.prog 5 = true := by kernel_rfl
theorem Ask_it5_3 : intT Tryz.prog 5 3 = some .i64 := by kernel_rfl
theorem rfind_h {V : Vw} {ov : Value} {os : List Oc} {code : Int} (hs : Pc.Rs V ov os) (hl : os.length ≤ 1000000) : Does Tryz.prog 15 [ov,.int .i64 code] V [] (fun u V' H' => V' = V ∧ H' = [] ∧ ∃ v,u = .tuple #[v,.bool (Oc.has code os)] ∧ Rd V [] 1 v (Oc.fd code os).length ((Oc.fd code os).map byteV)) := by
  obtain ⟨L,rfl,ho,hr⟩ := hs
  obtain ⟨po,co,rfl,_⟩ := ho.form
  exact orfind_c ho hr (by rw [List.length_map] at hl; exact hl)
theorem told_c {V : Vw} {L : List Opn} {po : Option Addr} {co : Nat} (ho : Rd V [] 2 (.slice po L.length co) L.length (L.map Opn.cells).flatten) (hr : Opn.Rds V L) (hL : L.length ≤ 1000000) {p : Pc} {ph : Option Addr} {ch : Nat} (hh : Rd V [] 1 (.slice ph p.hw.length ch) p.hw.length (p.hw.map byteV)) (hLp : L.map Opn.c = p.os) {code : Int} (hf : Oc.few (L.map Opn.c) = true)  : Does Tryz.prog 91 [.agg #[.int .i64 p.op,.int .u32 p.xid,.int .i64 p.secs,.int .i64 p.flags,.int .u32 p.ci,.int .u32 p.yi,.int .u32 p.si,.int .u32 p.gi,.slice ph p.hw.length ch,.slice po L.length co],.int .i64 code] V [] (Pv (.tuple #[.int .i64 (Pc.num p code 0),.bool ((Oc.fd code p.os).length == 4)]) V []) := by
 refine Does.intro Tryz.func91 rfl rfl (le rfl) (fun B => ?_)
 refine Zs<|Zr<|?_
 refine Run.box rfl (lt rfl) (fun b1 => ?_)
 refine Za Z<|Za Z<|Ze<|Zg<|Zs<|Zr<|Zv (Y.fieldAddr Z Ask_fo28_9)<|Zv (Y.load Z Ask_ts26 (Kn.at 0 Z) Z)<|Zm Z<|?_
 refine Run.call [] (l := [.tmp 12,.tmp 13]) rfl rfl rfl (lt rfl) (find_c (code := code) ho hr hL hf) (fun v2 V2 H2 _ hR => ?_)
 obtain ⟨hV,z3,s4,rfl,rfl,ho5⟩ := hR; replace hV := hV.symm; subst hV; obtain ⟨p6,c7,rfl⟩ := ho5.form
 refine Zm Z<|Zv (Y.extract Z Z)<|Zv (Y.extract Z Z)<|Za Z<|Za Z<|Ze<|Zg<|Zs<|Zs<|Zr<|Zm Z<|Zv (Y.lenSl Z Ask_es25)<|Zv (Y.int Z Z Z)<|Ze<|Zg<|?_
 rcases Zsplit ((((Oc.fd code (L.map Opn.c)).length : Nat) : Int) != 4) with ⟨h8,g8⟩ | ⟨h8,g8⟩ <;> try simp only [kb] at g8
 ·refine Tr.cond_t Z h8<|Zs<|Zr<|Za Z<|Za Z<|Ze<|Zg<|Zu<|Zn<|Ex.keep []<|?_
  exact Ex.ret2 rfl rfl rfl  ⟨by rw [← hLp,show Pc.num p code 0 = _ from by unfold Pc.num; rw [← hLp,if_neg W],show ((Oc.fd code (L.map Opn.c)).length == 4) = false from beq_eq_false_iff_ne.2 W]; try rfl,rfl,rfl⟩
 ·refine Tr.cond_f Z h8<|Zt<|Zg<|Zs<|Zr<|Zm Z<|Run.call0 (l := [.tmp 21]) rfl rfl rfl (lt rfl) (number_h (bs := (Oc.fd code (L.map Opn.c))) (ho5.rd 1 rfl) W)<|Zm Z<|Zv (Y.extract Z Z)<|Zv (Y.extract Z Z)<|Za Z<|Za Z<|Ze<|Zg<|Zs<|Zr<|?_
  refine Zm Z<|Za Z<|Za Z<|Ze<|Zg<|Zu<|Ex.keep []<|?_
  exact Ex.ret2 rfl rfl rfl  ⟨by rw [← hLp,show Pc.num p code 0 = _ from by unfold Pc.num; rw [← hLp,if_pos W],show ((Oc.fd code (L.map Opn.c)).length == 4) = true from beq_iff_eq.2 W]; try rfl,rfl,rfl⟩
theorem pasked_c {V : Vw} {L : List Opn} {po : Option Addr} {co : Nat} (ho : Rd V [] 2 (.slice po L.length co) L.length (L.map Opn.cells).flatten) (hr : Opn.Rds V L) (hL : L.length ≤ 1000000) {p : Pc} {ph : Option Addr} {ch : Nat} (hh : Rd V [] 1 (.slice ph p.hw.length ch) p.hw.length (p.hw.map byteV)) (hLp : L.map Opn.c = p.os) (hf : Oc.few (L.map Opn.c) = true)  : Does Tryz.prog 39 [.agg #[.int .i64 p.op,.int .u32 p.xid,.int .i64 p.secs,.int .i64 p.flags,.int .u32 p.ci,.int .u32 p.yi,.int .u32 p.si,.int .u32 p.gi,.slice ph p.hw.length ch,.slice po L.length co]] V [] (Pv (.tuple #[.int .u32 (Pc.asked p),.int .i64 (Pc.asks p)]) V []) := by
 refine Does.intro Tryz.func39 rfl rfl (le rfl) (fun B => ?_)
 refine Zs<|Zr<|?_
 refine Run.box rfl (lt rfl) (fun b1 => ?_)
 refine Za Z<|Za Z<|Ze<|Zg<|Zs<|Zr<|Zv (Y.fieldAddr Z Ask_fo28_4)<|Zv (Y.load Z Ask_ts24 (Kn.at 0 Z) Z)<|Za Z<|Ze<|Zg<|Zs<|Zs<|Zr<|Zv (Y.loadAgg Z Ask_ag28 (Kn.at 0 Z) Z)<|Run.call0 (l := [.tmp 12,.const (.int .i64 50)]) Z Z Z (lt Z) ((told_c (code := 50) ho hr hL hh hLp hf).frame)<|?_
 refine Zm Z<|Zv (Y.extract Z Z)<|Zv (Y.extract Z Z)<|Za Z<|Za Z<|Ze<|Zg<|Zs<|Zr<|Zm Z<|Ze<|Zg<|?_
 rcases Zsplit ((Oc.fd 50 p.os).length == 4) with ⟨h2,g2⟩ | ⟨h2,g2⟩ <;> try simp only [kb] at g2
 ·have h50 := beq_iff_eq.1 h2
  have hn50 : Pc.num p 50 0 = val (Oc.fd 50 p.os) := if_pos h50
  have hv50 := Cli.val4 h50
  refine Tr.cond_t Z h2<|Zr<|Zm Z<|Zv (Y.conv (Pc.num p 50 0) rfl Ask_it3_24 (wrap_u32 W))<|Za Z<|Ze<|Zg<|Zs<|Zr<|Zv (Y.loadAgg Z Ask_ag28 (Kn.at 0 Z) Z)<|Run.call0 (l := [.tmp 20,.const (.int .i64 51)]) Z Z Z (lt Z) ((told_c (code := 51) ho hr hL hh hLp hf).frame)<|Zm Z<|Zv (Y.extract Z Z)<|Zv (Y.extract Z Z)<|Za Z<|Za Z<|?_
  refine Ze<|Zg<|Zs<|Zr<|Zm Z<|Zm Z<|Za Z<|Za Z<|Ze<|Zg<|Zu<|Ex.keep []<|?_
  exact Ex.ret2 rfl rfl rfl  ⟨by rw [hn50,show Pc.asked p = _ from if_pos h50]; rfl,rfl,rfl⟩
 ·refine Tr.cond_f Z h2<|Zt<|Zg<|Zs<|Zr<|Zv (Y.loadAgg Z Ask_ag28 (Kn.at 0 Z) Z)<|Run.call0 (l := [.tmp 20,.const (.int .i64 51)]) Z Z Z (lt Z) ((told_c (code := 51) ho hr hL hh hLp hf).frame)<|Zm Z<|Zv (Y.extract Z Z)<|Zv (Y.extract Z Z)<|Za Z<|Za Z<|Ze<|Zg<|Zs<|Zr<|?_
  refine Zm Z<|Zm Z<|Za Z<|Za Z<|Ze<|Zg<|Zu<|Ex.keep []<|?_
  exact Ex.ret2 rfl rfl rfl  ⟨by rw [show Pc.asked p = _ from if_neg (beq_eq_false_iff_ne.1 h2)]; rfl,rfl,rfl⟩
theorem pclient_c {V : Vw} {L : List Opn} {po : Option Addr} {co : Nat} (ho : Rd V [] 2 (.slice po L.length co) L.length (L.map Opn.cells).flatten) (hr : Opn.Rds V L) (hL : L.length ≤ 1000000) {p : Pc} {ph : Option Addr} {ch : Nat} (hh : Rd V [] 1 (.slice ph p.hw.length ch) p.hw.length (p.hw.map byteV)) (hLp : L.map Opn.c = p.os) (hf : Oc.few (L.map Opn.c) = true)  : Does Tryz.prog 17 [.agg #[.int .i64 p.op,.int .u32 p.xid,.int .i64 p.secs,.int .i64 p.flags,.int .u32 p.ci,.int .u32 p.yi,.int .u32 p.si,.int .u32 p.gi,.slice ph p.hw.length ch,.slice po L.length co]] V [] (Pv (.string (Pc.client p)) V []) := by
 refine Does.intro Tryz.func17 rfl rfl (le rfl) (fun B => ?_)
 refine Zs<|Zr<|?_
 refine Run.box rfl (lt rfl) (fun b1 => ?_)
 refine Za Z<|Ze<|Zg<|Zs<|Zr<|Zv (Y.fieldAddr Z Ask_fo28_9)<|Zv (Y.load Z Ask_ts26 (Kn.at 0 Z) Z)<|?_
 refine Run.call [] (l := [.tmp 7,.const (.int .i64 61)]) rfl rfl rfl (lt rfl) (find_c (code := 61) ho hr hL hf) (fun v2 V2 H2 _ hR => ?_)
 obtain ⟨hV,z3,s4,rfl,rfl,ho5⟩ := hR; replace hV := hV.symm; subst hV; obtain ⟨p6,c7,rfl⟩ := ho5.form
 refine Zm Z<|Zv (Y.extract Z Z)<|Zv (Y.extract Z Z)<|Za Z<|Za Z<|Ze<|Zg<|Zs<|Zs<|Zr<|Zm Z<|Zv (Y.lenSl Z Ask_es25)<|Zv (Y.int Z Z Z)<|Zm Z<|?_
 rcases Zsplit (decide ((((Oc.fd 61 (L.map Opn.c)).length : Nat) : Int) < 1)) with ⟨h8,g8⟩ | ⟨h8,g8⟩ <;> try simp only [kb] at g8
 ·refine Zo h8 Z<|Zo h8 Z<|Zo h8 Z<|Zv (Y.pick_t Z h8 Z)<|Ze<|Zg<|Tr.cond_t Z Z<|Zs<|Zr<|Zv (Y.fieldAddr Z Ask_fo28_8)<|Zv (Y.load Z Ask_ts25 (Kn.at 0 Z) Z)<|Zv (Y.bytesStr (bs := p.hw) Z Ask_es25 Ask_tg5 Ask_st9 hh.of_nil)<|Za Z<|Ze<|Zg<|Zu<|?_
  refine Zn<|Ex.keep []<|?_
  exact Ex.ret1 rfl rfl  ⟨congrArg Value.string (by unfold Pc.client; rw [← hLp,if_neg W]),rfl,rfl⟩
 ·refine Zp h8<|Zm Z<|Zp h8<|Zv (Y.lenSl Z Ask_es25)<|Zp h8<|Zv (Y.int Z Z Z)<|Zv (Y.pick_f Z h8 Z)<|Ze<|Zg<|?_
  rcases Zsplit (decide ((((Oc.fd 61 (L.map Opn.c)).length : Nat) : Int) > 32)) with ⟨h9,g9⟩ | ⟨h9,g9⟩ <;> try simp only [kb] at g9
  ·refine Tr.cond_t Z h9<|Zs<|Zr<|Zv (Y.fieldAddr Z Ask_fo28_8)<|Zv (Y.load Z Ask_ts25 (Kn.at 0 Z) Z)<|Zv (Y.bytesStr (bs := p.hw) Z Ask_es25 Ask_tg5 Ask_st9 hh.of_nil)<|Za Z<|Ze<|Zg<|Zu<|Zn<|Ex.keep []<|?_
   exact Ex.ret1 rfl rfl  ⟨congrArg Value.string (by unfold Pc.client; rw [← hLp,if_neg W]),rfl,rfl⟩
  ·refine Tr.cond_f Z h9<|Zt<|Zg<|Zs<|Zr<|Zm Z<|Zv (Y.bytesStr (bs := (Oc.fd 61 (L.map Opn.c))) Z Ask_es25 Ask_tg5 Ask_st9 (ho5.rd 1 Z))<|Za Z<|Ze<|Zg<|Zu<|Ex.keep []<|?_
   exact Ex.ret1 rfl rfl  ⟨congrArg Value.string (by unfold Pc.client; rw [← hLp,if_pos W]),rfl,rfl⟩
theorem pasked_h {V : Vw} {H : Hp} {p : Pc} {hv ov : Value} (hp : Pc.R V p hv ov) (hf : Pc.few p = true) : Does Tryz.prog 39 [.agg (p.cells hv ov)] V H (Pv (.tuple #[.int .u32 (Pc.asked p),.int .i64 (Pc.asks p)]) V H) := by
  obtain ⟨ph,ch,rfl,_⟩ := hp.hw.form
  obtain ⟨L,hLp,ho,hr⟩ := hp.os
  obtain ⟨po,co,rfl,_⟩ := ho.form
  have hf' : Oc.few (L.map Opn.c) = true := by rw [hLp]; simp only [Pc.few,Bool.and_eq_true] at hf; exact hf.1
  have hL : L.length ≤ 1000000 := by have := (Oc.few_iff.1 hf').1; rw [List.length_map] at this; omega
  exact (pasked_c ho hr hL hp.hw hLp hf').frame
theorem pclient_h {V : Vw} {H : Hp} {p : Pc} {hv ov : Value} (hp : Pc.R V p hv ov) (hf : Pc.few p = true) : Does Tryz.prog 17 [.agg (p.cells hv ov)] V H (Pv (.string (Pc.client p)) V H) := by
  obtain ⟨ph,ch,rfl,_⟩ := hp.hw.form
  obtain ⟨L,hLp,ho,hr⟩ := hp.os
  obtain ⟨po,co,rfl,_⟩ := ho.form
  have hf' : Oc.few (L.map Opn.c) = true := by rw [hLp]; simp only [Pc.few,Bool.and_eq_true] at hf; exact hf.1
  have hL : L.length ≤ 1000000 := by have := (Oc.few_iff.1 hf').1; rw [List.length_map] at this; omega
  exact (pclient_c ho hr hL hp.hw hLp hf').frame
theorem number_o {V : Vw} {H : Hp} {bs : List UInt8} {pb : Option Addr} {cb : Nat} (hvb : Rd V H 1 (.slice pb bs.length cb) bs.length (bs.map byteV)) (h4 : ¬ bs.length = 4)  : Does Tryz.prog 139 [.slice pb bs.length cb] V H (fun u V' H' => V' = V ∧ H' = H ∧ ∃ n e,u = .tuple #[.int .i64 n,.int .i64 e]) := by
 have hlen : bs.length ≤ 2 ∨ bs.length > 2 := by omega
 refine Does.intro Tryz.func139 rfl rfl (le rfl) (fun B => ?_)
 refine Zs<|Zr<|Za Z<|Za Z<|Ze<|Zg<|Zs<|Zs<|Zr<|Zm Z<|Zv (Y.lenSl Z Ask_es25)<|Ze<|Zg<|Zb<|Zs<|Zs<|?_
 refine Zr<|Zv (Y.int Z Z Z)<|Za Z<|Ze<|Zg<|?_
 rcases Zsplit (((bs.length : Nat) : Int) == 1) with ⟨h1,g1⟩ | ⟨h1,g1⟩ <;> try simp only [kb] at g1
 ·refine Tr.cond_t Z h1<|Zt<|Zg<|Tr.cond_t Z h1<|Zt<|Zc<|Zg<|Zs<|Zr<|Za Z<|Ze<|Zg<|Zs<|Zs<|Zr<|Zm Z<|?_
  refine Zv (Y.lenSl Z Ask_es25)<|Zm Z<|Ze<|Zg<|Zb<|?_
  refine ZL (X := Nat) (fun i => V) (fun i => H) (fun i => [(13,.slice pb bs.length cb),(14,.int .i64 ((bs.length : Nat) : Int)),(4,.int .i64 (val (bs.take i))),(15,.int .i64 (i : Int))]) (fun i => i ≤ bs.length) (fun i => bs.length - i) 0 (Nat.zero_le _) ?_ (by repeat (first | exact subB_nil _ | refine subB_cons (by first | rfl | exact congrArg (fun z => some (Value.int _ z)) W | exact congrArg (fun z => some (Value.int _ z)) (val_take W).symm) ?_))
  rintro i hi
  refine Zs<|Zr<|Zv (Y.int Z Z Z)<|Ze<|Zg<|Zs<|?_
  rcases Zsplit (decide ((i : Int) < ((bs.length : Nat) : Int))) with ⟨h2,g2⟩ | ⟨h2,g2⟩ <;> try simp only [kb] at g2
  ·obtain ⟨b,off,c2,cs,e,fz,hw,hc,hkb,hcs⟩ := hvb.opened W
   obtain ⟨rfl,rfl⟩ : pb = some ⟨b,off,none⟩ ∧ cb = c2 := by cases hw; exact ⟨rfl,rfl⟩
   clear hw
   have hs := val_small (l := bs.take i) (by simp; omega)
   have hb := u8_lt (bs.getD i 0)
   refine Tr.cond_t Z h2<|Zt<|Zg<|Zs<|Zb<|Zs<|Zr<|Zv (Y.idxAddr Z Z Ask_es25 W W)<|Zv (Y.load Z Ask_ts5 hkb (at1 hcs W (map_at byteV 0 W)))<|Za Z<|Ze<|Zg<|Zr<|Zm Z<|Zv (Y.shl (val (bs.take i) * 256) rfl rfl WD (shl_byte hs.1 hs.2))<|Zm Z<|?_
   refine Zv (Y.conv (((bs.getD i 0).toNat : Int)) rfl Ask_it5_3 (wrap_i64 W))<|Zv (Y.int (r := .int .i64 (val (bs.take i) * 256 + ((bs.getD i 0).toNat : Int))) rfl rfl (by simp only [intRes]; rw [or_byte hs.1 hs.2 W W]))<|Za Z<|Ze<|Zc<|Zg<|Zr<|Zv (Y.add Z Z W)<|Zm Z<|Ze<|?_
   exact ZR (i + 1) (by show i + 1 ≤ bs.length; omega) W (by repeat (first | exact subB_nil _ | refine subB_cons (by first | rfl | exact congrArg (fun z => some (Value.int _ z)) W | exact congrArg (fun z => some (Value.int _ z)) (val_take W).symm) ?_))
  ·refine Tr.cond_f Z h2<|Zx<|Zy<|Zy<|Zi<|Zg<|Zs<|Zr<|Zm Z<|Za Z<|Za Z<|Ze<|Zg<|Zu<|?_
   exact Ex.ret2 rfl rfl rfl  ⟨rfl,rfl,_,_,rfl⟩
 ·refine Tr.cond_f Z h1<|Zs<|Zr<|Zv (Y.int Z Z Z)<|Za Z<|Ze<|Zg<|?_
  rcases Zsplit (((bs.length : Nat) : Int) == 2) with ⟨h3,g3⟩ | ⟨h3,g3⟩ <;> try simp only [kb] at g3
  ·refine Tr.cond_t Z h3<|Zt<|Zg<|Tr.cond_t Z h3<|Zt<|Zc<|Zg<|Zs<|Zr<|Za Z<|Ze<|Zg<|Zs<|Zs<|Zr<|Zm Z<|?_
   refine Zv (Y.lenSl Z Ask_es25)<|Zm Z<|Ze<|Zg<|Zb<|?_
   refine ZL (X := Nat) (fun i => V) (fun i => H) (fun i => [(13,.slice pb bs.length cb),(14,.int .i64 ((bs.length : Nat) : Int)),(4,.int .i64 (val (bs.take i))),(15,.int .i64 (i : Int))]) (fun i => i ≤ bs.length) (fun i => bs.length - i) 0 (Nat.zero_le _) ?_ (by repeat (first | exact subB_nil _ | refine subB_cons (by first | rfl | exact congrArg (fun z => some (Value.int _ z)) W | exact congrArg (fun z => some (Value.int _ z)) (val_take W).symm) ?_))
   rintro i hi
   refine Zs<|Zr<|Zv (Y.int Z Z Z)<|Ze<|Zg<|Zs<|?_
   rcases Zsplit (decide ((i : Int) < ((bs.length : Nat) : Int))) with ⟨h4,g4⟩ | ⟨h4,g4⟩ <;> try simp only [kb] at g4
   ·obtain ⟨b,off,c2,cs,e,fz,hw,hc,hkb,hcs⟩ := hvb.opened W
    obtain ⟨rfl,rfl⟩ : pb = some ⟨b,off,none⟩ ∧ cb = c2 := by cases hw; exact ⟨rfl,rfl⟩
    clear hw
    have hs := val_small (l := bs.take i) (by simp; omega)
    have hb := u8_lt (bs.getD i 0)
    refine Tr.cond_t Z h4<|Zt<|Zg<|Zs<|Zb<|Zs<|Zr<|Zv (Y.idxAddr Z Z Ask_es25 W W)<|Zv (Y.load Z Ask_ts5 hkb (at1 hcs W (map_at byteV 0 W)))<|Za Z<|Ze<|Zg<|Zr<|Zm Z<|Zv (Y.shl (val (bs.take i) * 256) rfl rfl WD (shl_byte hs.1 hs.2))<|Zm Z<|?_
    refine Zv (Y.conv (((bs.getD i 0).toNat : Int)) rfl Ask_it5_3 (wrap_i64 W))<|Zv (Y.int (r := .int .i64 (val (bs.take i) * 256 + ((bs.getD i 0).toNat : Int))) rfl rfl (by simp only [intRes]; rw [or_byte hs.1 hs.2 W W]))<|Za Z<|Ze<|Zc<|Zg<|Zr<|Zv (Y.add Z Z W)<|Zm Z<|Ze<|?_
    exact ZR (i + 1) (by show i + 1 ≤ bs.length; omega) W (by repeat (first | exact subB_nil _ | refine subB_cons (by first | rfl | exact congrArg (fun z => some (Value.int _ z)) W | exact congrArg (fun z => some (Value.int _ z)) (val_take W).symm) ?_))
   ·refine Tr.cond_f Z h4<|Zx<|Zy<|Zy<|Zi<|Zg<|Zs<|Zr<|Zm Z<|Za Z<|Za Z<|Ze<|Zg<|Zu<|?_
    exact Ex.ret2 rfl rfl rfl  ⟨rfl,rfl,_,_,rfl⟩
  ·refine Tr.cond_f Z h3<|Zr<|Zv (Y.int Z Z Z)<|Za Z<|Ze<|Zg<|Tr.cond_f rfl (beq_eq_false_iff_ne.2 W)<|Zs<|Zr<|Za Z<|Za Z<|Ze<|Zg<|Zu<|Zk<|Zn<|?_
   exact Ex.ret2 rfl rfl rfl  ⟨rfl,rfl,_,_,rfl⟩
theorem number_oh {V : Vw} {H : Hp} {v : Value} {bs : List UInt8} (hv : Rd V H 1 v bs.length (bs.map byteV)) (h4 : ¬ bs.length = 4) : Does Tryz.prog 139 [v] V H (fun u V' H' => V' = V ∧ H' = H ∧ ∃ n e,u = .tuple #[.int .i64 n,.int .i64 e]) := by
  obtain ⟨p,c,rfl,_⟩ := hv.form
  exact number_o hv h4
end Go.Proofs.YtfgblingojgafaaGreat
namespace Go.Proofs.YtfgblingojgafaaGreat
open Go Go.K
attribute [local irreducible] Code.wp wpList Calls wpQuiet
theorem within_c {V : Vw} {n low high : Int}  : Does Tryz.prog 38 [.int .i64 n,.int .i64 low,.int .i64 high] V [] (Pv (.bool (decide (low ≤ n ∧ n ≤ high))) V []) := by
 refine Does.intro Tryz.func38 rfl rfl (le rfl) (fun B => ?_)
 refine Zs<|Zr<|Za Z<|Ze<|Zg<|Zs<|Zr<|Zm Z<|Zm Z<|Zv (Y.int Z Z Z)<|Zm Z<|?_
 rcases Zsplit (decide (n ≥ low)) with ⟨h1,g1⟩ | ⟨h1,g1⟩ <;> try simp only [kb] at g1
 ·refine Zp h1<|Zm Z<|Zp h1<|Zm Z<|Zp h1<|Zv (Y.int Z Z Z)<|Zv (Y.pick_t Z h1 Z)<|Za Z<|Ze<|Zg<|Zu<|Ex.keep []<|?_
  exact Ex.ret1 rfl rfl  ⟨congrArg Value.bool (decide_eq_decide.2 W),rfl,rfl⟩
 ·refine Zo h1 Z<|Zo h1 Z<|Zo h1 Z<|Zv (Y.pick_f Z h1 Z)<|Za Z<|Ze<|Zg<|Zu<|Ex.keep []<|?_
  exact Ex.ret1 rfl rfl  ⟨congrArg Value.bool (decide_eq_false W).symm,rfl,rfl⟩
end Go.Proofs.YtfgblingojgafaaGreat
namespace Go.K
section
variable {C : Cx} {V : Vw} {H : Hp} {L : Sl} {Q : Exit → Act → World → Prop} {ops : Array Oper} {os : List Oper}
variable {ty : TypeId} {pos : String} {aft : Array Edge} {d : Nat} {S0 : Sg}
theorem RunD.takeG {g i j dj : Nat} {t b0 : Bool} {op : Op} {v : Value} {listed : Array Bool} {b : Nat} {o : Obj} (m : Nat) (hm : S0[m]? = some (b,o)) (ho : ops[i]? = some ⟨some d,op,ty,pos,aft,some (j,t)⟩) (hj : ((ops[j]?).bind (·.dst)) = some dj) (hb : L.lookup dj = some (.bool b0)) (e : b0 = t) (hs : Region.noSelect ops = true) (hf : Region.free .any ops listed i = true)
    (hr : (Region.ready .any ops listed).contains i = true) (hQ : ∀ c a w,Q (.panic c) (a.put (some d) v) w → Q (.panic c) a w) (hd : d < C.n) (hk : KnAll V H S0) (hy : ∀ B,Yl (CK C [(b,o)] B) (VK [(b,o)]) [] L op ty v)
    (h : RunD C ops S0 g (listed.setIfInBounds i true) V H ((d,v) :: L) Q) : RunD C ops S0 (g + 1) listed V H L Q := fun a w q =>
  anyD_take ho (Region.noSelect_spec hs) hQ g listed a w (Region.free_spec ho hf) (by simpa using hr) (fun b o hb => (hk b o hb).st q.2)
    (.inl ⟨by simp only [Region.wanted,yielded,hj,Option.bind_some,q.1.lk dj _ hb,e,beq_self_eq_true],fun w' hw' => hy w' _ a w' (Vw.le_refl _) ⟨q.1,stK fun c oc hc => by rw [List.mem_singleton] at hc; cases hc; exact hw' b o (List.mem_of_getElem? hm)⟩ _ rfl rfl⟩) (h _ w ⟨q.1.put hd v,q.2⟩)
theorem RunD.pureG {g i j dj : Nat} {t b0 : Bool} {op : Op} {v : Value} {listed : Array Bool} (ho : ops[i]? = some ⟨some d,op,ty,pos,aft,some (j,t)⟩) (hj : ((ops[j]?).bind (·.dst)) = some dj) (hb : L.lookup dj = some (.bool b0)) (e : b0 = t) (hs : Region.noSelect ops = true) (hf : Region.free .any ops listed i = true)
    (hr : (Region.ready .any ops listed).contains i = true) (hQ : ∀ c a w,Q (.panic c) (a.put (some d) v) w → Q (.panic c) a w) (hd : d < C.n) (hk : KnAll V H S0) (hy : ∀ B,Yl (CK C [] B) (VK []) [] L op ty v)
    (h : RunD C ops S0 g (listed.setIfInBounds i true) V H ((d,v) :: L) Q) : RunD C ops S0 (g + 1) listed V H L Q := fun a w q =>
  anyD_take ho (Region.noSelect_spec hs) hQ g listed a w (Region.free_spec ho hf) (by simpa using hr) (fun b o hb => (hk b o hb).st q.2)
    (.inl ⟨by simp only [Region.wanted,yielded,hj,Option.bind_some,q.1.lk dj _ hb,e,beq_self_eq_true],fun w' _ => hy w' _ a w' (Vw.le_refl _) ⟨q.1,stK fun c oc hc => by cases hc⟩ _ rfl rfl⟩) (h _ w ⟨q.1.put hd v,q.2⟩)
end
end Go.K
namespace Go.Proofs.YtfgblingojgafaaGreat
open Go Go.K
attribute [local irreducible] Code.wp wpList Calls wpQuiet
theorem Engine2_mo : Tryz.prog.follows .mixedOrders = true := by kernel_rfl
theorem Engine2_fo43_1 : fieldOff Tryz.prog 43 1 = some 1 := by kernel_rfl
theorem Engine2_ts3 : scal Tryz.prog 3 = true := by kernel_rfl
theorem Engine2_fo43_2 : fieldOff Tryz.prog 43 2 = some 2 := by kernel_rfl
theorem Engine2_ts9 : scal Tryz.prog 9 = true := by kernel_rfl
theorem Engine2_fo90_7 : fieldOff Tryz.prog 90 7 = some 30 := by kernel_rfl
theorem Engine2_fo90_1 : fieldOff Tryz.prog 90 1 = some 13 := by kernel_rfl
theorem Engine2_ag58 : aggsz Tryz.prog 58 = some 3 := by kernel_rfl
theorem Engine2_ag43 : aggsz Tryz.prog 43 = some 8 := by kernel_rfl
theorem Engine2_fo90_3 : fieldOff Tryz.prog 90 3 = some 17 := by kernel_rfl
theorem Engine2_fo90_4 : fieldOff Tryz.prog 90 4 = some 18 := by kernel_rfl
theorem Engine2_fo90_5 : fieldOff Tryz.prog 90 5 = some 19 := by kernel_rfl
theorem Engine2_fo43_4 : fieldOff Tryz.prog 43 4 = some 4 := by kernel_rfl
theorem Engine2_fo90_9 : fieldOff Tryz.prog 90 9 = some 32 := by kernel_rfl
theorem Engine2_fo90_0 : fieldOff Tryz.prog 90 0 = some 0 := by kernel_rfl
theorem Engine2_fo35_6 : fieldOff Tryz.prog 35 6 = some 6 := by kernel_rfl
theorem Engine2_zm178 : zeroOf Tryz.prog 178 = some (.agg (Bk.mks fun _ => false).toArray) := by kernel_rfl
theorem Engine2_sz178 : sizeT Tryz.prog 178 = some 32 := by kernel_rfl
theorem Engine2_fo35_0 : fieldOff Tryz.prog 35 0 = some 0 := by kernel_rfl
theorem Engine2_ag178 : aggsz Tryz.prog 178 = some 32 := by kernel_rfl
theorem Engine2_fo90_6 : fieldOff Tryz.prog 90 6 = some 20 := by kernel_rfl
theorem Engine2_fo28_9 : fieldOff Tryz.prog 28 9 = some 9 := by kernel_rfl
theorem Engine2_ts26 : scal Tryz.prog 26 = true := by kernel_rfl
theorem Engine2_it3_24 : intT Tryz.prog 3 24 = some .u32 := by kernel_rfl
theorem Engine2_es25 : elemS Tryz.prog 25 = some (5,1) := by kernel_rfl
theorem Engine2_zo43 : zeroOf Tryz.prog 43 = some (.agg #[.int .u32 0,.int .i64 0,.string ⟨#[]⟩,.int .i64 0,.int .i64 0,.int .i64 0,.int .i64 0,.int .i64 0]) := by kernel_rfl
theorem Engine2_fo90_2 : fieldOff Tryz.prog 90 2 = some 16 := by kernel_rfl
theorem Engine2_ts38 : scal Tryz.prog 38 = true := by kernel_rfl
theorem Engine2_sz43 : sizeT Tryz.prog 43 = some 8 := by kernel_rfl
theorem Engine2_es22 : elemS Tryz.prog 22 = some (43,8) := by kernel_rfl
theorem Engine2_pl43 : placesS Tryz.prog 43 = some [(0,1),(1,1),(2,1),(3,1),(4,1),(5,1),(6,1),(7,1)] := by kernel_rfl
theorem Engine2_ts88 : scal Tryz.prog 88 = true := by kernel_rfl
theorem Engine2_fo90_8 : fieldOff Tryz.prog 90 8 = some 31 := by kernel_rfl
theorem Engine2_ts24 : scal Tryz.prog 24 = true := by kernel_rfl
theorem theirs_c {V : Vw} {bq tx : Nat} {q : Eg.Qy} {pv hv ov : Value} (hkq : Kn V [] bq (.cells (q.cells pv tx hv ov) 90 (0,0))) {l : Le}  : Does Tryz.prog 43 [(pZ bq),.agg ((Le.cells l).toArray)] V [] (Pv (.bool (q.th l)) V []) := by
 refine Does.intro Tryz.func43 rfl rfl (le rfl) (fun B => ?_)
 refine Zs<|Zr<|?_
 refine Run.box rfl (lt rfl) (fun b1 => ?_)
 refine Za Z<|Ze<|Zg<|Zs<|Tr.quiet Engine2_mo WK<|ZV (Y.fieldAddr Z Engine2_fo43_1)<|ZV (Y.load Z Engine2_ts3 (Kn.at 0 Z) Z)<|ZV (Y.int Z Z Z)<|ZM Z<|?_
 rcases Zsplit (l.bind == 2) with ⟨h2,g2⟩ | ⟨h2,g2⟩ <;> try simp only [kb] at g2
 ·refine ZP h2<|ZV (Y.fieldAddr Z Engine2_fo43_2)<|ZP h2<|ZV (Y.load Z Engine2_ts9 (Kn.at 0 Z) Z)<|ZP h2<|ZM Z<|ZP h2<|ZV (Y.nilCheck Z)<|ZP h2<|ZV (Y.fieldAddr Z Engine2_fo90_7)<|ZP h2<|ZV (Y.load Z Engine2_ts9 hkq.of_nil Z)<|ZP h2<|ZV (Y.eqStr Z Z)<|ZV (Y.pick_t Z h2 Z)<|ZA Z<|?_
  refine ZE<|Zg<|Zu<|Ex.keep []<|?_
  exact Ex.ret1 rfl rfl  ⟨congrArg Value.bool (by show _ = (l.bind == 2 && _); rw [h2]; rfl),rfl,rfl⟩
 ·refine ZO h2 Z<|ZO h2 Z<|ZO h2 Z<|ZO h2 Z<|ZO h2 Z<|ZO h2 Z<|ZO h2 Z<|ZV (Y.pick_f Z h2 Z)<|ZA Z<|ZE<|Zg<|Zu<|Ex.keep []<|?_
  exact Ex.ret1 rfl rfl  ⟨congrArg Value.bool (by show _ = (l.bind == 2 && _); rw [h2]; rfl),rfl,rfl⟩
theorem may_q {V : Vw} {bq tx : Nat} {q : Eg.Qy} {pv hv ov : Value} (hkq : Kn V [] bq (.cells (q.cells pv tx hv ov) 90 (0,0))) {l : Le}  : Does Tryz.prog 96 [(pZ bq),.agg ((Le.cells l).toArray)] V [] (Pv (.bool (q.may l)) V []) := by
 refine Does.intro Tryz.func96 rfl rfl (le rfl) (fun B => ?_)
 refine Zs<|Zr<|?_
 refine Run.box rfl (lt rfl) (fun b1 => ?_)
 refine Za Z<|Ze<|Zg<|Zs<|Tr.quiet Engine2_mo WK<|ZM Z<|ZV (Y.nilCheck Z)<|ZV (Y.fieldAddr Z Engine2_fo90_1)<|ZV (Y.loadAgg Z Engine2_ag58 hkq.of_nil Z)<|ZV (Y.loadAgg Z Engine2_ag43 (Kn.at 0 Z) Z)<|ZM Z<|ZV (Y.nilCheck Z)<|ZV (Y.fieldAddr Z Engine2_fo90_3)<|ZV (Y.load Z Engine2_ts3 hkq.of_nil Z)<|ZM Z<|ZV (Y.nilCheck Z)<|?_
 refine ZV (Y.fieldAddr Z Engine2_fo90_4)<|ZV (Y.load Z Engine2_ts3 hkq.of_nil Z)<|ZM Z<|ZV (Y.nilCheck Z)<|ZV (Y.fieldAddr Z Engine2_fo90_5)<|ZV (Y.load Z Engine2_ts3 hkq.of_nil Z)<|RunQ.call0 (l := [.tmp 8,.tmp 9,.tmp 13,.tmp 17,.tmp 21]) Z Z Z (lt Z) ((may_c (r := q.x.rules) (l := l) (state := q.state) (now := q.now) (entry := q.entry)).frame)<|ZA Z<|ZE<|Zg<|Zu<|Ex.keep []<|?_
 exact Ex.ret1 rfl rfl  ⟨rfl,rfl,rfl⟩
theorem time_q {V : Vw} {bq tx : Nat} {q : Eg.Qy} {pv hv ov : Value} (hkq : Kn V [] bq (.cells (q.cells pv tx hv ov) 90 (0,0))) {l : Le}  : Does Tryz.prog 98 [(pZ bq),.agg ((Le.cells l).toArray)] V [] (Pv (.int .i64 (q.tm l)) V []) := by
 refine Does.intro Tryz.func98 rfl rfl (le rfl) (fun B => ?_)
 refine Zs<|Zr<|?_
 refine Run.box rfl (lt rfl) (fun b1 => ?_)
 refine Za Z<|Ze<|Zg<|Zs<|Zr<|Za Z<|Ze<|Zg<|Zs<|Zs<|Zr<|Zm Z<|Zv (Y.loadAgg Z Engine2_ag43 (Kn.at 0 Z) Z)<|Run.call0 (l := [.tmp 6,.tmp 7]) Z Z Z (lt Z) ((theirs_c (l := l) hkq).frame)<|Ze<|Zg<|?_
 rcases Zsplit (q.th l) with ⟨h2,g2⟩ | ⟨h2,g2⟩ <;> try simp only [kb] at g2
 ·refine Tr.cond_t Z h2<|Zr<|Zv (Y.fieldAddr Z Engine2_fo43_4)<|Zv (Y.load Z Engine2_ts3 (Kn.at 0 Z) Z)<|Za Z<|Ze<|Zg<|Zs<|Tr.quiet Engine2_mo WK<|ZM Z<|ZV (Y.nilCheck Z)<|ZV (Y.fieldAddr Z Engine2_fo90_4)<|ZV (Y.load Z Engine2_ts3 hkq.of_nil Z)<|ZM Z<|ZV (Y.nilCheck Z)<|ZV (Y.fieldAddr Z Engine2_fo90_1)<|?_
  refine ZV (Y.loadAgg Z Engine2_ag58 hkq.of_nil Z)<|ZM Z<|ZV (Y.nilCheck Z)<|ZV (Y.fieldAddr Z Engine2_fo90_4)<|ZV (Y.load Z Engine2_ts3 hkq.of_nil Z)<|ZM Z<|ZV (Y.nilCheck Z)<|ZV (Y.fieldAddr Z Engine2_fo90_9)<|ZV (Y.load Z Engine2_ts3 hkq.of_nil Z)<|ZM Z<|RunQ.call0 (l := [.tmp 18,.tmp 22,.tmp 26,.tmp 27]) Z Z Z (lt Z) ((until_c (r := q.x.rules) (now := q.now) (want := q.want) (acked := l.acked)).frame)<|RunQ.call0 (l := [.tmp 14,.tmp 28]) Z Z Z (lt Z) (left_c_h (now := q.now) (til := q.x.rules.until_ q.now q.want l.acked))<|?_
  refine ZV (Y.min2 Z Z)<|ZA Z<|ZE<|Zg<|Zu<|Ex.keep []<|?_
  exact Ex.ret1 rfl rfl  ⟨congrArg (Value.int _) (Eg.tm_y h2),rfl,rfl⟩
 ·refine Tr.cond_f Z h2<|Zt<|Zg<|Zs<|Tr.quiet Engine2_mo WK<|ZM Z<|ZV (Y.nilCheck Z)<|ZV (Y.fieldAddr Z Engine2_fo90_4)<|ZV (Y.load Z Engine2_ts3 hkq.of_nil Z)<|ZM Z<|ZV (Y.nilCheck Z)<|ZV (Y.fieldAddr Z Engine2_fo90_1)<|ZV (Y.loadAgg Z Engine2_ag58 hkq.of_nil Z)<|ZM Z<|ZV (Y.nilCheck Z)<|ZV (Y.fieldAddr Z Engine2_fo90_4)<|?_
  refine ZV (Y.load Z Engine2_ts3 hkq.of_nil Z)<|ZM Z<|ZV (Y.nilCheck Z)<|ZV (Y.fieldAddr Z Engine2_fo90_9)<|ZV (Y.load Z Engine2_ts3 hkq.of_nil Z)<|ZM Z<|RunQ.call0 (l := [.tmp 18,.tmp 22,.tmp 26,.tmp 27]) Z Z Z (lt Z) ((until_c (r := q.x.rules) (now := q.now) (want := q.want) (acked := 0)).frame)<|RunQ.call0 (l := [.tmp 14,.tmp 28]) Z Z Z (lt Z) (left_c_h (now := q.now) (til := q.x.rules.until_ q.now q.want 0))<|ZV (Y.min2 Z Z)<|?_
  refine ZA Z<|ZE<|Zg<|Zu<|Ex.keep []<|?_
  exact Ex.ret1 rfl rfl  ⟨congrArg (Value.int _) (Eg.tm_n h2),rfl,rfl⟩
theorem mine_q {V : Vw} {bq tx : Nat} {q : Eg.Qy} {pv hv ov : Value} (hkq : Kn V [] bq (.cells (q.cells pv tx hv ov) 90 (0,0))) (hc : q.client.size ≤ 9223372036854775807)  : Does Tryz.prog 92 [(pZ bq)] V [] (Pv (.bool (Eg.mine q.x q.client)) V []) := by
 have hbk := Eg.buk_lt q.client.toList
 refine Does.intro Tryz.func92 rfl rfl (le rfl) (fun B => ?_)
 refine Zs<|Zr<|Za Z<|Ze<|Zg<|Zs<|Zr<|Zm Z<|Zv (Y.nilCheck Z)<|Zv (Y.fieldAddr Z Engine2_fo90_0)<|Zv (Y.fieldAddr Z Engine2_fo35_6)<|Zv (Y.load Z Engine2_ts3 hkq Z)<|Run.call0 (l := [.tmp 8]) Z Z Z (lt Z) ((first_c6 (n := q.x.first)).frame)<|?_
 refine Run.alloc Engine2_zm178 (lt rfl) (fun b1 => ?_)
 refine Run.heapTo (H' := [[(b1,.cells (Bk.mks fun _ => false).toArray 178 (0,0))]]) rfl<|Run.stAll (j := 0) Z Z Engine2_sz178 Z (Bk.mks_len _) (Bk.mks_len _) (Bk.one_mks _)<|Run.heapTo (H' := [[(b1,.cells (Bk.mks (Bk.fr q.x.first)).toArray 178 (0,0))]]) Z<|Ze<|Zg<|Zs<|Zs<|Zr<|Zm Z<|Zv (Y.nilCheck Z)<|Zv (Y.fieldAddr Z Engine2_fo90_0)<|Zv (Y.fieldAddr Z Engine2_fo35_0)<|Zv (Y.load Z Engine2_ts3 hkq.of_nil Z)<|Zv (Y.int Z Z Z)<|Ze<|?_
 refine Zg ?_
 rcases Zsplit (q.x.id == 1) with ⟨h2,g2⟩ | ⟨h2,g2⟩ <;> try simp only [kb] at g2
 ·refine Tr.cond_t Z h2<|Zr<|Zv (Y.ldAll Z Engine2_ag178 (Kn.at 0 rfl) (by first | exact Bk.mks_len _ | exact Bk.ins_len _ | exact Bk.nots_len _ _))<|Run.call0 (l := [.tmp 16]) Z Z Z (lt Z) ((not_c6 (f := Bk.fr q.x.first)).frame)<|Run.stAll (j := 0) Z Z Engine2_sz178 Z (Bk.mks_len _) (Bk.mks_len _) (Bk.one_mks _)<|Run.heapTo (H' := [[(b1,.cells (Bk.mks (fun k => !Bk.fr q.x.first k)).toArray 178 (0,0))]]) rfl<|Ze<|Zg<|Zs<|?_
  refine Tr.quiet Engine2_mo WK<|ZV (Y.ldAll Z Engine2_ag178 (Kn.at 0 rfl) (by first | exact Bk.mks_len _ | exact Bk.ins_len _ | exact Bk.nots_len _ _))<|ZM Z<|ZV (Y.nilCheck Z)<|ZV (Y.fieldAddr Z Engine2_fo90_7)<|ZV (Y.load Z Engine2_ts9 hkq.of_nil Z)<|RunQ.call0 (l := [.tmp 22]) Z Z Z (lt Z) ((bucket_c hc).frame)<|RunQ.call0 (l := [.tmp 18,.tmp 23]) rfl rfl rfl (lt rfl) ((has_c6 W).frame)<|ZA Z<|ZE<|Zg<|?_
  refine Zu<|Ex.keep []<|?_
  exact Ex.ret1 rfl rfl  ⟨congrArg Value.bool (Eg.mine_y W),rfl,rfl⟩
 ·refine Tr.cond_f Z h2<|Zt<|Zg<|Zs<|Tr.quiet Engine2_mo WK<|ZV (Y.ldAll Z Engine2_ag178 (Kn.at 0 rfl) (by first | exact Bk.mks_len _ | exact Bk.ins_len _ | exact Bk.nots_len _ _))<|ZM Z<|ZV (Y.nilCheck Z)<|ZV (Y.fieldAddr Z Engine2_fo90_7)<|ZV (Y.load Z Engine2_ts9 hkq.of_nil Z)<|RunQ.call0 (l := [.tmp 22]) Z Z Z (lt Z) ((bucket_c hc).frame)<|RunQ.call0 (l := [.tmp 18,.tmp 23]) rfl rfl rfl (lt rfl) ((has_c6 W).frame)<|?_
  refine ZA Z<|ZE<|Zg<|Zu<|Ex.keep []<|?_
  exact Ex.ret1 rfl rfl  ⟨congrArg Value.bool (Eg.mine_n W),rfl,rfl⟩
theorem chosen_c {V : Vw} {L : List Opn} {po : Option Addr} {co : Nat} (ho : Rd V [] 2 (.slice po L.length co) L.length (L.map Opn.cells).flatten) (hr : Opn.Rds V L) (hL : L.length ≤ 1000000) {bq tx : Nat} {q : Eg.Qy} {pv hv : Value} (hkq : Kn V [] bq (.cells (q.cells pv tx hv (.slice po L.length co)) 90 (0,0))) (hLp : L.map Opn.c = q.p.os) (hf : Oc.few (L.map Opn.c) = true)  : Does Tryz.prog 100 [(pZ bq)] V [] (fun u V' H' => V' = V ∧ H' = [] ∧ ∃ s,u = .tuple #[.int .u32 s,.bool q.told] ∧ (q.told = true → s = q.server)) := by
 refine Does.intro Tryz.func100 rfl rfl (le rfl) (fun B => ?_)
 refine Zs<|Zr<|Za Z<|Za Z<|Ze<|Zg<|Zs<|Zr<|Zm Z<|Zv (Y.nilCheck Z)<|Zv (Y.fieldAddr Z Engine2_fo90_6)<|Zv (Y.fieldAddr Z Engine2_fo28_9)<|Zv (Y.load Z Engine2_ts26 hkq Z)<|?_
 refine Run.call [] (l := [.tmp 13,.const (.int .i64 54)]) rfl rfl rfl (lt rfl) (find_c (code := 54) ho hr hL hf) (fun v1 V2 H2 _ hR => ?_)
 obtain ⟨hV,z2,s3,rfl,rfl,ho4⟩ := hR; replace hV := hV.symm; subst hV; obtain ⟨p5,c6,rfl⟩ := ho4.form
 refine Zm Z<|Zv (Y.extract Z Z)<|Zv (Y.extract Z Z)<|Za Z<|Za Z<|Ze<|Zg<|Zs<|Zr<|Zm Z<|?_
 by_cases h4 : (Oc.fd 54 (L.map Opn.c)).length = 4
 ·refine Run.call0 (l := [.tmp 18]) Z Z Z (lt Z) (number_h (bs := (Oc.fd 54 (L.map Opn.c))) (ho4.rd 0 Z) h4) ?_
  have hv4 := Cli.val4 h4
  refine Zm Z<|Zv (Y.extract Z Z)<|Zv (Y.extract Z Z)<|Za Z<|Za Z<|Ze<|Zg<|Zs<|Zr<|Zm Z<|Zv (Y.conv (val (Oc.fd 54 (L.map Opn.c))) rfl Engine2_it3_24 (wrap_u32 W))<|Zm Z<|Zv (Y.lenSl Z Engine2_es25)<|Zv (Y.int Z Z Z)<|Za Z<|Za Z<|?_
  refine Ze<|Zg<|Zu<|Ex.keep []<|?_
  exact Ex.ret2 rfl rfl rfl  ⟨rfl,rfl,_,by rw [show q.told = true from by unfold Eg.Qy.told; rw [← hLp]; exact beq_iff_eq.2 h4,show ((((Oc.fd 54 (L.map Opn.c)).length : Nat) : Int) == 4) = true from beq_iff_eq.2 W],fun _ => by unfold Eg.Qy.server; rw [hLp]⟩
 ·refine Run.call [0] (l := [.tmp 18]) rfl rfl rfl (lt rfl) (number_oh (bs := (Oc.fd 54 (L.map Opn.c))) (ho4.rd 0 rfl) h4) (fun v7 V2 H2 _ hR => ?_)
  obtain ⟨hV,rfl,n8,e9,rfl⟩ := hR; replace hV := hV.symm; subst hV
  refine Run.heapTo (H' := [s3]) Z<|Zm Z<|Zv (Y.extract Z Z)<|Zv (Y.extract Z Z)<|Za Z<|Za Z<|Ze<|Zg<|Zs<|Zr<|Zm Z<|Zv (Y.conv (IntKind.u32.wrap n8) Z Engine2_it3_24 Z)<|Zm Z<|Zv (Y.lenSl Z Engine2_es25)<|Zv (Y.int Z Z Z)<|Za Z<|?_
  refine Za Z<|Ze<|Zg<|Zu<|Ex.keep []<|?_
  exact Ex.ret2 rfl rfl rfl  ⟨rfl,rfl,_,by rw [show q.told = false from by unfold Eg.Qy.told; rw [← hLp]; exact beq_eq_false_iff_ne.2 h4,show ((((Oc.fd 54 (L.map Opn.c)).length : Nat) : Int) == 4) = false from beq_eq_false_iff_ne.2 W],fun h => absurd h (by rw [show q.told = false from by unfold Eg.Qy.told; rw [← hLp]; exact beq_eq_false_iff_ne.2 h4]; decide)⟩
theorem chosen_h {V : Vw} {bq tx : Nat} {q : Eg.Qy} {pv hv ov : Value} (hkq : Kn V [] bq (.cells (q.cells pv tx hv ov) 90 (0,0))) (hs : Pc.Rs V ov q.p.os) (hf : Oc.few q.p.os = true) : Does Tryz.prog 100 [(pZ bq)] V [] (fun u V' H' => V' = V ∧ H' = [] ∧ ∃ s,u = .tuple #[.int .u32 s,.bool q.told] ∧ (q.told = true → s = q.server)) := by
  obtain ⟨L,hLp,ho,hr⟩ := hs
  obtain ⟨po,co,rfl,_⟩ := ho.form
  have hf' : Oc.few (L.map Opn.c) = true := by rw [hLp]; exact hf
  have hL : L.length ≤ 1000000 := by have := (Oc.few_iff.1 hf').1; rw [List.length_map] at this; omega
  exact chosen_c ho hr hL hkq hLp hf'
theorem of_q {V : Vw} {bq tx : Nat} {q : Eg.Qy} {pv hv ov : Value} (hkq : Kn V [] bq (.cells (q.cells pv tx hv ov) 90 (0,0))) {a : Int} {s : Sg} (hin : Le.In 99 q.l tx s) {fi : FuncId} {bl fl : List Value} {f : Le → Bool} (hf : ∀ l : Le,Does Tryz.prog fi (bl ++ [.agg l.cells.toArray] ++ fl) V [] (Pv (.bool (f l)) V []))  : Does Tryz.prog 42 [(pZ bq),.int .u32 a,.func (.func fi) bl.toArray fl.toArray] V [s] (Pv (.tuple #[.agg (Eg.of f q.l a).1.cells.toArray,.bool (Eg.of f q.l a).2]) V [s]) := by
 refine Does.intro Tryz.func42 rfl rfl (le rfl) (fun B => ?_)
 refine Zs<|Zr<|?_
 refine Run.alloc Engine2_zo43 (lt rfl) (fun b1 => ?_)
 refine Za Z<|Ze<|Zg<|Zs<|Zr<|Zm Z<|Zv (Y.nilCheck Z)<|Zv (Y.fieldAddr Z Engine2_fo90_2)<|Zv (Y.load Z Engine2_ts38 hkq.of_nil Z)<|Zm Z<|Run.call0 (l := [.tmp 14,.tmp 15]) Z Z Z (lt Z) (Does.frame1 1 Z (get_o (a := a) hin))<|Zm Z<|Zv (Y.extract Z Z)<|Zv (Y.extract Z Z)<|?_
 refine Run.alloc Engine2_zo43 (lt rfl) (fun b2 => ?_)
 refine Run.store (s := [(b2,.cells ((Le.cells ((Le.getE q.l a).1)).toArray) 43 (0,0))]) Z Z Engine2_sz43 (i := 0) Z Z (le Z) Z Z ?_
 rcases Bool.eq_false_or_eq_true ((Le.getE q.l a).2 == 0) with hg | hg
 ·refine Za Z<|Ze<|Zg<|Zs<|Tr.anyD [(b2,.cells ((Le.cells ((Le.getE q.l a).1)).toArray) 43 (0,0))] Engine2_mo<|RunD.take (i := 0) 0 rfl rfl WK WK WK (fun _ _ _ h => h) (lt rfl) (ZK 0 Z) (fun _ => (Y.loadAgg rfl Engine2_ag43 Kn.vk1 rfl))<|?_
  refine RunD.pure (i := 1) rfl WK WK WK (fun _ _ _ h => h) (lt rfl) (ZK 0 Z) (fun _ => (Y.move rfl))<|RunD.pure (i := 2) rfl WK WK WK (fun _ _ _ h => h) (lt rfl) (ZK 0 Z) (fun _ => (Y.int rfl rfl rfl))<|RunD.pure (i := 3) rfl WK WK WK (fun _ _ _ h => h) (lt rfl) (ZK 0 Z) (fun _ => (Y.move rfl))<|?_
  refine RunD.pureG (i := 4) rfl rfl rfl hg WK WK WK (fun _ _ _ h => h) (lt rfl) (ZK 0 Z) (fun _ => (Y.move rfl))<|RunD.takeG (i := 5) 0 rfl rfl rfl rfl hg WK WK WK (fun _ _ _ h => h) (lt rfl) (ZK 0 Z) (fun _ => (Y.loadAgg rfl Engine2_ag43 Kn.vk1 rfl))<|?_
  refine RunD.one (i := 6) WK rfl  ?_
  refine Zp hg<|Run.call0 (l := [.tmp 24]) Z Z Z (lt Z) ((hf ((Le.getE q.l a).1)).frame)<|Ze<|Ex.anyD (ZK 0 Z)<|RunD.pure (i := 7) rfl WK WK WK (fun _ _ _ h => h) (lt rfl) (ZK 0 Z) (fun _ => (Y.pick_t rfl hg rfl))<|?_
  refine RunD.one (i := 8) WK rfl  ?_
  refine Run.store (s := [(b1,.cells ((Le.cells ((Le.getE q.l a).1)).toArray) 43 (0,0))]) Z Z Engine2_sz43 (i := 1) Z Z (le Z) Z Z<|Ze<|Ex.anyD (ZK 0 Z)<|RunD.pure (i := 9) rfl WK WK WK (fun _ _ _ h => h) (lt rfl) (ZK 0 Z) (fun _ => (Y.assign rfl))<|?_
  refine RunD.done WK<|Zg<|Zu<|?_
  exact Ex.retCell2 [2] rfl rfl rfl Engine2_ag43 (Kn.at 1 rfl) rfl ⟨by show _ = Value.tuple #[.agg (Le.cells (Le.getE q.l a).1).toArray,.bool ((Le.getE q.l a).2 == 0 && f (Le.getE q.l a).1)]; rw [hg]; rfl,rfl,rfl⟩
 ·refine Za Z<|Ze<|Zg<|Zs<|Tr.anyD [(b2,.cells ((Le.cells ((Le.getE q.l a).1)).toArray) 43 (0,0))] Engine2_mo<|RunD.take (i := 0) 0 rfl rfl WK WK WK (fun _ _ _ h => h) (lt rfl) (ZK 0 Z) (fun _ => (Y.loadAgg rfl Engine2_ag43 Kn.vk1 rfl))<|?_
  refine RunD.pure (i := 1) rfl WK WK WK (fun _ _ _ h => h) (lt rfl) (ZK 0 Z) (fun _ => (Y.move rfl))<|RunD.pure (i := 2) rfl WK WK WK (fun _ _ _ h => h) (lt rfl) (ZK 0 Z) (fun _ => (Y.int rfl rfl rfl))<|RunD.pure (i := 3) rfl WK WK WK (fun _ _ _ h => h) (lt rfl) (ZK 0 Z) (fun _ => (Y.move rfl))<|?_
  refine RunD.two (i := 4) (j := 5) WK rfl rfl  ?_ ?_
  ·refine Zo hg Z<|Ze<|Ex.anyD (ZK 0 Z)<|?_
   refine RunD.one (i := 5) WK rfl  ?_
   refine Zo hg Z<|Ze<|Ex.anyD (ZK 0 Z)<|?_
   refine RunD.one (i := 6) WK rfl  ?_
   refine Zo hg Z<|Ze<|Ex.anyD (ZK 0 Z)<|RunD.pure (i := 7) rfl WK WK WK (fun _ _ _ h => h) (lt rfl) (ZK 0 Z) (fun _ => (Y.pick_f rfl hg rfl))<|?_
   refine RunD.one (i := 8) WK rfl  ?_
   refine Run.store (s := [(b1,.cells ((Le.cells ((Le.getE q.l a).1)).toArray) 43 (0,0))]) Z Z Engine2_sz43 (i := 1) Z Z (le Z) Z Z<|Ze<|Ex.anyD (ZK 0 Z)<|RunD.pure (i := 9) rfl WK WK WK (fun _ _ _ h => h) (lt rfl) (ZK 0 Z) (fun _ => (Y.assign rfl))<|?_
   refine RunD.done WK<|Zg<|Zu<|?_
   exact Ex.retCell2 [2] rfl rfl rfl Engine2_ag43 (Kn.at 1 rfl) rfl ⟨by show _ = Value.tuple #[.agg (Le.cells (Le.getE q.l a).1).toArray,.bool ((Le.getE q.l a).2 == 0 && f (Le.getE q.l a).1)]; rw [hg]; rfl,rfl,rfl⟩
  ·refine Zo hg Z<|Ze<|Ex.anyD (ZK 0 Z)<|?_
   refine RunD.one (i := 4) WK rfl  ?_
   refine Zo hg Z<|Ze<|Ex.anyD (ZK 0 Z)<|?_
   refine RunD.one (i := 6) WK rfl  ?_
   refine Zo hg Z<|Ze<|Ex.anyD (ZK 0 Z)<|RunD.pure (i := 7) rfl WK WK WK (fun _ _ _ h => h) (lt rfl) (ZK 0 Z) (fun _ => (Y.pick_f rfl hg rfl))<|?_
   refine RunD.one (i := 8) WK rfl  ?_
   refine Run.store (s := [(b1,.cells ((Le.cells ((Le.getE q.l a).1)).toArray) 43 (0,0))]) Z Z Engine2_sz43 (i := 1) Z Z (le Z) Z Z<|Ze<|Ex.anyD (ZK 0 Z)<|RunD.pure (i := 9) rfl WK WK WK (fun _ _ _ h => h) (lt rfl) (ZK 0 Z) (fun _ => (Y.assign rfl))<|?_
   refine RunD.done WK<|Zg<|Zu<|?_
   exact Ex.retCell2 [2] rfl rfl rfl Engine2_ag43 (Kn.at 1 rfl) rfl ⟨by show _ = Value.tuple #[.agg (Le.cells (Le.getE q.l a).1).toArray,.bool ((Le.getE q.l a).2 == 0 && f (Le.getE q.l a).1)]; rw [hg]; rfl,rfl,rfl⟩
theorem first_q {V : Vw} {bq tx : Nat} {q : Eg.Qy} {pv hv ov : Value} (hkq : Kn V [] bq (.cells (q.cells pv tx hv ov) 90 (0,0))) {s : Sg} (hin : Le.In 99 q.l tx s) {fi : FuncId} {bl fl : List Value} {f : Le → Bool} (hf : ∀ l : Le,Does Tryz.prog fi (bl ++ [.agg l.cells.toArray] ++ fl) V [] (Pv (.bool (f l)) V []))  : Does Tryz.prog 94 [(pZ bq),.func (.func fi) bl.toArray fl.toArray] V [s] (Pv (.tuple #[.agg (Eg.fst f q.l).1.cells.toArray,.bool (Eg.fst f q.l).2]) V [s]) := by
 obtain ⟨_,hlm,_⟩ := id hin
 refine Does.intro Tryz.func94 rfl rfl (le rfl) (fun B => ?_)
 refine Zs<|Zr<|?_
 refine Run.alloc Engine2_zo43 (lt rfl) (fun b1 => ?_)
 refine Za Z<|Ze<|Zg<|Zs<|Zs<|Zr<|Zm Z<|Zv (Y.nilCheck Z)<|Zv (Y.fieldAddr Z Engine2_fo90_2)<|Zv (Y.load Z Engine2_ts38 hkq.of_nil Z)<|?_
 refine Run.call [1] (l := [.tmp 11]) rfl rfl rfl (lt rfl) (all_o hin) (fun v2 V2 H2 hle2 hR2 => ?_)
 obtain ⟨hV,q2,ho2,rfl⟩ := hR2; replace hV := hV.symm; subst hV
 obtain ⟨p2,c2,rfl⟩ := ho2.form
 refine Run.heapTo (H' := [[(b1,.cells #[.int .u32 0,.int .i64 0,.string ⟨#[]⟩,.int .i64 0,.int .i64 0,.int .i64 0,.int .i64 0,.int .i64 0] 43 (0,0))],q2,s]) Z<|Run.heapTo (H' := [[(b1,.cells #[.int .u32 0,.int .i64 0,.string ⟨#[]⟩,.int .i64 0,.int .i64 0,.int .i64 0,.int .i64 0,.int .i64 0] 43 (0,0))],q2,s]) Z<|Zv (Y.lenSl Z Engine2_es22)<|Zm Z<|Ze<|Zg<|Zb<|?_
 refine ZL (X := Nat) (fun z0 => V) (fun z0 => [[(b1,.cells #[.int .u32 0,.int .i64 0,.string ⟨#[]⟩,.int .i64 0,.int .i64 0,.int .i64 0,.int .i64 0,.int .i64 0] 43 (0,0))],q2,s]) (fun z0 => [(1,.func (.func fi) bl.toArray fl.toArray),(4,(pZ b1)),(5,.bool false),(12,.slice p2 (q.l).length c2),(13,.int .i64 (((q.l).length : Nat) : Int)),(14,.int .i64 (z0 : Int))]) (fun z0 => z0 ≤ q.l.length ∧ ∀ j,j < z0 → f (q.l.getD j Le.dflt) = false) (fun z0 => q.l.length - z0) (0 : Nat) ⟨Nat.zero_le _,fun j hj => absurd hj (Nat.not_lt_zero j)⟩ ?_
 rintro i1 ⟨hi,hno⟩
 refine Zs<|Zr<|Zv (Y.int Z Z Z)<|Ze<|Zg<|Zs<|?_
 rcases Zsplit (decide ((i1 : Int) < (((q.l).length : Nat) : Int))) with ⟨h3,g3⟩ | ⟨h3,g3⟩ <;> try simp only [kb] at g3
 ·refine Tr.cond_t Z h3<|Zt<|Zg<|Zs<|Zb<|Zs<|Zr<|Zv (Y.idxR i1 Z Z Engine2_es22 (ho2.rd 1 rfl) W W)<|Zv (Y.ldRA (vs := [.int .u32 ((q.l.getD i1 Le.dflt).addr),.int .i64 ((q.l.getD i1 Le.dflt).bind),.string ((q.l.getD i1 Le.dflt).client),.int .i64 ((q.l.getD i1 Le.dflt).till),.int .i64 ((q.l.getD i1 Le.dflt).acked),.int .i64 ((q.l.getD i1 Le.dflt).told),.int .i64 ((q.l.getD i1 Le.dflt).at_),.int .i64 ((q.l.getD i1 Le.dflt).ver)]) rfl Engine2_ag43 (ho2.rd 1 rfl) rfl WD (fun o ho => flatm_atA Le.len W Le.dflt o ho))<|?_
  refine Run.alloc Engine2_zo43 (lt rfl) (fun b4 => ?_)
  refine Run.store (s := [(b4,.cells ((Le.cells (q.l.getD i1 Le.dflt)).toArray) 43 (0,0))]) Z Z Engine2_sz43 (i := 0) Z Z (le Z) Z Z ?_
  refine Ze<|Zg<|Zs<|Zr<|Zm Z<|Zv (Y.loadAgg Z Engine2_ag43 (Kn.at 0 Z) Z)<|Run.call0 (l := [.tmp 19]) Z Z Z (lt Z) ((hf (q.l.getD i1 Le.dflt)).frame)<|Ze<|Zg<|?_
  rcases Zsplit (f (q.l.getD i1 Le.dflt)) with ⟨h5,g5⟩ | ⟨h5,g5⟩ <;> try simp only [kb] at g5
  ·refine Tr.cond_t Z h5<|Zs<|Zr<|Zv (Y.loadAgg Z Engine2_ag43 (Kn.at 0 Z) Z)<|Run.store (s := [(b1,.cells ((Le.cells (q.l.getD i1 Le.dflt)).toArray) 43 (0,0))]) Z Z Engine2_sz43 (i := 1) Z Z (le Z) Z Z<|?_
   refine Za Z<|Ze<|Zg<|Zu<|Zk<|Zn<|Zn<|Zk<|Zn<|?_
   exact Ex.retCell2 [3] rfl rfl rfl Engine2_ag43 (Kn.at 1 rfl) rfl ⟨by rw [Eg.fst_at (q := f) (l := q.l) hno W h5]; rfl,rfl,rfl⟩
  ·refine Tr.cond_f Z h5<|Zt<|Zc<|Zg<|Zr<|Zv (Y.add Z Z W)<|Zm Z<|Ze<|Ex.keep [1,1,1]<|?_
   exact ZR (i1 + 1 : Nat) ⟨by omega,upto_succ hno h5⟩ W
 ·refine Tr.cond_f Z h3<|Zx<|Zy<|Zy<|Zi<|Zg<|Zs<|Zr<|Zv (Y.buildS (l := []) Engine2_zo43 Engine2_pl43 Z Z)<|Run.store (s := [(b1,.cells #[.int .u32 0,.int .i64 0,.string ⟨#[]⟩,.int .i64 0,.int .i64 0,.int .i64 0,.int .i64 0,.int .i64 0] 43 (0,0))]) Z Z Engine2_sz43 (i := 0) Z Z (le Z) Z Z<|Za Z<|Ze<|Zg<|Zu<|?_
  exact Ex.retCell2 [2] rfl rfl rfl Engine2_ag43 (Kn.at 0 rfl) rfl ⟨by rw [Eg.fst_no (q := f) (l := q.l) fun j hj => hno j W]; rfl,rfl,rfl⟩
theorem disc1_q {V : Vw} {bq tx : Nat} {q : Eg.Qy} {pv hv ov : Value} (hkq : Kn V [] bq (.cells (q.cells pv tx hv ov) 90 (0,0))) {bp1 : Nat} (hk1 : Kn V [] bp1 (.cells #[(pZ bq)] 88 (0,0))) {s : Sg} (hin : Le.In 99 q.l tx s)  : Does Tryz.prog 93 [(pZ bp1)] V [s] (Pv (.tuple #[.agg (Eg.fst q.th q.l).1.cells.toArray,.bool (Eg.fst q.th q.l).2]) V [s]) := by
 refine Does.intro Tryz.func93 rfl rfl (le rfl) (fun B => ?_)
 refine Zs<|Zr<|?_
 refine Run.alloc Engine2_zo43 (lt rfl) (fun b1 => ?_)
 refine Za Z<|Ze<|Zg<|Zs<|Zr<|Zv (Y.load Z Engine2_ts88 hk1.of_nil Z)<|Zv (Y.load Z Engine2_ts88 hk1.of_nil Z)<|Zv (Y.makeFunc (l := [.tmp 4]) (l' := []) Z Z)<|Run.call0 (l := [.tmp 3,.tmp 5]) rfl rfl rfl (lt rfl) (Does.frame1 1 rfl (first_q (fi := 43) (bl := [(pZ bq)]) (fl := []) (f := q.th) hkq hin fun l => theirs_c hkq))<|Zv (Y.extract Z Z)<|Zv (Y.extract Z Z)<|Run.store (s := [(b1,.cells ((Le.cells ((Eg.fst q.th q.l).1)).toArray) 43 (0,0))]) Z Z Engine2_sz43 (i := 0) Z Z (le Z) Z Z<|?_
 refine Za Z<|Ze<|Zg<|Zu<|?_
 exact Ex.retCell2 [1] rfl rfl rfl Engine2_ag43 (Kn.at 0 rfl) rfl ⟨rfl,rfl,rfl⟩
theorem disc2_q {V : Vw} {bq tx : Nat} {q : Eg.Qy} {pv hv ov : Value} (hkq : Kn V [] bq (.cells (q.cells pv tx hv ov) 90 (0,0))) {bp1 : Nat} (hk1 : Kn V [] bp1 (.cells #[(pZ bq)] 88 (0,0))) {s : Sg} (hin : Le.In 99 q.l tx s)  : Does Tryz.prog 95 [(pZ bp1)] V [s] (Pv (.tuple #[.agg (Eg.of q.may q.l q.addr).1.cells.toArray,.bool (Eg.of q.may q.l q.addr).2]) V [s]) := by
 refine Does.intro Tryz.func95 rfl rfl (le rfl) (fun B => ?_)
 refine Zs<|Zr<|?_
 refine Run.alloc Engine2_zo43 (lt rfl) (fun b1 => ?_)
 refine Za Z<|Ze<|Zg<|Zs<|Tr.tail 10 Engine2_mo WK<|ZV (Y.load Z Engine2_ts88 hk1.of_nil Z)<|ZV (Y.load Z Engine2_ts88 hk1.of_nil Z)<|ZV (Y.nilCheck Z)<|ZV (Y.fieldAddr Z Engine2_fo90_8)<|ZV (Y.load Z Engine2_ts24 hkq.of_nil Z)<|ZV (Y.load Z Engine2_ts88 hk1.of_nil Z)<|ZV (Y.makeFunc (l := [.tmp 8]) (l' := []) Z Z)<|RunQ.call0 (l := [.tmp 3,.tmp 7,.tmp 9]) rfl rfl rfl (lt rfl) (Does.frame1 1 rfl (of_q (a := q.addr) (fi := 96) (bl := [(pZ bq)]) (fl := []) (f := q.may) hkq hin fun l => may_q hkq))<|?_
 refine ZV (Y.extract Z Z)<|ZV (Y.extract Z Z)<|RunQ.nil_run<|Run.store (s := [(b1,.cells ((Le.cells ((Eg.of q.may q.l q.addr).1)).toArray) 43 (0,0))]) Z Z Engine2_sz43 (i := 0) Z Z (le Z) Z Z<|?_
 refine Za Z<|Ze<|Zg<|Zu<|?_
 exact Ex.retCell2 [1] rfl rfl rfl Engine2_ag43 (Kn.at 0 rfl) rfl ⟨rfl,rfl,rfl⟩
theorem disc3_q {V : Vw} {bq tx : Nat} {q : Eg.Qy} {pv hv ov : Value} (hkq : Kn V [] bq (.cells (q.cells pv tx hv ov) 90 (0,0))) {bp1 : Nat} (hk1 : Kn V [] bp1 (.cells #[(pZ bq)] 88 (0,0))) {s : Sg} (hin : Le.In 99 q.l tx s)  : Does Tryz.prog 97 [(pZ bp1)] V [s] (Pv (.tuple #[.agg (Eg.fst q.may q.l).1.cells.toArray,.bool (Eg.fst q.may q.l).2]) V [s]) := by
 refine Does.intro Tryz.func97 rfl rfl (le rfl) (fun B => ?_)
 refine Zs<|Zr<|?_
 refine Run.alloc Engine2_zo43 (lt rfl) (fun b1 => ?_)
 refine Za Z<|Ze<|Zg<|Zs<|Zr<|Zv (Y.load Z Engine2_ts88 hk1.of_nil Z)<|Zv (Y.load Z Engine2_ts88 hk1.of_nil Z)<|Zv (Y.makeFunc (l := [.tmp 4]) (l' := []) Z Z)<|Run.call0 (l := [.tmp 3,.tmp 5]) rfl rfl rfl (lt rfl) (Does.frame1 1 rfl (first_q (fi := 96) (bl := [(pZ bq)]) (fl := []) (f := q.may) hkq hin fun l => may_q hkq))<|Zv (Y.extract Z Z)<|Zv (Y.extract Z Z)<|Run.store (s := [(b1,.cells ((Le.cells ((Eg.fst q.may q.l).1)).toArray) 43 (0,0))]) Z Z Engine2_sz43 (i := 0) Z Z (le Z) Z Z<|?_
 refine Za Z<|Ze<|Zg<|Zu<|?_
 exact Ex.retCell2 [1] rfl rfl rfl Engine2_ag43 (Kn.at 0 rfl) rfl ⟨rfl,rfl,rfl⟩
theorem req1_q {V : Vw} {bq tx : Nat} {q : Eg.Qy} {pv hv ov : Value} (hkq : Kn V [] bq (.cells (q.cells pv tx hv ov) 90 (0,0))) {bp1 : Nat} (hk1 : Kn V [] bp1 (.cells #[(pZ bq)] 88 (0,0))) {l : Le}  : Does Tryz.prog 101 [.agg ((Le.cells l).toArray),(pZ bp1)] V [] (Pv (.bool (q.th l || q.may l)) V []) := by
 refine Does.intro Tryz.func101 rfl rfl (le rfl) (fun B => ?_)
 refine Zs<|Zr<|?_
 refine Run.box rfl (lt rfl) (fun b1 => ?_)
 refine Za Z<|Ze<|Zg<|Zs<|Zr<|Zv (Y.load Z Engine2_ts88 hk1.of_nil Z)<|Zv (Y.loadAgg Z Engine2_ag43 (Kn.at 0 Z) Z)<|Run.call0 (l := [.tmp 4,.tmp 5]) Z Z Z (lt Z) ((theirs_c (l := l) hkq).frame)<|Zm Z<|?_
 rcases Zsplit (q.th l) with ⟨h2,g2⟩ | ⟨h2,g2⟩ <;> try simp only [kb] at g2
 ·refine Zo h2 Z<|Zo h2 Z<|Zo h2 Z<|Zv (Y.pick_t Z h2 Z)<|Za Z<|Ze<|Zg<|Zu<|Ex.keep []<|?_
  exact Ex.ret1 rfl rfl  ⟨congrArg Value.bool (by rw [h2]; rfl),rfl,rfl⟩
 ·refine Zp h2<|Zv (Y.load Z Engine2_ts88 hk1.of_nil Z)<|Zp h2<|Zv (Y.loadAgg Z Engine2_ag43 (Kn.at 0 Z) Z)<|Zp h2<|Run.call0 (l := [.tmp 8,.tmp 9]) Z Z Z (lt Z) ((may_q (l := l) hkq).frame)<|Zv (Y.pick_f Z h2 Z)<|Za Z<|Ze<|Zg<|Zu<|Ex.keep []<|?_
  exact Ex.ret1 rfl rfl  ⟨congrArg Value.bool (by rw [h2]; rfl),rfl,rfl⟩
end Go.Proofs.YtfgblingojgafaaGreat
namespace Go.Proofs.YtfgblingojgafaaGreat
open Go Go.K
attribute [local irreducible] Code.wp wpList Calls wpQuiet
theorem Pool_ft3_32 : fltT Tryz.prog 3 32 = some .f64 := by kernel_rfl
theorem Pool_it32_3 : intT Tryz.prog 32 3 = some .i64 := by kernel_rfl
theorem part_c {n : Int} {y : Nat} {V : Vw} : Does Tryz.prog 175 [.int .i64 n,.float .f64 y] V [] (Pv (.int .i64 (Fl.part n y)) V []) := by
 refine Does.intro Tryz.func175 rfl rfl (le rfl) (fun B => ?_)
 refine Zs<|Zr<|Za Z<|Ze<|Zg<|Zs<|Zr<|Zm Z<|Zv (Y.min2 Z Z)<|Za Z<|Ze<|Zg<|Zs<|Zb<|Zs<|Zr<|?_
 refine Zm Z<|Zv (Y.int Z Z Z)<|Zm Z<|?_
 rcases Zsplit (decide ((min n 1099511627776) < 1)) with ⟨h1,g1⟩ | ⟨h1,g1⟩ <;> try simp only [kb] at g1
 ·refine Zo h1 Z<|Zo h1 Z<|Zo h1 Z<|Zv (Y.pick_t Z h1 Z)<|Za Z<|Ze<|Zg<|Tr.cond_t Z Z<|Zs<|Zr<|Za Z<|Ze<|Zg<|Zu<|Zk<|Zn<|?_
  exact Ex.ret1 rfl rfl  ⟨by rw [show Fl.part n y = _ from Fl.part_a rfl W],rfl,rfl⟩
 ·refine Zp h1<|Zm Z<|Zp h1<|Zv (Y.fcmp (r := .bool (Fl.D.order y 0 == some .gt)) Z Z Z)<|Zp h1<|Zv (Y.not Z)<|Zv (Y.pick_f Z h1 Z)<|Za Z<|Ze<|Zg<|?_
  rcases Zsplit (Fl.D.order y 0 == some .gt) with ⟨h2,g2⟩ | ⟨h2,g2⟩ <;> try simp only [kb] at g2
  ·refine Tr.cond_f Z (congrArg Bool.not h2)<|Zs<|Zr<|Zm Z<|Zv (Y.fcmp (r := .bool (Fl.D.order y 4607182418800017408 == some .gt || Fl.D.order y 4607182418800017408 == some .eq)) Z Z Z)<|Za Z<|Ze<|Zg<|?_
   rcases Zsplit (Fl.D.order y 4607182418800017408 == some .gt || Fl.D.order y 4607182418800017408 == some .eq) with ⟨h3,g3⟩ | ⟨h3,g3⟩ <;> try simp only [kb] at g3
   ·refine Tr.cond_t Z h3<|Zs<|Zr<|Zm Z<|Za Z<|Ze<|Zg<|Zu<|Zk<|Zn<|?_
    exact Ex.ret1 rfl rfl  ⟨by rw [show Fl.part n y = _ from Fl.part_c rfl W h2 h3],rfl,rfl⟩
   ·refine Tr.cond_f Z h3<|Zt<|Zc<|Zg<|Zs<|Zr<|?_
    obtain ⟨r,hm,hk,hk0,hnn,hord⟩ := Fl.part_facts (n := min n 1099511627776) (y := y) W W (h2) h3
    refine Zm Z<|Zv (Y.convIF Z Pool_ft3_32)<|Zm Z<|Zv (Y.farith (r := r) Z Z hm)<|Zv (Y.convFI (n := Fl.partK (min n 1099511627776) y) Z Pool_it32_3 hk)<|Zm Z<|Zv (Y.min2 Z Z)<|Za Z<|Ze<|Zg<|Zu<|?_
    exact Ex.ret1 rfl rfl  ⟨by rw [show Fl.part n y = _ from Fl.part_d rfl W h2 h3],rfl,rfl⟩
  ·refine Tr.cond_t Z (congrArg Bool.not h2)<|Zs<|Zr<|Za Z<|Ze<|Zg<|Zu<|Zk<|Zn<|?_
   exact Ex.ret1 rfl rfl  ⟨by rw [show Fl.part n y = _ from Fl.part_b h2],rfl,rfl⟩
end Go.Proofs.YtfgblingojgafaaGreat
namespace Go.Proofs.YtfgblingojgafaaGreat
open Go Go.K
attribute [local irreducible] Code.wp wpList Calls wpQuiet
theorem tms_c {V : Vw} {n : Int} {y z : Nat}  : Does Tryz.prog 149 [.int .i64 n,.float .f64 y,.float .f64 z] V [] (Pv (.tuple #[.int .i64 (Fl.part n y),.int .i64 (max (Fl.part n y) (Fl.part n z))]) V []) := by
 refine Does.intro Tryz.func149 rfl rfl (le rfl) (fun B => ?_)
 refine Zs<|Zr<|Za Z<|Za Z<|Ze<|Zg<|Zs<|Zr<|Zm Z<|Zm Z<|Run.call0 (l := [.tmp 9,.tmp 10]) Z Z Z (lt Z) ((part_c (n := n) (y := y)).frame)<|Za Z<|Ze<|Zg<|Zs<|Zr<|?_
 refine Zm Z<|Zm Z<|Zm Z<|Zm Z<|Run.call0 (l := [.tmp 14,.tmp 15]) Z Z Z (lt Z) ((part_c (n := n) (y := z)).frame)<|Zv (Y.max2 Z Z)<|Za Z<|Za Z<|Ze<|Zg<|Zu<|Ex.keep []<|?_
 exact Ex.ret2 rfl rfl rfl  ⟨by first | rfl | (congr 2; try (congr 1; first | rfl | omega)),rfl,rfl⟩
end Go.Proofs.YtfgblingojgafaaGreat
