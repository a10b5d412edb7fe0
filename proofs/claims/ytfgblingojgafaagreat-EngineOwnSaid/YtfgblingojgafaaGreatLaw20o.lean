/- The statement EngineOwn, walked.
Conditions: as each theorem names them. -/
import Derived.Test.YtfgblingojgafaaGreatProg
import Derived.Test.YtfgblingojgafaaGreatSortnum
import Derived.Test.YtfgblingojgafaaGreatLaw20n
import Derived.Test.YtfgblingojgafaaGreatTable4
import Derived.Test.YtfgblingojgafaaGreatTimes
set_option linter.unusedSimpArgs false
set_option linter.unusedVariables false
set_option maxRecDepth 4000
namespace Go.Proofs.YtfgblingojgafaaGreat
open Go Go.K
attribute [local irreducible] Code.wp wpList Calls wpQuiet
theorem Law20o_zo35 : zeroOf Tryz.prog 35 = some (.agg #[.int .i64 0,.int .i64 0,.int .i64 0,.int .u32 0,.int .i64 0,.int .i64 0,.int .i64 0,.float .f64 0,.float .f64 0,.float .f64 0,.float .f64 0,.slice none 0 0,.int .i64 0]) := by kernel_rfl
theorem Law20o_sz35 : sizeT Tryz.prog 35 = some 13 := by kernel_rfl
theorem Law20o_ag35 : aggsz Tryz.prog 35 = some 13 := by kernel_rfl
theorem Law20o_ag30 : aggsz Tryz.prog 30 = some 13 := by kernel_rfl
theorem Law20o_fo30_0 : fieldOff Tryz.prog 30 0 = some 0 := by kernel_rfl
theorem Law20o_ts3 : scal Tryz.prog 3 = true := by kernel_rfl
theorem Law20o_fo30_1 : fieldOff Tryz.prog 30 1 = some 1 := by kernel_rfl
theorem Law20o_fo30_2 : fieldOff Tryz.prog 30 2 = some 2 := by kernel_rfl
theorem Law20o_fo30_3 : fieldOff Tryz.prog 30 3 = some 3 := by kernel_rfl
theorem Law20o_ag28 : aggsz Tryz.prog 28 = some 10 := by kernel_rfl
theorem Law20o_zo45 : zeroOf Tryz.prog 45 = some (.agg #[.bool false,.int .i64 0,.int .u32 0,.int .i64 0,.int .i64 0,.int .u32 0,.int .u32 0,.int .u32 0,.int .u32 0,.slice none 0 0,.slice none 0 0,.bool false,.int .u32 0,.int .i64 0,.string ⟨#[]⟩,.int .i64 0,.int .i64 0,.int .i64 0,.int .i64 0,.int .i64 0,.int .i64 0]) := by kernel_rfl
theorem Law20o_sz45 : sizeT Tryz.prog 45 = some 21 := by kernel_rfl
theorem Law20o_fo45_0 : fieldOff Tryz.prog 45 0 = some 0 := by kernel_rfl
theorem Law20o_ts4 : scal Tryz.prog 4 = true := by kernel_rfl
theorem Law20o_fo45_1 : fieldOff Tryz.prog 45 1 = some 1 := by kernel_rfl
theorem Law20o_fo28_5 : fieldOff Tryz.prog 28 5 = some 5 := by kernel_rfl
theorem Law20o_ts24 : scal Tryz.prog 24 = true := by kernel_rfl
theorem Law20o_zo43 : zeroOf Tryz.prog 43 = some (.agg #[.int .u32 0,.int .i64 0,.string ⟨#[]⟩,.int .i64 0,.int .i64 0,.int .i64 0,.int .i64 0,.int .i64 0]) := by kernel_rfl
theorem Law20o_sz43 : sizeT Tryz.prog 43 = some 8 := by kernel_rfl
theorem Law20o_fo43_1 : fieldOff Tryz.prog 43 1 = some 1 := by kernel_rfl
theorem Law20o_fo43_2 : fieldOff Tryz.prog 43 2 = some 2 := by kernel_rfl
theorem Law20o_ts9 : scal Tryz.prog 9 = true := by kernel_rfl
theorem Law20o_fo35_0 : fieldOff Tryz.prog 35 0 = some 0 := by kernel_rfl
theorem Law20o_fo35_1 : fieldOff Tryz.prog 35 1 = some 1 := by kernel_rfl
theorem Law20o_fo35_2 : fieldOff Tryz.prog 35 2 = some 2 := by kernel_rfl
theorem Law20o_zo58 : zeroOf Tryz.prog 58 = some (.agg #[.int .i64 0,.int .i64 0,.int .i64 0]) := by kernel_rfl
theorem Law20o_pl58 : placesS Tryz.prog 58 = some [(0,1),(1,1),(2,1)] := by kernel_rfl
theorem Law20o_sz58 : sizeT Tryz.prog 58 = some 3 := by kernel_rfl
theorem Law20o_ag58 : aggsz Tryz.prog 58 = some 3 := by kernel_rfl
theorem Law20o_ag43 : aggsz Tryz.prog 43 = some 8 := by kernel_rfl
set_option maxHeartbeats 1000000 in
theorem own20_c {V : Vw} {id : Int} {ls : List Le} {p2 : Option Addr} {c2 : Nat} (hv2 : Rd V [] 8 (.slice p2 ls.length c2) ls.length (ls.flatMap Le.cells)) (hl9 : ls.length ≤ 9223372036854775807) (hcs : ∀ x,x ∈ ls → x.client.size ≤ 9223372036854775807) {c : Eg.Cs} (hco : Eg.Csok V c)  : Does Tryz.prog 4 [.int .i64 id,.slice p2 ls.length c2,.agg c.cells] V [] (fun v _ _ => v = .bool true) := by
 refine Does.intro Tryz.func4 rfl rfl (le rfl) (fun B => ?_)
 refine Zs<|Zr<|?_
 refine Run.box rfl (lt rfl) (fun b1 => ?_)
 refine Za Z<|Ze<|Zg<|Zs<|Zr<|?_
 refine Run.call [] (l := []) rfl rfl rfl (lt rfl) awake20_c (fun v2 V2 H2 hle2 hR2 => ?_)
 obtain ⟨_,rfl,rfl⟩ := hR2
 obtain ⟨W2,hVe⟩ : ∃ Vz : Vw,Vz = V2 := ⟨_,rfl⟩; subst hVe
 replace hv2 := hv2.le hle2
 replace hco := hco.le hle2
 have hVle := hle2
 refine Run.heapTo (H' := [[(b1,.cells (Eg.Cs.cells c) 30 (0,0))]]) Z<|Run.heapTo (H' := [[(b1,.cells (Eg.Cs.cells c) 30 (0,0))]]) Z<|?_
 refine Za Z<|Ze<|Zg<|Zs<|Zr<|Zm Z<|Zv (Y.int (r := .int .i64 (id % 2)) rfl rfl (by simp only [intRes]; rw [and_low2 id 1 2 1 WD rfl rfl]))<|?_
 refine Run.call [] (l := [.tmp 20]) rfl rfl rfl (lt rfl) (site20_c (id := id % 2)) (fun v3 V3 H3 hle3 hR3 => ?_)
 obtain ⟨_,rfl,pv3,rfl,hpv3⟩ := hR3; obtain ⟨pp3,cp3,rfl,_⟩ := hpv3.form
 obtain ⟨W3,hVe⟩ : ∃ Vz : Vw,Vz = V3 := ⟨_,rfl⟩; subst hVe
 replace hv2 := hv2.le hle3
 replace hco := hco.le hle3
 replace hVle := Vw.le_trans hVle hle3
 refine Run.heapTo (H' := [[(b1,.cells (Eg.Cs.cells c) 30 (0,0))]]) Z<|Run.heapTo (H' := [[(b1,.cells (Eg.Cs.cells c) 30 (0,0))]]) Z<|?_
 refine Run.alloc Law20o_zo35 (lt rfl) (fun b4 => ?_)
 refine Run.store (s := [(b4,.cells #[.int .i64 ((Eg.si (id % 2)).id),.int .i64 ((Eg.si (id % 2)).lead),.int .i64 ((Eg.si (id % 2)).guard),.int .u32 ((Eg.si (id % 2)).server),.int .i64 ((Eg.si (id % 2)).want),.int .i64 ((Eg.si (id % 2)).most),.int .i64 ((Eg.si (id % 2)).first),.float .f64 ((Eg.si (id % 2)).part),.float .f64 ((Eg.si (id % 2)).slack),.float .f64 ((Eg.si (id % 2)).renew),.float .f64 ((Eg.si (id % 2)).rebind),.slice pp3 1 cp3,.int .i64 ((Eg.si (id % 2)).room)] 35 (0,0))]) Z Z Law20o_sz35 (i := 0) Z Z (le Z) Z Z ?_
 refine Ze<|Zg<|Zs<|Zr<|Zv (Y.loadAgg Z Law20o_ag35 (Kn.at 0 Z) Z)<|Zm Z<|Zv (Y.loadAgg Z Law20o_ag30 (Kn.at 1 Z) Z)<|Run.call0 (l := [.tmp 22,.tmp 23,.tmp 24]) Z Z Z (lt Z) ((long20_c (x := (Eg.si (id % 2))) (c := c) hv2 hl9 hco.r.hw hco.r.os).frame)<|Za Z<|Ze<|Zg<|Zs<|Zs<|Zr<|Zm Z<|Zv (Y.not Z)<|?_
 refine Zm Z<|Zp Z<|Zm Z<|Zv (Y.pick_f Z Z Z)<|Ze<|Zg<|?_
 rcases Zsplit (Eg.long c.p ls (Eg.si (id % 2)).pool.length) with ⟨h5,g5⟩ | ⟨h5,g5⟩ <;> try simp only [kb] at g5
 ·refine Tr.cond_t Z h5<|Zs<|Zr<|Zm Z<|Za Z<|Ze<|Zg<|Zu<|Zn<|Ex.keep []<|?_
  exact Ex.ret1 rfl rfl  rfl
 ·obtain ⟨hfew,hlen,hnp⟩ := Eg.long_f h5
  have hw3 : c.p.hw.length < 1000 := by have h := hfew; simp only [Pc.few,Bool.and_eq_true,decide_eq_true_eq] at h; omega
  refine Tr.cond_f Z h5<|Zt<|Zg<|Zs<|Zr<|Zv (Y.loadAgg Z Law20o_ag35 (Kn.at 0 Z) Z)<|Zm Z<|?_
  refine Run.call [] (l := [.tmp 33,.tmp 34]) rfl rfl rfl (lt rfl) (made20_c (x := (Eg.si (id % 2))) hpv3 (Nat.le_of_ble_eq_true rfl) Eg.oks6 hv2 hl9 hcs) (fun v6 V6 H6 hle6 hR6 => ?_)
  rcases hR6 with ⟨_,⟨hpn,_⟩ | ⟨_,l,tx,rx,s1,pl,cl,ql,rfl,hin,hl,had,hab,rfl⟩⟩
  · exact absurd (by rw [show ((Eg.si (id % 2))).pool = [⟨1,6⟩] from rfl,Eg.pool6]) hpn
  obtain ⟨W6,hVe⟩ : ∃ Vz : Vw,Vz = V6 := ⟨_,rfl⟩; subst hVe
  replace hv2 := hv2.le hle6
  replace hco := hco.le hle6
  replace hpv3 := hpv3.le hle6
  replace hVle := Vw.le_trans hVle hle6
  have hin2 := hin
  obtain ⟨hris,hlm3,_⟩ := hin2
  refine Run.heapTo (H' := [[(b4,.cells #[.int .i64 ((Eg.si (id % 2)).id),.int .i64 ((Eg.si (id % 2)).lead),.int .i64 ((Eg.si (id % 2)).guard),.int .u32 ((Eg.si (id % 2)).server),.int .i64 ((Eg.si (id % 2)).want),.int .i64 ((Eg.si (id % 2)).most),.int .i64 ((Eg.si (id % 2)).first),.float .f64 ((Eg.si (id % 2)).part),.float .f64 ((Eg.si (id % 2)).slack),.float .f64 ((Eg.si (id % 2)).renew),.float .f64 ((Eg.si (id % 2)).rebind),.slice pp3 1 cp3,.int .i64 ((Eg.si (id % 2)).room)] 35 (0,0))],[(b1,.cells (Eg.Cs.cells c) 30 (0,0))],s1,[(rx,.cells #[.slice pl l.length cl] 128 (0,0))],ql]) Z ?_
  refine Zm Z<|Zv (Y.extract Z Z)<|Zv (Y.extract Z Z)<|Za Z<|Za Z<|Ze<|Zg<|Zs<|Zr<|Zv (Y.loadAgg Z Law20o_ag35 (Kn.at 0 Z) Z)<|Zm Z<|Zv (Y.fieldAddr Z Law20o_fo30_0)<|Zv (Y.load Z Law20o_ts3 (Kn.at 1 Z) Z)<|Zv (Y.fieldAddr Z Law20o_fo30_1)<|Zv (Y.load Z Law20o_ts3 (Kn.at 1 Z) Z)<|Zv (Y.fieldAddr Z Law20o_fo30_2)<|?_
  refine Zv (Y.load Z Law20o_ts3 (Kn.at 1 Z) Z)<|Zv (Y.fieldAddr Z Law20o_fo30_3)<|Zv (Y.loadAgg Z Law20o_ag28 (Kn.at 1 Z) Z)<|?_
  refine Run.call [2] (l := [.tmp 38,.tmp 39,.tmp 41,.tmp 43,.tmp 45,.tmp 47]) rfl rfl rfl (lt rfl) (answer_t (x := (Eg.si (id % 2))) (p := c.p) (l := l) (state := c.state) (now := c.now) (entry := c.entry) hpv3 (Nat.le_of_ble_eq_true rfl) Eg.oks6 hco.r hfew hco.ci (show (0 : Int) ≤ 9 ∧ (9 : Int) ≤ 4294967295 by decide) hin (Eg.la_of had Eg.oks6)) (fun v7 V7 H7 hle7 hR7 => ?_)
  obtain ⟨_,rfl,hv7,ov7,rfl,hRa⟩ := hR7
  obtain ⟨W7,hVe⟩ : ∃ Vz : Vw,Vz = V7 := ⟨_,rfl⟩; subst hVe
  replace hv2 := hv2.le hle7
  replace hco := hco.le hle7
  replace hpv3 := hpv3.le hle7
  replace hVle := Vw.le_trans hVle hle7
  obtain ⟨⟨pg7,cg7,rfl⟩,pk7,nk7,ck7,rfl⟩ := hRa.forms
  generalize hA : Eg.ans ((Eg.si (id % 2))) l c.state c.now c.entry c.p = A at hRa ⊢
  have hC : Eg.Case ((Eg.si (id % 2))) l c A := by rw [← hA]; exact Eg.cases _ hris c
  clear hA
  refine Run.heapTo (H' := [[(b4,.cells #[.int .i64 ((Eg.si (id % 2)).id),.int .i64 ((Eg.si (id % 2)).lead),.int .i64 ((Eg.si (id % 2)).guard),.int .u32 ((Eg.si (id % 2)).server),.int .i64 ((Eg.si (id % 2)).want),.int .i64 ((Eg.si (id % 2)).most),.int .i64 ((Eg.si (id % 2)).first),.float .f64 ((Eg.si (id % 2)).part),.float .f64 ((Eg.si (id % 2)).slack),.float .f64 ((Eg.si (id % 2)).renew),.float .f64 ((Eg.si (id % 2)).rebind),.slice pp3 1 cp3,.int .i64 ((Eg.si (id % 2)).room)] 35 (0,0))],[(b1,.cells (Eg.Cs.cells c) 30 (0,0))],[(rx,.cells #[.slice pl l.length cl] 128 (0,0))],ql,s1]) Z ?_
  refine Run.alloc Law20o_zo45 (lt rfl) (fun b8 => ?_)
  refine Run.stAll (l2 := [.bool A.send,.int .i64 A.reply.op,.int .u32 A.reply.xid,.int .i64 A.reply.secs,.int .i64 A.reply.flags,.int .u32 A.reply.ci,.int .u32 A.reply.yi,.int .u32 A.reply.si,.int .u32 A.reply.gi,.slice pg7 A.reply.hw.length cg7,.slice pk7 nk7 ck7,.bool A.change,.int .u32 A.lease.addr,.int .i64 A.lease.bind,.string A.lease.client,.int .i64 A.lease.till,.int .i64 A.lease.acked,.int .i64 A.lease.told,.int .i64 A.lease.at_,.int .i64 A.lease.ver,.int .i64 A.pot]) (j := 0) Z Z Law20o_sz45 Z Z Z Z ?_
  refine Run.heapTo (H' := [[(b8,.cells (An.cells A (.slice pg7 A.reply.hw.length cg7) (.slice pk7 nk7 ck7)) 45 (0,0))],[(b4,.cells #[.int .i64 ((Eg.si (id % 2)).id),.int .i64 ((Eg.si (id % 2)).lead),.int .i64 ((Eg.si (id % 2)).guard),.int .u32 ((Eg.si (id % 2)).server),.int .i64 ((Eg.si (id % 2)).want),.int .i64 ((Eg.si (id % 2)).most),.int .i64 ((Eg.si (id % 2)).first),.float .f64 ((Eg.si (id % 2)).part),.float .f64 ((Eg.si (id % 2)).slack),.float .f64 ((Eg.si (id % 2)).renew),.float .f64 ((Eg.si (id % 2)).rebind),.slice pp3 1 cp3,.int .i64 ((Eg.si (id % 2)).room)] 35 (0,0))],[(b1,.cells (Eg.Cs.cells c) 30 (0,0))],[(rx,.cells #[.slice pl l.length cl] 128 (0,0))],ql,s1]) Z ?_
  refine Ze<|Zg<|Zs<|Zs<|Zr<|?_
  rcases Eg.Case.eq hC with hE | ⟨m,hb,hf,hE⟩ | ⟨k,hk,hf,hE⟩ | ⟨y,hg,hf,hE⟩ | ⟨y,hg,hf,hE⟩
  ·have hsend : A.send = false := by rw [hE] <;> rfl
   have hchg : A.change = false := by rw [hE] <;> rfl
   have hpot : A.pot = 0 := by rw [hE] <;> rfl
   have hrep : A.reply = Cli.zeroP := by rw [hE] <;> rfl
   have hAf : A.reply.few = true := by rw [hrep]; exact Cli.few_zero
   have hyi : A.reply.yi = 0 := by rw [hrep] <;> rfl
   have h51 : ¬ (Oc.fd 51 A.reply.os).length = 4 := by rw [hrep]; exact (by decide : ¬ (0 : Nat) = 4)
   have hhas : Oc.has 51 A.reply.os = false := by rw [hrep] <;> rfl
   refine Zv (Y.fieldAddr Z Law20o_fo45_0)<|Zv (Y.load Z Law20o_ts4 (Kn.at 0 Z) Z)<|Zv (Y.not Z)<|Zm Z<|Zo (congrArg Bool.not hsend) Z<|Zo (congrArg Bool.not hsend) Z<|Zo (congrArg Bool.not hsend) Z<|Zo (congrArg Bool.not hsend) Z<|Zv (Y.pick_t Z (congrArg Bool.not hsend) Z)<|Ze<|Zg<|Tr.cond_t Z Z<|Zs<|Zr<|Za Z<|Ze<|?_
   refine Zg<|Zu<|Zn<|Ex.keep []<|?_
   exact Ex.ret1 rfl rfl  rfl
  ·have hsend : A.send = false := by rw [hE] <;> rfl
   have hchg : A.change = true := by rw [hE] <;> rfl
   have hpot : A.pot = 0 := by rw [hE] <;> rfl
   obtain ⟨hf1,hf2,hnow,hf4,hf5⟩ := Eg.fits_t hf
   have hrep : A.reply = Cli.zeroP := by rw [hE] <;> rfl
   have hAf : A.reply.few = true := by rw [hrep]; exact Cli.few_zero
   have hyi : A.reply.yi = 0 := by rw [hrep] <;> rfl
   have hbd : A.lease.bind = 4 ∨ A.lease.bind = 5 := by rw [hE]; exact hb
   have h51 : ¬ (Oc.fd 51 A.reply.os).length = 4 := by rw [hrep]; exact (by decide : ¬ (0 : Nat) = 4)
   have hhas : Oc.has 51 A.reply.os = false := by rw [hrep] <;> rfl
   refine Zv (Y.fieldAddr Z Law20o_fo45_0)<|Zv (Y.load Z Law20o_ts4 (Kn.at 0 Z) Z)<|Zv (Y.not Z)<|Zm Z<|Zo (congrArg Bool.not hsend) Z<|Zo (congrArg Bool.not hsend) Z<|Zo (congrArg Bool.not hsend) Z<|Zo (congrArg Bool.not hsend) Z<|Zv (Y.pick_t Z (congrArg Bool.not hsend) Z)<|Ze<|Zg<|Tr.cond_t Z Z<|Zs<|Zr<|Za Z<|Ze<|?_
   refine Zg<|Zu<|Zn<|Ex.keep []<|?_
   exact Ex.ret1 rfl rfl  rfl
  ·have hsend : A.send = true := by rw [hE] <;> rfl
   have hchg : A.change = false := by rw [hE] <;> rfl
   have hpot : A.pot = 0 := by rw [hE] <;> rfl
   obtain ⟨hf1,hf2,hnow,hf4,hf5⟩ := Eg.fits_t hf
   have hrep : A.reply = Eg.rep ((Eg.si (id % 2))) c.p k := by rw [hE] <;> rfl
   have hAf : A.reply.few = true := by rw [hrep]; exact Eg.few_rep hw3 _
   have hyi : A.reply.yi = 0 := by rw [hrep] <;> rfl
   have hkd : Pc.kind A.reply = 5 ∨ Pc.kind A.reply = 6 := by rw [hrep]; rcases hk with rfl | rfl; exact .inl rfl; exact .inr rfl
   have h51 : ¬ (Oc.fd 51 A.reply.os).length = 4 := by rw [hrep]; exact (by decide : ¬ (0 : Nat) = 4)
   have hhas : Oc.has 51 A.reply.os = false := by rw [hrep] <;> rfl
   have hxid : A.reply.xid = c.p.xid := by rw [hrep] <;> rfl
   have hop : A.reply.op = 2 := by rw [hrep] <;> rfl
   have hsi : A.reply.si = (Eg.si (id % 2)).server := by rw [hrep] <;> rfl
   refine Zv (Y.fieldAddr Z Law20o_fo45_0)<|Zv (Y.load Z Law20o_ts4 (Kn.at 0 Z) Z)<|Zv (Y.not Z)<|Zm Z<|Zp (congrArg Bool.not hsend)<|Zv (Y.fieldAddr Z Law20o_fo45_1)<|Zp (congrArg Bool.not hsend)<|Zv (Y.fieldAddr Z Law20o_fo28_5)<|Zp (congrArg Bool.not hsend)<|Zv (Y.load Z Law20o_ts24 (Kn.at 0 Z) Z)<|Zp (congrArg Bool.not hsend)<|Zv (Y.int Z Z Z)<|Zv (Y.pick_f Z (congrArg Bool.not hsend) Z)<|Ze<|Zg<|Tr.cond_t Z (beq_iff_eq.2 hyi)<|?_
   refine Zs<|Zr<|Za Z<|Ze<|Zg<|Zu<|Zn<|Ex.keep []<|?_
   exact Ex.ret1 rfl rfl  rfl
  ·have hsend : A.send = true := by rw [hE] <;> rfl
   have hchg : A.change = false := by rw [hE] <;> rfl
   have hpot : A.pot = 0 := by rw [hE] <;> rfl
   obtain ⟨hf1,hf2,hnow,hf4,hf5⟩ := Eg.fits_t hf
   have hrep : A.reply = Eg.prom ((Eg.si (id % 2))) c.p 2 y.addr ((Eg.sq ((Eg.si (id % 2))) l c).tm y) := by rw [hE] <;> rfl
   have hAf : A.reply.few = true := by rw [hrep]; exact Eg.few_prom hw3 _ _ _
   have hyi : A.reply.yi = y.addr := by rw [hrep] <;> rfl
   have hkd : Pc.kind A.reply = 2 := by rw [hrep] <;> rfl
   have h51 : (Oc.fd 51 A.reply.os).length = 4 := by rw [hrep]; exact Msg.be_length _ _
   have hhas : Oc.has 51 A.reply.os = true := by rw [hrep] <;> rfl
   have hval : val (Oc.fd 51 A.reply.os) = (Eg.sq ((Eg.si (id % 2))) l c).tm y := by rw [hrep]; exact Eg.val_t (Eg.good_tm hg)
   have hty := Eg.good_tm hg
   have hxid : A.reply.xid = c.p.xid := by rw [hrep] <;> rfl
   have hop : A.reply.op = 2 := by rw [hrep] <;> rfl
   have hsi : A.reply.si = (Eg.si (id % 2)).server := by rw [hrep] <;> rfl
   have hget : Le.getE l A.reply.yi = (y,0) := by rw [hyi]; exact hg.1
   have hG1 : (Le.getE l A.reply.yi).1 = y := by rw [hget]
   have hG2 : (Le.getE l A.reply.yi).2 = 0 := by rw [hget]
   have hy1 := Eg.la6 had y (Eg.good_mem hg)
   have hor : (((Le.getE l A.reply.yi).1.bind == 2) && ((Le.getE l A.reply.yi).1.client.toList == c.p.client.toList)) = true ∨ Eg.Qy.may (Eg.sq ((Eg.si (id % 2))) l c) (Le.getE l A.reply.yi).1 = true := by rw [hG1]; exact hg.2.1
   refine Zv (Y.fieldAddr Z Law20o_fo45_0)<|Zv (Y.load Z Law20o_ts4 (Kn.at 0 Z) Z)<|Zv (Y.not Z)<|Zm Z<|Zp (congrArg Bool.not hsend)<|Zv (Y.fieldAddr Z Law20o_fo45_1)<|Zp (congrArg Bool.not hsend)<|Zv (Y.fieldAddr Z Law20o_fo28_5)<|Zp (congrArg Bool.not hsend)<|Zv (Y.load Z Law20o_ts24 (Kn.at 0 Z) Z)<|Zp (congrArg Bool.not hsend)<|Zv (Y.int Z Z Z)<|Zv (Y.pick_f Z (congrArg Bool.not hsend) Z)<|Ze<|Zg<|Tr.cond_f rfl (beq_eq_false_iff_ne.2 W)<|?_
   refine Zt<|Zg<|Zs<|Zr<|Zm Z<|Zv (Y.fieldAddr Z Law20o_fo45_1)<|Zv (Y.fieldAddr Z Law20o_fo28_5)<|Zv (Y.load Z Law20o_ts24 (Kn.at 0 Z) Z)<|Run.call0 (l := [.tmp 59,.tmp 62]) Z Z Z (lt Z) (Does.frame1 5 Z (get_o (a := A.reply.yi) hin))<|Zm Z<|Zv (Y.extract Z Z)<|Zv (Y.extract Z Z)<|?_
   refine Run.alloc Law20o_zo43 (lt rfl) (fun b9 => ?_)
   refine Run.store (s := [(b9,.cells ((Le.cells ((Le.getE l A.reply.yi).1)).toArray) 43 (0,0))]) Z Z Law20o_sz43 (i := 0) Z Z (le Z) Z Z ?_
   refine Za Z<|Ze<|Zg<|Zs<|Zr<|Zv (Y.fieldAddr Z Law20o_fo30_3)<|Zv (Y.loadAgg Z Law20o_ag28 (Kn.at 3 Z) Z)<|Run.call0 (l := [.tmp 67]) Z Z Z (lt Z) (pclient_h hco.r hfew)<|Za Z<|Ze<|Zg<|Zs<|Zr<|Zv (Y.fieldAddr Z Law20o_fo43_1)<|Zv (Y.load Z Law20o_ts3 (Kn.at 0 Z) Z)<|Zv (Y.int Z Z Z)<|?_
   refine Zm Z ?_
   rcases Zsplit (((Le.getE l A.reply.yi).1.bind) == 2) with ⟨h10,g10⟩ | ⟨h10,g10⟩ <;> try simp only [kb] at g10
   ·refine Zp h10<|Zv (Y.fieldAddr Z Law20o_fo43_2)<|Zp h10<|Zv (Y.load Z Law20o_ts9 (Kn.at 0 Z) Z)<|Zp h10<|Zm Z<|Zp h10<|Zv (Y.eqStr Z Z)<|Zv (Y.pick_t Z h10 Z)<|Za Z<|Ze<|Zg<|Zs<|Zr<|Zv (Y.fieldAddr Z Law20o_fo35_0)<|Zv (Y.load Z Law20o_ts3 (Kn.at 2 Z) Z)<|?_
    refine Zv (Y.fieldAddr Z Law20o_fo35_1)<|Zv (Y.load Z Law20o_ts3 (Kn.at 2 Z) Z)<|Zv (Y.fieldAddr Z Law20o_fo35_2)<|Zv (Y.load Z Law20o_ts3 (Kn.at 2 Z) Z)<|Zv (Y.buildS (l := [(0,.tmp 79),(1,.tmp 81),(2,.tmp 83)]) Law20o_zo58 Law20o_pl58 Z Z)<|?_
    refine Run.alloc Law20o_zo58 (lt rfl) (fun b11 => ?_)
    refine Run.store (s := [(b11,.cells #[.int .i64 ((Eg.si (id % 2)).id),.int .i64 ((Eg.si (id % 2)).lead),.int .i64 ((Eg.si (id % 2)).guard)] 58 (0,0))]) Z Z Law20o_sz58 (i := 0) Z Z (le Z) Z Z<|Ze<|Zg<|Zs<|Zr<|Zm Z<|Zv (Y.int Z Z Z)<|Zm Z<|Zp (beq_iff_eq.2 hG2)<|Zm Z<|Zp (beq_iff_eq.2 hG2)<|Zm Z<|?_
    rcases Zsplit (((Le.getE l A.reply.yi).1.client).toList == c.p.client.toList) with ⟨h12,g12⟩ | ⟨h12,g12⟩ <;> try simp only [kb] at g12
    ·refine Zo h12 Z<|Zo h12 Z<|Zo h12 Z<|Zo h12 Z<|Zo h12 Z<|Zo h12 Z<|Zo h12 Z<|Zo h12 Z<|Zo h12 Z<|Zp (beq_iff_eq.2 hG2)<|Zv (Y.pick_t Z h12 Z)<|Zv (Y.pick_t Z (beq_iff_eq.2 hG2) Z)<|Zm Z<|Zp Z<|Zv (Y.fieldAddr Z Law20o_fo43_1)<|Zp Z<|?_
     refine Zv (Y.load Z Law20o_ts3 (Kn.at 1 Z) Z)<|Zp Z<|Zv (Y.int Z Z Z)<|Zp Z<|Zm Z<|?_
     rcases Zsplit (((Le.getE l A.reply.yi).1.bind) != 2) with ⟨h13,g13⟩ | ⟨h13,g13⟩ <;> try simp only [kb] at g13
     ·refine Zo h13 Z<|Zp Z<|Zv (Y.pick_t Z h13 Z)<|Zp Z<|Zm Z<|Zo Z Z<|Zo Z Z<|Zo Z Z<|Zp Z<|Zv (Y.pick_t Z Z Z)<|Zv (Y.pick_t Z Z Z)<|Za Z<|Ze<|Zg<|Zu<|Ex.keep []<|?_
      exact Ex.ret1 rfl rfl  rfl
     ·refine Zp h13<|Zm Z<|Zp Z<|Zv (Y.pick_f Z h13 Z)<|Zp Z<|Zm Z<|Zo h12 Z<|Zo h12 Z<|Zo h12 Z<|Zp Z<|Zv (Y.pick_t Z h12 Z)<|Zv (Y.pick_t Z Z Z)<|Za Z<|Ze<|Zg<|Zu<|?_
      refine Ex.keep [] ?_
      exact Ex.ret1 rfl rfl  rfl
    ·refine Zp h12<|Zv (Y.loadAgg Z Law20o_ag58 (Kn.at 0 Z) Z)<|Zp h12<|Zv (Y.loadAgg Z Law20o_ag43 (Kn.at 1 Z) Z)<|Zp h12<|Zv (Y.fieldAddr Z Law20o_fo30_0)<|Zp h12<|Zv (Y.load Z Law20o_ts3 (Kn.at 4 Z) Z)<|Zp h12<|Zv (Y.fieldAddr Z Law20o_fo30_1)<|Zp h12<|Zv (Y.load Z Law20o_ts3 (Kn.at 4 Z) Z)<|Zp h12<|Zv (Y.fieldAddr Z Law20o_fo30_2)<|Zp h12<|Zv (Y.load Z Law20o_ts3 (Kn.at 4 Z) Z)<|?_
     refine Zp h12<|Run.call0 (l := [.tmp 90,.tmp 91,.tmp 93,.tmp 95,.tmp 97]) Z Z Z (lt Z) ((may_c (r := Si.rules ((Eg.si (id % 2)))) (l := (Le.getE l A.reply.yi).1) (state := c.state) (now := c.now) (entry := c.entry)).frame)<|Zp (beq_iff_eq.2 hG2)<|Zv (Y.pick_f Z h12 Z)<|Zv (Y.pick_t Z (beq_iff_eq.2 hG2) Z)<|Zm Z<|?_
     rcases Zsplit (Eg.Qy.may (Eg.sq ((Eg.si (id % 2))) l c) (Le.getE l A.reply.yi).1) with ⟨h14,g14⟩ | ⟨h14,g14⟩ <;> try simp only [kb] at g14
     ·refine Zp h14<|Zv (Y.fieldAddr Z Law20o_fo43_1)<|Zp h14<|Zv (Y.load Z Law20o_ts3 (Kn.at 1 Z) Z)<|Zp h14<|Zv (Y.int Z Z Z)<|Zp h14<|Zm Z<|?_
      rcases Zsplit (((Le.getE l A.reply.yi).1.bind) != 2) with ⟨h15,g15⟩ | ⟨h15,g15⟩ <;> try simp only [kb] at g15
      ·refine Zo h15 Z<|Zp h14<|Zv (Y.pick_t Z h15 Z)<|Zp h14<|Zm Z<|Zo Z Z<|Zo Z Z<|Zo Z Z<|Zp h14<|Zv (Y.pick_t Z Z Z)<|Zv (Y.pick_t Z h14 Z)<|Za Z<|Ze<|Zg<|Zu<|Ex.keep []<|?_
       exact Ex.ret1 rfl rfl  rfl
      ·refine Zp h15<|Zm Z<|Zp h14<|Zv (Y.pick_f Z h15 Z)<|Zp h14<|Zm Z<|Zp h12<|Zv (Y.fieldAddr Z Law20o_fo30_0)<|Zp h12<|Zv (Y.load Z Law20o_ts3 (Kn.at 4 Z) Z)<|Zp h12<|Zv (Y.int Z Z Z)<|Zp h14<|Zv (Y.pick_f Z h12 Z)<|Zv (Y.pick_t Z h14 Z)<|Za Z<|?_
       refine Ze<|Zg<|Zu<|Ex.keep []<|?_
       exact Ex.ret1 rfl rfl  (congrArg Value.bool ((beq_iff_eq.2 (Eg.may_active (r := Si.rules ((Eg.si (id % 2)))) (y := (Le.getE l A.reply.yi).1) (now := c.now) (entry := c.entry) h14 W))))
     ·exfalso; clear hrep hE hyi hget hG1 hG2; simp only [*,Bool.and_true,Bool.and_false,Bool.true_and,Bool.false_and,Bool.false_eq_true,or_self,false_or,or_false] at hor
   ·refine Zo h10 Z<|Zo h10 Z<|Zo h10 Z<|Zo h10 Z<|Zv (Y.pick_f Z h10 Z)<|Za Z<|Ze<|Zg<|Zs<|Zr<|Zv (Y.fieldAddr Z Law20o_fo35_0)<|Zv (Y.load Z Law20o_ts3 (Kn.at 2 Z) Z)<|Zv (Y.fieldAddr Z Law20o_fo35_1)<|Zv (Y.load Z Law20o_ts3 (Kn.at 2 Z) Z)<|Zv (Y.fieldAddr Z Law20o_fo35_2)<|Zv (Y.load Z Law20o_ts3 (Kn.at 2 Z) Z)<|?_
    refine Zv (Y.buildS (l := [(0,.tmp 79),(1,.tmp 81),(2,.tmp 83)]) Law20o_zo58 Law20o_pl58 Z Z) ?_
    refine Run.alloc Law20o_zo58 (lt rfl) (fun b16 => ?_)
    refine Run.store (s := [(b16,.cells #[.int .i64 ((Eg.si (id % 2)).id),.int .i64 ((Eg.si (id % 2)).lead),.int .i64 ((Eg.si (id % 2)).guard)] 58 (0,0))]) Z Z Law20o_sz58 (i := 0) Z Z (le Z) Z Z<|Ze<|Zg<|Zs<|Zr<|Zm Z<|Zv (Y.int Z Z Z)<|Zm Z<|Zp (beq_iff_eq.2 hG2)<|Zm Z<|Zp (beq_iff_eq.2 hG2)<|Zm Z<|Zp Z<|Zv (Y.loadAgg Z Law20o_ag58 (Kn.at 0 Z) Z)<|Zp Z<|Zv (Y.loadAgg Z Law20o_ag43 (Kn.at 1 Z) Z)<|?_
    refine Zp Z<|Zv (Y.fieldAddr Z Law20o_fo30_0)<|Zp Z<|Zv (Y.load Z Law20o_ts3 (Kn.at 4 Z) Z)<|Zp Z<|Zv (Y.fieldAddr Z Law20o_fo30_1)<|Zp Z<|Zv (Y.load Z Law20o_ts3 (Kn.at 4 Z) Z)<|Zp Z<|Zv (Y.fieldAddr Z Law20o_fo30_2)<|Zp Z<|Zv (Y.load Z Law20o_ts3 (Kn.at 4 Z) Z)<|Zp Z<|Run.call0 (l := [.tmp 90,.tmp 91,.tmp 93,.tmp 95,.tmp 97]) Z Z Z (lt Z) ((may_c (r := Si.rules ((Eg.si (id % 2)))) (l := (Le.getE l A.reply.yi).1) (state := c.state) (now := c.now) (entry := c.entry)).frame)<|?_
    refine Zp (beq_iff_eq.2 hG2)<|Zv (Y.pick_f Z Z Z)<|Zv (Y.pick_t Z (beq_iff_eq.2 hG2) Z)<|Zm Z<|?_
    rcases Zsplit (Eg.Qy.may (Eg.sq ((Eg.si (id % 2))) l c) (Le.getE l A.reply.yi).1) with ⟨h17,g17⟩ | ⟨h17,g17⟩ <;> try simp only [kb] at g17
    ·refine Zp h17<|Zv (Y.fieldAddr Z Law20o_fo43_1)<|Zp h17<|Zv (Y.load Z Law20o_ts3 (Kn.at 1 Z) Z)<|Zp h17<|Zv (Y.int Z Z Z)<|Zp h17<|Zm Z<|?_
     rcases Zsplit (((Le.getE l A.reply.yi).1.bind) != 2) with ⟨h18,g18⟩ | ⟨h18,g18⟩ <;> try simp only [kb] at g18
     ·refine Zo h18 Z<|Zp h17<|Zv (Y.pick_t Z h18 Z)<|Zp h17<|Zm Z<|Zo Z Z<|Zo Z Z<|Zo Z Z<|Zp h17<|Zv (Y.pick_t Z Z Z)<|Zv (Y.pick_t Z h17 Z)<|Za Z<|Ze<|Zg<|Zu<|Ex.keep []<|?_
      exact Ex.ret1 rfl rfl  rfl
     ·refine Zp h18<|Zm Z<|Zp h17<|Zv (Y.pick_f Z h18 Z)<|Zp h17<|Zm Z<|Zp Z<|Zv (Y.fieldAddr Z Law20o_fo30_0)<|Zp Z<|Zv (Y.load Z Law20o_ts3 (Kn.at 4 Z) Z)<|Zp Z<|Zv (Y.int Z Z Z)<|Zp h17<|Zv (Y.pick_f Z Z Z)<|Zv (Y.pick_t Z h17 Z)<|Za Z<|?_
      refine Ze<|Zg<|Zu<|Ex.keep []<|?_
      exact Ex.ret1 rfl rfl  (congrArg Value.bool ((beq_iff_eq.2 (Eg.may_active (r := Si.rules ((Eg.si (id % 2)))) (y := (Le.getE l A.reply.yi).1) (now := c.now) (entry := c.entry) h17 W))))
    ·exfalso; clear hrep hE hyi hget hG1 hG2; simp only [*,Bool.and_true,Bool.and_false,Bool.true_and,Bool.false_and,Bool.false_eq_true,or_self,false_or,or_false] at hor
  ·have hsend : A.send = true := by rw [hE] <;> rfl
   have hchg : A.change = true := by rw [hE] <;> rfl
   obtain ⟨hf1,hf2,hnow,hf4,hf5⟩ := Eg.fits_t hf
   have hrep : A.reply = Eg.prom ((Eg.si (id % 2))) c.p 5 y.addr ((Eg.sq ((Eg.si (id % 2))) l c).tm y) := by rw [hE] <;> rfl
   have hAf : A.reply.few = true := by rw [hrep]; exact Eg.few_prom hw3 _ _ _
   have hyi : A.reply.yi = y.addr := by rw [hrep] <;> rfl
   have hkd : Pc.kind A.reply = 5 := by rw [hrep] <;> rfl
   have h51 : (Oc.fd 51 A.reply.os).length = 4 := by rw [hrep]; exact Msg.be_length _ _
   have hhas : Oc.has 51 A.reply.os = true := by rw [hrep] <;> rfl
   have hval : val (Oc.fd 51 A.reply.os) = (Eg.sq ((Eg.si (id % 2))) l c).tm y := by rw [hrep]; exact Eg.val_t (Eg.good_tm hg)
   have hty := Eg.good_tm hg
   have hxid : A.reply.xid = c.p.xid := by rw [hrep] <;> rfl
   have hop : A.reply.op = 2 := by rw [hrep] <;> rfl
   have hsi : A.reply.si = (Eg.si (id % 2)).server := by rw [hrep] <;> rfl
   have hget : Le.getE l A.reply.yi = (y,0) := by rw [hyi]; exact hg.1
   have hG1 : (Le.getE l A.reply.yi).1 = y := by rw [hget]
   have hG2 : (Le.getE l A.reply.yi).2 = 0 := by rw [hget]
   have hy1 := Eg.la6 had y (Eg.good_mem hg)
   have hor : (((Le.getE l A.reply.yi).1.bind == 2) && ((Le.getE l A.reply.yi).1.client.toList == c.p.client.toList)) = true ∨ Eg.Qy.may (Eg.sq ((Eg.si (id % 2))) l c) (Le.getE l A.reply.yi).1 = true := by rw [hG1]; exact hg.2.1
   refine Zv (Y.fieldAddr Z Law20o_fo45_0)<|Zv (Y.load Z Law20o_ts4 (Kn.at 0 Z) Z)<|Zv (Y.not Z)<|Zm Z<|Zp (congrArg Bool.not hsend)<|Zv (Y.fieldAddr Z Law20o_fo45_1)<|Zp (congrArg Bool.not hsend)<|Zv (Y.fieldAddr Z Law20o_fo28_5)<|Zp (congrArg Bool.not hsend)<|Zv (Y.load Z Law20o_ts24 (Kn.at 0 Z) Z)<|Zp (congrArg Bool.not hsend)<|Zv (Y.int Z Z Z)<|Zv (Y.pick_f Z (congrArg Bool.not hsend) Z)<|Ze<|Zg<|Tr.cond_f rfl (beq_eq_false_iff_ne.2 W)<|?_
   refine Zt<|Zg<|Zs<|Zr<|Zm Z<|Zv (Y.fieldAddr Z Law20o_fo45_1)<|Zv (Y.fieldAddr Z Law20o_fo28_5)<|Zv (Y.load Z Law20o_ts24 (Kn.at 0 Z) Z)<|Run.call0 (l := [.tmp 59,.tmp 62]) Z Z Z (lt Z) (Does.frame1 5 Z (get_o (a := A.reply.yi) hin))<|Zm Z<|Zv (Y.extract Z Z)<|Zv (Y.extract Z Z)<|?_
   refine Run.alloc Law20o_zo43 (lt rfl) (fun b19 => ?_)
   refine Run.store (s := [(b19,.cells ((Le.cells ((Le.getE l A.reply.yi).1)).toArray) 43 (0,0))]) Z Z Law20o_sz43 (i := 0) Z Z (le Z) Z Z ?_
   refine Za Z<|Ze<|Zg<|Zs<|Zr<|Zv (Y.fieldAddr Z Law20o_fo30_3)<|Zv (Y.loadAgg Z Law20o_ag28 (Kn.at 3 Z) Z)<|Run.call0 (l := [.tmp 67]) Z Z Z (lt Z) (pclient_h hco.r hfew)<|Za Z<|Ze<|Zg<|Zs<|Zr<|Zv (Y.fieldAddr Z Law20o_fo43_1)<|Zv (Y.load Z Law20o_ts3 (Kn.at 0 Z) Z)<|Zv (Y.int Z Z Z)<|?_
   refine Zm Z ?_
   rcases Zsplit (((Le.getE l A.reply.yi).1.bind) == 2) with ⟨h20,g20⟩ | ⟨h20,g20⟩ <;> try simp only [kb] at g20
   ·refine Zp h20<|Zv (Y.fieldAddr Z Law20o_fo43_2)<|Zp h20<|Zv (Y.load Z Law20o_ts9 (Kn.at 0 Z) Z)<|Zp h20<|Zm Z<|Zp h20<|Zv (Y.eqStr Z Z)<|Zv (Y.pick_t Z h20 Z)<|Za Z<|Ze<|Zg<|Zs<|Zr<|Zv (Y.fieldAddr Z Law20o_fo35_0)<|Zv (Y.load Z Law20o_ts3 (Kn.at 2 Z) Z)<|?_
    refine Zv (Y.fieldAddr Z Law20o_fo35_1)<|Zv (Y.load Z Law20o_ts3 (Kn.at 2 Z) Z)<|Zv (Y.fieldAddr Z Law20o_fo35_2)<|Zv (Y.load Z Law20o_ts3 (Kn.at 2 Z) Z)<|Zv (Y.buildS (l := [(0,.tmp 79),(1,.tmp 81),(2,.tmp 83)]) Law20o_zo58 Law20o_pl58 Z Z)<|?_
    refine Run.alloc Law20o_zo58 (lt rfl) (fun b21 => ?_)
    refine Run.store (s := [(b21,.cells #[.int .i64 ((Eg.si (id % 2)).id),.int .i64 ((Eg.si (id % 2)).lead),.int .i64 ((Eg.si (id % 2)).guard)] 58 (0,0))]) Z Z Law20o_sz58 (i := 0) Z Z (le Z) Z Z<|Ze<|Zg<|Zs<|Zr<|Zm Z<|Zv (Y.int Z Z Z)<|Zm Z<|Zp (beq_iff_eq.2 hG2)<|Zm Z<|Zp (beq_iff_eq.2 hG2)<|Zm Z<|?_
    rcases Zsplit (((Le.getE l A.reply.yi).1.client).toList == c.p.client.toList) with ⟨h22,g22⟩ | ⟨h22,g22⟩ <;> try simp only [kb] at g22
    ·refine Zo h22 Z<|Zo h22 Z<|Zo h22 Z<|Zo h22 Z<|Zo h22 Z<|Zo h22 Z<|Zo h22 Z<|Zo h22 Z<|Zo h22 Z<|Zp (beq_iff_eq.2 hG2)<|Zv (Y.pick_t Z h22 Z)<|Zv (Y.pick_t Z (beq_iff_eq.2 hG2) Z)<|Zm Z<|Zp Z<|Zv (Y.fieldAddr Z Law20o_fo43_1)<|Zp Z<|?_
     refine Zv (Y.load Z Law20o_ts3 (Kn.at 1 Z) Z)<|Zp Z<|Zv (Y.int Z Z Z)<|Zp Z<|Zm Z<|?_
     rcases Zsplit (((Le.getE l A.reply.yi).1.bind) != 2) with ⟨h23,g23⟩ | ⟨h23,g23⟩ <;> try simp only [kb] at g23
     ·refine Zo h23 Z<|Zp Z<|Zv (Y.pick_t Z h23 Z)<|Zp Z<|Zm Z<|Zo Z Z<|Zo Z Z<|Zo Z Z<|Zp Z<|Zv (Y.pick_t Z Z Z)<|Zv (Y.pick_t Z Z Z)<|Za Z<|Ze<|Zg<|Zu<|Ex.keep []<|?_
      exact Ex.ret1 rfl rfl  rfl
     ·refine Zp h23<|Zm Z<|Zp Z<|Zv (Y.pick_f Z h23 Z)<|Zp Z<|Zm Z<|Zo h22 Z<|Zo h22 Z<|Zo h22 Z<|Zp Z<|Zv (Y.pick_t Z h22 Z)<|Zv (Y.pick_t Z Z Z)<|Za Z<|Ze<|Zg<|Zu<|?_
      refine Ex.keep [] ?_
      exact Ex.ret1 rfl rfl  rfl
    ·refine Zp h22<|Zv (Y.loadAgg Z Law20o_ag58 (Kn.at 0 Z) Z)<|Zp h22<|Zv (Y.loadAgg Z Law20o_ag43 (Kn.at 1 Z) Z)<|Zp h22<|Zv (Y.fieldAddr Z Law20o_fo30_0)<|Zp h22<|Zv (Y.load Z Law20o_ts3 (Kn.at 4 Z) Z)<|Zp h22<|Zv (Y.fieldAddr Z Law20o_fo30_1)<|Zp h22<|Zv (Y.load Z Law20o_ts3 (Kn.at 4 Z) Z)<|Zp h22<|Zv (Y.fieldAddr Z Law20o_fo30_2)<|Zp h22<|Zv (Y.load Z Law20o_ts3 (Kn.at 4 Z) Z)<|?_
     refine Zp h22<|Run.call0 (l := [.tmp 90,.tmp 91,.tmp 93,.tmp 95,.tmp 97]) Z Z Z (lt Z) ((may_c (r := Si.rules ((Eg.si (id % 2)))) (l := (Le.getE l A.reply.yi).1) (state := c.state) (now := c.now) (entry := c.entry)).frame)<|Zp (beq_iff_eq.2 hG2)<|Zv (Y.pick_f Z h22 Z)<|Zv (Y.pick_t Z (beq_iff_eq.2 hG2) Z)<|Zm Z<|?_
     rcases Zsplit (Eg.Qy.may (Eg.sq ((Eg.si (id % 2))) l c) (Le.getE l A.reply.yi).1) with ⟨h24,g24⟩ | ⟨h24,g24⟩ <;> try simp only [kb] at g24
     ·refine Zp h24<|Zv (Y.fieldAddr Z Law20o_fo43_1)<|Zp h24<|Zv (Y.load Z Law20o_ts3 (Kn.at 1 Z) Z)<|Zp h24<|Zv (Y.int Z Z Z)<|Zp h24<|Zm Z<|?_
      rcases Zsplit (((Le.getE l A.reply.yi).1.bind) != 2) with ⟨h25,g25⟩ | ⟨h25,g25⟩ <;> try simp only [kb] at g25
      ·refine Zo h25 Z<|Zp h24<|Zv (Y.pick_t Z h25 Z)<|Zp h24<|Zm Z<|Zo Z Z<|Zo Z Z<|Zo Z Z<|Zp h24<|Zv (Y.pick_t Z Z Z)<|Zv (Y.pick_t Z h24 Z)<|Za Z<|Ze<|Zg<|Zu<|Ex.keep []<|?_
       exact Ex.ret1 rfl rfl  rfl
      ·refine Zp h25<|Zm Z<|Zp h24<|Zv (Y.pick_f Z h25 Z)<|Zp h24<|Zm Z<|Zp h22<|Zv (Y.fieldAddr Z Law20o_fo30_0)<|Zp h22<|Zv (Y.load Z Law20o_ts3 (Kn.at 4 Z) Z)<|Zp h22<|Zv (Y.int Z Z Z)<|Zp h24<|Zv (Y.pick_f Z h22 Z)<|Zv (Y.pick_t Z h24 Z)<|Za Z<|?_
       refine Ze<|Zg<|Zu<|Ex.keep []<|?_
       exact Ex.ret1 rfl rfl  (congrArg Value.bool ((beq_iff_eq.2 (Eg.may_active (r := Si.rules ((Eg.si (id % 2)))) (y := (Le.getE l A.reply.yi).1) (now := c.now) (entry := c.entry) h24 W))))
     ·exfalso; clear hrep hE hyi hget hG1 hG2; simp only [*,Bool.and_true,Bool.and_false,Bool.true_and,Bool.false_and,Bool.false_eq_true,or_self,false_or,or_false] at hor
   ·refine Zo h20 Z<|Zo h20 Z<|Zo h20 Z<|Zo h20 Z<|Zv (Y.pick_f Z h20 Z)<|Za Z<|Ze<|Zg<|Zs<|Zr<|Zv (Y.fieldAddr Z Law20o_fo35_0)<|Zv (Y.load Z Law20o_ts3 (Kn.at 2 Z) Z)<|Zv (Y.fieldAddr Z Law20o_fo35_1)<|Zv (Y.load Z Law20o_ts3 (Kn.at 2 Z) Z)<|Zv (Y.fieldAddr Z Law20o_fo35_2)<|Zv (Y.load Z Law20o_ts3 (Kn.at 2 Z) Z)<|?_
    refine Zv (Y.buildS (l := [(0,.tmp 79),(1,.tmp 81),(2,.tmp 83)]) Law20o_zo58 Law20o_pl58 Z Z) ?_
    refine Run.alloc Law20o_zo58 (lt rfl) (fun b26 => ?_)
    refine Run.store (s := [(b26,.cells #[.int .i64 ((Eg.si (id % 2)).id),.int .i64 ((Eg.si (id % 2)).lead),.int .i64 ((Eg.si (id % 2)).guard)] 58 (0,0))]) Z Z Law20o_sz58 (i := 0) Z Z (le Z) Z Z<|Ze<|Zg<|Zs<|Zr<|Zm Z<|Zv (Y.int Z Z Z)<|Zm Z<|Zp (beq_iff_eq.2 hG2)<|Zm Z<|Zp (beq_iff_eq.2 hG2)<|Zm Z<|Zp Z<|Zv (Y.loadAgg Z Law20o_ag58 (Kn.at 0 Z) Z)<|Zp Z<|Zv (Y.loadAgg Z Law20o_ag43 (Kn.at 1 Z) Z)<|?_
    refine Zp Z<|Zv (Y.fieldAddr Z Law20o_fo30_0)<|Zp Z<|Zv (Y.load Z Law20o_ts3 (Kn.at 4 Z) Z)<|Zp Z<|Zv (Y.fieldAddr Z Law20o_fo30_1)<|Zp Z<|Zv (Y.load Z Law20o_ts3 (Kn.at 4 Z) Z)<|Zp Z<|Zv (Y.fieldAddr Z Law20o_fo30_2)<|Zp Z<|Zv (Y.load Z Law20o_ts3 (Kn.at 4 Z) Z)<|Zp Z<|Run.call0 (l := [.tmp 90,.tmp 91,.tmp 93,.tmp 95,.tmp 97]) Z Z Z (lt Z) ((may_c (r := Si.rules ((Eg.si (id % 2)))) (l := (Le.getE l A.reply.yi).1) (state := c.state) (now := c.now) (entry := c.entry)).frame)<|?_
    refine Zp (beq_iff_eq.2 hG2)<|Zv (Y.pick_f Z Z Z)<|Zv (Y.pick_t Z (beq_iff_eq.2 hG2) Z)<|Zm Z<|?_
    rcases Zsplit (Eg.Qy.may (Eg.sq ((Eg.si (id % 2))) l c) (Le.getE l A.reply.yi).1) with ⟨h27,g27⟩ | ⟨h27,g27⟩ <;> try simp only [kb] at g27
    ·refine Zp h27<|Zv (Y.fieldAddr Z Law20o_fo43_1)<|Zp h27<|Zv (Y.load Z Law20o_ts3 (Kn.at 1 Z) Z)<|Zp h27<|Zv (Y.int Z Z Z)<|Zp h27<|Zm Z<|?_
     rcases Zsplit (((Le.getE l A.reply.yi).1.bind) != 2) with ⟨h28,g28⟩ | ⟨h28,g28⟩ <;> try simp only [kb] at g28
     ·refine Zo h28 Z<|Zp h27<|Zv (Y.pick_t Z h28 Z)<|Zp h27<|Zm Z<|Zo Z Z<|Zo Z Z<|Zo Z Z<|Zp h27<|Zv (Y.pick_t Z Z Z)<|Zv (Y.pick_t Z h27 Z)<|Za Z<|Ze<|Zg<|Zu<|Ex.keep []<|?_
      exact Ex.ret1 rfl rfl  rfl
     ·refine Zp h28<|Zm Z<|Zp h27<|Zv (Y.pick_f Z h28 Z)<|Zp h27<|Zm Z<|Zp Z<|Zv (Y.fieldAddr Z Law20o_fo30_0)<|Zp Z<|Zv (Y.load Z Law20o_ts3 (Kn.at 4 Z) Z)<|Zp Z<|Zv (Y.int Z Z Z)<|Zp h27<|Zv (Y.pick_f Z Z Z)<|Zv (Y.pick_t Z h27 Z)<|Za Z<|?_
      refine Ze<|Zg<|Zu<|Ex.keep []<|?_
      exact Ex.ret1 rfl rfl  (congrArg Value.bool ((beq_iff_eq.2 (Eg.may_active (r := Si.rules ((Eg.si (id % 2)))) (y := (Le.getE l A.reply.yi).1) (now := c.now) (entry := c.entry) h27 W))))
    ·exfalso; clear hrep hE hyi hget hG1 hG2; simp only [*,Bool.and_true,Bool.and_false,Bool.true_and,Bool.false_and,Bool.false_eq_true,or_self,false_or,or_false] at hor
theorem own20_h {V : Vw} {id : Int} {ls : List Le} {v1 : Value} (hv2 : Rd V [] 8 v1 ls.length (ls.map Le.cells).flatten) (hcs : ∀ x,x ∈ ls → Le.Ok x) (hl9 : ls.length ≤ 9223372036854775807) {c : Eg.Cs} (hco : Eg.Csok V c) : Does Tryz.prog 4 [.int .i64 id,v1,.agg c.cells] V [] (fun v _ _ => v = .bool true) := by
  obtain ⟨p2,c2,rfl,_⟩ := hv2.form
  rw [← List.flatMap_def] at hv2
  exact own20_c hv2 hl9 (fun x hx => (hcs x hx).client) hco
end Go.Proofs.YtfgblingojgafaaGreat
