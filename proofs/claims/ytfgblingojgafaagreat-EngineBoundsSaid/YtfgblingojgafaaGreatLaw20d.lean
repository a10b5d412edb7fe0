/- The statement EngineBounds, walked.
Conditions: as each theorem names them. -/
import Derived.Test.YtfgblingojgafaaGreatProg
import Derived.Test.YtfgblingojgafaaGreatSortnum
import Derived.Test.YtfgblingojgafaaGreatLaw20n
import Derived.Test.YtfgblingojgafaaGreatTable4
import Derived.Test.YtfgblingojgafaaGreatTimes
set_option linter.unusedSimpArgs false
set_option linter.unusedVariables false
set_option maxRecDepth 4000
namespace Go.Proofs.YtfgblingojgafaaGreat
open Go Go.K
attribute [local irreducible] Code.wp wpList Calls wpQuiet
theorem Law20d_zo35 : zeroOf Tryz.prog 35 = some (.agg #[.int .i64 0,.int .i64 0,.int .i64 0,.int .u32 0,.int .i64 0,.int .i64 0,.int .i64 0,.float .f64 0,.float .f64 0,.float .f64 0,.float .f64 0,.slice none 0 0,.int .i64 0]) := by kernel_rfl
theorem Law20d_sz35 : sizeT Tryz.prog 35 = some 13 := by kernel_rfl
theorem Law20d_ag35 : aggsz Tryz.prog 35 = some 13 := by kernel_rfl
theorem Law20d_ag30 : aggsz Tryz.prog 30 = some 13 := by kernel_rfl
theorem Law20d_fo30_1 : fieldOff Tryz.prog 30 1 = some 1 := by kernel_rfl
theorem Law20d_ts3 : scal Tryz.prog 3 = true := by kernel_rfl
theorem Law20d_fo30_0 : fieldOff Tryz.prog 30 0 = some 0 := by kernel_rfl
theorem Law20d_fo30_2 : fieldOff Tryz.prog 30 2 = some 2 := by kernel_rfl
theorem Law20d_fo30_3 : fieldOff Tryz.prog 30 3 = some 3 := by kernel_rfl
theorem Law20d_ag28 : aggsz Tryz.prog 28 = some 10 := by kernel_rfl
theorem Law20d_zo45 : zeroOf Tryz.prog 45 = some (.agg #[.bool false,.int .i64 0,.int .u32 0,.int .i64 0,.int .i64 0,.int .u32 0,.int .u32 0,.int .u32 0,.int .u32 0,.slice none 0 0,.slice none 0 0,.bool false,.int .u32 0,.int .i64 0,.string ⟨#[]⟩,.int .i64 0,.int .i64 0,.int .i64 0,.int .i64 0,.int .i64 0,.int .i64 0]) := by kernel_rfl
theorem Law20d_sz45 : sizeT Tryz.prog 45 = some 21 := by kernel_rfl
theorem Law20d_fo45_1 : fieldOff Tryz.prog 45 1 = some 1 := by kernel_rfl
theorem Law20d_fo28_9 : fieldOff Tryz.prog 28 9 = some 9 := by kernel_rfl
theorem Law20d_ts26 : scal Tryz.prog 26 = true := by kernel_rfl
theorem Law20d_fo45_0 : fieldOff Tryz.prog 45 0 = some 0 := by kernel_rfl
theorem Law20d_ts4 : scal Tryz.prog 4 = true := by kernel_rfl
theorem Law20d_fo28_5 : fieldOff Tryz.prog 28 5 = some 5 := by kernel_rfl
theorem Law20d_ts24 : scal Tryz.prog 24 = true := by kernel_rfl
theorem Law20d_zo43 : zeroOf Tryz.prog 43 = some (.agg #[.int .u32 0,.int .i64 0,.string ⟨#[]⟩,.int .i64 0,.int .i64 0,.int .i64 0,.int .i64 0,.int .i64 0]) := by kernel_rfl
theorem Law20d_sz43 : sizeT Tryz.prog 43 = some 8 := by kernel_rfl
theorem Law20d_mo : Tryz.prog.follows .mixedOrders = true := by kernel_rfl
theorem Law20d_fo43_1 : fieldOff Tryz.prog 43 1 = some 1 := by kernel_rfl
theorem Law20d_fo43_2 : fieldOff Tryz.prog 43 2 = some 2 := by kernel_rfl
theorem Law20d_ts9 : scal Tryz.prog 9 = true := by kernel_rfl
theorem Law20d_fo43_4 : fieldOff Tryz.prog 43 4 = some 4 := by kernel_rfl
theorem Law20d_fo28_1 : fieldOff Tryz.prog 28 1 = some 1 := by kernel_rfl
theorem Law20d_ts23 : scal Tryz.prog 23 = true := by kernel_rfl
theorem Law20d_fo28_6 : fieldOff Tryz.prog 28 6 = some 6 := by kernel_rfl
theorem Law20d_fo28_0 : fieldOff Tryz.prog 28 0 = some 0 := by kernel_rfl
set_option maxHeartbeats 1000000 in
theorem bounds20_c {V : Vw} {id : Int} {ls : List Le} {p2 : Option Addr} {c2 : Nat} (hv2 : Rd V [] 8 (.slice p2 ls.length c2) ls.length (ls.flatMap Le.cells)) (hl9 : ls.length ≤ 9223372036854775807) (hcs : ∀ x,x ∈ ls → x.client.size ≤ 9223372036854775807) {c : Eg.Cs} (hco : Eg.Csok V c)  : Does Tryz.prog 5 [.int .i64 id,.slice p2 ls.length c2,.agg c.cells] V [] (fun v _ _ => v = .bool true) := by
 refine Does.intro Tryz.func5 rfl rfl (le rfl) (fun B => ?_)
 refine Zs<|Zr<|?_
 refine Run.box rfl (lt rfl) (fun b1 => ?_)
 refine Za Z<|Ze<|Zg<|Zs<|Zr<|?_
 refine Run.call [] (l := []) rfl rfl rfl (lt rfl) awake20_c (fun v2 V2 H2 hle2 hR2 => ?_)
 obtain ⟨_,rfl,rfl⟩ := hR2
 obtain ⟨W2,hVe⟩ : ∃ Vz : Vw,Vz = V2 := ⟨_,rfl⟩; subst hVe
 replace hv2 := hv2.le hle2
 replace hco := hco.le hle2
 have hVle := hle2
 refine Run.heapTo (H' := [[(b1,.cells (Eg.Cs.cells c) 30 (0,0))]]) Z<|Run.heapTo (H' := [[(b1,.cells (Eg.Cs.cells c) 30 (0,0))]]) Z<|?_
 refine Za Z<|Ze<|Zg<|Zs<|Zr<|Zm Z<|Zv (Y.int (r := .int .i64 (id % 2)) rfl rfl (by simp only [intRes]; rw [and_low2 id 1 2 1 WD rfl rfl]))<|?_
 refine Run.call [] (l := [.tmp 22]) rfl rfl rfl (lt rfl) (site20_c (id := id % 2)) (fun v3 V3 H3 hle3 hR3 => ?_)
 obtain ⟨_,rfl,pv3,rfl,hpv3⟩ := hR3; obtain ⟨pp3,cp3,rfl,_⟩ := hpv3.form
 obtain ⟨W3,hVe⟩ : ∃ Vz : Vw,Vz = V3 := ⟨_,rfl⟩; subst hVe
 replace hv2 := hv2.le hle3
 replace hco := hco.le hle3
 replace hVle := Vw.le_trans hVle hle3
 refine Run.heapTo (H' := [[(b1,.cells (Eg.Cs.cells c) 30 (0,0))]]) Z<|Run.heapTo (H' := [[(b1,.cells (Eg.Cs.cells c) 30 (0,0))]]) Z<|?_
 refine Run.alloc Law20d_zo35 (lt rfl) (fun b4 => ?_)
 refine Run.store (s := [(b4,.cells #[.int .i64 ((Eg.si (id % 2)).id),.int .i64 ((Eg.si (id % 2)).lead),.int .i64 ((Eg.si (id % 2)).guard),.int .u32 ((Eg.si (id % 2)).server),.int .i64 ((Eg.si (id % 2)).want),.int .i64 ((Eg.si (id % 2)).most),.int .i64 ((Eg.si (id % 2)).first),.float .f64 ((Eg.si (id % 2)).part),.float .f64 ((Eg.si (id % 2)).slack),.float .f64 ((Eg.si (id % 2)).renew),.float .f64 ((Eg.si (id % 2)).rebind),.slice pp3 1 cp3,.int .i64 ((Eg.si (id % 2)).room)] 35 (0,0))]) Z Z Law20d_sz35 (i := 0) Z Z (le Z) Z Z ?_
 refine Ze<|Zg<|Zs<|Zr<|Zv (Y.loadAgg Z Law20d_ag35 (Kn.at 0 Z) Z)<|Zm Z<|Zv (Y.loadAgg Z Law20d_ag30 (Kn.at 1 Z) Z)<|Run.call0 (l := [.tmp 24,.tmp 25,.tmp 26]) Z Z Z (lt Z) ((long20_c (x := (Eg.si (id % 2))) (c := c) hv2 hl9 hco.r.hw hco.r.os).frame)<|Za Z<|Ze<|Zg<|Zs<|Zs<|Zr<|Zm Z<|Zv (Y.not Z)<|?_
 refine Zm Z<|Zp Z<|Zm Z<|Zv (Y.pick_f Z Z Z)<|Zm Z<|?_
 rcases Zsplit (Eg.long c.p ls (Eg.si (id % 2)).pool.length) with ⟨h5,g5⟩ | ⟨h5,g5⟩ <;> try simp only [kb] at g5
 ·refine Zo h5 Z<|Zo h5 Z<|Zo h5 Z<|Zv (Y.pick_t Z h5 Z)<|Zm Z<|Zo Z Z<|Zo Z Z<|Zo Z Z<|Zv (Y.pick_t Z Z Z)<|Ze<|Zg<|Tr.cond_t Z Z<|Zs<|Zr<|Zm Z<|Za Z<|?_
  refine Ze<|Zg<|Zu<|Zn<|Ex.keep []<|?_
  exact Ex.ret1 rfl rfl  rfl
 ·obtain ⟨hfew,hlen,hnp⟩ := Eg.long_f h5
  have hw3 : c.p.hw.length < 1000 := by have h := hfew; simp only [Pc.few,Bool.and_eq_true,decide_eq_true_eq] at h; omega
  refine Zp h5<|Zv (Y.fieldAddr Z Law20d_fo30_1)<|Zp h5<|Zv (Y.load Z Law20d_ts3 (Kn.at 1 Z) Z)<|Zp h5<|Zv (Y.int Z Z Z)<|Zv (Y.pick_f Z h5 Z)<|Zm Z<|?_
  rcases Zsplit (decide (c.now < 0)) with ⟨h6,g6⟩ | ⟨h6,g6⟩ <;> try simp only [kb] at g6
  ·refine Zo h6 Z<|Zo h6 Z<|Zo h6 Z<|Zv (Y.pick_t Z h6 Z)<|Ze<|Zg<|Tr.cond_t Z Z<|Zs<|Zr<|Zm Z<|Za Z<|Ze<|Zg<|Zu<|Zn<|Ex.keep []<|?_
   exact Ex.ret1 rfl rfl  rfl
  ·refine Zp h6<|Zv (Y.fieldAddr Z Law20d_fo30_1)<|Zp h6<|Zv (Y.load Z Law20d_ts3 (Kn.at 1 Z) Z)<|Zp h6<|Zv (Y.int Z Z Z)<|Zv (Y.pick_f Z h6 Z)<|Ze<|Zg<|?_
   rcases Zsplit (decide (c.now > 549755813888)) with ⟨h7,g7⟩ | ⟨h7,g7⟩ <;> try simp only [kb] at g7
   ·refine Tr.cond_t Z h7<|Zs<|Zr<|Zm Z<|Za Z<|Ze<|Zg<|Zu<|Zn<|Ex.keep []<|?_
    exact Ex.ret1 rfl rfl  rfl
   ·refine Tr.cond_f Z h7<|Zt<|Zg<|Zs<|Zr<|Zv (Y.loadAgg Z Law20d_ag35 (Kn.at 0 Z) Z)<|Zm Z<|?_
    refine Run.call [] (l := [.tmp 45,.tmp 46]) rfl rfl rfl (lt rfl) (made20_c (x := (Eg.si (id % 2))) hpv3 (Nat.le_of_ble_eq_true rfl) Eg.oks6 hv2 hl9 hcs) (fun v8 V8 H8 hle8 hR8 => ?_)
    rcases hR8 with ⟨_,⟨hpn,_⟩ | ⟨_,l,tx,rx,s1,pl,cl,ql,rfl,hin,hl,had,hab,rfl⟩⟩
    · exact absurd (by rw [show ((Eg.si (id % 2))).pool = [⟨1,6⟩] from rfl,Eg.pool6]) hpn
    obtain ⟨W8,hVe⟩ : ∃ Vz : Vw,Vz = V8 := ⟨_,rfl⟩; subst hVe
    replace hv2 := hv2.le hle8
    replace hco := hco.le hle8
    replace hpv3 := hpv3.le hle8
    replace hVle := Vw.le_trans hVle hle8
    have hin2 := hin
    obtain ⟨hris,hlm3,_⟩ := hin2
    refine Run.heapTo (H' := [[(b4,.cells #[.int .i64 ((Eg.si (id % 2)).id),.int .i64 ((Eg.si (id % 2)).lead),.int .i64 ((Eg.si (id % 2)).guard),.int .u32 ((Eg.si (id % 2)).server),.int .i64 ((Eg.si (id % 2)).want),.int .i64 ((Eg.si (id % 2)).most),.int .i64 ((Eg.si (id % 2)).first),.float .f64 ((Eg.si (id % 2)).part),.float .f64 ((Eg.si (id % 2)).slack),.float .f64 ((Eg.si (id % 2)).renew),.float .f64 ((Eg.si (id % 2)).rebind),.slice pp3 1 cp3,.int .i64 ((Eg.si (id % 2)).room)] 35 (0,0))],[(b1,.cells (Eg.Cs.cells c) 30 (0,0))],s1,[(rx,.cells #[.slice pl l.length cl] 128 (0,0))],ql]) Z ?_
    refine Zm Z<|Zv (Y.extract Z Z)<|Zv (Y.extract Z Z)<|Za Z<|Za Z<|Ze<|Zg<|Zs<|Zr<|Zv (Y.loadAgg Z Law20d_ag35 (Kn.at 0 Z) Z)<|Zm Z<|Zv (Y.fieldAddr Z Law20d_fo30_0)<|Zv (Y.load Z Law20d_ts3 (Kn.at 1 Z) Z)<|Zv (Y.fieldAddr Z Law20d_fo30_1)<|Zv (Y.load Z Law20d_ts3 (Kn.at 1 Z) Z)<|Zv (Y.fieldAddr Z Law20d_fo30_2)<|?_
    refine Zv (Y.load Z Law20d_ts3 (Kn.at 1 Z) Z)<|Zv (Y.fieldAddr Z Law20d_fo30_3)<|Zv (Y.loadAgg Z Law20d_ag28 (Kn.at 1 Z) Z)<|?_
    refine Run.call [2] (l := [.tmp 50,.tmp 51,.tmp 53,.tmp 55,.tmp 57,.tmp 59]) rfl rfl rfl (lt rfl) (answer_t (x := (Eg.si (id % 2))) (p := c.p) (l := l) (state := c.state) (now := c.now) (entry := c.entry) hpv3 (Nat.le_of_ble_eq_true rfl) Eg.oks6 hco.r hfew hco.ci (show (0 : Int) ≤ 9 ∧ (9 : Int) ≤ 4294967295 by decide) hin (Eg.la_of had Eg.oks6)) (fun v9 V9 H9 hle9 hR9 => ?_)
    obtain ⟨_,rfl,hv9,ov9,rfl,hRa⟩ := hR9
    obtain ⟨W9,hVe⟩ : ∃ Vz : Vw,Vz = V9 := ⟨_,rfl⟩; subst hVe
    replace hv2 := hv2.le hle9
    replace hco := hco.le hle9
    replace hpv3 := hpv3.le hle9
    replace hVle := Vw.le_trans hVle hle9
    obtain ⟨⟨pg9,cg9,rfl⟩,pk9,nk9,ck9,rfl⟩ := hRa.forms
    generalize hA : Eg.ans ((Eg.si (id % 2))) l c.state c.now c.entry c.p = A at hRa ⊢
    have hC : Eg.Case ((Eg.si (id % 2))) l c A := by rw [← hA]; exact Eg.cases _ hris c
    clear hA
    refine Run.heapTo (H' := [[(b4,.cells #[.int .i64 ((Eg.si (id % 2)).id),.int .i64 ((Eg.si (id % 2)).lead),.int .i64 ((Eg.si (id % 2)).guard),.int .u32 ((Eg.si (id % 2)).server),.int .i64 ((Eg.si (id % 2)).want),.int .i64 ((Eg.si (id % 2)).most),.int .i64 ((Eg.si (id % 2)).first),.float .f64 ((Eg.si (id % 2)).part),.float .f64 ((Eg.si (id % 2)).slack),.float .f64 ((Eg.si (id % 2)).renew),.float .f64 ((Eg.si (id % 2)).rebind),.slice pp3 1 cp3,.int .i64 ((Eg.si (id % 2)).room)] 35 (0,0))],[(b1,.cells (Eg.Cs.cells c) 30 (0,0))],[(rx,.cells #[.slice pl l.length cl] 128 (0,0))],ql,s1]) Z ?_
    refine Run.alloc Law20d_zo45 (lt rfl) (fun b10 => ?_)
    refine Run.stAll (l2 := [.bool A.send,.int .i64 A.reply.op,.int .u32 A.reply.xid,.int .i64 A.reply.secs,.int .i64 A.reply.flags,.int .u32 A.reply.ci,.int .u32 A.reply.yi,.int .u32 A.reply.si,.int .u32 A.reply.gi,.slice pg9 A.reply.hw.length cg9,.slice pk9 nk9 ck9,.bool A.change,.int .u32 A.lease.addr,.int .i64 A.lease.bind,.string A.lease.client,.int .i64 A.lease.till,.int .i64 A.lease.acked,.int .i64 A.lease.told,.int .i64 A.lease.at_,.int .i64 A.lease.ver,.int .i64 A.pot]) (j := 0) Z Z Law20d_sz45 Z Z Z Z ?_
    refine Run.heapTo (H' := [[(b10,.cells (An.cells A (.slice pg9 A.reply.hw.length cg9) (.slice pk9 nk9 ck9)) 45 (0,0))],[(b4,.cells #[.int .i64 ((Eg.si (id % 2)).id),.int .i64 ((Eg.si (id % 2)).lead),.int .i64 ((Eg.si (id % 2)).guard),.int .u32 ((Eg.si (id % 2)).server),.int .i64 ((Eg.si (id % 2)).want),.int .i64 ((Eg.si (id % 2)).most),.int .i64 ((Eg.si (id % 2)).first),.float .f64 ((Eg.si (id % 2)).part),.float .f64 ((Eg.si (id % 2)).slack),.float .f64 ((Eg.si (id % 2)).renew),.float .f64 ((Eg.si (id % 2)).rebind),.slice pp3 1 cp3,.int .i64 ((Eg.si (id % 2)).room)] 35 (0,0))],[(b1,.cells (Eg.Cs.cells c) 30 (0,0))],[(rx,.cells #[.slice pl l.length cl] 128 (0,0))],ql,s1]) Z ?_
    refine Ze<|Zg<|Zs<|Zr<|?_
    rcases Eg.Case.eq hC with hE | ⟨m,hb,hf,hE⟩ | ⟨k,hk,hf,hE⟩ | ⟨y,hg,hf,hE⟩ | ⟨y,hg,hf,hE⟩
    ·have hsend : A.send = false := by rw [hE] <;> rfl
     have hchg : A.change = false := by rw [hE] <;> rfl
     have hpot : A.pot = 0 := by rw [hE] <;> rfl
     have hrep : A.reply = Cli.zeroP := by rw [hE] <;> rfl
     have hAf : A.reply.few = true := by rw [hrep]; exact Cli.few_zero
     have hyi : A.reply.yi = 0 := by rw [hrep] <;> rfl
     have h51 : ¬ (Oc.fd 51 A.reply.os).length = 4 := by rw [hrep]; exact (by decide : ¬ (0 : Nat) = 4)
     have hhas : Oc.has 51 A.reply.os = false := by rw [hrep] <;> rfl
     refine Zv (Y.fieldAddr Z Law20d_fo45_1)<|Zv (Y.fieldAddr Z Law20d_fo28_9)<|Zv (Y.load Z Law20d_ts26 (Kn.at 0 Z) Z)<|?_
     refine Run.call [] (l := [.tmp 64,.const (.int .i64 51)]) rfl rfl rfl (lt rfl) (rfind_h (code := 51) hRa.os (Eg.few_len hAf)) (fun v11 V2 H2 _ hR => ?_)
     obtain ⟨hV,rfl,d11,rfl,hd11⟩ := hR; replace hV := hV.symm; subst hV; obtain ⟨pd11,cd11,rfl,_⟩ := hd11.form
     refine Run.heapTo (H' := [[(b10,.cells (An.cells A (.slice pg9 A.reply.hw.length cg9) (.slice pk9 nk9 ck9)) 45 (0,0))],[(b4,.cells #[.int .i64 ((Eg.si (id % 2)).id),.int .i64 ((Eg.si (id % 2)).lead),.int .i64 ((Eg.si (id % 2)).guard),.int .u32 ((Eg.si (id % 2)).server),.int .i64 ((Eg.si (id % 2)).want),.int .i64 ((Eg.si (id % 2)).most),.int .i64 ((Eg.si (id % 2)).first),.float .f64 ((Eg.si (id % 2)).part),.float .f64 ((Eg.si (id % 2)).slack),.float .f64 ((Eg.si (id % 2)).renew),.float .f64 ((Eg.si (id % 2)).rebind),.slice pp3 1 cp3,.int .i64 ((Eg.si (id % 2)).room)] 35 (0,0))],[(b1,.cells (Eg.Cs.cells c) 30 (0,0))],[(rx,.cells #[.slice pl l.length cl] 128 (0,0))],ql,s1]) Z ?_
     refine Zm Z<|Zv (Y.extract Z Z)<|Zv (Y.extract Z Z)<|Za Z<|Za Z<|Ze<|Zg<|Zs<|Zr<|Zm Z<|?_
     refine Run.call [] (l := [.tmp 69]) rfl rfl rfl (lt rfl) (rnumber_oh (bs := Oc.fd 51 A.reply.os) hd11 h51) (fun v12 V2 H2 _ hR => ?_)
     obtain ⟨hV,rfl,n12,e12,rfl⟩ := hR; replace hV := hV.symm; subst hV
     refine Run.heapTo (H' := [[(b10,.cells (An.cells A (.slice pg9 A.reply.hw.length cg9) (.slice pk9 nk9 ck9)) 45 (0,0))],[(b4,.cells #[.int .i64 ((Eg.si (id % 2)).id),.int .i64 ((Eg.si (id % 2)).lead),.int .i64 ((Eg.si (id % 2)).guard),.int .u32 ((Eg.si (id % 2)).server),.int .i64 ((Eg.si (id % 2)).want),.int .i64 ((Eg.si (id % 2)).most),.int .i64 ((Eg.si (id % 2)).first),.float .f64 ((Eg.si (id % 2)).part),.float .f64 ((Eg.si (id % 2)).slack),.float .f64 ((Eg.si (id % 2)).renew),.float .f64 ((Eg.si (id % 2)).rebind),.slice pp3 1 cp3,.int .i64 ((Eg.si (id % 2)).room)] 35 (0,0))],[(b1,.cells (Eg.Cs.cells c) 30 (0,0))],[(rx,.cells #[.slice pl l.length cl] 128 (0,0))],ql,s1]) Z ?_
     refine Zm Z<|Zv (Y.extract Z Z)<|Zv (Y.extract Z Z)<|Za Z<|Za Z<|Ze<|Zg<|Zs<|Zs<|Zr<|Zv (Y.fieldAddr Z Law20d_fo45_0)<|Zv (Y.load Z Law20d_ts4 (Kn.at 0 Z) Z)<|Zv (Y.not Z)<|Zm Z<|Zo (congrArg Bool.not hsend) Z<|Zo (congrArg Bool.not hsend) Z<|?_
     refine Zv (Y.pick_t Z (congrArg Bool.not hsend) Z)<|Ze<|Zg<|Tr.cond_t Z Z<|Zs<|Zr<|Zv (Y.fieldAddr Z Law20d_fo45_1)<|Zv (Y.fieldAddr Z Law20d_fo28_5)<|Zv (Y.load Z Law20d_ts24 (Kn.at 0 Z) Z)<|Zv (Y.int Z Z Z)<|Za Z<|Ze<|Zg<|Zu<|Zn<|Ex.keep []<|?_
     exact Ex.ret1 rfl rfl  (congrArg Value.bool ((beq_iff_eq.2 hyi)))
    ·have hsend : A.send = false := by rw [hE] <;> rfl
     have hchg : A.change = true := by rw [hE] <;> rfl
     have hpot : A.pot = 0 := by rw [hE] <;> rfl
     obtain ⟨hf1,hf2,hnow,hf4,hf5⟩ := Eg.fits_t hf
     have hrep : A.reply = Cli.zeroP := by rw [hE] <;> rfl
     have hAf : A.reply.few = true := by rw [hrep]; exact Cli.few_zero
     have hyi : A.reply.yi = 0 := by rw [hrep] <;> rfl
     have hbd : A.lease.bind = 4 ∨ A.lease.bind = 5 := by rw [hE]; exact hb
     have h51 : ¬ (Oc.fd 51 A.reply.os).length = 4 := by rw [hrep]; exact (by decide : ¬ (0 : Nat) = 4)
     have hhas : Oc.has 51 A.reply.os = false := by rw [hrep] <;> rfl
     refine Zv (Y.fieldAddr Z Law20d_fo45_1)<|Zv (Y.fieldAddr Z Law20d_fo28_9)<|Zv (Y.load Z Law20d_ts26 (Kn.at 0 Z) Z)<|?_
     refine Run.call [] (l := [.tmp 64,.const (.int .i64 51)]) rfl rfl rfl (lt rfl) (rfind_h (code := 51) hRa.os (Eg.few_len hAf)) (fun v13 V2 H2 _ hR => ?_)
     obtain ⟨hV,rfl,d13,rfl,hd13⟩ := hR; replace hV := hV.symm; subst hV; obtain ⟨pd13,cd13,rfl,_⟩ := hd13.form
     refine Run.heapTo (H' := [[(b10,.cells (An.cells A (.slice pg9 A.reply.hw.length cg9) (.slice pk9 nk9 ck9)) 45 (0,0))],[(b4,.cells #[.int .i64 ((Eg.si (id % 2)).id),.int .i64 ((Eg.si (id % 2)).lead),.int .i64 ((Eg.si (id % 2)).guard),.int .u32 ((Eg.si (id % 2)).server),.int .i64 ((Eg.si (id % 2)).want),.int .i64 ((Eg.si (id % 2)).most),.int .i64 ((Eg.si (id % 2)).first),.float .f64 ((Eg.si (id % 2)).part),.float .f64 ((Eg.si (id % 2)).slack),.float .f64 ((Eg.si (id % 2)).renew),.float .f64 ((Eg.si (id % 2)).rebind),.slice pp3 1 cp3,.int .i64 ((Eg.si (id % 2)).room)] 35 (0,0))],[(b1,.cells (Eg.Cs.cells c) 30 (0,0))],[(rx,.cells #[.slice pl l.length cl] 128 (0,0))],ql,s1]) Z ?_
     refine Zm Z<|Zv (Y.extract Z Z)<|Zv (Y.extract Z Z)<|Za Z<|Za Z<|Ze<|Zg<|Zs<|Zr<|Zm Z<|?_
     refine Run.call [] (l := [.tmp 69]) rfl rfl rfl (lt rfl) (rnumber_oh (bs := Oc.fd 51 A.reply.os) hd13 h51) (fun v14 V2 H2 _ hR => ?_)
     obtain ⟨hV,rfl,n14,e14,rfl⟩ := hR; replace hV := hV.symm; subst hV
     refine Run.heapTo (H' := [[(b10,.cells (An.cells A (.slice pg9 A.reply.hw.length cg9) (.slice pk9 nk9 ck9)) 45 (0,0))],[(b4,.cells #[.int .i64 ((Eg.si (id % 2)).id),.int .i64 ((Eg.si (id % 2)).lead),.int .i64 ((Eg.si (id % 2)).guard),.int .u32 ((Eg.si (id % 2)).server),.int .i64 ((Eg.si (id % 2)).want),.int .i64 ((Eg.si (id % 2)).most),.int .i64 ((Eg.si (id % 2)).first),.float .f64 ((Eg.si (id % 2)).part),.float .f64 ((Eg.si (id % 2)).slack),.float .f64 ((Eg.si (id % 2)).renew),.float .f64 ((Eg.si (id % 2)).rebind),.slice pp3 1 cp3,.int .i64 ((Eg.si (id % 2)).room)] 35 (0,0))],[(b1,.cells (Eg.Cs.cells c) 30 (0,0))],[(rx,.cells #[.slice pl l.length cl] 128 (0,0))],ql,s1]) Z ?_
     refine Zm Z<|Zv (Y.extract Z Z)<|Zv (Y.extract Z Z)<|Za Z<|Za Z<|Ze<|Zg<|Zs<|Zs<|Zr<|Zv (Y.fieldAddr Z Law20d_fo45_0)<|Zv (Y.load Z Law20d_ts4 (Kn.at 0 Z) Z)<|Zv (Y.not Z)<|Zm Z<|Zo (congrArg Bool.not hsend) Z<|Zo (congrArg Bool.not hsend) Z<|?_
     refine Zv (Y.pick_t Z (congrArg Bool.not hsend) Z)<|Ze<|Zg<|Tr.cond_t Z Z<|Zs<|Zr<|Zv (Y.fieldAddr Z Law20d_fo45_1)<|Zv (Y.fieldAddr Z Law20d_fo28_5)<|Zv (Y.load Z Law20d_ts24 (Kn.at 0 Z) Z)<|Zv (Y.int Z Z Z)<|Za Z<|Ze<|Zg<|Zu<|Zn<|Ex.keep []<|?_
     exact Ex.ret1 rfl rfl  (congrArg Value.bool ((beq_iff_eq.2 hyi)))
    ·have hsend : A.send = true := by rw [hE] <;> rfl
     have hchg : A.change = false := by rw [hE] <;> rfl
     have hpot : A.pot = 0 := by rw [hE] <;> rfl
     obtain ⟨hf1,hf2,hnow,hf4,hf5⟩ := Eg.fits_t hf
     have hrep : A.reply = Eg.rep ((Eg.si (id % 2))) c.p k := by rw [hE] <;> rfl
     have hAf : A.reply.few = true := by rw [hrep]; exact Eg.few_rep hw3 _
     have hyi : A.reply.yi = 0 := by rw [hrep] <;> rfl
     have hkd : Pc.kind A.reply = 5 ∨ Pc.kind A.reply = 6 := by rw [hrep]; rcases hk with rfl | rfl; exact .inl rfl; exact .inr rfl
     have h51 : ¬ (Oc.fd 51 A.reply.os).length = 4 := by rw [hrep]; exact (by decide : ¬ (0 : Nat) = 4)
     have hhas : Oc.has 51 A.reply.os = false := by rw [hrep] <;> rfl
     have hxid : A.reply.xid = c.p.xid := by rw [hrep] <;> rfl
     have hop : A.reply.op = 2 := by rw [hrep] <;> rfl
     have hsi : A.reply.si = (Eg.si (id % 2)).server := by rw [hrep] <;> rfl
     refine Zv (Y.fieldAddr Z Law20d_fo45_1)<|Zv (Y.fieldAddr Z Law20d_fo28_9)<|Zv (Y.load Z Law20d_ts26 (Kn.at 0 Z) Z)<|?_
     refine Run.call [] (l := [.tmp 64,.const (.int .i64 51)]) rfl rfl rfl (lt rfl) (rfind_h (code := 51) hRa.os (Eg.few_len hAf)) (fun v15 V2 H2 _ hR => ?_)
     obtain ⟨hV,rfl,d15,rfl,hd15⟩ := hR; replace hV := hV.symm; subst hV; obtain ⟨pd15,cd15,rfl,_⟩ := hd15.form
     refine Run.heapTo (H' := [[(b10,.cells (An.cells A (.slice pg9 A.reply.hw.length cg9) (.slice pk9 nk9 ck9)) 45 (0,0))],[(b4,.cells #[.int .i64 ((Eg.si (id % 2)).id),.int .i64 ((Eg.si (id % 2)).lead),.int .i64 ((Eg.si (id % 2)).guard),.int .u32 ((Eg.si (id % 2)).server),.int .i64 ((Eg.si (id % 2)).want),.int .i64 ((Eg.si (id % 2)).most),.int .i64 ((Eg.si (id % 2)).first),.float .f64 ((Eg.si (id % 2)).part),.float .f64 ((Eg.si (id % 2)).slack),.float .f64 ((Eg.si (id % 2)).renew),.float .f64 ((Eg.si (id % 2)).rebind),.slice pp3 1 cp3,.int .i64 ((Eg.si (id % 2)).room)] 35 (0,0))],[(b1,.cells (Eg.Cs.cells c) 30 (0,0))],[(rx,.cells #[.slice pl l.length cl] 128 (0,0))],ql,s1]) Z ?_
     refine Zm Z<|Zv (Y.extract Z Z)<|Zv (Y.extract Z Z)<|Za Z<|Za Z<|Ze<|Zg<|Zs<|Zr<|Zm Z<|?_
     refine Run.call [] (l := [.tmp 69]) rfl rfl rfl (lt rfl) (rnumber_oh (bs := Oc.fd 51 A.reply.os) hd15 h51) (fun v16 V2 H2 _ hR => ?_)
     obtain ⟨hV,rfl,n16,e16,rfl⟩ := hR; replace hV := hV.symm; subst hV
     refine Run.heapTo (H' := [[(b10,.cells (An.cells A (.slice pg9 A.reply.hw.length cg9) (.slice pk9 nk9 ck9)) 45 (0,0))],[(b4,.cells #[.int .i64 ((Eg.si (id % 2)).id),.int .i64 ((Eg.si (id % 2)).lead),.int .i64 ((Eg.si (id % 2)).guard),.int .u32 ((Eg.si (id % 2)).server),.int .i64 ((Eg.si (id % 2)).want),.int .i64 ((Eg.si (id % 2)).most),.int .i64 ((Eg.si (id % 2)).first),.float .f64 ((Eg.si (id % 2)).part),.float .f64 ((Eg.si (id % 2)).slack),.float .f64 ((Eg.si (id % 2)).renew),.float .f64 ((Eg.si (id % 2)).rebind),.slice pp3 1 cp3,.int .i64 ((Eg.si (id % 2)).room)] 35 (0,0))],[(b1,.cells (Eg.Cs.cells c) 30 (0,0))],[(rx,.cells #[.slice pl l.length cl] 128 (0,0))],ql,s1]) Z ?_
     refine Zm Z<|Zv (Y.extract Z Z)<|Zv (Y.extract Z Z)<|Za Z<|Za Z<|Ze<|Zg<|Zs<|Zs<|Zr<|Zv (Y.fieldAddr Z Law20d_fo45_0)<|Zv (Y.load Z Law20d_ts4 (Kn.at 0 Z) Z)<|Zv (Y.not Z)<|Zm Z<|Zp (congrArg Bool.not hsend)<|Zm Z<|?_
     refine Zp (congrArg Bool.not hsend)<|Zv (Y.not Z)<|Zv (Y.pick_f Z (congrArg Bool.not hsend) Z)<|Ze<|Zg<|Tr.cond_t Z (congrArg Bool.not hhas)<|Zs<|Zr<|Zv (Y.fieldAddr Z Law20d_fo45_1)<|Zv (Y.fieldAddr Z Law20d_fo28_5)<|Zv (Y.load Z Law20d_ts24 (Kn.at 0 Z) Z)<|Zv (Y.int Z Z Z)<|Za Z<|Ze<|Zg<|Zu<|?_
     refine Zn<|Ex.keep []<|?_
     exact Ex.ret1 rfl rfl  (congrArg Value.bool ((beq_iff_eq.2 hyi)))
    ·have hsend : A.send = true := by rw [hE] <;> rfl
     have hchg : A.change = false := by rw [hE] <;> rfl
     have hpot : A.pot = 0 := by rw [hE] <;> rfl
     obtain ⟨hf1,hf2,hnow,hf4,hf5⟩ := Eg.fits_t hf
     have hrep : A.reply = Eg.prom ((Eg.si (id % 2))) c.p 2 y.addr ((Eg.sq ((Eg.si (id % 2))) l c).tm y) := by rw [hE] <;> rfl
     have hAf : A.reply.few = true := by rw [hrep]; exact Eg.few_prom hw3 _ _ _
     have hyi : A.reply.yi = y.addr := by rw [hrep] <;> rfl
     have hkd : Pc.kind A.reply = 2 := by rw [hrep] <;> rfl
     have h51 : (Oc.fd 51 A.reply.os).length = 4 := by rw [hrep]; exact Msg.be_length _ _
     have hhas : Oc.has 51 A.reply.os = true := by rw [hrep] <;> rfl
     have hval : val (Oc.fd 51 A.reply.os) = (Eg.sq ((Eg.si (id % 2))) l c).tm y := by rw [hrep]; exact Eg.val_t (Eg.good_tm hg)
     have hty := Eg.good_tm hg
     have hxid : A.reply.xid = c.p.xid := by rw [hrep] <;> rfl
     have hop : A.reply.op = 2 := by rw [hrep] <;> rfl
     have hsi : A.reply.si = (Eg.si (id % 2)).server := by rw [hrep] <;> rfl
     have hget : Le.getE l A.reply.yi = (y,0) := by rw [hyi]; exact hg.1
     have hG1 : (Le.getE l A.reply.yi).1 = y := by rw [hget]
     have hG2 : (Le.getE l A.reply.yi).2 = 0 := by rw [hget]
     have hy1 := Eg.la6 had y (Eg.good_mem hg)
     have hb1 : c.now + val (Oc.fd 51 A.reply.os) ≤ max c.now (if (((Le.getE l A.reply.yi).1.bind == 2) && ((Le.getE l A.reply.yi).1.client.toList == c.p.client.toList)) = true then (Le.getE l A.reply.yi).1.acked else 0) + 10 := by rw [hval,hG1]; exact (Eg.bound_facts hg hnow (show (0 : Int) ≤ 10 by decide) (show (0 : Int) ≤ 1000 by decide)).1
     have hb2 : val (Oc.fd 51 A.reply.os) ≤ 1000 := by rw [hval]; exact (Eg.bound_facts hg hnow (show (0 : Int) ≤ 10 by decide) (show (0 : Int) ≤ 1000 by decide)).2
     have hak := hab y (Eg.good_mem hg)
     rw [← hG1] at hak
     refine Zv (Y.fieldAddr Z Law20d_fo45_1)<|Zv (Y.fieldAddr Z Law20d_fo28_9)<|Zv (Y.load Z Law20d_ts26 (Kn.at 0 Z) Z)<|?_
     refine Run.call [] (l := [.tmp 64,.const (.int .i64 51)]) rfl rfl rfl (lt rfl) (rfind_h (code := 51) hRa.os (Eg.few_len hAf)) (fun v17 V2 H2 _ hR => ?_)
     obtain ⟨hV,rfl,d17,rfl,hd17⟩ := hR; replace hV := hV.symm; subst hV; obtain ⟨pd17,cd17,rfl,_⟩ := hd17.form
     refine Run.heapTo (H' := [[(b10,.cells (An.cells A (.slice pg9 A.reply.hw.length cg9) (.slice pk9 nk9 ck9)) 45 (0,0))],[(b4,.cells #[.int .i64 ((Eg.si (id % 2)).id),.int .i64 ((Eg.si (id % 2)).lead),.int .i64 ((Eg.si (id % 2)).guard),.int .u32 ((Eg.si (id % 2)).server),.int .i64 ((Eg.si (id % 2)).want),.int .i64 ((Eg.si (id % 2)).most),.int .i64 ((Eg.si (id % 2)).first),.float .f64 ((Eg.si (id % 2)).part),.float .f64 ((Eg.si (id % 2)).slack),.float .f64 ((Eg.si (id % 2)).renew),.float .f64 ((Eg.si (id % 2)).rebind),.slice pp3 1 cp3,.int .i64 ((Eg.si (id % 2)).room)] 35 (0,0))],[(b1,.cells (Eg.Cs.cells c) 30 (0,0))],[(rx,.cells #[.slice pl l.length cl] 128 (0,0))],ql,s1]) Z ?_
     refine Zm Z<|Zv (Y.extract Z Z)<|Zv (Y.extract Z Z)<|Za Z<|Za Z<|Ze<|Zg<|Zs<|Zr<|Zm Z<|Run.call0 (l := [.tmp 69]) Z Z Z (lt Z) (rnumber_h (bs := Oc.fd 51 A.reply.os) hd17.of_nil h51)<|Run.heapTo (H' := [[(b10,.cells (An.cells A (.slice pg9 A.reply.hw.length cg9) (.slice pk9 nk9 ck9)) 45 (0,0))],[(b4,.cells #[.int .i64 ((Eg.si (id % 2)).id),.int .i64 ((Eg.si (id % 2)).lead),.int .i64 ((Eg.si (id % 2)).guard),.int .u32 ((Eg.si (id % 2)).server),.int .i64 ((Eg.si (id % 2)).want),.int .i64 ((Eg.si (id % 2)).most),.int .i64 ((Eg.si (id % 2)).first),.float .f64 ((Eg.si (id % 2)).part),.float .f64 ((Eg.si (id % 2)).slack),.float .f64 ((Eg.si (id % 2)).renew),.float .f64 ((Eg.si (id % 2)).rebind),.slice pp3 1 cp3,.int .i64 ((Eg.si (id % 2)).room)] 35 (0,0))],[(b1,.cells (Eg.Cs.cells c) 30 (0,0))],[(rx,.cells #[.slice pl l.length cl] 128 (0,0))],ql,s1]) Z<|?_
     refine Zm Z<|Zv (Y.extract Z Z)<|Zv (Y.extract Z Z)<|Za Z<|Za Z<|Ze<|Zg<|Zs<|Zs<|Zr<|Zv (Y.fieldAddr Z Law20d_fo45_0)<|Zv (Y.load Z Law20d_ts4 (Kn.at 0 Z) Z)<|Zv (Y.not Z)<|Zm Z<|Zp (congrArg Bool.not hsend)<|Zm Z<|?_
     refine Zp (congrArg Bool.not hsend)<|Zv (Y.not Z)<|Zv (Y.pick_f Z (congrArg Bool.not hsend) Z)<|Ze<|Zg<|Tr.cond_f Z (congrArg Bool.not hhas)<|Zt<|Zg<|Zs<|Zr<|Zm Z<|Zv (Y.fieldAddr Z Law20d_fo45_1)<|Zv (Y.fieldAddr Z Law20d_fo28_5)<|Zv (Y.load Z Law20d_ts24 (Kn.at 0 Z) Z)<|Run.call0 (l := [.tmp 85,.tmp 88]) Z Z Z (lt Z) (Does.frame1 5 Z (get_o (a := A.reply.yi) hin))<|Zm Z<|?_
     refine Zv (Y.extract Z Z)<|Zv (Y.extract Z Z)<|?_
     refine Run.alloc Law20d_zo43 (lt rfl) (fun b18 => ?_)
     refine Run.store (s := [(b18,.cells ((Le.cells ((Le.getE l A.reply.yi).1)).toArray) 43 (0,0))]) Z Z Law20d_sz43 (i := 0) Z Z (le Z) Z Z ?_
     refine Za Z<|Ze<|Zg<|Zs<|Zr<|Za Z<|Ze<|Zg<|Zs<|Zs<|Tr.quiet Law20d_mo WK<|ZV (Y.fieldAddr Z Law20d_fo43_1)<|ZV (Y.load Z Law20d_ts3 (Kn.at 0 Z) Z)<|ZV (Y.int Z Z Z)<|ZM Z<|?_
     rcases Zsplit (((Le.getE l A.reply.yi).1.bind) == 2) with ⟨h19,g19⟩ | ⟨h19,g19⟩ <;> try simp only [kb] at g19
     ·refine ZP h19<|ZV (Y.fieldAddr Z Law20d_fo43_2)<|ZP h19<|ZV (Y.load Z Law20d_ts9 (Kn.at 0 Z) Z)<|ZP h19<|ZV (Y.fieldAddr Z Law20d_fo30_3)<|ZP h19<|ZV (Y.loadAgg Z Law20d_ag28 (Kn.at 3 Z) Z)<|ZP h19<|RunQ.call0 (l := [.tmp 99]) Z Z Z (lt Z) (pclient_h hco.r hfew)<|ZP h19<|ZV (Y.eqStr Z Z)<|ZV (Y.pick_t Z h19 Z)<|ZE<|Zg<|?_
      rcases Zsplit (((Le.getE l A.reply.yi).1.client).toList == c.p.client.toList) with ⟨h20,g20⟩ | ⟨h20,g20⟩ <;> try simp only [kb] at g20
      ·refine Tr.cond_t Z h20<|Zr<|Zv (Y.fieldAddr Z Law20d_fo43_4)<|Zv (Y.load Z Law20d_ts3 (Kn.at 0 Z) Z)<|Za Z<|Ze<|Zg<|Zs<|Zr<|Zv (Y.fieldAddr Z Law20d_fo30_1)<|Zv (Y.load Z Law20d_ts3 (Kn.at 3 Z) Z)<|Zm Z<|Zv (Y.add Z Z W)<|Zv (Y.fieldAddr Z Law20d_fo30_1)<|Zv (Y.load Z Law20d_ts3 (Kn.at 3 Z) Z)<|Zm Z<|?_
       refine Zv (Y.max2 Z Z)<|Zv (Y.add Z Z W)<|Zv (Y.int Z Z Z)<|Zm Z<|?_
       rcases Zsplit (decide ((c.now + (val (Oc.fd 51 A.reply.os))) ≤ ((max c.now ((Le.getE l A.reply.yi).1.acked)) + 10))) with ⟨h21,g21⟩ | ⟨h21,g21⟩ <;> try simp only [kb] at g21
       ·refine Zp h21<|Zm Z<|Zp h21<|Zv (Y.int Z Z Z)<|Zv (Y.pick_t Z h21 Z)<|Zm Z<|?_
        rcases Zsplit (decide ((val (Oc.fd 51 A.reply.os)) ≤ 1000)) with ⟨h22,g22⟩ | ⟨h22,g22⟩ <;> try simp only [kb] at g22
        ·refine Zp h22<|Zv (Y.fieldAddr Z Law20d_fo45_1)<|Zp h22<|Zv (Y.fieldAddr Z Law20d_fo28_1)<|Zp h22<|Zv (Y.load Z Law20d_ts23 (Kn.at 1 Z) Z)<|Zp h22<|Zv (Y.fieldAddr Z Law20d_fo30_3)<|Zp h22<|Zv (Y.fieldAddr Z Law20d_fo28_1)<|Zp h22<|Zv (Y.load Z Law20d_ts23 (Kn.at 3 Z) Z)<|Zp h22<|Zv (Y.int Z Z Z)<|Zv (Y.pick_t Z h22 Z)<|Zm Z<|?_
         refine Zp (beq_iff_eq.2 hxid)<|Zv (Y.fieldAddr Z Law20d_fo45_1)<|Zp (beq_iff_eq.2 hxid)<|Zv (Y.fieldAddr Z Law20d_fo28_6)<|Zp (beq_iff_eq.2 hxid)<|Zv (Y.load Z Law20d_ts24 (Kn.at 1 Z) Z)<|Zp (beq_iff_eq.2 hxid)<|Zv (Y.int Z Z Z)<|Zv (Y.pick_t Z (beq_iff_eq.2 hxid) Z)<|Zm Z<|Zp (beq_iff_eq.2 hsi)<|Zv (Y.fieldAddr Z Law20d_fo45_1)<|Zp (beq_iff_eq.2 hsi)<|Zv (Y.fieldAddr Z Law20d_fo28_0)<|Zp (beq_iff_eq.2 hsi)<|Zv (Y.load Z Law20d_ts3 (Kn.at 1 Z) Z)<|?_
         refine Zp (beq_iff_eq.2 hsi)<|Zv (Y.int Z Z Z)<|Zv (Y.pick_t Z (beq_iff_eq.2 hsi) Z)<|Za Z<|Ze<|Zg<|Zu<|Ex.keep []<|?_
         exact Ex.ret1 rfl rfl  (congrArg Value.bool ((beq_iff_eq.2 hop)))
        ·exfalso; omega
       ·exfalso; clear hrep hE hyi hget hG1 hG2; simp only [*,Bool.and_true,Bool.and_false,Bool.true_and,Bool.false_and,if_true,if_false,Bool.false_eq_true] at hb1; omega
      ·refine Tr.cond_f Z h20<|Zt<|Zg<|Zs<|Zr<|Zv (Y.fieldAddr Z Law20d_fo30_1)<|Zv (Y.load Z Law20d_ts3 (Kn.at 3 Z) Z)<|Zm Z<|Zv (Y.add Z Z W)<|Zv (Y.fieldAddr Z Law20d_fo30_1)<|Zv (Y.load Z Law20d_ts3 (Kn.at 3 Z) Z)<|Zm Z<|Zv (Y.max2 Z Z)<|Zv (Y.add Z Z W)<|Zv (Y.int Z Z Z)<|Zm Z<|?_
       rcases Zsplit (decide ((c.now + (val (Oc.fd 51 A.reply.os))) ≤ ((max c.now 0) + 10))) with ⟨h23,g23⟩ | ⟨h23,g23⟩ <;> try simp only [kb] at g23
       ·refine Zp h23<|Zm Z<|Zp h23<|Zv (Y.int Z Z Z)<|Zv (Y.pick_t Z h23 Z)<|Zm Z<|?_
        rcases Zsplit (decide ((val (Oc.fd 51 A.reply.os)) ≤ 1000)) with ⟨h24,g24⟩ | ⟨h24,g24⟩ <;> try simp only [kb] at g24
        ·refine Zp h24<|Zv (Y.fieldAddr Z Law20d_fo45_1)<|Zp h24<|Zv (Y.fieldAddr Z Law20d_fo28_1)<|Zp h24<|Zv (Y.load Z Law20d_ts23 (Kn.at 1 Z) Z)<|Zp h24<|Zv (Y.fieldAddr Z Law20d_fo30_3)<|Zp h24<|Zv (Y.fieldAddr Z Law20d_fo28_1)<|Zp h24<|Zv (Y.load Z Law20d_ts23 (Kn.at 3 Z) Z)<|Zp h24<|Zv (Y.int Z Z Z)<|Zv (Y.pick_t Z h24 Z)<|Zm Z<|?_
         refine Zp (beq_iff_eq.2 hxid)<|Zv (Y.fieldAddr Z Law20d_fo45_1)<|Zp (beq_iff_eq.2 hxid)<|Zv (Y.fieldAddr Z Law20d_fo28_6)<|Zp (beq_iff_eq.2 hxid)<|Zv (Y.load Z Law20d_ts24 (Kn.at 1 Z) Z)<|Zp (beq_iff_eq.2 hxid)<|Zv (Y.int Z Z Z)<|Zv (Y.pick_t Z (beq_iff_eq.2 hxid) Z)<|Zm Z<|Zp (beq_iff_eq.2 hsi)<|Zv (Y.fieldAddr Z Law20d_fo45_1)<|Zp (beq_iff_eq.2 hsi)<|Zv (Y.fieldAddr Z Law20d_fo28_0)<|Zp (beq_iff_eq.2 hsi)<|Zv (Y.load Z Law20d_ts3 (Kn.at 1 Z) Z)<|?_
         refine Zp (beq_iff_eq.2 hsi)<|Zv (Y.int Z Z Z)<|Zv (Y.pick_t Z (beq_iff_eq.2 hsi) Z)<|Za Z<|Ze<|Zg<|Zu<|Ex.keep []<|?_
         exact Ex.ret1 rfl rfl  (congrArg Value.bool ((beq_iff_eq.2 hop)))
        ·exfalso; omega
       ·exfalso; clear hrep hE hyi hget hG1 hG2; simp only [*,Bool.and_true,Bool.and_false,Bool.true_and,Bool.false_and,if_true,if_false,Bool.false_eq_true] at hb1; omega
     ·refine ZO h19 Z<|ZO h19 Z<|ZO h19 Z<|ZO h19 Z<|ZO h19 Z<|ZO h19 Z<|ZV (Y.pick_f Z h19 Z)<|ZE<|Zg<|Tr.cond_f Z Z<|Zt<|Zg<|Zs<|Zr<|Zv (Y.fieldAddr Z Law20d_fo30_1)<|Zv (Y.load Z Law20d_ts3 (Kn.at 3 Z) Z)<|?_
      refine Zm Z<|Zv (Y.add Z Z W)<|Zv (Y.fieldAddr Z Law20d_fo30_1)<|Zv (Y.load Z Law20d_ts3 (Kn.at 3 Z) Z)<|Zm Z<|Zv (Y.max2 Z Z)<|Zv (Y.add Z Z W)<|Zv (Y.int Z Z Z)<|Zm Z<|?_
      rcases Zsplit (decide ((c.now + (val (Oc.fd 51 A.reply.os))) ≤ ((max c.now 0) + 10))) with ⟨h25,g25⟩ | ⟨h25,g25⟩ <;> try simp only [kb] at g25
      ·refine Zp h25<|Zm Z<|Zp h25<|Zv (Y.int Z Z Z)<|Zv (Y.pick_t Z h25 Z)<|Zm Z<|?_
       rcases Zsplit (decide ((val (Oc.fd 51 A.reply.os)) ≤ 1000)) with ⟨h26,g26⟩ | ⟨h26,g26⟩ <;> try simp only [kb] at g26
       ·refine Zp h26<|Zv (Y.fieldAddr Z Law20d_fo45_1)<|Zp h26<|Zv (Y.fieldAddr Z Law20d_fo28_1)<|Zp h26<|Zv (Y.load Z Law20d_ts23 (Kn.at 1 Z) Z)<|Zp h26<|Zv (Y.fieldAddr Z Law20d_fo30_3)<|Zp h26<|Zv (Y.fieldAddr Z Law20d_fo28_1)<|Zp h26<|Zv (Y.load Z Law20d_ts23 (Kn.at 3 Z) Z)<|Zp h26<|Zv (Y.int Z Z Z)<|Zv (Y.pick_t Z h26 Z)<|Zm Z<|?_
        refine Zp (beq_iff_eq.2 hxid)<|Zv (Y.fieldAddr Z Law20d_fo45_1)<|Zp (beq_iff_eq.2 hxid)<|Zv (Y.fieldAddr Z Law20d_fo28_6)<|Zp (beq_iff_eq.2 hxid)<|Zv (Y.load Z Law20d_ts24 (Kn.at 1 Z) Z)<|Zp (beq_iff_eq.2 hxid)<|Zv (Y.int Z Z Z)<|Zv (Y.pick_t Z (beq_iff_eq.2 hxid) Z)<|Zm Z<|Zp (beq_iff_eq.2 hsi)<|Zv (Y.fieldAddr Z Law20d_fo45_1)<|Zp (beq_iff_eq.2 hsi)<|Zv (Y.fieldAddr Z Law20d_fo28_0)<|Zp (beq_iff_eq.2 hsi)<|Zv (Y.load Z Law20d_ts3 (Kn.at 1 Z) Z)<|?_
        refine Zp (beq_iff_eq.2 hsi)<|Zv (Y.int Z Z Z)<|Zv (Y.pick_t Z (beq_iff_eq.2 hsi) Z)<|Za Z<|Ze<|Zg<|Zu<|Ex.keep []<|?_
        exact Ex.ret1 rfl rfl  (congrArg Value.bool ((beq_iff_eq.2 hop)))
       ·exfalso; omega
      ·exfalso; clear hrep hE hyi hget hG1 hG2; simp only [*,Bool.and_true,Bool.and_false,Bool.true_and,Bool.false_and,if_true,if_false,Bool.false_eq_true] at hb1; omega
    ·have hsend : A.send = true := by rw [hE] <;> rfl
     have hchg : A.change = true := by rw [hE] <;> rfl
     obtain ⟨hf1,hf2,hnow,hf4,hf5⟩ := Eg.fits_t hf
     have hrep : A.reply = Eg.prom ((Eg.si (id % 2))) c.p 5 y.addr ((Eg.sq ((Eg.si (id % 2))) l c).tm y) := by rw [hE] <;> rfl
     have hAf : A.reply.few = true := by rw [hrep]; exact Eg.few_prom hw3 _ _ _
     have hyi : A.reply.yi = y.addr := by rw [hrep] <;> rfl
     have hkd : Pc.kind A.reply = 5 := by rw [hrep] <;> rfl
     have h51 : (Oc.fd 51 A.reply.os).length = 4 := by rw [hrep]; exact Msg.be_length _ _
     have hhas : Oc.has 51 A.reply.os = true := by rw [hrep] <;> rfl
     have hval : val (Oc.fd 51 A.reply.os) = (Eg.sq ((Eg.si (id % 2))) l c).tm y := by rw [hrep]; exact Eg.val_t (Eg.good_tm hg)
     have hty := Eg.good_tm hg
     have hxid : A.reply.xid = c.p.xid := by rw [hrep] <;> rfl
     have hop : A.reply.op = 2 := by rw [hrep] <;> rfl
     have hsi : A.reply.si = (Eg.si (id % 2)).server := by rw [hrep] <;> rfl
     have hget : Le.getE l A.reply.yi = (y,0) := by rw [hyi]; exact hg.1
     have hG1 : (Le.getE l A.reply.yi).1 = y := by rw [hget]
     have hG2 : (Le.getE l A.reply.yi).2 = 0 := by rw [hget]
     have hy1 := Eg.la6 had y (Eg.good_mem hg)
     have hb1 : c.now + val (Oc.fd 51 A.reply.os) ≤ max c.now (if (((Le.getE l A.reply.yi).1.bind == 2) && ((Le.getE l A.reply.yi).1.client.toList == c.p.client.toList)) = true then (Le.getE l A.reply.yi).1.acked else 0) + 10 := by rw [hval,hG1]; exact (Eg.bound_facts hg hnow (show (0 : Int) ≤ 10 by decide) (show (0 : Int) ≤ 1000 by decide)).1
     have hb2 : val (Oc.fd 51 A.reply.os) ≤ 1000 := by rw [hval]; exact (Eg.bound_facts hg hnow (show (0 : Int) ≤ 10 by decide) (show (0 : Int) ≤ 1000 by decide)).2
     have hak := hab y (Eg.good_mem hg)
     rw [← hG1] at hak
     refine Zv (Y.fieldAddr Z Law20d_fo45_1)<|Zv (Y.fieldAddr Z Law20d_fo28_9)<|Zv (Y.load Z Law20d_ts26 (Kn.at 0 Z) Z)<|?_
     refine Run.call [] (l := [.tmp 64,.const (.int .i64 51)]) rfl rfl rfl (lt rfl) (rfind_h (code := 51) hRa.os (Eg.few_len hAf)) (fun v27 V2 H2 _ hR => ?_)
     obtain ⟨hV,rfl,d27,rfl,hd27⟩ := hR; replace hV := hV.symm; subst hV; obtain ⟨pd27,cd27,rfl,_⟩ := hd27.form
     refine Run.heapTo (H' := [[(b10,.cells (An.cells A (.slice pg9 A.reply.hw.length cg9) (.slice pk9 nk9 ck9)) 45 (0,0))],[(b4,.cells #[.int .i64 ((Eg.si (id % 2)).id),.int .i64 ((Eg.si (id % 2)).lead),.int .i64 ((Eg.si (id % 2)).guard),.int .u32 ((Eg.si (id % 2)).server),.int .i64 ((Eg.si (id % 2)).want),.int .i64 ((Eg.si (id % 2)).most),.int .i64 ((Eg.si (id % 2)).first),.float .f64 ((Eg.si (id % 2)).part),.float .f64 ((Eg.si (id % 2)).slack),.float .f64 ((Eg.si (id % 2)).renew),.float .f64 ((Eg.si (id % 2)).rebind),.slice pp3 1 cp3,.int .i64 ((Eg.si (id % 2)).room)] 35 (0,0))],[(b1,.cells (Eg.Cs.cells c) 30 (0,0))],[(rx,.cells #[.slice pl l.length cl] 128 (0,0))],ql,s1]) Z ?_
     refine Zm Z<|Zv (Y.extract Z Z)<|Zv (Y.extract Z Z)<|Za Z<|Za Z<|Ze<|Zg<|Zs<|Zr<|Zm Z<|Run.call0 (l := [.tmp 69]) Z Z Z (lt Z) (rnumber_h (bs := Oc.fd 51 A.reply.os) hd27.of_nil h51)<|Run.heapTo (H' := [[(b10,.cells (An.cells A (.slice pg9 A.reply.hw.length cg9) (.slice pk9 nk9 ck9)) 45 (0,0))],[(b4,.cells #[.int .i64 ((Eg.si (id % 2)).id),.int .i64 ((Eg.si (id % 2)).lead),.int .i64 ((Eg.si (id % 2)).guard),.int .u32 ((Eg.si (id % 2)).server),.int .i64 ((Eg.si (id % 2)).want),.int .i64 ((Eg.si (id % 2)).most),.int .i64 ((Eg.si (id % 2)).first),.float .f64 ((Eg.si (id % 2)).part),.float .f64 ((Eg.si (id % 2)).slack),.float .f64 ((Eg.si (id % 2)).renew),.float .f64 ((Eg.si (id % 2)).rebind),.slice pp3 1 cp3,.int .i64 ((Eg.si (id % 2)).room)] 35 (0,0))],[(b1,.cells (Eg.Cs.cells c) 30 (0,0))],[(rx,.cells #[.slice pl l.length cl] 128 (0,0))],ql,s1]) Z<|?_
     refine Zm Z<|Zv (Y.extract Z Z)<|Zv (Y.extract Z Z)<|Za Z<|Za Z<|Ze<|Zg<|Zs<|Zs<|Zr<|Zv (Y.fieldAddr Z Law20d_fo45_0)<|Zv (Y.load Z Law20d_ts4 (Kn.at 0 Z) Z)<|Zv (Y.not Z)<|Zm Z<|Zp (congrArg Bool.not hsend)<|Zm Z<|?_
     refine Zp (congrArg Bool.not hsend)<|Zv (Y.not Z)<|Zv (Y.pick_f Z (congrArg Bool.not hsend) Z)<|Ze<|Zg<|Tr.cond_f Z (congrArg Bool.not hhas)<|Zt<|Zg<|Zs<|Zr<|Zm Z<|Zv (Y.fieldAddr Z Law20d_fo45_1)<|Zv (Y.fieldAddr Z Law20d_fo28_5)<|Zv (Y.load Z Law20d_ts24 (Kn.at 0 Z) Z)<|Run.call0 (l := [.tmp 85,.tmp 88]) Z Z Z (lt Z) (Does.frame1 5 Z (get_o (a := A.reply.yi) hin))<|Zm Z<|?_
     refine Zv (Y.extract Z Z)<|Zv (Y.extract Z Z)<|?_
     refine Run.alloc Law20d_zo43 (lt rfl) (fun b28 => ?_)
     refine Run.store (s := [(b28,.cells ((Le.cells ((Le.getE l A.reply.yi).1)).toArray) 43 (0,0))]) Z Z Law20d_sz43 (i := 0) Z Z (le Z) Z Z ?_
     refine Za Z<|Ze<|Zg<|Zs<|Zr<|Za Z<|Ze<|Zg<|Zs<|Zs<|Tr.quiet Law20d_mo WK<|ZV (Y.fieldAddr Z Law20d_fo43_1)<|ZV (Y.load Z Law20d_ts3 (Kn.at 0 Z) Z)<|ZV (Y.int Z Z Z)<|ZM Z<|?_
     rcases Zsplit (((Le.getE l A.reply.yi).1.bind) == 2) with ⟨h29,g29⟩ | ⟨h29,g29⟩ <;> try simp only [kb] at g29
     ·refine ZP h29<|ZV (Y.fieldAddr Z Law20d_fo43_2)<|ZP h29<|ZV (Y.load Z Law20d_ts9 (Kn.at 0 Z) Z)<|ZP h29<|ZV (Y.fieldAddr Z Law20d_fo30_3)<|ZP h29<|ZV (Y.loadAgg Z Law20d_ag28 (Kn.at 3 Z) Z)<|ZP h29<|RunQ.call0 (l := [.tmp 99]) Z Z Z (lt Z) (pclient_h hco.r hfew)<|ZP h29<|ZV (Y.eqStr Z Z)<|ZV (Y.pick_t Z h29 Z)<|ZE<|Zg<|?_
      rcases Zsplit (((Le.getE l A.reply.yi).1.client).toList == c.p.client.toList) with ⟨h30,g30⟩ | ⟨h30,g30⟩ <;> try simp only [kb] at g30
      ·refine Tr.cond_t Z h30<|Zr<|Zv (Y.fieldAddr Z Law20d_fo43_4)<|Zv (Y.load Z Law20d_ts3 (Kn.at 0 Z) Z)<|Za Z<|Ze<|Zg<|Zs<|Zr<|Zv (Y.fieldAddr Z Law20d_fo30_1)<|Zv (Y.load Z Law20d_ts3 (Kn.at 3 Z) Z)<|Zm Z<|Zv (Y.add Z Z W)<|Zv (Y.fieldAddr Z Law20d_fo30_1)<|Zv (Y.load Z Law20d_ts3 (Kn.at 3 Z) Z)<|Zm Z<|?_
       refine Zv (Y.max2 Z Z)<|Zv (Y.add Z Z W)<|Zv (Y.int Z Z Z)<|Zm Z<|?_
       rcases Zsplit (decide ((c.now + (val (Oc.fd 51 A.reply.os))) ≤ ((max c.now ((Le.getE l A.reply.yi).1.acked)) + 10))) with ⟨h31,g31⟩ | ⟨h31,g31⟩ <;> try simp only [kb] at g31
       ·refine Zp h31<|Zm Z<|Zp h31<|Zv (Y.int Z Z Z)<|Zv (Y.pick_t Z h31 Z)<|Zm Z<|?_
        rcases Zsplit (decide ((val (Oc.fd 51 A.reply.os)) ≤ 1000)) with ⟨h32,g32⟩ | ⟨h32,g32⟩ <;> try simp only [kb] at g32
        ·refine Zp h32<|Zv (Y.fieldAddr Z Law20d_fo45_1)<|Zp h32<|Zv (Y.fieldAddr Z Law20d_fo28_1)<|Zp h32<|Zv (Y.load Z Law20d_ts23 (Kn.at 1 Z) Z)<|Zp h32<|Zv (Y.fieldAddr Z Law20d_fo30_3)<|Zp h32<|Zv (Y.fieldAddr Z Law20d_fo28_1)<|Zp h32<|Zv (Y.load Z Law20d_ts23 (Kn.at 3 Z) Z)<|Zp h32<|Zv (Y.int Z Z Z)<|Zv (Y.pick_t Z h32 Z)<|Zm Z<|?_
         refine Zp (beq_iff_eq.2 hxid)<|Zv (Y.fieldAddr Z Law20d_fo45_1)<|Zp (beq_iff_eq.2 hxid)<|Zv (Y.fieldAddr Z Law20d_fo28_6)<|Zp (beq_iff_eq.2 hxid)<|Zv (Y.load Z Law20d_ts24 (Kn.at 1 Z) Z)<|Zp (beq_iff_eq.2 hxid)<|Zv (Y.int Z Z Z)<|Zv (Y.pick_t Z (beq_iff_eq.2 hxid) Z)<|Zm Z<|Zp (beq_iff_eq.2 hsi)<|Zv (Y.fieldAddr Z Law20d_fo45_1)<|Zp (beq_iff_eq.2 hsi)<|Zv (Y.fieldAddr Z Law20d_fo28_0)<|Zp (beq_iff_eq.2 hsi)<|Zv (Y.load Z Law20d_ts3 (Kn.at 1 Z) Z)<|?_
         refine Zp (beq_iff_eq.2 hsi)<|Zv (Y.int Z Z Z)<|Zv (Y.pick_t Z (beq_iff_eq.2 hsi) Z)<|Za Z<|Ze<|Zg<|Zu<|Ex.keep []<|?_
         exact Ex.ret1 rfl rfl  (congrArg Value.bool ((beq_iff_eq.2 hop)))
        ·exfalso; omega
       ·exfalso; clear hrep hE hyi hget hG1 hG2; simp only [*,Bool.and_true,Bool.and_false,Bool.true_and,Bool.false_and,if_true,if_false,Bool.false_eq_true] at hb1; omega
      ·refine Tr.cond_f Z h30<|Zt<|Zg<|Zs<|Zr<|Zv (Y.fieldAddr Z Law20d_fo30_1)<|Zv (Y.load Z Law20d_ts3 (Kn.at 3 Z) Z)<|Zm Z<|Zv (Y.add Z Z W)<|Zv (Y.fieldAddr Z Law20d_fo30_1)<|Zv (Y.load Z Law20d_ts3 (Kn.at 3 Z) Z)<|Zm Z<|Zv (Y.max2 Z Z)<|Zv (Y.add Z Z W)<|Zv (Y.int Z Z Z)<|Zm Z<|?_
       rcases Zsplit (decide ((c.now + (val (Oc.fd 51 A.reply.os))) ≤ ((max c.now 0) + 10))) with ⟨h33,g33⟩ | ⟨h33,g33⟩ <;> try simp only [kb] at g33
       ·refine Zp h33<|Zm Z<|Zp h33<|Zv (Y.int Z Z Z)<|Zv (Y.pick_t Z h33 Z)<|Zm Z<|?_
        rcases Zsplit (decide ((val (Oc.fd 51 A.reply.os)) ≤ 1000)) with ⟨h34,g34⟩ | ⟨h34,g34⟩ <;> try simp only [kb] at g34
        ·refine Zp h34<|Zv (Y.fieldAddr Z Law20d_fo45_1)<|Zp h34<|Zv (Y.fieldAddr Z Law20d_fo28_1)<|Zp h34<|Zv (Y.load Z Law20d_ts23 (Kn.at 1 Z) Z)<|Zp h34<|Zv (Y.fieldAddr Z Law20d_fo30_3)<|Zp h34<|Zv (Y.fieldAddr Z Law20d_fo28_1)<|Zp h34<|Zv (Y.load Z Law20d_ts23 (Kn.at 3 Z) Z)<|Zp h34<|Zv (Y.int Z Z Z)<|Zv (Y.pick_t Z h34 Z)<|Zm Z<|?_
         refine Zp (beq_iff_eq.2 hxid)<|Zv (Y.fieldAddr Z Law20d_fo45_1)<|Zp (beq_iff_eq.2 hxid)<|Zv (Y.fieldAddr Z Law20d_fo28_6)<|Zp (beq_iff_eq.2 hxid)<|Zv (Y.load Z Law20d_ts24 (Kn.at 1 Z) Z)<|Zp (beq_iff_eq.2 hxid)<|Zv (Y.int Z Z Z)<|Zv (Y.pick_t Z (beq_iff_eq.2 hxid) Z)<|Zm Z<|Zp (beq_iff_eq.2 hsi)<|Zv (Y.fieldAddr Z Law20d_fo45_1)<|Zp (beq_iff_eq.2 hsi)<|Zv (Y.fieldAddr Z Law20d_fo28_0)<|Zp (beq_iff_eq.2 hsi)<|Zv (Y.load Z Law20d_ts3 (Kn.at 1 Z) Z)<|?_
         refine Zp (beq_iff_eq.2 hsi)<|Zv (Y.int Z Z Z)<|Zv (Y.pick_t Z (beq_iff_eq.2 hsi) Z)<|Za Z<|Ze<|Zg<|Zu<|Ex.keep []<|?_
         exact Ex.ret1 rfl rfl  (congrArg Value.bool ((beq_iff_eq.2 hop)))
        ·exfalso; omega
       ·exfalso; clear hrep hE hyi hget hG1 hG2; simp only [*,Bool.and_true,Bool.and_false,Bool.true_and,Bool.false_and,if_true,if_false,Bool.false_eq_true] at hb1; omega
     ·refine ZO h29 Z<|ZO h29 Z<|ZO h29 Z<|ZO h29 Z<|ZO h29 Z<|ZO h29 Z<|ZV (Y.pick_f Z h29 Z)<|ZE<|Zg<|Tr.cond_f Z Z<|Zt<|Zg<|Zs<|Zr<|Zv (Y.fieldAddr Z Law20d_fo30_1)<|Zv (Y.load Z Law20d_ts3 (Kn.at 3 Z) Z)<|?_
      refine Zm Z<|Zv (Y.add Z Z W)<|Zv (Y.fieldAddr Z Law20d_fo30_1)<|Zv (Y.load Z Law20d_ts3 (Kn.at 3 Z) Z)<|Zm Z<|Zv (Y.max2 Z Z)<|Zv (Y.add Z Z W)<|Zv (Y.int Z Z Z)<|Zm Z<|?_
      rcases Zsplit (decide ((c.now + (val (Oc.fd 51 A.reply.os))) ≤ ((max c.now 0) + 10))) with ⟨h35,g35⟩ | ⟨h35,g35⟩ <;> try simp only [kb] at g35
      ·refine Zp h35<|Zm Z<|Zp h35<|Zv (Y.int Z Z Z)<|Zv (Y.pick_t Z h35 Z)<|Zm Z<|?_
       rcases Zsplit (decide ((val (Oc.fd 51 A.reply.os)) ≤ 1000)) with ⟨h36,g36⟩ | ⟨h36,g36⟩ <;> try simp only [kb] at g36
       ·refine Zp h36<|Zv (Y.fieldAddr Z Law20d_fo45_1)<|Zp h36<|Zv (Y.fieldAddr Z Law20d_fo28_1)<|Zp h36<|Zv (Y.load Z Law20d_ts23 (Kn.at 1 Z) Z)<|Zp h36<|Zv (Y.fieldAddr Z Law20d_fo30_3)<|Zp h36<|Zv (Y.fieldAddr Z Law20d_fo28_1)<|Zp h36<|Zv (Y.load Z Law20d_ts23 (Kn.at 3 Z) Z)<|Zp h36<|Zv (Y.int Z Z Z)<|Zv (Y.pick_t Z h36 Z)<|Zm Z<|?_
        refine Zp (beq_iff_eq.2 hxid)<|Zv (Y.fieldAddr Z Law20d_fo45_1)<|Zp (beq_iff_eq.2 hxid)<|Zv (Y.fieldAddr Z Law20d_fo28_6)<|Zp (beq_iff_eq.2 hxid)<|Zv (Y.load Z Law20d_ts24 (Kn.at 1 Z) Z)<|Zp (beq_iff_eq.2 hxid)<|Zv (Y.int Z Z Z)<|Zv (Y.pick_t Z (beq_iff_eq.2 hxid) Z)<|Zm Z<|Zp (beq_iff_eq.2 hsi)<|Zv (Y.fieldAddr Z Law20d_fo45_1)<|Zp (beq_iff_eq.2 hsi)<|Zv (Y.fieldAddr Z Law20d_fo28_0)<|Zp (beq_iff_eq.2 hsi)<|Zv (Y.load Z Law20d_ts3 (Kn.at 1 Z) Z)<|?_
        refine Zp (beq_iff_eq.2 hsi)<|Zv (Y.int Z Z Z)<|Zv (Y.pick_t Z (beq_iff_eq.2 hsi) Z)<|Za Z<|Ze<|Zg<|Zu<|Ex.keep []<|?_
        exact Ex.ret1 rfl rfl  (congrArg Value.bool ((beq_iff_eq.2 hop)))
       ·exfalso; omega
      ·exfalso; clear hrep hE hyi hget hG1 hG2; simp only [*,Bool.and_true,Bool.and_false,Bool.true_and,Bool.false_and,if_true,if_false,Bool.false_eq_true] at hb1; omega
theorem bounds20_h {V : Vw} {id : Int} {ls : List Le} {v1 : Value} (hv2 : Rd V [] 8 v1 ls.length (ls.map Le.cells).flatten) (hcs : ∀ x,x ∈ ls → Le.Ok x) (hl9 : ls.length ≤ 9223372036854775807) {c : Eg.Cs} (hco : Eg.Csok V c) : Does Tryz.prog 5 [.int .i64 id,v1,.agg c.cells] V [] (fun v _ _ => v = .bool true) := by
  obtain ⟨p2,c2,rfl,_⟩ := hv2.form
  rw [← List.flatMap_def] at hv2
  exact bounds20_c hv2 hl9 (fun x hx => (hcs x hx).client) hco
end Go.Proofs.YtfgblingojgafaaGreat
