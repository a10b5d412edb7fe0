/- The statement EngineSilent, walked.
Conditions: as each theorem names them. -/
import Derived.Test.YtfgblingojgafaaGreatProg
import Derived.Test.YtfgblingojgafaaGreatSortnum
import Derived.Test.YtfgblingojgafaaGreatLaw20n
import Derived.Test.YtfgblingojgafaaGreatTable4
import Derived.Test.YtfgblingojgafaaGreatTimes
set_option linter.unusedSimpArgs false
set_option linter.unusedVariables false
set_option maxRecDepth 4000
namespace Go.Proofs.YtfgblingojgafaaGreat
open Go Go.K
attribute [local irreducible] Code.wp wpList Calls wpQuiet
theorem Law20s_ag35 : aggsz Tryz.prog 35 = some 13 := by kernel_rfl
theorem Law20s_ag30 : aggsz Tryz.prog 30 = some 13 := by kernel_rfl
theorem Law20s_fo30_0 : fieldOff Tryz.prog 30 0 = some 0 := by kernel_rfl
theorem Law20s_ts3 : scal Tryz.prog 3 = true := by kernel_rfl
theorem Law20s_fo30_1 : fieldOff Tryz.prog 30 1 = some 1 := by kernel_rfl
theorem Law20s_fo30_2 : fieldOff Tryz.prog 30 2 = some 2 := by kernel_rfl
theorem Law20s_fo30_3 : fieldOff Tryz.prog 30 3 = some 3 := by kernel_rfl
theorem Law20s_ag28 : aggsz Tryz.prog 28 = some 10 := by kernel_rfl
theorem Law20s_zo45 : zeroOf Tryz.prog 45 = some (.agg #[.bool false,.int .i64 0,.int .u32 0,.int .i64 0,.int .i64 0,.int .u32 0,.int .u32 0,.int .u32 0,.int .u32 0,.slice none 0 0,.slice none 0 0,.bool false,.int .u32 0,.int .i64 0,.string ⟨#[]⟩,.int .i64 0,.int .i64 0,.int .i64 0,.int .i64 0,.int .i64 0,.int .i64 0]) := by kernel_rfl
theorem Law20s_sz45 : sizeT Tryz.prog 45 = some 21 := by kernel_rfl
theorem Law20s_fo28_0 : fieldOff Tryz.prog 28 0 = some 0 := by kernel_rfl
theorem Law20s_fo45_0 : fieldOff Tryz.prog 45 0 = some 0 := by kernel_rfl
theorem Law20s_ts4 : scal Tryz.prog 4 = true := by kernel_rfl
theorem Law20s_fo45_2 : fieldOff Tryz.prog 45 2 = some 11 := by kernel_rfl
theorem Law20s_fo45_4 : fieldOff Tryz.prog 45 4 = some 20 := by kernel_rfl
theorem Law20s_fo45_1 : fieldOff Tryz.prog 45 1 = some 1 := by kernel_rfl
theorem Law20s_zo28 : zeroOf Tryz.prog 28 = some (.agg #[.int .i64 0,.int .u32 0,.int .i64 0,.int .i64 0,.int .u32 0,.int .u32 0,.int .u32 0,.int .u32 0,.slice none 0 0,.slice none 0 0]) := by kernel_rfl
theorem Law20s_pl28 : placesS Tryz.prog 28 = some [(0,1),(1,1),(2,1),(3,1),(4,1),(5,1),(6,1),(7,1),(8,1),(9,1)] := by kernel_rfl
theorem Law20s_fo28_1 : fieldOff Tryz.prog 28 1 = some 1 := by kernel_rfl
theorem Law20s_ts23 : scal Tryz.prog 23 = true := by kernel_rfl
set_option maxHeartbeats 1000000 in
theorem silent20_c {V : Vw} {x : Si} {pp : Option Addr} {cp : Nat} (hpv : Rd V [] 2 (.slice pp x.pool.length cp) x.pool.length (x.pool.flatMap Rg.cells)) (hpk : Rg.Oks x.pool) (hsv : 0 ≤ x.server ∧ x.server ≤ 4294967295) {ls : List Le} {p2 : Option Addr} {c2 : Nat} (hv2 : Rd V [] 8 (.slice p2 ls.length c2) ls.length (ls.flatMap Le.cells)) (hl9 : ls.length ≤ 9223372036854775807) (hcs : ∀ x,x ∈ ls → x.client.size ≤ 9223372036854775807) {c : Eg.Cs} (hco : Eg.Csok V c)  : Does Tryz.prog 6 [.agg (x.cells (.slice pp x.pool.length cp)),.slice p2 ls.length c2,.agg c.cells] V [] (fun v _ _ => v = .bool true) := by
 refine Does.intro Tryz.func6 rfl rfl (le rfl) (fun B => ?_)
 refine Zs<|Zr<|?_
 refine Run.box rfl (lt rfl) (fun b1 => ?_)
 refine Run.box rfl (lt rfl) (fun b2 => ?_)
 refine Za Z<|Ze<|Zg<|Zs<|Zr<|?_
 refine Run.call [] (l := []) rfl rfl rfl (lt rfl) awake20_c (fun v3 V3 H3 hle3 hR3 => ?_)
 obtain ⟨_,rfl,rfl⟩ := hR3
 obtain ⟨W3,hVe⟩ : ∃ Vz : Vw,Vz = V3 := ⟨_,rfl⟩; subst hVe
 replace hv2 := hv2.le hle3
 replace hco := hco.le hle3
 replace hpv := hpv.le hle3
 have hVle := hle3
 refine Run.heapTo (H' := [[(b2,.cells (Eg.Cs.cells c) 30 (0,0))],[(b1,.cells (Si.cells x (.slice pp x.pool.length cp)) 35 (0,0))]]) Z ?_
 refine Za Z<|Ze<|Zg<|Zs<|Zr<|Zv (Y.loadAgg Z Law20s_ag35 (Kn.at 1 Z) Z)<|Zm Z<|Zv (Y.loadAgg Z Law20s_ag30 (Kn.at 0 Z) Z)<|Run.call0 (l := [.tmp 14,.tmp 15,.tmp 16]) Z Z Z (lt Z) ((long20_c (x := x) (c := c) hv2 hl9 hco.r.hw hco.r.os).frame)<|Za Z<|Ze<|Zg<|Zs<|Zs<|Zr<|Zm Z<|?_
 refine Zv (Y.not Z)<|Zm Z<|Zp Z<|Zm Z<|Zv (Y.pick_f Z Z Z)<|Ze<|Zg<|?_
 rcases Zsplit (Eg.long c.p ls x.pool.length) with ⟨h4,g4⟩ | ⟨h4,g4⟩ <;> try simp only [kb] at g4
 ·refine Tr.cond_t Z h4<|Zs<|Zr<|Zm Z<|Za Z<|Ze<|Zg<|Zu<|Zn<|Ex.keep []<|?_
  exact Ex.ret1 rfl rfl  rfl
 ·obtain ⟨hfew,hlen,hnp⟩ := Eg.long_f h4
  have hw3 : c.p.hw.length < 1000 := by have h := hfew; simp only [Pc.few,Bool.and_eq_true,decide_eq_true_eq] at h; omega
  refine Tr.cond_f Z h4<|Zt<|Zg<|Zs<|Zr<|?_
  by_cases hp0 : (Rg.pool x.pool).2 = 0
  ·refine Zv (Y.loadAgg Z Law20s_ag35 (Kn.at 1 Z) Z)<|Zm Z<|?_
   refine Run.call [] (l := [.tmp 25,.tmp 26]) rfl rfl rfl (lt rfl) (made20_c (x := x) hpv W hpk hv2 hl9 hcs) (fun v5 V5 H5 hle5 hR5 => ?_)
   rcases hR5 with ⟨_,⟨hpn,_⟩ | ⟨_,l,tx,rx,s1,pl,cl,ql,rfl,hin,hl,had,hab,rfl⟩⟩
   · exact absurd hp0 hpn
   obtain ⟨W5,hVe⟩ : ∃ Vz : Vw,Vz = V5 := ⟨_,rfl⟩; subst hVe
   replace hv2 := hv2.le hle5
   replace hco := hco.le hle5
   replace hpv := hpv.le hle5
   replace hVle := Vw.le_trans hVle hle5
   have hin2 := hin
   obtain ⟨hris,hlm3,_⟩ := hin2
   refine Run.heapTo (H' := [[(b2,.cells (Eg.Cs.cells c) 30 (0,0))],[(b1,.cells (Si.cells x (.slice pp x.pool.length cp)) 35 (0,0))],s1,[(rx,.cells #[.slice pl l.length cl] 128 (0,0))],ql]) Z ?_
   refine Zm Z<|Zv (Y.extract Z Z)<|Zv (Y.extract Z Z)<|Za Z<|Za Z<|Ze<|Zg<|Zs<|Zr<|Zv (Y.loadAgg Z Law20s_ag35 (Kn.at 1 Z) Z)<|Zm Z<|Zv (Y.fieldAddr Z Law20s_fo30_0)<|Zv (Y.load Z Law20s_ts3 (Kn.at 0 Z) Z)<|Zv (Y.fieldAddr Z Law20s_fo30_1)<|Zv (Y.load Z Law20s_ts3 (Kn.at 0 Z) Z)<|Zv (Y.fieldAddr Z Law20s_fo30_2)<|?_
   refine Zv (Y.load Z Law20s_ts3 (Kn.at 0 Z) Z)<|Zv (Y.fieldAddr Z Law20s_fo30_3)<|Zv (Y.loadAgg Z Law20s_ag28 (Kn.at 0 Z) Z)<|?_
   refine Run.call [2] (l := [.tmp 30,.tmp 31,.tmp 33,.tmp 35,.tmp 37,.tmp 39]) rfl rfl rfl (lt rfl) (answer_t (x := x) (p := c.p) (l := l) (state := c.state) (now := c.now) (entry := c.entry) hpv W hpk hco.r hfew hco.ci hsv hin (Eg.la_of had hpk)) (fun v6 V6 H6 hle6 hR6 => ?_)
   obtain ⟨_,rfl,hv6,ov6,rfl,hRa⟩ := hR6
   obtain ⟨W6,hVe⟩ : ∃ Vz : Vw,Vz = V6 := ⟨_,rfl⟩; subst hVe
   replace hv2 := hv2.le hle6
   replace hco := hco.le hle6
   replace hpv := hpv.le hle6
   replace hVle := Vw.le_trans hVle hle6
   obtain ⟨⟨pg6,cg6,rfl⟩,pk6,nk6,ck6,rfl⟩ := hRa.forms
   generalize hA : Eg.ans (x) l c.state c.now c.entry c.p = A at hRa ⊢
   have hC : Eg.Case (x) l c A := by rw [← hA]; exact Eg.cases _ hris c
   clear hA
   refine Run.heapTo (H' := [[(b2,.cells (Eg.Cs.cells c) 30 (0,0))],[(b1,.cells (Si.cells x (.slice pp x.pool.length cp)) 35 (0,0))],[(rx,.cells #[.slice pl l.length cl] 128 (0,0))],ql,s1]) Z ?_
   refine Run.alloc Law20s_zo45 (lt rfl) (fun b7 => ?_)
   refine Run.stAll (l2 := [.bool A.send,.int .i64 A.reply.op,.int .u32 A.reply.xid,.int .i64 A.reply.secs,.int .i64 A.reply.flags,.int .u32 A.reply.ci,.int .u32 A.reply.yi,.int .u32 A.reply.si,.int .u32 A.reply.gi,.slice pg6 A.reply.hw.length cg6,.slice pk6 nk6 ck6,.bool A.change,.int .u32 A.lease.addr,.int .i64 A.lease.bind,.string A.lease.client,.int .i64 A.lease.till,.int .i64 A.lease.acked,.int .i64 A.lease.told,.int .i64 A.lease.at_,.int .i64 A.lease.ver,.int .i64 A.pot]) (j := 0) Z Z Law20s_sz45 Z Z Z Z ?_
   refine Run.heapTo (H' := [[(b7,.cells (An.cells A (.slice pg6 A.reply.hw.length cg6) (.slice pk6 nk6 ck6)) 45 (0,0))],[(b2,.cells (Eg.Cs.cells c) 30 (0,0))],[(b1,.cells (Si.cells x (.slice pp x.pool.length cp)) 35 (0,0))],[(rx,.cells #[.slice pl l.length cl] 128 (0,0))],ql,s1]) Z ?_
   refine Ze<|Zg<|?_
   refine Tr.cut W6 [[(b7,.cells (An.cells A (.slice pg6 A.reply.hw.length cg6) (.slice pk6 nk6 ck6)) 45 (0,0))],[(b2,.cells (Eg.Cs.cells c) 30 (0,0))],[(b1,.cells (Si.cells x (.slice pp x.pool.length cp)) 35 (0,0))],[(rx,.cells #[.slice pl l.length cl] 128 (0,0))],ql,s1] [(3,(pZ b1)),(5,(pZ b2)),(7,.bool true),(11,(pZ b7)),(12,.bool (Rul.serves c.state))] ?_ ?_
   ·refine Zr<|Zv (Y.fieldAddr Z Law20s_fo30_0)<|Zv (Y.load Z Law20s_ts3 (Kn.at 1 Z) Z)<|Zv (Y.int Z Z Z)<|Zm Z<|?_
    rcases Zsplit (c.state == 1) with ⟨h8,g8⟩ | ⟨h8,g8⟩ <;> try simp only [kb] at g8
    ·refine Zo h8 Z<|Zo h8 Z<|Zo h8 Z<|Zv (Y.pick_t Z h8 Z)<|Zm Z<|Zo Z Z<|Zo Z Z<|Zo Z Z<|Zv (Y.pick_t Z Z Z)<|Za Z<|Ze<|?_
     have hsv9 : (true) = Rul.serves c.state := Rul.serves_a W
     exact Ex.cut rfl (by repeat (first | exact subB_nil _ | refine subB_cons (by first | rfl | exact congrArg (fun z => some (Value.int _ z)) W | exact congrArg (fun z => some (Value.bool z)) hsv9) ?_))
    ·refine Zp h8<|Zv (Y.fieldAddr Z Law20s_fo30_0)<|Zp h8<|Zv (Y.load Z Law20s_ts3 (Kn.at 1 Z) Z)<|Zp h8<|Zv (Y.int Z Z Z)<|Zv (Y.pick_f Z h8 Z)<|Zm Z<|?_
     rcases Zsplit (c.state == 2) with ⟨h9,g9⟩ | ⟨h9,g9⟩ <;> try simp only [kb] at g9
     ·refine Zo h9 Z<|Zo h9 Z<|Zo h9 Z<|Zv (Y.pick_t Z h9 Z)<|Za Z<|Ze<|?_
      have hsv9 : (true) = Rul.serves c.state := Rul.serves_a W
      exact Ex.cut rfl (by repeat (first | exact subB_nil _ | refine subB_cons (by first | rfl | exact congrArg (fun z => some (Value.int _ z)) W | exact congrArg (fun z => some (Value.bool z)) hsv9) ?_))
     ·refine Zp h9<|Zv (Y.fieldAddr Z Law20s_fo30_0)<|Zp h9<|Zv (Y.load Z Law20s_ts3 (Kn.at 1 Z) Z)<|Zp h9<|Zv (Y.int Z Z Z)<|Zv (Y.pick_f Z h9 Z)<|Za Z<|Ze<|?_
      have hsv9 : (c.state == 3) = Rul.serves c.state := Rul.serves_b W W
      exact Ex.cut rfl (by repeat (first | exact subB_nil _ | refine subB_cons (by first | rfl | exact congrArg (fun z => some (Value.int _ z)) W | exact congrArg (fun z => some (Value.bool z)) hsv9) ?_))
   ·refine Zs<|Zs<|Zr<|?_
    rcases Eg.Case.eq hC with hE | ⟨m,hb,hf,hE⟩ | ⟨k,hk,hf,hE⟩ | ⟨y,hg,hf,hE⟩ | ⟨y,hg,hf,hE⟩
    ·have hsend : A.send = false := by rw [hE] <;> rfl
     have hchg : A.change = false := by rw [hE] <;> rfl
     have hpot : A.pot = 0 := by rw [hE] <;> rfl
     have hrep : A.reply = Cli.zeroP := by rw [hE] <;> rfl
     have hAf : A.reply.few = true := by rw [hrep]; exact Cli.few_zero
     have hyi : A.reply.yi = 0 := by rw [hrep] <;> rfl
     have h51 : ¬ (Oc.fd 51 A.reply.os).length = 4 := by rw [hrep]; exact (by decide : ¬ (0 : Nat) = 4)
     have hhas : Oc.has 51 A.reply.os = false := by rw [hrep] <;> rfl
     refine Zm Z<|Zm Z<|?_
     rcases Zsplit (Rul.serves c.state) with ⟨h10,g10⟩ | ⟨h10,g10⟩ <;> try simp only [kb] at g10
     ·refine Zp h10<|Zv (Y.loadAgg Z Law20s_ag35 (Kn.at 2 Z) Z)<|Zp h10<|Run.call0 (l := [.tmp 56]) rfl rfl rfl (lt rfl) (eright_h (x := x) hpv W hpk)<|Zv (Y.pick_t Z h10 Z)<|Zm Z<|?_
      rcases Zsplit (x.right) with ⟨h11,g11⟩ | ⟨h11,g11⟩ <;> try simp only [kb] at g11
      ·refine Zp h11<|Zv (Y.fieldAddr Z Law20s_fo30_3)<|Zp h11<|Zv (Y.loadAgg Z Law20s_ag28 (Kn.at 1 Z) Z)<|Zp h11<|Run.call0 (l := [.tmp 61]) Z Z Z (lt Z) (pright_h hco.r hfew)<|Zv (Y.pick_t Z h11 Z)<|Zm Z<|?_
       rcases Zsplit (Pc.right c.p) with ⟨h12,g12⟩ | ⟨h12,g12⟩ <;> try simp only [kb] at g12
       ·refine Zp h12<|Zv (Y.fieldAddr Z Law20s_fo30_3)<|Zp h12<|Zv (Y.fieldAddr Z Law20s_fo28_0)<|Zp h12<|Zv (Y.load Z Law20s_ts3 (Kn.at 1 Z) Z)<|Zp h12<|Zv (Y.int Z Z Z)<|Zv (Y.pick_t Z h12 Z)<|Zm Z<|?_
        rcases Zsplit (c.p.op == 1) with ⟨h13,g13⟩ | ⟨h13,g13⟩ <;> try simp only [kb] at g13
        ·refine Zp h13<|Zv (Y.fieldAddr Z Law20s_fo30_1)<|Zp h13<|Zv (Y.load Z Law20s_ts3 (Kn.at 1 Z) Z)<|Zp h13<|Zv (Y.int Z Z Z)<|Zv (Y.pick_t Z h13 Z)<|Ze<|Zg<|?_
         rcases Zsplit (decide (c.now ≥ 0)) with ⟨h14,g14⟩ | ⟨h14,g14⟩ <;> try simp only [kb] at g14
         ·refine Tr.cond_t Z h14<|Zs<|Zr<|Zv (Y.fieldAddr Z Law20s_fo45_0)<|Zv (Y.load Z Law20s_ts4 (Kn.at 0 Z) Z)<|Zv (Y.not Z)<|Zm Z<|Zo (congrArg Bool.not hsend) Z<|Zo (congrArg Bool.not hsend) Z<|Zo (congrArg Bool.not hsend) Z<|Zo (congrArg Bool.not hsend) Z<|Zo (congrArg Bool.not hsend) Z<|Run.off_u Z Z Z Z (lt Z)<|Run.off_u Z Z Z Z (lt Z)<|Run.off_u Z Z Z Z (lt Z)<|Run.off_u Z Z Z Z (lt Z)<|?_
          refine Run.off_u Z Z Z Z (lt Z)<|Run.off_u Z Z Z Z (lt Z)<|Run.off_u Z Z Z Z (lt Z)<|Zo (congrArg Bool.not hsend) Z<|Zv (Y.pick_t Z (congrArg Bool.not hsend) Z)<|Za Z<|Ze<|Zg<|Zu<|Zn<|Ex.keep []<|?_
          exact Ex.ret1 rfl rfl  rfl
         ·refine Tr.cond_f Z h14<|Zt<|Zg<|Zs<|Zr<|Zv (Y.fieldAddr Z Law20s_fo45_0)<|Zv (Y.load Z Law20s_ts4 (Kn.at 0 Z) Z)<|Zv (Y.not Z)<|Zm Z<|Zp (congrArg Bool.not hsend)<|Zv (Y.fieldAddr Z Law20s_fo45_2)<|Zp (congrArg Bool.not hsend)<|Zv (Y.load Z Law20s_ts4 (Kn.at 0 Z) Z)<|Zp (congrArg Bool.not hsend)<|Zv (Y.not Z)<|Zv (Y.pick_t Z (congrArg Bool.not hsend) Z)<|?_
          refine Zm Z<|Zp (congrArg Bool.not hchg)<|Zv (Y.fieldAddr Z Law20s_fo45_4)<|Zp (congrArg Bool.not hchg)<|Zv (Y.load Z Law20s_ts3 (Kn.at 0 Z) Z)<|Zp (congrArg Bool.not hchg)<|Zv (Y.int Z Z Z)<|Zv (Y.pick_t Z (congrArg Bool.not hchg) Z)<|Zm Z<|Zp (beq_iff_eq.2 hpot)<|Zv (Y.fieldAddr Z Law20s_fo45_1)<|Zp (beq_iff_eq.2 hpot)<|Zv (Y.loadAgg Z Law20s_ag28 (Kn.at 0 Z) Z)<|Zp (beq_iff_eq.2 hpot)<|Zv (Y.buildS (l := []) Law20s_zo28 Law20s_pl28 Z Z)<|?_
          refine Zp (beq_iff_eq.2 hpot)<|Run.call0 (l := [.tmp 108,.tmp 109]) rfl rfl rfl (lt rfl) (show Does _ _ _ _ _ (Pv (.bool true) _ _) from by rw [hE] at hRa ⊢; exact same_h (p := Cli.zeroP) hRa.hw hRa.os (Pc.zero_R _).hw (Pc.zero_R _).os (Nat.zero_le _))<|Zv (Y.pick_t Z (beq_iff_eq.2 hpot) Z)<|Za Z<|Ze<|Zg<|Zu<|Ex.keep []<|?_
          exact Ex.ret1 rfl rfl  rfl
        ·refine Zo h13 Z<|Zo h13 Z<|Zo h13 Z<|Zv (Y.pick_f Z h13 Z)<|Ze<|Zg<|Tr.cond_f Z Z<|Zt<|Zg<|Zs<|Zr<|Zv (Y.fieldAddr Z Law20s_fo45_0)<|Zv (Y.load Z Law20s_ts4 (Kn.at 0 Z) Z)<|Zv (Y.not Z)<|Zm Z<|Zp (congrArg Bool.not hsend)<|?_
         refine Zv (Y.fieldAddr Z Law20s_fo45_2)<|Zp (congrArg Bool.not hsend)<|Zv (Y.load Z Law20s_ts4 (Kn.at 0 Z) Z)<|Zp (congrArg Bool.not hsend)<|Zv (Y.not Z)<|Zv (Y.pick_t Z (congrArg Bool.not hsend) Z)<|Zm Z<|Zp (congrArg Bool.not hchg)<|Zv (Y.fieldAddr Z Law20s_fo45_4)<|Zp (congrArg Bool.not hchg)<|Zv (Y.load Z Law20s_ts3 (Kn.at 0 Z) Z)<|Zp (congrArg Bool.not hchg)<|Zv (Y.int Z Z Z)<|Zv (Y.pick_t Z (congrArg Bool.not hchg) Z)<|Zm Z<|Zp (beq_iff_eq.2 hpot)<|?_
         refine Zv (Y.fieldAddr Z Law20s_fo45_1)<|Zp (beq_iff_eq.2 hpot)<|Zv (Y.loadAgg Z Law20s_ag28 (Kn.at 0 Z) Z)<|Zp (beq_iff_eq.2 hpot)<|Zv (Y.buildS (l := []) Law20s_zo28 Law20s_pl28 Z Z)<|Zp (beq_iff_eq.2 hpot)<|Run.call0 (l := [.tmp 108,.tmp 109]) rfl rfl rfl (lt rfl) (show Does _ _ _ _ _ (Pv (.bool true) _ _) from by rw [hE] at hRa ⊢; exact same_h (p := Cli.zeroP) hRa.hw hRa.os (Pc.zero_R _).hw (Pc.zero_R _).os (Nat.zero_le _))<|?_
         refine Zv (Y.pick_t Z (beq_iff_eq.2 hpot) Z)<|Za Z<|Ze<|Zg<|Zu<|Ex.keep []<|?_
         exact Ex.ret1 rfl rfl  rfl
       ·refine Zo h12 Z<|Zo h12 Z<|Zo h12 Z<|Zo h12 Z<|Zv (Y.pick_f Z h12 Z)<|Zm Z<|Zo Z Z<|Zo Z Z<|Zo Z Z<|Zv (Y.pick_f Z Z Z)<|Ze<|Zg<|Tr.cond_f Z Z<|Zt<|Zg<|Zs<|?_
        refine Zr<|Zv (Y.fieldAddr Z Law20s_fo45_0)<|Zv (Y.load Z Law20s_ts4 (Kn.at 0 Z) Z)<|Zv (Y.not Z)<|Zm Z<|Zp (congrArg Bool.not hsend)<|Zv (Y.fieldAddr Z Law20s_fo45_2)<|Zp (congrArg Bool.not hsend)<|Zv (Y.load Z Law20s_ts4 (Kn.at 0 Z) Z)<|Zp (congrArg Bool.not hsend)<|Zv (Y.not Z)<|Zv (Y.pick_t Z (congrArg Bool.not hsend) Z)<|Zm Z<|Zp (congrArg Bool.not hchg)<|Zv (Y.fieldAddr Z Law20s_fo45_4)<|Zp (congrArg Bool.not hchg)<|?_
        refine Zv (Y.load Z Law20s_ts3 (Kn.at 0 Z) Z)<|Zp (congrArg Bool.not hchg)<|Zv (Y.int Z Z Z)<|Zv (Y.pick_t Z (congrArg Bool.not hchg) Z)<|Zm Z<|Zp (beq_iff_eq.2 hpot)<|Zv (Y.fieldAddr Z Law20s_fo45_1)<|Zp (beq_iff_eq.2 hpot)<|Zv (Y.loadAgg Z Law20s_ag28 (Kn.at 0 Z) Z)<|Zp (beq_iff_eq.2 hpot)<|Zv (Y.buildS (l := []) Law20s_zo28 Law20s_pl28 Z Z)<|Zp (beq_iff_eq.2 hpot)<|Run.call0 (l := [.tmp 108,.tmp 109]) rfl rfl rfl (lt rfl) (show Does _ _ _ _ _ (Pv (.bool true) _ _) from by rw [hE] at hRa ⊢; exact same_h (p := Cli.zeroP) hRa.hw hRa.os (Pc.zero_R _).hw (Pc.zero_R _).os (Nat.zero_le _))<|?_
        refine Zv (Y.pick_t Z (beq_iff_eq.2 hpot) Z)<|Za Z<|Ze<|Zg<|Zu<|Ex.keep []<|?_
        exact Ex.ret1 rfl rfl  rfl
      ·refine Zo h11 Z<|Zo h11 Z<|Zo h11 Z<|Zv (Y.pick_f Z h11 Z)<|Zm Z<|Zo Z Z<|Zo Z Z<|Zo Z Z<|Zo Z Z<|Zv (Y.pick_f Z Z Z)<|Zm Z<|Zo Z Z<|Zo Z Z<|Zo Z Z<|Zv (Y.pick_f Z Z Z)<|Ze<|?_
       refine Zg<|Tr.cond_f Z Z<|Zt<|Zg<|Zs<|Zr<|Zv (Y.fieldAddr Z Law20s_fo45_0)<|Zv (Y.load Z Law20s_ts4 (Kn.at 0 Z) Z)<|Zv (Y.not Z)<|Zm Z<|Zp (congrArg Bool.not hsend)<|Zv (Y.fieldAddr Z Law20s_fo45_2)<|Zp (congrArg Bool.not hsend)<|Zv (Y.load Z Law20s_ts4 (Kn.at 0 Z) Z)<|Zp (congrArg Bool.not hsend)<|Zv (Y.not Z)<|?_
       refine Zv (Y.pick_t Z (congrArg Bool.not hsend) Z)<|Zm Z<|Zp (congrArg Bool.not hchg)<|Zv (Y.fieldAddr Z Law20s_fo45_4)<|Zp (congrArg Bool.not hchg)<|Zv (Y.load Z Law20s_ts3 (Kn.at 0 Z) Z)<|Zp (congrArg Bool.not hchg)<|Zv (Y.int Z Z Z)<|Zv (Y.pick_t Z (congrArg Bool.not hchg) Z)<|Zm Z<|Zp (beq_iff_eq.2 hpot)<|Zv (Y.fieldAddr Z Law20s_fo45_1)<|Zp (beq_iff_eq.2 hpot)<|Zv (Y.loadAgg Z Law20s_ag28 (Kn.at 0 Z) Z)<|Zp (beq_iff_eq.2 hpot)<|?_
       refine Zv (Y.buildS (l := []) Law20s_zo28 Law20s_pl28 Z Z)<|Zp (beq_iff_eq.2 hpot)<|Run.call0 (l := [.tmp 108,.tmp 109]) rfl rfl rfl (lt rfl) (show Does _ _ _ _ _ (Pv (.bool true) _ _) from by rw [hE] at hRa ⊢; exact same_h (p := Cli.zeroP) hRa.hw hRa.os (Pc.zero_R _).hw (Pc.zero_R _).os (Nat.zero_le _))<|Zv (Y.pick_t Z (beq_iff_eq.2 hpot) Z)<|Za Z<|Ze<|Zg<|Zu<|Ex.keep []<|?_
       exact Ex.ret1 rfl rfl  rfl
     ·refine Zo h10 Z<|Zo h10 Z<|Zv (Y.pick_f Z h10 Z)<|Zm Z<|Zo Z Z<|Zo Z Z<|Zo Z Z<|Zv (Y.pick_f Z Z Z)<|Zm Z<|Zo Z Z<|Zo Z Z<|Zo Z Z<|Zo Z Z<|Zv (Y.pick_f Z Z Z)<|Zm Z<|Zo Z Z<|?_
      refine Zo Z Z<|Zo Z Z<|Zv (Y.pick_f Z Z Z)<|Ze<|Zg<|Tr.cond_f Z Z<|Zt<|Zg<|Zs<|Zr<|Zv (Y.fieldAddr Z Law20s_fo45_0)<|Zv (Y.load Z Law20s_ts4 (Kn.at 0 Z) Z)<|Zv (Y.not Z)<|Zm Z<|Zp (congrArg Bool.not hsend)<|Zv (Y.fieldAddr Z Law20s_fo45_2)<|?_
      refine Zp (congrArg Bool.not hsend)<|Zv (Y.load Z Law20s_ts4 (Kn.at 0 Z) Z)<|Zp (congrArg Bool.not hsend)<|Zv (Y.not Z)<|Zv (Y.pick_t Z (congrArg Bool.not hsend) Z)<|Zm Z<|Zp (congrArg Bool.not hchg)<|Zv (Y.fieldAddr Z Law20s_fo45_4)<|Zp (congrArg Bool.not hchg)<|Zv (Y.load Z Law20s_ts3 (Kn.at 0 Z) Z)<|Zp (congrArg Bool.not hchg)<|Zv (Y.int Z Z Z)<|Zv (Y.pick_t Z (congrArg Bool.not hchg) Z)<|Zm Z<|Zp (beq_iff_eq.2 hpot)<|Zv (Y.fieldAddr Z Law20s_fo45_1)<|?_
      refine Zp (beq_iff_eq.2 hpot)<|Zv (Y.loadAgg Z Law20s_ag28 (Kn.at 0 Z) Z)<|Zp (beq_iff_eq.2 hpot)<|Zv (Y.buildS (l := []) Law20s_zo28 Law20s_pl28 Z Z)<|Zp (beq_iff_eq.2 hpot)<|Run.call0 (l := [.tmp 108,.tmp 109]) rfl rfl rfl (lt rfl) (show Does _ _ _ _ _ (Pv (.bool true) _ _) from by rw [hE] at hRa ⊢; exact same_h (p := Cli.zeroP) hRa.hw hRa.os (Pc.zero_R _).hw (Pc.zero_R _).os (Nat.zero_le _))<|Zv (Y.pick_t Z (beq_iff_eq.2 hpot) Z)<|?_
      refine Za Z<|Ze<|Zg<|Zu<|Ex.keep []<|?_
      exact Ex.ret1 rfl rfl  rfl
    ·have hsend : A.send = false := by rw [hE] <;> rfl
     have hchg : A.change = true := by rw [hE] <;> rfl
     have hpot : A.pot = 0 := by rw [hE] <;> rfl
     obtain ⟨hf1,hf2,hnow,hf4,hf5⟩ := Eg.fits_t hf
     have hrep : A.reply = Cli.zeroP := by rw [hE] <;> rfl
     have hAf : A.reply.few = true := by rw [hrep]; exact Cli.few_zero
     have hyi : A.reply.yi = 0 := by rw [hrep] <;> rfl
     have hbd : A.lease.bind = 4 ∨ A.lease.bind = 5 := by rw [hE]; exact hb
     have h51 : ¬ (Oc.fd 51 A.reply.os).length = 4 := by rw [hrep]; exact (by decide : ¬ (0 : Nat) = 4)
     have hhas : Oc.has 51 A.reply.os = false := by rw [hrep] <;> rfl
     refine Zm Z<|Zm Z<|?_
     rcases Zsplit (Rul.serves c.state) with ⟨h15,g15⟩ | ⟨h15,g15⟩ <;> try simp only [kb] at g15
     ·refine Zp h15<|Zv (Y.loadAgg Z Law20s_ag35 (Kn.at 2 Z) Z)<|Zp h15<|Run.call0 (l := [.tmp 56]) rfl rfl rfl (lt rfl) (eright_h (x := x) hpv W hpk)<|Zv (Y.pick_t Z h15 Z)<|Zm Z<|?_
      rcases Zsplit (x.right) with ⟨h16,g16⟩ | ⟨h16,g16⟩ <;> try simp only [kb] at g16
      ·refine Zp h16<|Zv (Y.fieldAddr Z Law20s_fo30_3)<|Zp h16<|Zv (Y.loadAgg Z Law20s_ag28 (Kn.at 1 Z) Z)<|Zp h16<|Run.call0 (l := [.tmp 61]) Z Z Z (lt Z) (pright_h hco.r hfew)<|Zv (Y.pick_t Z h16 Z)<|Zm Z<|?_
       rcases Zsplit (Pc.right c.p) with ⟨h17,g17⟩ | ⟨h17,g17⟩ <;> try simp only [kb] at g17
       ·refine Zp h17<|Zv (Y.fieldAddr Z Law20s_fo30_3)<|Zp h17<|Zv (Y.fieldAddr Z Law20s_fo28_0)<|Zp h17<|Zv (Y.load Z Law20s_ts3 (Kn.at 1 Z) Z)<|Zp h17<|Zv (Y.int Z Z Z)<|Zv (Y.pick_t Z h17 Z)<|Zm Z<|?_
        rcases Zsplit (c.p.op == 1) with ⟨h18,g18⟩ | ⟨h18,g18⟩ <;> try simp only [kb] at g18
        ·refine Zp h18<|Zv (Y.fieldAddr Z Law20s_fo30_1)<|Zp h18<|Zv (Y.load Z Law20s_ts3 (Kn.at 1 Z) Z)<|Zp h18<|Zv (Y.int Z Z Z)<|Zv (Y.pick_t Z h18 Z)<|Ze<|Zg<|?_
         rcases Zsplit (decide (c.now ≥ 0)) with ⟨h19,g19⟩ | ⟨h19,g19⟩ <;> try simp only [kb] at g19
         ·refine Tr.cond_t Z h19<|Zs<|Zr<|Zv (Y.fieldAddr Z Law20s_fo45_0)<|Zv (Y.load Z Law20s_ts4 (Kn.at 0 Z) Z)<|Zv (Y.not Z)<|Zm Z<|Zo (congrArg Bool.not hsend) Z<|Zo (congrArg Bool.not hsend) Z<|Zo (congrArg Bool.not hsend) Z<|Zo (congrArg Bool.not hsend) Z<|Zo (congrArg Bool.not hsend) Z<|Run.off_u Z Z Z Z (lt Z)<|Run.off_u Z Z Z Z (lt Z)<|Run.off_u Z Z Z Z (lt Z)<|Run.off_u Z Z Z Z (lt Z)<|?_
          refine Run.off_u Z Z Z Z (lt Z)<|Run.off_u Z Z Z Z (lt Z)<|Run.off_u Z Z Z Z (lt Z)<|Zo (congrArg Bool.not hsend) Z<|Zv (Y.pick_t Z (congrArg Bool.not hsend) Z)<|Za Z<|Ze<|Zg<|Zu<|Zn<|Ex.keep []<|?_
          exact Ex.ret1 rfl rfl  rfl
         ·refine Tr.cond_f Z h19<|Zt<|Zg<|Zs<|Zr<|?_
          exfalso
          first | omega | (simp_all; done) | (simp_all; omega)
        ·refine Zo h18 Z<|Zo h18 Z<|Zo h18 Z<|Zv (Y.pick_f Z h18 Z)<|Ze<|Zg<|Tr.cond_f Z Z<|Zt<|Zg<|Zs<|Zr<|?_
         exfalso
         first | omega | (simp_all; done) | (simp_all; omega)
       ·refine Zo h17 Z<|Zo h17 Z<|Zo h17 Z<|Zo h17 Z<|Zv (Y.pick_f Z h17 Z)<|Zm Z<|Zo Z Z<|Zo Z Z<|Zo Z Z<|Zv (Y.pick_f Z Z Z)<|Ze<|Zg<|Tr.cond_f Z Z<|Zt<|Zg<|Zs<|?_
        refine Zr ?_
        exfalso
        first | omega | (simp_all; done) | (simp_all; omega)
      ·refine Zo h16 Z<|Zo h16 Z<|Zo h16 Z<|Zv (Y.pick_f Z h16 Z)<|Zm Z<|Zo Z Z<|Zo Z Z<|Zo Z Z<|Zo Z Z<|Zv (Y.pick_f Z Z Z)<|Zm Z<|Zo Z Z<|Zo Z Z<|Zo Z Z<|Zv (Y.pick_f Z Z Z)<|Ze<|?_
       refine Zg<|Tr.cond_f Z Z<|Zt<|Zg<|Zs<|Zr<|?_
       exfalso
       first | omega | (simp_all; done) | (simp_all; omega)
     ·refine Zo h15 Z<|Zo h15 Z<|Zv (Y.pick_f Z h15 Z)<|Zm Z<|Zo Z Z<|Zo Z Z<|Zo Z Z<|Zv (Y.pick_f Z Z Z)<|Zm Z<|Zo Z Z<|Zo Z Z<|Zo Z Z<|Zo Z Z<|Zv (Y.pick_f Z Z Z)<|Zm Z<|Zo Z Z<|?_
      refine Zo Z Z<|Zo Z Z<|Zv (Y.pick_f Z Z Z)<|Ze<|Zg<|Tr.cond_f Z Z<|Zt<|Zg<|Zs<|Zr<|?_
      exfalso
      first | omega | (simp_all; done) | (simp_all; omega)
    ·have hsend : A.send = true := by rw [hE] <;> rfl
     have hchg : A.change = false := by rw [hE] <;> rfl
     have hpot : A.pot = 0 := by rw [hE] <;> rfl
     obtain ⟨hf1,hf2,hnow,hf4,hf5⟩ := Eg.fits_t hf
     have hrep : A.reply = Eg.rep (x) c.p k := by rw [hE] <;> rfl
     have hAf : A.reply.few = true := by rw [hrep]; exact Eg.few_rep hw3 _
     have hyi : A.reply.yi = 0 := by rw [hrep] <;> rfl
     have hkd : Pc.kind A.reply = 5 ∨ Pc.kind A.reply = 6 := by rw [hrep]; rcases hk with rfl | rfl; exact .inl rfl; exact .inr rfl
     have h51 : ¬ (Oc.fd 51 A.reply.os).length = 4 := by rw [hrep]; exact (by decide : ¬ (0 : Nat) = 4)
     have hhas : Oc.has 51 A.reply.os = false := by rw [hrep] <;> rfl
     have hxid : A.reply.xid = c.p.xid := by rw [hrep] <;> rfl
     have hop : A.reply.op = 2 := by rw [hrep] <;> rfl
     have hsi : A.reply.si = x.server := by rw [hrep] <;> rfl
     refine Zm Z<|Zm Z<|?_
     rcases Zsplit (Rul.serves c.state) with ⟨h20,g20⟩ | ⟨h20,g20⟩ <;> try simp only [kb] at g20
     ·refine Zp h20<|Zv (Y.loadAgg Z Law20s_ag35 (Kn.at 2 Z) Z)<|Zp h20<|Run.call0 (l := [.tmp 56]) rfl rfl rfl (lt rfl) (eright_h (x := x) hpv W hpk)<|Zv (Y.pick_t Z h20 Z)<|Zm Z<|?_
      rcases Zsplit (x.right) with ⟨h21,g21⟩ | ⟨h21,g21⟩ <;> try simp only [kb] at g21
      ·refine Zp h21<|Zv (Y.fieldAddr Z Law20s_fo30_3)<|Zp h21<|Zv (Y.loadAgg Z Law20s_ag28 (Kn.at 1 Z) Z)<|Zp h21<|Run.call0 (l := [.tmp 61]) Z Z Z (lt Z) (pright_h hco.r hfew)<|Zv (Y.pick_t Z h21 Z)<|Zm Z<|?_
       rcases Zsplit (Pc.right c.p) with ⟨h22,g22⟩ | ⟨h22,g22⟩ <;> try simp only [kb] at g22
       ·refine Zp h22<|Zv (Y.fieldAddr Z Law20s_fo30_3)<|Zp h22<|Zv (Y.fieldAddr Z Law20s_fo28_0)<|Zp h22<|Zv (Y.load Z Law20s_ts3 (Kn.at 1 Z) Z)<|Zp h22<|Zv (Y.int Z Z Z)<|Zv (Y.pick_t Z h22 Z)<|Zm Z<|?_
        rcases Zsplit (c.p.op == 1) with ⟨h23,g23⟩ | ⟨h23,g23⟩ <;> try simp only [kb] at g23
        ·refine Zp h23<|Zv (Y.fieldAddr Z Law20s_fo30_1)<|Zp h23<|Zv (Y.load Z Law20s_ts3 (Kn.at 1 Z) Z)<|Zp h23<|Zv (Y.int Z Z Z)<|Zv (Y.pick_t Z h23 Z)<|Ze<|Zg<|?_
         rcases Zsplit (decide (c.now ≥ 0)) with ⟨h24,g24⟩ | ⟨h24,g24⟩ <;> try simp only [kb] at g24
         ·refine Tr.cond_t Z h24<|Zs<|Zr<|Zv (Y.fieldAddr Z Law20s_fo45_0)<|Zv (Y.load Z Law20s_ts4 (Kn.at 0 Z) Z)<|Zv (Y.not Z)<|Zm Z<|Zp (congrArg Bool.not hsend)<|Zv (Y.fieldAddr Z Law20s_fo45_1)<|Zp (congrArg Bool.not hsend)<|Zv (Y.fieldAddr Z Law20s_fo28_0)<|Zp (congrArg Bool.not hsend)<|Zv (Y.load Z Law20s_ts3 (Kn.at 0 Z) Z)<|Zp (congrArg Bool.not hsend)<|Zv (Y.int Z Z Z)<|Zp (congrArg Bool.not hsend)<|?_
          refine Zm Z<|Zp (beq_iff_eq.2 hop)<|Zv (Y.fieldAddr Z Law20s_fo45_1)<|Zp (beq_iff_eq.2 hop)<|Zv (Y.fieldAddr Z Law20s_fo28_1)<|Zp (beq_iff_eq.2 hop)<|Zv (Y.load Z Law20s_ts23 (Kn.at 0 Z) Z)<|Zp (beq_iff_eq.2 hop)<|Zv (Y.fieldAddr Z Law20s_fo30_3)<|Zp (beq_iff_eq.2 hop)<|Zv (Y.fieldAddr Z Law20s_fo28_1)<|Zp (beq_iff_eq.2 hop)<|Zv (Y.load Z Law20s_ts23 (Kn.at 1 Z) Z)<|Zp (beq_iff_eq.2 hop)<|Zv (Y.int Z Z Z)<|Zp (congrArg Bool.not hsend)<|?_
          refine Zv (Y.pick_t Z (beq_iff_eq.2 hop) Z)<|Zv (Y.pick_f Z (congrArg Bool.not hsend) Z)<|Za Z<|Ze<|Zg<|Zu<|Zn<|Ex.keep []<|?_
          exact Ex.ret1 rfl rfl  (congrArg Value.bool ((beq_iff_eq.2 hxid)))
         ·refine Tr.cond_f Z h24<|Zt<|Zg<|Zs<|Zr<|?_
          exfalso
          first | omega | (simp_all; done) | (simp_all; omega)
        ·refine Zo h23 Z<|Zo h23 Z<|Zo h23 Z<|Zv (Y.pick_f Z h23 Z)<|Ze<|Zg<|Tr.cond_f Z Z<|Zt<|Zg<|Zs<|Zr<|?_
         exfalso
         first | omega | (simp_all; done) | (simp_all; omega)
       ·refine Zo h22 Z<|Zo h22 Z<|Zo h22 Z<|Zo h22 Z<|Zv (Y.pick_f Z h22 Z)<|Zm Z<|Zo Z Z<|Zo Z Z<|Zo Z Z<|Zv (Y.pick_f Z Z Z)<|Ze<|Zg<|Tr.cond_f Z Z<|Zt<|Zg<|Zs<|?_
        refine Zr ?_
        exfalso
        first | omega | (simp_all; done) | (simp_all; omega)
      ·refine Zo h21 Z<|Zo h21 Z<|Zo h21 Z<|Zv (Y.pick_f Z h21 Z)<|Zm Z<|Zo Z Z<|Zo Z Z<|Zo Z Z<|Zo Z Z<|Zv (Y.pick_f Z Z Z)<|Zm Z<|Zo Z Z<|Zo Z Z<|Zo Z Z<|Zv (Y.pick_f Z Z Z)<|Ze<|?_
       refine Zg<|Tr.cond_f Z Z<|Zt<|Zg<|Zs<|Zr<|?_
       exfalso
       first | omega | (simp_all; done) | (simp_all; omega)
     ·refine Zo h20 Z<|Zo h20 Z<|Zv (Y.pick_f Z h20 Z)<|Zm Z<|Zo Z Z<|Zo Z Z<|Zo Z Z<|Zv (Y.pick_f Z Z Z)<|Zm Z<|Zo Z Z<|Zo Z Z<|Zo Z Z<|Zo Z Z<|Zv (Y.pick_f Z Z Z)<|Zm Z<|Zo Z Z<|?_
      refine Zo Z Z<|Zo Z Z<|Zv (Y.pick_f Z Z Z)<|Ze<|Zg<|Tr.cond_f Z Z<|Zt<|Zg<|Zs<|Zr<|?_
      exfalso
      first | omega | (simp_all; done) | (simp_all; omega)
    ·have hsend : A.send = true := by rw [hE] <;> rfl
     have hchg : A.change = false := by rw [hE] <;> rfl
     have hpot : A.pot = 0 := by rw [hE] <;> rfl
     obtain ⟨hf1,hf2,hnow,hf4,hf5⟩ := Eg.fits_t hf
     have hrep : A.reply = Eg.prom (x) c.p 2 y.addr ((Eg.sq (x) l c).tm y) := by rw [hE] <;> rfl
     have hAf : A.reply.few = true := by rw [hrep]; exact Eg.few_prom hw3 _ _ _
     have hyi : A.reply.yi = y.addr := by rw [hrep] <;> rfl
     have hkd : Pc.kind A.reply = 2 := by rw [hrep] <;> rfl
     have h51 : (Oc.fd 51 A.reply.os).length = 4 := by rw [hrep]; exact Msg.be_length _ _
     have hhas : Oc.has 51 A.reply.os = true := by rw [hrep] <;> rfl
     have hval : val (Oc.fd 51 A.reply.os) = (Eg.sq (x) l c).tm y := by rw [hrep]; exact Eg.val_t (Eg.good_tm hg)
     have hty := Eg.good_tm hg
     have hxid : A.reply.xid = c.p.xid := by rw [hrep] <;> rfl
     have hop : A.reply.op = 2 := by rw [hrep] <;> rfl
     have hsi : A.reply.si = x.server := by rw [hrep] <;> rfl
     refine Zm Z<|Zm Z<|?_
     rcases Zsplit (Rul.serves c.state) with ⟨h25,g25⟩ | ⟨h25,g25⟩ <;> try simp only [kb] at g25
     ·refine Zp h25<|Zv (Y.loadAgg Z Law20s_ag35 (Kn.at 2 Z) Z)<|Zp h25<|Run.call0 (l := [.tmp 56]) rfl rfl rfl (lt rfl) (eright_h (x := x) hpv W hpk)<|Zv (Y.pick_t Z h25 Z)<|Zm Z<|?_
      rcases Zsplit (x.right) with ⟨h26,g26⟩ | ⟨h26,g26⟩ <;> try simp only [kb] at g26
      ·refine Zp h26<|Zv (Y.fieldAddr Z Law20s_fo30_3)<|Zp h26<|Zv (Y.loadAgg Z Law20s_ag28 (Kn.at 1 Z) Z)<|Zp h26<|Run.call0 (l := [.tmp 61]) Z Z Z (lt Z) (pright_h hco.r hfew)<|Zv (Y.pick_t Z h26 Z)<|Zm Z<|?_
       rcases Zsplit (Pc.right c.p) with ⟨h27,g27⟩ | ⟨h27,g27⟩ <;> try simp only [kb] at g27
       ·refine Zp h27<|Zv (Y.fieldAddr Z Law20s_fo30_3)<|Zp h27<|Zv (Y.fieldAddr Z Law20s_fo28_0)<|Zp h27<|Zv (Y.load Z Law20s_ts3 (Kn.at 1 Z) Z)<|Zp h27<|Zv (Y.int Z Z Z)<|Zv (Y.pick_t Z h27 Z)<|Zm Z<|?_
        rcases Zsplit (c.p.op == 1) with ⟨h28,g28⟩ | ⟨h28,g28⟩ <;> try simp only [kb] at g28
        ·refine Zp h28<|Zv (Y.fieldAddr Z Law20s_fo30_1)<|Zp h28<|Zv (Y.load Z Law20s_ts3 (Kn.at 1 Z) Z)<|Zp h28<|Zv (Y.int Z Z Z)<|Zv (Y.pick_t Z h28 Z)<|Ze<|Zg<|?_
         rcases Zsplit (decide (c.now ≥ 0)) with ⟨h29,g29⟩ | ⟨h29,g29⟩ <;> try simp only [kb] at g29
         ·refine Tr.cond_t Z h29<|Zs<|Zr<|Zv (Y.fieldAddr Z Law20s_fo45_0)<|Zv (Y.load Z Law20s_ts4 (Kn.at 0 Z) Z)<|Zv (Y.not Z)<|Zm Z<|Zp (congrArg Bool.not hsend)<|Zv (Y.fieldAddr Z Law20s_fo45_1)<|Zp (congrArg Bool.not hsend)<|Zv (Y.fieldAddr Z Law20s_fo28_0)<|Zp (congrArg Bool.not hsend)<|Zv (Y.load Z Law20s_ts3 (Kn.at 0 Z) Z)<|Zp (congrArg Bool.not hsend)<|Zv (Y.int Z Z Z)<|Zp (congrArg Bool.not hsend)<|?_
          refine Zm Z<|Zp (beq_iff_eq.2 hop)<|Zv (Y.fieldAddr Z Law20s_fo45_1)<|Zp (beq_iff_eq.2 hop)<|Zv (Y.fieldAddr Z Law20s_fo28_1)<|Zp (beq_iff_eq.2 hop)<|Zv (Y.load Z Law20s_ts23 (Kn.at 0 Z) Z)<|Zp (beq_iff_eq.2 hop)<|Zv (Y.fieldAddr Z Law20s_fo30_3)<|Zp (beq_iff_eq.2 hop)<|Zv (Y.fieldAddr Z Law20s_fo28_1)<|Zp (beq_iff_eq.2 hop)<|Zv (Y.load Z Law20s_ts23 (Kn.at 1 Z) Z)<|Zp (beq_iff_eq.2 hop)<|Zv (Y.int Z Z Z)<|Zp (congrArg Bool.not hsend)<|?_
          refine Zv (Y.pick_t Z (beq_iff_eq.2 hop) Z)<|Zv (Y.pick_f Z (congrArg Bool.not hsend) Z)<|Za Z<|Ze<|Zg<|Zu<|Zn<|Ex.keep []<|?_
          exact Ex.ret1 rfl rfl  (congrArg Value.bool ((beq_iff_eq.2 hxid)))
         ·refine Tr.cond_f Z h29<|Zt<|Zg<|Zs<|Zr<|?_
          exfalso
          first | omega | (simp_all; done) | (simp_all; omega)
        ·refine Zo h28 Z<|Zo h28 Z<|Zo h28 Z<|Zv (Y.pick_f Z h28 Z)<|Ze<|Zg<|Tr.cond_f Z Z<|Zt<|Zg<|Zs<|Zr<|?_
         exfalso
         first | omega | (simp_all; done) | (simp_all; omega)
       ·refine Zo h27 Z<|Zo h27 Z<|Zo h27 Z<|Zo h27 Z<|Zv (Y.pick_f Z h27 Z)<|Zm Z<|Zo Z Z<|Zo Z Z<|Zo Z Z<|Zv (Y.pick_f Z Z Z)<|Ze<|Zg<|Tr.cond_f Z Z<|Zt<|Zg<|Zs<|?_
        refine Zr ?_
        exfalso
        first | omega | (simp_all; done) | (simp_all; omega)
      ·refine Zo h26 Z<|Zo h26 Z<|Zo h26 Z<|Zv (Y.pick_f Z h26 Z)<|Zm Z<|Zo Z Z<|Zo Z Z<|Zo Z Z<|Zo Z Z<|Zv (Y.pick_f Z Z Z)<|Zm Z<|Zo Z Z<|Zo Z Z<|Zo Z Z<|Zv (Y.pick_f Z Z Z)<|Ze<|?_
       refine Zg<|Tr.cond_f Z Z<|Zt<|Zg<|Zs<|Zr<|?_
       exfalso
       first | omega | (simp_all; done) | (simp_all; omega)
     ·refine Zo h25 Z<|Zo h25 Z<|Zv (Y.pick_f Z h25 Z)<|Zm Z<|Zo Z Z<|Zo Z Z<|Zo Z Z<|Zv (Y.pick_f Z Z Z)<|Zm Z<|Zo Z Z<|Zo Z Z<|Zo Z Z<|Zo Z Z<|Zv (Y.pick_f Z Z Z)<|Zm Z<|Zo Z Z<|?_
      refine Zo Z Z<|Zo Z Z<|Zv (Y.pick_f Z Z Z)<|Ze<|Zg<|Tr.cond_f Z Z<|Zt<|Zg<|Zs<|Zr<|?_
      exfalso
      first | omega | (simp_all; done) | (simp_all; omega)
    ·have hsend : A.send = true := by rw [hE] <;> rfl
     have hchg : A.change = true := by rw [hE] <;> rfl
     obtain ⟨hf1,hf2,hnow,hf4,hf5⟩ := Eg.fits_t hf
     have hrep : A.reply = Eg.prom (x) c.p 5 y.addr ((Eg.sq (x) l c).tm y) := by rw [hE] <;> rfl
     have hAf : A.reply.few = true := by rw [hrep]; exact Eg.few_prom hw3 _ _ _
     have hyi : A.reply.yi = y.addr := by rw [hrep] <;> rfl
     have hkd : Pc.kind A.reply = 5 := by rw [hrep] <;> rfl
     have h51 : (Oc.fd 51 A.reply.os).length = 4 := by rw [hrep]; exact Msg.be_length _ _
     have hhas : Oc.has 51 A.reply.os = true := by rw [hrep] <;> rfl
     have hval : val (Oc.fd 51 A.reply.os) = (Eg.sq (x) l c).tm y := by rw [hrep]; exact Eg.val_t (Eg.good_tm hg)
     have hty := Eg.good_tm hg
     have hxid : A.reply.xid = c.p.xid := by rw [hrep] <;> rfl
     have hop : A.reply.op = 2 := by rw [hrep] <;> rfl
     have hsi : A.reply.si = x.server := by rw [hrep] <;> rfl
     refine Zm Z<|Zm Z<|?_
     rcases Zsplit (Rul.serves c.state) with ⟨h30,g30⟩ | ⟨h30,g30⟩ <;> try simp only [kb] at g30
     ·refine Zp h30<|Zv (Y.loadAgg Z Law20s_ag35 (Kn.at 2 Z) Z)<|Zp h30<|Run.call0 (l := [.tmp 56]) rfl rfl rfl (lt rfl) (eright_h (x := x) hpv W hpk)<|Zv (Y.pick_t Z h30 Z)<|Zm Z<|?_
      rcases Zsplit (x.right) with ⟨h31,g31⟩ | ⟨h31,g31⟩ <;> try simp only [kb] at g31
      ·refine Zp h31<|Zv (Y.fieldAddr Z Law20s_fo30_3)<|Zp h31<|Zv (Y.loadAgg Z Law20s_ag28 (Kn.at 1 Z) Z)<|Zp h31<|Run.call0 (l := [.tmp 61]) Z Z Z (lt Z) (pright_h hco.r hfew)<|Zv (Y.pick_t Z h31 Z)<|Zm Z<|?_
       rcases Zsplit (Pc.right c.p) with ⟨h32,g32⟩ | ⟨h32,g32⟩ <;> try simp only [kb] at g32
       ·refine Zp h32<|Zv (Y.fieldAddr Z Law20s_fo30_3)<|Zp h32<|Zv (Y.fieldAddr Z Law20s_fo28_0)<|Zp h32<|Zv (Y.load Z Law20s_ts3 (Kn.at 1 Z) Z)<|Zp h32<|Zv (Y.int Z Z Z)<|Zv (Y.pick_t Z h32 Z)<|Zm Z<|?_
        rcases Zsplit (c.p.op == 1) with ⟨h33,g33⟩ | ⟨h33,g33⟩ <;> try simp only [kb] at g33
        ·refine Zp h33<|Zv (Y.fieldAddr Z Law20s_fo30_1)<|Zp h33<|Zv (Y.load Z Law20s_ts3 (Kn.at 1 Z) Z)<|Zp h33<|Zv (Y.int Z Z Z)<|Zv (Y.pick_t Z h33 Z)<|Ze<|Zg<|?_
         rcases Zsplit (decide (c.now ≥ 0)) with ⟨h34,g34⟩ | ⟨h34,g34⟩ <;> try simp only [kb] at g34
         ·refine Tr.cond_t Z h34<|Zs<|Zr<|Zv (Y.fieldAddr Z Law20s_fo45_0)<|Zv (Y.load Z Law20s_ts4 (Kn.at 0 Z) Z)<|Zv (Y.not Z)<|Zm Z<|Zp (congrArg Bool.not hsend)<|Zv (Y.fieldAddr Z Law20s_fo45_1)<|Zp (congrArg Bool.not hsend)<|Zv (Y.fieldAddr Z Law20s_fo28_0)<|Zp (congrArg Bool.not hsend)<|Zv (Y.load Z Law20s_ts3 (Kn.at 0 Z) Z)<|Zp (congrArg Bool.not hsend)<|Zv (Y.int Z Z Z)<|Zp (congrArg Bool.not hsend)<|?_
          refine Zm Z<|Zp (beq_iff_eq.2 hop)<|Zv (Y.fieldAddr Z Law20s_fo45_1)<|Zp (beq_iff_eq.2 hop)<|Zv (Y.fieldAddr Z Law20s_fo28_1)<|Zp (beq_iff_eq.2 hop)<|Zv (Y.load Z Law20s_ts23 (Kn.at 0 Z) Z)<|Zp (beq_iff_eq.2 hop)<|Zv (Y.fieldAddr Z Law20s_fo30_3)<|Zp (beq_iff_eq.2 hop)<|Zv (Y.fieldAddr Z Law20s_fo28_1)<|Zp (beq_iff_eq.2 hop)<|Zv (Y.load Z Law20s_ts23 (Kn.at 1 Z) Z)<|Zp (beq_iff_eq.2 hop)<|Zv (Y.int Z Z Z)<|Zp (congrArg Bool.not hsend)<|?_
          refine Zv (Y.pick_t Z (beq_iff_eq.2 hop) Z)<|Zv (Y.pick_f Z (congrArg Bool.not hsend) Z)<|Za Z<|Ze<|Zg<|Zu<|Zn<|Ex.keep []<|?_
          exact Ex.ret1 rfl rfl  (congrArg Value.bool ((beq_iff_eq.2 hxid)))
         ·refine Tr.cond_f Z h34<|Zt<|Zg<|Zs<|Zr<|?_
          exfalso
          first | omega | (simp_all; done) | (simp_all; omega)
        ·refine Zo h33 Z<|Zo h33 Z<|Zo h33 Z<|Zv (Y.pick_f Z h33 Z)<|Ze<|Zg<|Tr.cond_f Z Z<|Zt<|Zg<|Zs<|Zr<|?_
         exfalso
         first | omega | (simp_all; done) | (simp_all; omega)
       ·refine Zo h32 Z<|Zo h32 Z<|Zo h32 Z<|Zo h32 Z<|Zv (Y.pick_f Z h32 Z)<|Zm Z<|Zo Z Z<|Zo Z Z<|Zo Z Z<|Zv (Y.pick_f Z Z Z)<|Ze<|Zg<|Tr.cond_f Z Z<|Zt<|Zg<|Zs<|?_
        refine Zr ?_
        exfalso
        first | omega | (simp_all; done) | (simp_all; omega)
      ·refine Zo h31 Z<|Zo h31 Z<|Zo h31 Z<|Zv (Y.pick_f Z h31 Z)<|Zm Z<|Zo Z Z<|Zo Z Z<|Zo Z Z<|Zo Z Z<|Zv (Y.pick_f Z Z Z)<|Zm Z<|Zo Z Z<|Zo Z Z<|Zo Z Z<|Zv (Y.pick_f Z Z Z)<|Ze<|?_
       refine Zg<|Tr.cond_f Z Z<|Zt<|Zg<|Zs<|Zr<|?_
       exfalso
       first | omega | (simp_all; done) | (simp_all; omega)
     ·refine Zo h30 Z<|Zo h30 Z<|Zv (Y.pick_f Z h30 Z)<|Zm Z<|Zo Z Z<|Zo Z Z<|Zo Z Z<|Zv (Y.pick_f Z Z Z)<|Zm Z<|Zo Z Z<|Zo Z Z<|Zo Z Z<|Zo Z Z<|Zv (Y.pick_f Z Z Z)<|Zm Z<|Zo Z Z<|?_
      refine Zo Z Z<|Zo Z Z<|Zv (Y.pick_f Z Z Z)<|Ze<|Zg<|Tr.cond_f Z Z<|Zt<|Zg<|Zs<|Zr<|?_
      exfalso
      first | omega | (simp_all; done) | (simp_all; omega)
  ·refine Zv (Y.loadAgg Z Law20s_ag35 (Kn.at 1 Z) Z)<|Zm Z<|?_
   refine Run.call [] (l := [.tmp 25,.tmp 26]) rfl rfl rfl (lt rfl) (made20_c (x := x) hpv W hpk hv2 hl9 hcs) (fun v35 V35 H35 hle35 hR35 => ?_)
   obtain ⟨_,rfl,rfl⟩ := hR35.2.resolve_right fun h9 => hp0 h9.1
   obtain ⟨W35,hVe⟩ : ∃ Vz : Vw,Vz = V35 := ⟨_,rfl⟩; subst hVe
   replace hv2 := hv2.le hle35
   replace hco := hco.le hle35
   replace hpv := hpv.le hle35
   replace hVle := Vw.le_trans hVle hle35
   refine Run.heapTo (H' := [[(b2,.cells (Eg.Cs.cells c) 30 (0,0))],[(b1,.cells (Si.cells x (.slice pp x.pool.length cp)) 35 (0,0))]]) Z ?_
   refine Zm Z<|Zv (Y.extract Z Z)<|Zv (Y.extract Z Z)<|Za Z<|Za Z<|Ze<|Zg<|Zs<|Zr<|Zv (Y.loadAgg Z Law20s_ag35 (Kn.at 1 Z) Z)<|Zm Z<|Zv (Y.fieldAddr Z Law20s_fo30_0)<|Zv (Y.load Z Law20s_ts3 (Kn.at 0 Z) Z)<|Zv (Y.fieldAddr Z Law20s_fo30_1)<|Zv (Y.load Z Law20s_ts3 (Kn.at 0 Z) Z)<|Zv (Y.fieldAddr Z Law20s_fo30_2)<|?_
   refine Zv (Y.load Z Law20s_ts3 (Kn.at 0 Z) Z)<|Zv (Y.fieldAddr Z Law20s_fo30_3)<|Zv (Y.loadAgg Z Law20s_ag28 (Kn.at 0 Z) Z)<|?_
   refine Run.call [] (l := [.tmp 30,.tmp 31,.tmp 33,.tmp 35,.tmp 37,.tmp 39]) rfl rfl rfl (lt rfl) (answer_n (x := x) (p := c.p) (l := []) (state := c.state) (now := c.now) (entry := c.entry) hpv W hpk hco.r hfew hco.ci hsv hp0) (fun v36 V36 H36 hle36 hR36 => ?_)
   obtain ⟨_,rfl,hv36,ov36,rfl,hRa⟩ := hR36
   obtain ⟨W36,hVe⟩ : ∃ Vz : Vw,Vz = V36 := ⟨_,rfl⟩; subst hVe
   replace hv2 := hv2.le hle36
   replace hco := hco.le hle36
   replace hpv := hpv.le hle36
   replace hVle := Vw.le_trans hVle hle36
   obtain ⟨⟨pg36,cg36,rfl⟩,pk36,nk36,ck36,rfl⟩ := hRa.forms
   generalize hA : Eg.ans (x) [] c.state c.now c.entry c.p = A at hRa ⊢
   have hC : Eg.Case (x) [] c A := by rw [← hA]; exact Eg.cases _ List.Pairwise.nil c
   clear hA
   refine Run.heapTo (H' := [[(b2,.cells (Eg.Cs.cells c) 30 (0,0))],[(b1,.cells (Si.cells x (.slice pp x.pool.length cp)) 35 (0,0))]]) Z ?_
   refine Run.alloc Law20s_zo45 (lt rfl) (fun b37 => ?_)
   refine Run.stAll (l2 := [.bool A.send,.int .i64 A.reply.op,.int .u32 A.reply.xid,.int .i64 A.reply.secs,.int .i64 A.reply.flags,.int .u32 A.reply.ci,.int .u32 A.reply.yi,.int .u32 A.reply.si,.int .u32 A.reply.gi,.slice pg36 A.reply.hw.length cg36,.slice pk36 nk36 ck36,.bool A.change,.int .u32 A.lease.addr,.int .i64 A.lease.bind,.string A.lease.client,.int .i64 A.lease.till,.int .i64 A.lease.acked,.int .i64 A.lease.told,.int .i64 A.lease.at_,.int .i64 A.lease.ver,.int .i64 A.pot]) (j := 0) Z Z Law20s_sz45 Z Z Z Z ?_
   refine Run.heapTo (H' := [[(b37,.cells (An.cells A (.slice pg36 A.reply.hw.length cg36) (.slice pk36 nk36 ck36)) 45 (0,0))],[(b2,.cells (Eg.Cs.cells c) 30 (0,0))],[(b1,.cells (Si.cells x (.slice pp x.pool.length cp)) 35 (0,0))]]) Z ?_
   refine Ze<|Zg<|?_
   refine Tr.cut W36 [[(b37,.cells (An.cells A (.slice pg36 A.reply.hw.length cg36) (.slice pk36 nk36 ck36)) 45 (0,0))],[(b2,.cells (Eg.Cs.cells c) 30 (0,0))],[(b1,.cells (Si.cells x (.slice pp x.pool.length cp)) 35 (0,0))]] [(3,(pZ b1)),(5,(pZ b2)),(7,.bool true),(11,(pZ b37)),(12,.bool (Rul.serves c.state))] ?_ ?_
   ·refine Zr<|Zv (Y.fieldAddr Z Law20s_fo30_0)<|Zv (Y.load Z Law20s_ts3 (Kn.at 1 Z) Z)<|Zv (Y.int Z Z Z)<|Zm Z<|?_
    rcases Zsplit (c.state == 1) with ⟨h38,g38⟩ | ⟨h38,g38⟩ <;> try simp only [kb] at g38
    ·refine Zo h38 Z<|Zo h38 Z<|Zo h38 Z<|Zv (Y.pick_t Z h38 Z)<|Zm Z<|Zo Z Z<|Zo Z Z<|Zo Z Z<|Zv (Y.pick_t Z Z Z)<|Za Z<|Ze<|?_
     have hsv9 : (true) = Rul.serves c.state := Rul.serves_a W
     exact Ex.cut rfl (by repeat (first | exact subB_nil _ | refine subB_cons (by first | rfl | exact congrArg (fun z => some (Value.int _ z)) W | exact congrArg (fun z => some (Value.bool z)) hsv9) ?_))
    ·refine Zp h38<|Zv (Y.fieldAddr Z Law20s_fo30_0)<|Zp h38<|Zv (Y.load Z Law20s_ts3 (Kn.at 1 Z) Z)<|Zp h38<|Zv (Y.int Z Z Z)<|Zv (Y.pick_f Z h38 Z)<|Zm Z<|?_
     rcases Zsplit (c.state == 2) with ⟨h39,g39⟩ | ⟨h39,g39⟩ <;> try simp only [kb] at g39
     ·refine Zo h39 Z<|Zo h39 Z<|Zo h39 Z<|Zv (Y.pick_t Z h39 Z)<|Za Z<|Ze<|?_
      have hsv9 : (true) = Rul.serves c.state := Rul.serves_a W
      exact Ex.cut rfl (by repeat (first | exact subB_nil _ | refine subB_cons (by first | rfl | exact congrArg (fun z => some (Value.int _ z)) W | exact congrArg (fun z => some (Value.bool z)) hsv9) ?_))
     ·refine Zp h39<|Zv (Y.fieldAddr Z Law20s_fo30_0)<|Zp h39<|Zv (Y.load Z Law20s_ts3 (Kn.at 1 Z) Z)<|Zp h39<|Zv (Y.int Z Z Z)<|Zv (Y.pick_f Z h39 Z)<|Za Z<|Ze<|?_
      have hsv9 : (c.state == 3) = Rul.serves c.state := Rul.serves_b W W
      exact Ex.cut rfl (by repeat (first | exact subB_nil _ | refine subB_cons (by first | rfl | exact congrArg (fun z => some (Value.int _ z)) W | exact congrArg (fun z => some (Value.bool z)) hsv9) ?_))
   ·refine Zs<|Zs<|Zr<|?_
    rcases Eg.Case.eq hC with hE | ⟨m,hb,hf,hE⟩ | ⟨k,hk,hf,hE⟩ | ⟨y,hg,hf,hE⟩ | ⟨y,hg,hf,hE⟩
    ·have hsend : A.send = false := by rw [hE] <;> rfl
     have hchg : A.change = false := by rw [hE] <;> rfl
     have hpot : A.pot = 0 := by rw [hE] <;> rfl
     have hrep : A.reply = Cli.zeroP := by rw [hE] <;> rfl
     have hAf : A.reply.few = true := by rw [hrep]; exact Cli.few_zero
     have hyi : A.reply.yi = 0 := by rw [hrep] <;> rfl
     have h51 : ¬ (Oc.fd 51 A.reply.os).length = 4 := by rw [hrep]; exact (by decide : ¬ (0 : Nat) = 4)
     have hhas : Oc.has 51 A.reply.os = false := by rw [hrep] <;> rfl
     refine Zm Z<|Zm Z<|?_
     rcases Zsplit (Rul.serves c.state) with ⟨h40,g40⟩ | ⟨h40,g40⟩ <;> try simp only [kb] at g40
     ·refine Zp h40<|Zv (Y.loadAgg Z Law20s_ag35 (Kn.at 2 Z) Z)<|Zp h40<|Run.call0 (l := [.tmp 56]) rfl rfl rfl (lt rfl) (eright_h (x := x) hpv W hpk)<|Zv (Y.pick_t Z h40 Z)<|Zm Z<|?_
      rcases Zsplit (x.right) with ⟨h41,g41⟩ | ⟨h41,g41⟩ <;> try simp only [kb] at g41
      ·refine Zp h41<|Zv (Y.fieldAddr Z Law20s_fo30_3)<|Zp h41<|Zv (Y.loadAgg Z Law20s_ag28 (Kn.at 1 Z) Z)<|Zp h41<|Run.call0 (l := [.tmp 61]) Z Z Z (lt Z) (pright_h hco.r hfew)<|Zv (Y.pick_t Z h41 Z)<|Zm Z<|?_
       rcases Zsplit (Pc.right c.p) with ⟨h42,g42⟩ | ⟨h42,g42⟩ <;> try simp only [kb] at g42
       ·refine Zp h42<|Zv (Y.fieldAddr Z Law20s_fo30_3)<|Zp h42<|Zv (Y.fieldAddr Z Law20s_fo28_0)<|Zp h42<|Zv (Y.load Z Law20s_ts3 (Kn.at 1 Z) Z)<|Zp h42<|Zv (Y.int Z Z Z)<|Zv (Y.pick_t Z h42 Z)<|Zm Z<|?_
        rcases Zsplit (c.p.op == 1) with ⟨h43,g43⟩ | ⟨h43,g43⟩ <;> try simp only [kb] at g43
        ·refine Zp h43<|Zv (Y.fieldAddr Z Law20s_fo30_1)<|Zp h43<|Zv (Y.load Z Law20s_ts3 (Kn.at 1 Z) Z)<|Zp h43<|Zv (Y.int Z Z Z)<|Zv (Y.pick_t Z h43 Z)<|Ze<|Zg<|?_
         rcases Zsplit (decide (c.now ≥ 0)) with ⟨h44,g44⟩ | ⟨h44,g44⟩ <;> try simp only [kb] at g44
         ·refine Tr.cond_t Z h44<|Zs<|Zr<|Zv (Y.fieldAddr Z Law20s_fo45_0)<|Zv (Y.load Z Law20s_ts4 (Kn.at 0 Z) Z)<|Zv (Y.not Z)<|Zm Z<|Zo (congrArg Bool.not hsend) Z<|Zo (congrArg Bool.not hsend) Z<|Zo (congrArg Bool.not hsend) Z<|Zo (congrArg Bool.not hsend) Z<|Zo (congrArg Bool.not hsend) Z<|Run.off_u Z Z Z Z (lt Z)<|Run.off_u Z Z Z Z (lt Z)<|Run.off_u Z Z Z Z (lt Z)<|Run.off_u Z Z Z Z (lt Z)<|?_
          refine Run.off_u Z Z Z Z (lt Z)<|Run.off_u Z Z Z Z (lt Z)<|Run.off_u Z Z Z Z (lt Z)<|Zo (congrArg Bool.not hsend) Z<|Zv (Y.pick_t Z (congrArg Bool.not hsend) Z)<|Za Z<|Ze<|Zg<|Zu<|Zn<|Ex.keep []<|?_
          exact Ex.ret1 rfl rfl  rfl
         ·refine Tr.cond_f Z h44<|Zt<|Zg<|Zs<|Zr<|Zv (Y.fieldAddr Z Law20s_fo45_0)<|Zv (Y.load Z Law20s_ts4 (Kn.at 0 Z) Z)<|Zv (Y.not Z)<|Zm Z<|Zp (congrArg Bool.not hsend)<|Zv (Y.fieldAddr Z Law20s_fo45_2)<|Zp (congrArg Bool.not hsend)<|Zv (Y.load Z Law20s_ts4 (Kn.at 0 Z) Z)<|Zp (congrArg Bool.not hsend)<|Zv (Y.not Z)<|Zv (Y.pick_t Z (congrArg Bool.not hsend) Z)<|?_
          refine Zm Z<|Zp (congrArg Bool.not hchg)<|Zv (Y.fieldAddr Z Law20s_fo45_4)<|Zp (congrArg Bool.not hchg)<|Zv (Y.load Z Law20s_ts3 (Kn.at 0 Z) Z)<|Zp (congrArg Bool.not hchg)<|Zv (Y.int Z Z Z)<|Zv (Y.pick_t Z (congrArg Bool.not hchg) Z)<|Zm Z<|Zp (beq_iff_eq.2 hpot)<|Zv (Y.fieldAddr Z Law20s_fo45_1)<|Zp (beq_iff_eq.2 hpot)<|Zv (Y.loadAgg Z Law20s_ag28 (Kn.at 0 Z) Z)<|Zp (beq_iff_eq.2 hpot)<|Zv (Y.buildS (l := []) Law20s_zo28 Law20s_pl28 Z Z)<|?_
          refine Zp (beq_iff_eq.2 hpot)<|Run.call0 (l := [.tmp 108,.tmp 109]) rfl rfl rfl (lt rfl) (show Does _ _ _ _ _ (Pv (.bool true) _ _) from by rw [hE] at hRa ⊢; exact same_h (p := Cli.zeroP) hRa.hw hRa.os (Pc.zero_R _).hw (Pc.zero_R _).os (Nat.zero_le _))<|Zv (Y.pick_t Z (beq_iff_eq.2 hpot) Z)<|Za Z<|Ze<|Zg<|Zu<|Ex.keep []<|?_
          exact Ex.ret1 rfl rfl  rfl
        ·refine Zo h43 Z<|Zo h43 Z<|Zo h43 Z<|Zv (Y.pick_f Z h43 Z)<|Ze<|Zg<|Tr.cond_f Z Z<|Zt<|Zg<|Zs<|Zr<|Zv (Y.fieldAddr Z Law20s_fo45_0)<|Zv (Y.load Z Law20s_ts4 (Kn.at 0 Z) Z)<|Zv (Y.not Z)<|Zm Z<|Zp (congrArg Bool.not hsend)<|?_
         refine Zv (Y.fieldAddr Z Law20s_fo45_2)<|Zp (congrArg Bool.not hsend)<|Zv (Y.load Z Law20s_ts4 (Kn.at 0 Z) Z)<|Zp (congrArg Bool.not hsend)<|Zv (Y.not Z)<|Zv (Y.pick_t Z (congrArg Bool.not hsend) Z)<|Zm Z<|Zp (congrArg Bool.not hchg)<|Zv (Y.fieldAddr Z Law20s_fo45_4)<|Zp (congrArg Bool.not hchg)<|Zv (Y.load Z Law20s_ts3 (Kn.at 0 Z) Z)<|Zp (congrArg Bool.not hchg)<|Zv (Y.int Z Z Z)<|Zv (Y.pick_t Z (congrArg Bool.not hchg) Z)<|Zm Z<|Zp (beq_iff_eq.2 hpot)<|?_
         refine Zv (Y.fieldAddr Z Law20s_fo45_1)<|Zp (beq_iff_eq.2 hpot)<|Zv (Y.loadAgg Z Law20s_ag28 (Kn.at 0 Z) Z)<|Zp (beq_iff_eq.2 hpot)<|Zv (Y.buildS (l := []) Law20s_zo28 Law20s_pl28 Z Z)<|Zp (beq_iff_eq.2 hpot)<|Run.call0 (l := [.tmp 108,.tmp 109]) rfl rfl rfl (lt rfl) (show Does _ _ _ _ _ (Pv (.bool true) _ _) from by rw [hE] at hRa ⊢; exact same_h (p := Cli.zeroP) hRa.hw hRa.os (Pc.zero_R _).hw (Pc.zero_R _).os (Nat.zero_le _))<|?_
         refine Zv (Y.pick_t Z (beq_iff_eq.2 hpot) Z)<|Za Z<|Ze<|Zg<|Zu<|Ex.keep []<|?_
         exact Ex.ret1 rfl rfl  rfl
       ·refine Zo h42 Z<|Zo h42 Z<|Zo h42 Z<|Zo h42 Z<|Zv (Y.pick_f Z h42 Z)<|Zm Z<|Zo Z Z<|Zo Z Z<|Zo Z Z<|Zv (Y.pick_f Z Z Z)<|Ze<|Zg<|Tr.cond_f Z Z<|Zt<|Zg<|Zs<|?_
        refine Zr<|Zv (Y.fieldAddr Z Law20s_fo45_0)<|Zv (Y.load Z Law20s_ts4 (Kn.at 0 Z) Z)<|Zv (Y.not Z)<|Zm Z<|Zp (congrArg Bool.not hsend)<|Zv (Y.fieldAddr Z Law20s_fo45_2)<|Zp (congrArg Bool.not hsend)<|Zv (Y.load Z Law20s_ts4 (Kn.at 0 Z) Z)<|Zp (congrArg Bool.not hsend)<|Zv (Y.not Z)<|Zv (Y.pick_t Z (congrArg Bool.not hsend) Z)<|Zm Z<|Zp (congrArg Bool.not hchg)<|Zv (Y.fieldAddr Z Law20s_fo45_4)<|Zp (congrArg Bool.not hchg)<|?_
        refine Zv (Y.load Z Law20s_ts3 (Kn.at 0 Z) Z)<|Zp (congrArg Bool.not hchg)<|Zv (Y.int Z Z Z)<|Zv (Y.pick_t Z (congrArg Bool.not hchg) Z)<|Zm Z<|Zp (beq_iff_eq.2 hpot)<|Zv (Y.fieldAddr Z Law20s_fo45_1)<|Zp (beq_iff_eq.2 hpot)<|Zv (Y.loadAgg Z Law20s_ag28 (Kn.at 0 Z) Z)<|Zp (beq_iff_eq.2 hpot)<|Zv (Y.buildS (l := []) Law20s_zo28 Law20s_pl28 Z Z)<|Zp (beq_iff_eq.2 hpot)<|Run.call0 (l := [.tmp 108,.tmp 109]) rfl rfl rfl (lt rfl) (show Does _ _ _ _ _ (Pv (.bool true) _ _) from by rw [hE] at hRa ⊢; exact same_h (p := Cli.zeroP) hRa.hw hRa.os (Pc.zero_R _).hw (Pc.zero_R _).os (Nat.zero_le _))<|?_
        refine Zv (Y.pick_t Z (beq_iff_eq.2 hpot) Z)<|Za Z<|Ze<|Zg<|Zu<|Ex.keep []<|?_
        exact Ex.ret1 rfl rfl  rfl
      ·refine Zo h41 Z<|Zo h41 Z<|Zo h41 Z<|Zv (Y.pick_f Z h41 Z)<|Zm Z<|Zo Z Z<|Zo Z Z<|Zo Z Z<|Zo Z Z<|Zv (Y.pick_f Z Z Z)<|Zm Z<|Zo Z Z<|Zo Z Z<|Zo Z Z<|Zv (Y.pick_f Z Z Z)<|Ze<|?_
       refine Zg<|Tr.cond_f Z Z<|Zt<|Zg<|Zs<|Zr<|Zv (Y.fieldAddr Z Law20s_fo45_0)<|Zv (Y.load Z Law20s_ts4 (Kn.at 0 Z) Z)<|Zv (Y.not Z)<|Zm Z<|Zp (congrArg Bool.not hsend)<|Zv (Y.fieldAddr Z Law20s_fo45_2)<|Zp (congrArg Bool.not hsend)<|Zv (Y.load Z Law20s_ts4 (Kn.at 0 Z) Z)<|Zp (congrArg Bool.not hsend)<|Zv (Y.not Z)<|?_
       refine Zv (Y.pick_t Z (congrArg Bool.not hsend) Z)<|Zm Z<|Zp (congrArg Bool.not hchg)<|Zv (Y.fieldAddr Z Law20s_fo45_4)<|Zp (congrArg Bool.not hchg)<|Zv (Y.load Z Law20s_ts3 (Kn.at 0 Z) Z)<|Zp (congrArg Bool.not hchg)<|Zv (Y.int Z Z Z)<|Zv (Y.pick_t Z (congrArg Bool.not hchg) Z)<|Zm Z<|Zp (beq_iff_eq.2 hpot)<|Zv (Y.fieldAddr Z Law20s_fo45_1)<|Zp (beq_iff_eq.2 hpot)<|Zv (Y.loadAgg Z Law20s_ag28 (Kn.at 0 Z) Z)<|Zp (beq_iff_eq.2 hpot)<|?_
       refine Zv (Y.buildS (l := []) Law20s_zo28 Law20s_pl28 Z Z)<|Zp (beq_iff_eq.2 hpot)<|Run.call0 (l := [.tmp 108,.tmp 109]) rfl rfl rfl (lt rfl) (show Does _ _ _ _ _ (Pv (.bool true) _ _) from by rw [hE] at hRa ⊢; exact same_h (p := Cli.zeroP) hRa.hw hRa.os (Pc.zero_R _).hw (Pc.zero_R _).os (Nat.zero_le _))<|Zv (Y.pick_t Z (beq_iff_eq.2 hpot) Z)<|Za Z<|Ze<|Zg<|Zu<|Ex.keep []<|?_
       exact Ex.ret1 rfl rfl  rfl
     ·refine Zo h40 Z<|Zo h40 Z<|Zv (Y.pick_f Z h40 Z)<|Zm Z<|Zo Z Z<|Zo Z Z<|Zo Z Z<|Zv (Y.pick_f Z Z Z)<|Zm Z<|Zo Z Z<|Zo Z Z<|Zo Z Z<|Zo Z Z<|Zv (Y.pick_f Z Z Z)<|Zm Z<|Zo Z Z<|?_
      refine Zo Z Z<|Zo Z Z<|Zv (Y.pick_f Z Z Z)<|Ze<|Zg<|Tr.cond_f Z Z<|Zt<|Zg<|Zs<|Zr<|Zv (Y.fieldAddr Z Law20s_fo45_0)<|Zv (Y.load Z Law20s_ts4 (Kn.at 0 Z) Z)<|Zv (Y.not Z)<|Zm Z<|Zp (congrArg Bool.not hsend)<|Zv (Y.fieldAddr Z Law20s_fo45_2)<|?_
      refine Zp (congrArg Bool.not hsend)<|Zv (Y.load Z Law20s_ts4 (Kn.at 0 Z) Z)<|Zp (congrArg Bool.not hsend)<|Zv (Y.not Z)<|Zv (Y.pick_t Z (congrArg Bool.not hsend) Z)<|Zm Z<|Zp (congrArg Bool.not hchg)<|Zv (Y.fieldAddr Z Law20s_fo45_4)<|Zp (congrArg Bool.not hchg)<|Zv (Y.load Z Law20s_ts3 (Kn.at 0 Z) Z)<|Zp (congrArg Bool.not hchg)<|Zv (Y.int Z Z Z)<|Zv (Y.pick_t Z (congrArg Bool.not hchg) Z)<|Zm Z<|Zp (beq_iff_eq.2 hpot)<|Zv (Y.fieldAddr Z Law20s_fo45_1)<|?_
      refine Zp (beq_iff_eq.2 hpot)<|Zv (Y.loadAgg Z Law20s_ag28 (Kn.at 0 Z) Z)<|Zp (beq_iff_eq.2 hpot)<|Zv (Y.buildS (l := []) Law20s_zo28 Law20s_pl28 Z Z)<|Zp (beq_iff_eq.2 hpot)<|Run.call0 (l := [.tmp 108,.tmp 109]) rfl rfl rfl (lt rfl) (show Does _ _ _ _ _ (Pv (.bool true) _ _) from by rw [hE] at hRa ⊢; exact same_h (p := Cli.zeroP) hRa.hw hRa.os (Pc.zero_R _).hw (Pc.zero_R _).os (Nat.zero_le _))<|Zv (Y.pick_t Z (beq_iff_eq.2 hpot) Z)<|?_
      refine Za Z<|Ze<|Zg<|Zu<|Ex.keep []<|?_
      exact Ex.ret1 rfl rfl  rfl
    ·have hsend : A.send = false := by rw [hE] <;> rfl
     have hchg : A.change = true := by rw [hE] <;> rfl
     have hpot : A.pot = 0 := by rw [hE] <;> rfl
     obtain ⟨hf1,hf2,hnow,hf4,hf5⟩ := Eg.fits_t hf
     have hrep : A.reply = Cli.zeroP := by rw [hE] <;> rfl
     have hAf : A.reply.few = true := by rw [hrep]; exact Cli.few_zero
     have hyi : A.reply.yi = 0 := by rw [hrep] <;> rfl
     have hbd : A.lease.bind = 4 ∨ A.lease.bind = 5 := by rw [hE]; exact hb
     have h51 : ¬ (Oc.fd 51 A.reply.os).length = 4 := by rw [hrep]; exact (by decide : ¬ (0 : Nat) = 4)
     have hhas : Oc.has 51 A.reply.os = false := by rw [hrep] <;> rfl
     exact absurd (Si.right_t.1 hf1).1 hp0
    ·have hsend : A.send = true := by rw [hE] <;> rfl
     have hchg : A.change = false := by rw [hE] <;> rfl
     have hpot : A.pot = 0 := by rw [hE] <;> rfl
     obtain ⟨hf1,hf2,hnow,hf4,hf5⟩ := Eg.fits_t hf
     have hrep : A.reply = Eg.rep (x) c.p k := by rw [hE] <;> rfl
     have hAf : A.reply.few = true := by rw [hrep]; exact Eg.few_rep hw3 _
     have hyi : A.reply.yi = 0 := by rw [hrep] <;> rfl
     have hkd : Pc.kind A.reply = 5 ∨ Pc.kind A.reply = 6 := by rw [hrep]; rcases hk with rfl | rfl; exact .inl rfl; exact .inr rfl
     have h51 : ¬ (Oc.fd 51 A.reply.os).length = 4 := by rw [hrep]; exact (by decide : ¬ (0 : Nat) = 4)
     have hhas : Oc.has 51 A.reply.os = false := by rw [hrep] <;> rfl
     have hxid : A.reply.xid = c.p.xid := by rw [hrep] <;> rfl
     have hop : A.reply.op = 2 := by rw [hrep] <;> rfl
     have hsi : A.reply.si = x.server := by rw [hrep] <;> rfl
     exact absurd (Si.right_t.1 hf1).1 hp0
    ·have hsend : A.send = true := by rw [hE] <;> rfl
     have hchg : A.change = false := by rw [hE] <;> rfl
     have hpot : A.pot = 0 := by rw [hE] <;> rfl
     obtain ⟨hf1,hf2,hnow,hf4,hf5⟩ := Eg.fits_t hf
     have hrep : A.reply = Eg.prom (x) c.p 2 y.addr ((Eg.sq (x) [] c).tm y) := by rw [hE] <;> rfl
     have hAf : A.reply.few = true := by rw [hrep]; exact Eg.few_prom hw3 _ _ _
     have hyi : A.reply.yi = y.addr := by rw [hrep] <;> rfl
     have hkd : Pc.kind A.reply = 2 := by rw [hrep] <;> rfl
     have h51 : (Oc.fd 51 A.reply.os).length = 4 := by rw [hrep]; exact Msg.be_length _ _
     have hhas : Oc.has 51 A.reply.os = true := by rw [hrep] <;> rfl
     have hval : val (Oc.fd 51 A.reply.os) = (Eg.sq (x) [] c).tm y := by rw [hrep]; exact Eg.val_t (Eg.good_tm hg)
     have hty := Eg.good_tm hg
     have hxid : A.reply.xid = c.p.xid := by rw [hrep] <;> rfl
     have hop : A.reply.op = 2 := by rw [hrep] <;> rfl
     have hsi : A.reply.si = x.server := by rw [hrep] <;> rfl
     exact absurd (Si.right_t.1 hf1).1 hp0
    ·have hsend : A.send = true := by rw [hE] <;> rfl
     have hchg : A.change = true := by rw [hE] <;> rfl
     obtain ⟨hf1,hf2,hnow,hf4,hf5⟩ := Eg.fits_t hf
     have hrep : A.reply = Eg.prom (x) c.p 5 y.addr ((Eg.sq (x) [] c).tm y) := by rw [hE] <;> rfl
     have hAf : A.reply.few = true := by rw [hrep]; exact Eg.few_prom hw3 _ _ _
     have hyi : A.reply.yi = y.addr := by rw [hrep] <;> rfl
     have hkd : Pc.kind A.reply = 5 := by rw [hrep] <;> rfl
     have h51 : (Oc.fd 51 A.reply.os).length = 4 := by rw [hrep]; exact Msg.be_length _ _
     have hhas : Oc.has 51 A.reply.os = true := by rw [hrep] <;> rfl
     have hval : val (Oc.fd 51 A.reply.os) = (Eg.sq (x) [] c).tm y := by rw [hrep]; exact Eg.val_t (Eg.good_tm hg)
     have hty := Eg.good_tm hg
     have hxid : A.reply.xid = c.p.xid := by rw [hrep] <;> rfl
     have hop : A.reply.op = 2 := by rw [hrep] <;> rfl
     have hsi : A.reply.si = x.server := by rw [hrep] <;> rfl
     exact absurd (Si.right_t.1 hf1).1 hp0
theorem silent20_h {V : Vw} {x : Si} {pv : Value} (hpv : Rd V [] 2 pv x.pool.length (x.pool.flatMap Rg.cells)) (hpk : Rg.Oks x.pool) (hsv : 0 ≤ x.server ∧ x.server ≤ 4294967295) {ls : List Le} {v1 : Value} (hv2 : Rd V [] 8 v1 ls.length (ls.map Le.cells).flatten) (hcs : ∀ x,x ∈ ls → Le.Ok x) (hl9 : ls.length ≤ 9223372036854775807) {c : Eg.Cs} (hco : Eg.Csok V c) : Does Tryz.prog 6 [.agg (x.cells pv),v1,.agg c.cells] V [] (fun v _ _ => v = .bool true) := by
  obtain ⟨p2,c2,rfl,_⟩ := hv2.form
  obtain ⟨pp,cp,rfl,_⟩ := hpv.form
  rw [← List.flatMap_def] at hv2
  exact silent20_c hpv hpk hsv hv2 hl9 (fun x hx => (hcs x hx).client) hco
end Go.Proofs.YtfgblingojgafaaGreat
