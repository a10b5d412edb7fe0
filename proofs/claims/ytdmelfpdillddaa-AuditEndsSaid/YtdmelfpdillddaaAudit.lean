/- Promises that hold, walked.
Conditions: as each theorem names them. -/
import Derived.Test.YtdmelfpdillddaaProg
import Derived.Test.YtdmelfpdillddaaAA
import Derived.Test.YtdmelfpdillddaaSeqs
import Derived.Test.YtdmelfpdillddaaSortn3
import Derived.Test.YtdmelfpdillddaaZG
set_option linter.unusedSimpArgs false
set_option linter.unusedVariables false
set_option maxRecDepth 4000
namespace Go.Proofs.Ytdmelfpdillddaa
open Go Go.K
attribute [local irreducible] Code.wp wpList Calls wpQuiet
theorem Audit_fo34_0 : fieldOff Try.prog 34 0 = some 0 := by kernel_rfl
theorem Audit_ts3 : scal Try.prog 3 = true := by kernel_rfl
theorem Audit_fo34_2 : fieldOff Try.prog 34 2 = some 2 := by kernel_rfl
theorem Audit_ts9 : scal Try.prog 9 = true := by kernel_rfl
theorem Audit_st9 : strT Try.prog 9 = true := by kernel_rfl
theorem Audit_fo34_3 : fieldOff Try.prog 34 3 = some 3 := by kernel_rfl
theorem Audit_fo34_4 : fieldOff Try.prog 34 4 = some 4 := by kernel_rfl
theorem Audit_ag34 : aggsz Try.prog 34 = some 5 := by kernel_rfl
theorem Audit_es22 : elemS Try.prog 22 = some (34, 5) := by kernel_rfl
theorem Audit_zo34 : zeroOf Try.prog 34 = some (.agg #[.int .i64 0, .int .u32 0, .string ⟨#[]⟩, .int .i64 0, .int .i64 0]) := by kernel_rfl
theorem Audit_sz34 : sizeT Try.prog 34 = some 5 := by kernel_rfl
theorem Audit_fo34_1 : fieldOff Try.prog 34 1 = some 1 := by kernel_rfl
theorem Audit_ts24 : scal Try.prog 24 = true := by kernel_rfl
theorem Audit_mt51 : mapT Try.prog 51 = some (.u32, 24, 4) := by kernel_rfl
theorem Audit_es49 : elemS Try.prog 49 = some (3, 1) := by kernel_rfl
theorem Audit_zo3 : zeroOf Try.prog 3 = some (.int .i64 0) := by kernel_rfl
theorem Audit_zi3 : zeroInfo Try.prog 3 = some (1, 8, .int .i64 0) := by kernel_rfl
theorem Audit_es40 : elemS Try.prog 40 = some (24, 1) := by kernel_rfl
theorem Audit_mo : Try.prog.follows .mixedOrders = true := by kernel_rfl

theorem right_c {q : Pr} {V : Vw} : Does Try.prog 18 [.agg #[.int .i64 q.srv, .int .u32 q.addr, .string q.client, .int .i64 q.from_, .int .i64 q.till]] V [] (Pv (.bool (Pr.right q)) V []) := by
 refine Does.intro Try.func18 rfl rfl (le rfl) (fun B => ?_)
 refine Zs<|Zr<|?_
 refine Run.box rfl (lt rfl) (fun b1 => ?_)
 refine Za Z<|Ze<|Zg<|Zs<|Zb<|Zs<|Zs<|Zr<|Zv (Y.fieldAddr Z Audit_fo34_0)<|Zv (Y.load Z Audit_ts3 (Kn.at 0 Z) Z)<|Zv (Y.int Z Z Z)<|Zm Z<|?_
 rcases Zsplit (decide (q.srv < 0)) with ⟨h2, g2⟩ | ⟨h2, g2⟩ <;> try simp only [kb] at g2
 ·refine Zo h2 Z<|Zo h2 Z<|Zo h2 Z<|Zv (Y.pick_t Z h2 Z)<|Za Z<|Ze<|Zg<|Tr.cond_t Z Z<|Zt<|Zg<|Tr.cond_t Z Z<|Zs<|Zr<|Za Z<|Ze<|Zg<|?_
  refine Zu<|Zk<|Zn<|Ex.keep []<|?_
  exact Ex.ret1 rfl rfl  ⟨congrArg Value.bool (decide_eq_false W).symm, rfl, rfl⟩
 ·refine Zp h2<|Zv (Y.fieldAddr Z Audit_fo34_0)<|Zp h2<|Zv (Y.load Z Audit_ts3 (Kn.at 0 Z) Z)<|Zp h2<|Zv (Y.int Z Z Z)<|Zv (Y.pick_f Z h2 Z)<|Za Z<|Ze<|Zg<|?_
  rcases Zsplit (decide (q.srv > 1)) with ⟨h3, g3⟩ | ⟨h3, g3⟩ <;> try simp only [kb] at g3
  ·refine Tr.cond_t Z h3<|Zt<|Zg<|Tr.cond_t Z h3<|Zs<|Zr<|Za Z<|Ze<|Zg<|Zu<|Zk<|Zn<|Ex.keep []<|?_
   exact Ex.ret1 rfl rfl  ⟨congrArg Value.bool (decide_eq_false W).symm, rfl, rfl⟩
  ·refine Tr.cond_f Z h3<|Zr<|Zv (Y.fieldAddr Z Audit_fo34_2)<|Zv (Y.load Z Audit_ts9 (Kn.at 0 Z) Z)<|Zv (Y.eqStr Z Z)<|Zm Z<|?_
   rcases Zsplit (q.client.toList == (⟨#[]⟩ : ByteArray).toList) with ⟨h4, g4⟩ | ⟨h4, g4⟩ <;> try simp only [kb] at g4
   ·have hz := str_nil_t h4
    refine Zo h4 Z<|Zo h4 Z<|Zo h4 Z<|Zo h4 Z<|Zv (Y.pick_t Z h4 Z)<|Za Z<|Ze<|Zg<|Tr.cond_t Z Z<|Zs<|Zr<|Za Z<|Ze<|Zg<|Zu<|Zk<|?_
    refine Zn<|Ex.keep []<|?_
    exact Ex.ret1 rfl rfl  ⟨congrArg Value.bool (decide_eq_false W).symm, rfl, rfl⟩
   ·have hz := str_nil_f h4
    refine Zp h4<|Zv (Y.fieldAddr Z Audit_fo34_2)<|Zp h4<|Zv (Y.load Z Audit_ts9 (Kn.at 0 Z) Z)<|Zp h4<|Zv (Y.lenStr Z Audit_st9)<|Zp h4<|Zv (Y.int Z Z Z)<|Zv (Y.pick_f Z h4 Z)<|Za Z<|Ze<|Zg<|?_
    rcases Zsplit (decide ((q.client.size : Int) > 32)) with ⟨h5, g5⟩ | ⟨h5, g5⟩ <;> try simp only [kb] at g5
    ·refine Tr.cond_t Z h5<|Zs<|Zr<|Za Z<|Ze<|Zg<|Zu<|Zk<|Zn<|Ex.keep []<|?_
     exact Ex.ret1 rfl rfl  ⟨congrArg Value.bool (decide_eq_false W).symm, rfl, rfl⟩
    ·refine Tr.cond_f Z h5<|Zt<|Zc<|Zg<|Zs<|Zr<|Zv (Y.fieldAddr Z Audit_fo34_3)<|Zv (Y.load Z Audit_ts3 (Kn.at 0 Z) Z)<|Zv (Y.int Z Z Z)<|Zm Z<|?_
     rcases Zsplit (decide (q.from_ ≥ 0)) with ⟨h6, g6⟩ | ⟨h6, g6⟩ <;> try simp only [kb] at g6
     ·refine Zp h6<|Zv (Y.fieldAddr Z Audit_fo34_3)<|Zp h6<|Zv (Y.load Z Audit_ts3 (Kn.at 0 Z) Z)<|Zp h6<|Zv (Y.fieldAddr Z Audit_fo34_4)<|Zp h6<|Zv (Y.load Z Audit_ts3 (Kn.at 0 Z) Z)<|Zp h6<|Zv (Y.int Z Z Z)<|Zv (Y.pick_t Z h6 Z)<|Zm Z<|?_
      rcases Zsplit (decide (q.from_ ≤ q.till)) with ⟨h7, g7⟩ | ⟨h7, g7⟩ <;> try simp only [kb] at g7
      ·refine Zp h7<|Zv (Y.fieldAddr Z Audit_fo34_4)<|Zp h7<|Zv (Y.load Z Audit_ts3 (Kn.at 0 Z) Z)<|Zp h7<|Zv (Y.int Z Z Z)<|Zv (Y.pick_t Z h7 Z)<|Za Z<|Ze<|Zg<|Zu<|Ex.keep []<|?_
       exact Ex.ret1 rfl rfl  ⟨congrArg Value.bool (decide_eq_decide.2 W), rfl, rfl⟩
      ·refine Zo h7 Z<|Zo h7 Z<|Zo h7 Z<|Zv (Y.pick_f Z h7 Z)<|Za Z<|Ze<|Zg<|Zu<|Ex.keep []<|?_
       exact Ex.ret1 rfl rfl  ⟨congrArg Value.bool (decide_eq_false W).symm, rfl, rfl⟩
     ·refine Zo h6 Z<|Zo h6 Z<|Zo h6 Z<|Zo h6 Z<|Zo h6 Z<|Zv (Y.pick_f Z h6 Z)<|Zm Z<|Zo Z Z<|Zo Z Z<|Zo Z Z<|Zv (Y.pick_f Z Z Z)<|Za Z<|Ze<|Zg<|Zu<|Ex.keep []<|?_
      exact Ex.ret1 rfl rfl  ⟨congrArg Value.bool (decide_eq_false W).symm, rfl, rfl⟩

theorem right_c_h {q : Pr} {V : Vw} {H : Hp} {v : Value} (hq : v = .agg #[.int .i64 q.srv, .int .u32 q.addr, .string q.client, .int .i64 q.from_, .int .i64 q.till]) : Does Try.prog 18 [v] V H (Pv (.bool (Pr.right q)) V H) := by subst hq; exact right_c.frame

theorem rright_c {q : Pr} {V : Vw} : Does Try.prog 20 [.agg #[.int .i64 q.srv, .int .u32 q.addr, .string q.client, .int .i64 q.from_, .int .i64 q.till]] V [] (Pv (.bool (Pr.right q)) V []) := by
 refine Does.intro Try.func20 rfl rfl (le rfl) (fun B => ?_)
 refine Zs<|Zr<|?_
 refine Run.box rfl (lt rfl) (fun b1 => ?_)
 refine Za Z<|Ze<|Zg<|Zs<|Zr<|Zv (Y.fieldAddr Z Audit_fo34_0)<|Zv (Y.load Z Audit_ts3 (Kn.at 0 Z) Z)<|Zv (Y.int Z Z Z)<|Zm Z<|?_
 rcases Zsplit (decide (q.srv ≥ 0)) with ⟨h2, g2⟩ | ⟨h2, g2⟩ <;> try simp only [kb] at g2
 ·refine Zp h2<|Zv (Y.fieldAddr Z Audit_fo34_0)<|Zp h2<|Zv (Y.load Z Audit_ts3 (Kn.at 0 Z) Z)<|Zp h2<|Zv (Y.int Z Z Z)<|Zv (Y.pick_t Z h2 Z)<|Zm Z<|?_
  rcases Zsplit (decide (q.srv ≤ 1)) with ⟨h3, g3⟩ | ⟨h3, g3⟩ <;> try simp only [kb] at g3
  ·refine Zp h3<|Zv (Y.fieldAddr Z Audit_fo34_2)<|Zp h3<|Zv (Y.load Z Audit_ts9 (Kn.at 0 Z) Z)<|Zp h3<|Zv (Y.lenStr Z Audit_st9)<|Zp h3<|Zv (Y.int Z Z Z)<|Zv (Y.pick_t Z h3 Z)<|Zm Z<|?_
   rcases Zsplit (decide ((q.client.size : Int) ≥ 1)) with ⟨h4, g4⟩ | ⟨h4, g4⟩ <;> try simp only [kb] at g4
   ·refine Zp h4<|Zv (Y.fieldAddr Z Audit_fo34_2)<|Zp h4<|Zv (Y.load Z Audit_ts9 (Kn.at 0 Z) Z)<|Zp h4<|Zv (Y.lenStr Z Audit_st9)<|Zp h4<|Zv (Y.int Z Z Z)<|Zv (Y.pick_t Z h4 Z)<|Zm Z<|?_
    rcases Zsplit (decide ((q.client.size : Int) ≤ 32)) with ⟨h5, g5⟩ | ⟨h5, g5⟩ <;> try simp only [kb] at g5
    ·refine Zp h5<|Zv (Y.fieldAddr Z Audit_fo34_3)<|Zp h5<|Zv (Y.load Z Audit_ts3 (Kn.at 0 Z) Z)<|Zp h5<|Zv (Y.int Z Z Z)<|Zv (Y.pick_t Z h5 Z)<|Zm Z<|?_
     rcases Zsplit (decide (q.from_ ≥ 0)) with ⟨h6, g6⟩ | ⟨h6, g6⟩ <;> try simp only [kb] at g6
     ·refine Zp h6<|Zv (Y.fieldAddr Z Audit_fo34_3)<|Zp h6<|Zv (Y.load Z Audit_ts3 (Kn.at 0 Z) Z)<|Zp h6<|Zv (Y.fieldAddr Z Audit_fo34_4)<|Zp h6<|Zv (Y.load Z Audit_ts3 (Kn.at 0 Z) Z)<|Zp h6<|Zv (Y.int Z Z Z)<|Zv (Y.pick_t Z h6 Z)<|Zm Z<|?_
      rcases Zsplit (decide (q.from_ ≤ q.till)) with ⟨h7, g7⟩ | ⟨h7, g7⟩ <;> try simp only [kb] at g7
      ·refine Zp h7<|Zv (Y.fieldAddr Z Audit_fo34_4)<|Zp h7<|Zv (Y.load Z Audit_ts3 (Kn.at 0 Z) Z)<|Zp h7<|Zv (Y.int Z Z Z)<|Zv (Y.pick_t Z h7 Z)<|Za Z<|Ze<|Zg<|Zu<|Ex.keep []<|?_
       exact Ex.ret1 rfl rfl  ⟨congrArg Value.bool (decide_eq_decide.2 W), rfl, rfl⟩
      ·refine Zo h7 Z<|Zo h7 Z<|Zo h7 Z<|Zv (Y.pick_f Z h7 Z)<|Za Z<|Ze<|Zg<|Zu<|Ex.keep []<|?_
       exact Ex.ret1 rfl rfl  ⟨congrArg Value.bool (decide_eq_false W).symm, rfl, rfl⟩
     ·refine Zo h6 Z<|Zo h6 Z<|Zo h6 Z<|Zo h6 Z<|Zo h6 Z<|Zv (Y.pick_f Z h6 Z)<|Zm Z<|Zo Z Z<|Zo Z Z<|Zo Z Z<|Zv (Y.pick_f Z Z Z)<|Za Z<|Ze<|Zg<|Zu<|Ex.keep []<|?_
      exact Ex.ret1 rfl rfl  ⟨congrArg Value.bool (decide_eq_false W).symm, rfl, rfl⟩
    ·refine Zo h5 Z<|Zo h5 Z<|Zo h5 Z<|Zv (Y.pick_f Z h5 Z)<|Zm Z<|Zo Z Z<|Zo Z Z<|Zo Z Z<|Zo Z Z<|Zo Z Z<|Zv (Y.pick_f Z Z Z)<|Zm Z<|Zo Z Z<|Zo Z Z<|Zo Z Z<|Zv (Y.pick_f Z Z Z)<|?_
     refine Za Z<|Ze<|Zg<|Zu<|Ex.keep []<|?_
     exact Ex.ret1 rfl rfl  ⟨congrArg Value.bool (decide_eq_false W).symm, rfl, rfl⟩
   ·refine Zo h4 Z<|Zo h4 Z<|Zo h4 Z<|Zo h4 Z<|Zv (Y.pick_f Z h4 Z)<|Zm Z<|Zo Z Z<|Zo Z Z<|Zo Z Z<|Zv (Y.pick_f Z Z Z)<|Zm Z<|Zo Z Z<|Zo Z Z<|Zo Z Z<|Zo Z Z<|Zo Z Z<|?_
    refine Zv (Y.pick_f Z Z Z)<|Zm Z<|Zo Z Z<|Zo Z Z<|Zo Z Z<|Zv (Y.pick_f Z Z Z)<|Za Z<|Ze<|Zg<|Zu<|Ex.keep []<|?_
    exact Ex.ret1 rfl rfl  ⟨congrArg Value.bool (decide_eq_false W).symm, rfl, rfl⟩
  ·refine Zo h3 Z<|Zo h3 Z<|Zo h3 Z<|Zo h3 Z<|Zv (Y.pick_f Z h3 Z)<|Zm Z<|Zo Z Z<|Zo Z Z<|Zo Z Z<|Zo Z Z<|Zv (Y.pick_f Z Z Z)<|Zm Z<|Zo Z Z<|Zo Z Z<|Zo Z Z<|Zv (Y.pick_f Z Z Z)<|?_
   refine Zm Z<|Zo Z Z<|Zo Z Z<|Zo Z Z<|Zo Z Z<|Zo Z Z<|Zv (Y.pick_f Z Z Z)<|Zm Z<|Zo Z Z<|Zo Z Z<|Zo Z Z<|Zv (Y.pick_f Z Z Z)<|Za Z<|Ze<|Zg<|Zu<|?_
   refine Ex.keep [] ?_
   exact Ex.ret1 rfl rfl  ⟨congrArg Value.bool (decide_eq_false W).symm, rfl, rfl⟩
 ·refine Zo h2 Z<|Zo h2 Z<|Zo h2 Z<|Zv (Y.pick_f Z h2 Z)<|Zm Z<|Zo Z Z<|Zo Z Z<|Zo Z Z<|Zo Z Z<|Zv (Y.pick_f Z Z Z)<|Zm Z<|Zo Z Z<|Zo Z Z<|Zo Z Z<|Zo Z Z<|Zv (Y.pick_f Z Z Z)<|?_
  refine Zm Z<|Zo Z Z<|Zo Z Z<|Zo Z Z<|Zv (Y.pick_f Z Z Z)<|Zm Z<|Zo Z Z<|Zo Z Z<|Zo Z Z<|Zo Z Z<|Zo Z Z<|Zv (Y.pick_f Z Z Z)<|Zm Z<|Zo Z Z<|Zo Z Z<|Zo Z Z<|?_
  refine Zv (Y.pick_f Z Z Z)<|Za Z<|Ze<|Zg<|Zu<|Ex.keep []<|?_
  exact Ex.ret1 rfl rfl  ⟨congrArg Value.bool (decide_eq_false W).symm, rfl, rfl⟩

theorem rright_c_h {q : Pr} {V : Vw} {H : Hp} {v : Value} (hq : v = .agg #[.int .i64 q.srv, .int .u32 q.addr, .string q.client, .int .i64 q.from_, .int .i64 q.till]) : Does Try.prog 20 [v] V H (Pv (.bool (Pr.right q)) V H) := by subst hq; exact rright_c.frame

theorem holds_c {q : Pr} {now : Int} {V : Vw} : Does Try.prog 25 [.agg #[.int .i64 q.srv, .int .u32 q.addr, .string q.client, .int .i64 q.from_, .int .i64 q.till], .int .i64 now] V [] (Pv (.bool (Pr.holds q now)) V []) := by
 refine Does.intro Try.func25 rfl rfl (le rfl) (fun B => ?_)
 refine Zs<|Zr<|?_
 refine Run.box rfl (lt rfl) (fun b1 => ?_)
 refine Za Z<|Ze<|Zg<|Zs<|Zr<|Zv (Y.loadAgg Z Audit_ag34 (Kn.at 0 Z) Z)<|Run.call0 (l := [.tmp 5]) Z Z Z (lt Z) (right_c_h Z)<|Zm Z<|?_
 rcases Zsplit (Pr.right q) with ⟨h2, g2⟩ | ⟨h2, g2⟩ <;> try simp only [kb] at g2
 ·refine Zp h2<|Zv (Y.fieldAddr Z Audit_fo34_3)<|Zp h2<|Zv (Y.load Z Audit_ts3 (Kn.at 0 Z) Z)<|Zp h2<|Zm Z<|Zp h2<|Zv (Y.int Z Z Z)<|Zv (Y.pick_t Z h2 Z)<|Zm Z<|?_
  rcases Zsplit (decide (q.from_ ≤ now)) with ⟨h3, g3⟩ | ⟨h3, g3⟩ <;> try simp only [kb] at g3
  ·refine Zp h3<|Zm Z<|Zp h3<|Zv (Y.fieldAddr Z Audit_fo34_4)<|Zp h3<|Zv (Y.load Z Audit_ts3 (Kn.at 0 Z) Z)<|Zp h3<|Zv (Y.int Z Z Z)<|Zv (Y.pick_t Z h3 Z)<|Za Z<|Ze<|Zg<|Zu<|Ex.keep []<|?_
   exact Ex.ret1 rfl rfl  ⟨congrArg Value.bool (by unfold Pr.holds; simp_all <;> omega), rfl, rfl⟩
  ·refine Zo h3 Z<|Zo h3 Z<|Zo h3 Z<|Zo h3 Z<|Zv (Y.pick_f Z h3 Z)<|Za Z<|Ze<|Zg<|Zu<|Ex.keep []<|?_
   exact Ex.ret1 rfl rfl  ⟨congrArg Value.bool (by unfold Pr.holds; simp_all <;> omega), rfl, rfl⟩
 ·refine Zo h2 Z<|Zo h2 Z<|Zo h2 Z<|Zo h2 Z<|Zv (Y.pick_f Z h2 Z)<|Zm Z<|Zo Z Z<|Zo Z Z<|Zo Z Z<|Zo Z Z<|Zv (Y.pick_f Z Z Z)<|Za Z<|Ze<|Zg<|Zu<|Ex.keep []<|?_
  exact Ex.ret1 rfl rfl  ⟨congrArg Value.bool (by unfold Pr.holds; simp_all <;> omega), rfl, rfl⟩

theorem holds_c_h {q : Pr} {now : Int} {V : Vw} {H : Hp} {v : Value} (hq : v = .agg #[.int .i64 q.srv, .int .u32 q.addr, .string q.client, .int .i64 q.from_, .int .i64 q.till]) : Does Try.prog 25 [v, .int .i64 now] V H (Pv (.bool (Pr.holds q now)) V H) := by subst hq; exact holds_c.frame

theorem held_c {V : Vw} {l : List Pr} {p : Option Addr} {c : Nat} (hv : Rd V [] 5 (.slice p l.length c) l.length (l.flatMap Pr.cells)) (hl : l.length ≤ 60) {now : Int}  : Does Try.prog 17 [.slice p l.length c, .int .i64 now] V [] (fun v V' H' => V' = V ∧ ∃ q, Ow 24 1 v (Pr.held l now).length ((Pr.held l now).flatMap nU) q ∧ H' = [q]) := by
 refine Does.intro Try.func17 rfl rfl (le rfl) (fun B => ?_)
 refine Zs<|Zr<|Za Z<|Ze<|Zg<|Zs<|Zr<|?_
 refine Run.makeMap .u32 (lt rfl) (fun v1 s2 hm3 => ?_)
 refine Za Z<|Ze<|Zg<|Zs<|Zs<|Zr<|Zm Z<|Zv (Y.lenSl Z Audit_es22)<|Zm Z<|Ze<|Zg<|Zb<|?_
 refine ZL (X := Nat × Sg) (fun z0 => V) (fun z0 => [z0.2]) (fun z0 => [(1, .int .i64 now), (5, v1), (9, .slice p l.length c), (10, .int .i64 ((l.length : Nat) : Int)), (11, .int .i64 (z0.1 : Int))]) (fun z0 => Om .u32 v1 (yes (dd (Pr.hs now (l.take z0.1)))) z0.2 ∧ z0.1 ≤ l.length) (fun z0 => l.length - z0.1) (⟨0, s2⟩ : Nat × Sg) ⟨hm3, Nat.zero_le _⟩ ?_
 rintro ⟨i1, s1⟩ ⟨hm, hi⟩
 try dsimp only at hm hi ⊢
 refine Zs<|Zr<|Zv (Y.int Z Z Z)<|Ze<|Zg<|Zs<|?_
 rcases Zsplit (decide ((i1 : Int) < ((l.length : Nat) : Int))) with ⟨h4, g4⟩ | ⟨h4, g4⟩ <;> try simp only [kb] at g4
 ·refine Tr.cond_t Z h4<|Zt<|Zg<|Zs<|Zb<|Zs<|Zr<|Zv (Y.idxR i1 Z Z Audit_es22 hv.of_nil W W)<|Zv (Y.ldRA (vs := [.int .i64 ((l.getD i1 Pr.dflt).srv), .int .u32 ((l.getD i1 Pr.dflt).addr), .string ((l.getD i1 Pr.dflt).client), .int .i64 ((l.getD i1 Pr.dflt).from_), .int .i64 ((l.getD i1 Pr.dflt).till)]) rfl Audit_ag34 hv.of_nil rfl WD (fun o ho => flatm_atA Pr.len W Pr.dflt o ho))<|?_
  refine Run.alloc Audit_zo34 (lt rfl) (fun b5 => ?_)
  refine Run.store (s := [(b5, .cells #[.int .i64 ((l.getD i1 Pr.dflt).srv), .int .u32 ((l.getD i1 Pr.dflt).addr), .string ((l.getD i1 Pr.dflt).client), .int .i64 ((l.getD i1 Pr.dflt).from_), .int .i64 ((l.getD i1 Pr.dflt).till)] 34 (0, 0))]) Z Z Audit_sz34 (i := 0) Z Z (le Z) Z Z<|Ze<|Zg<|Zs<|Zr<|Zv (Y.loadAgg Z Audit_ag34 (Kn.at 0 Z) Z)<|Zm Z<|Run.call0 (l := [.tmp 15, .tmp 16]) Z Z Z (lt Z) (holds_c_h Z)<|Ze<|Zg<|?_
  rcases Zsplit (Pr.holds (l.getD i1 Pr.dflt) now) with ⟨h6, g6⟩ | ⟨h6, g6⟩ <;> try simp only [kb] at g6
  ·refine Tr.cond_t Z h6<|Zr<|Zm Z<|Zv (Y.fieldAddr Z Audit_fo34_1)<|Zv (Y.load Z Audit_ts24 (Kn.at 0 Z) Z)<|?_
   refine Run.mapUpdate 1 rfl rfl rfl Audit_mt51 hm rfl (fun s7 hm8 => ?_)
   refine Run.heapTo (H' := [[(b5, .cells #[.int .i64 ((l.getD i1 Pr.dflt).srv), .int .u32 ((l.getD i1 Pr.dflt).addr), .string ((l.getD i1 Pr.dflt).client), .int .i64 ((l.getD i1 Pr.dflt).from_), .int .i64 ((l.getD i1 Pr.dflt).till)] 34 (0, 0))], s7]) Z<|Ze<|Zc<|Zg<|Zr<|Zv (Y.add Z Z W)<|Zm Z<|Ze<|Ex.keep [1]<|?_
   exact ZR (⟨i1 + 1, s7⟩ : Nat × Sg) ⟨by rw [Pr.dd_yes W h6, ← mset_yes]; exact hm8, by omega⟩ (by dsimp only; omega)
  ·refine Tr.cond_f Z h6<|Zt<|Zc<|Zg<|Zr<|Zv (Y.add Z Z W)<|Zm Z<|Ze<|Ex.keep [1]<|?_
   exact ZR (⟨i1 + 1, s1⟩ : Nat × Sg) ⟨by rw [Pr.hs_take0 W h6]; exact hm, by omega⟩ (by dsimp only; omega)
 ·refine Tr.cond_f Z h4<|Zx<|Zy<|Zy<|Zi<|Zg<|Zs<|Zr<|Zm Z<|?_
  obtain rfl : i1 = l.length := by omega
  rw [List.take_length] at hm
  obtain ⟨bm, es, clock, rfl, rfl, hmi⟩ := hm
  refine Run.call [] (l := [.tmp 22]) rfl rfl rfl (lt rfl) keysu_top (fun v3 V2 H2 hle hR => ?_)
  obtain ⟨hV, bk, rfl, rfl⟩ := hR; replace hV := hV.symm; subst hV
  refine Run.heapTo (H' := [[(bm, .map es clock)], [(bk, .cells #[.map (some bm)] 51 (0, 0))]]) Z<|Run.heapTo (H' := [[(bm, .map es clock)], [(bk, .cells #[.map (some bm)] 51 (0, 0))]]) Z<|?_
  have hdl := Nat.le_trans (dd_len (Pr.hs now l)) (Pr.hs_le now l)
  have hyl : (yes (dd (Pr.hs now l))).length = (dd (Pr.hs now l)).length := by unfold yes; rw [List.length_map]
  refine Run.call [1, 0] (l := [.tmp 23]) rfl rfl rfl (lt rfl) (sorted_u (caps := [.pointer (some ⟨bk, 0, none⟩)]) (keysu_it hmi) W (fun xs hp => by have := hp.length_eq; rw [List.length_map] at this; omega)) (fun v4 V3 H3 hle3 hR3 => ?_)
  obtain ⟨hV, xs, q9, hS9, ho9, rfl⟩ := hR3; replace hV := hV.symm; subst hV
  rw [yes_keys] at hS9
  rw [show isort xs = Pr.held l now from up_unique (isort_up _) (isort_up _) ((isort_perm xs).trans (hS9.trans (isort_perm _).symm)), show xs.length = (Pr.held l now).length from by unfold Pr.held; rw [isort_length]; exact hS9.length_eq] at ho9
  refine Run.heapTo (H' := [q9, [(bk, .cells #[.map (some bm)] 51 (0, 0))], [(bm, .map es clock)]]) Z<|Run.heapTo (H' := [q9, [(bk, .cells #[.map (some bm)] 51 (0, 0))], [(bm, .map es clock)]]) Z<|Za Z<|Ze<|Zg<|Zu<|Ex.keep [0]<|?_
  exact Ex.ret1 rfl rfl  ⟨rfl, q9, ho9, rfl⟩

theorem peak_c {V : Vw} {l : List Pr} {p : Option Addr} {c : Nat} (hv : Rd V [] 5 (.slice p l.length c) l.length (l.flatMap Pr.cells)) (hl : l.length ≤ 60)  : Does Try.prog 13 [.slice p l.length c] V [] (Pv (.tuple #[.int .i64 (Pr.peak l).1, .int .i64 (Pr.peak l).2]) V []) := by
 refine Does.intro Try.func13 rfl rfl (le rfl) (fun B => ?_)
 refine Zs<|Zr<|Za Z<|Za Z<|Ze<|Zg<|Zs<|Zr<|Run.nilseg<|Za Z<|Ze<|Zg<|Zs<|Zs<|Zr<|Zm Z<|?_
 refine Zv (Y.lenSl Z Audit_es22)<|Zm Z<|Ze<|Zg<|Zb<|?_
 refine ZL (X := Nat × Option Addr × Nat × Nat × Sg) (fun z0 => V) (fun z0 => [z0.2.2.2.2]) (fun z0 => [(0, .slice p l.length c), (4, .slice z0.2.1 z0.2.2.1 z0.2.2.2.1), (12, .slice p l.length c), (13, .int .i64 ((l.length : Nat) : Int)), (14, .int .i64 (z0.1 : Int))]) (fun z0 => Ow 3 1 (.slice z0.2.1 z0.2.2.1 z0.2.2.2.1) z0.2.2.1 ((Pr.frs (l.take z0.1)).flatMap nI) z0.2.2.2.2 ∧ z0.2.2.1 = (Pr.frs (l.take z0.1)).length ∧ z0.1 ≤ l.length) (fun z0 => l.length - z0.1) (⟨0, none, 0, 0, []⟩ : Nat × Option Addr × Nat × Nat × Sg) ⟨Ow.nil _ _, rfl, Nat.zero_le _⟩ ?_
 rintro ⟨i1, p1, n1, k1, q1⟩ ⟨how, hn, hi⟩
 try dsimp only at how hn hi ⊢
 have hsl := Pr.frs_le (l.take i1)
 rw [List.length_take] at hsl
 refine Zs<|Zr<|Zv (Y.int Z Z Z)<|Ze<|Zg<|Zs<|?_
 rcases Zsplit (decide ((i1 : Int) < ((l.length : Nat) : Int))) with ⟨h1, g1⟩ | ⟨h1, g1⟩ <;> try simp only [kb] at g1
 ·refine Tr.cond_t Z h1<|Zt<|Zg<|Zs<|Zb<|Zs<|Zr<|Zv (Y.idxR i1 Z Z Audit_es22 hv.of_nil W W)<|Zv (Y.ldRA (vs := [.int .i64 ((l.getD i1 Pr.dflt).srv), .int .u32 ((l.getD i1 Pr.dflt).addr), .string ((l.getD i1 Pr.dflt).client), .int .i64 ((l.getD i1 Pr.dflt).from_), .int .i64 ((l.getD i1 Pr.dflt).till)]) rfl Audit_ag34 hv.of_nil rfl WD (fun o ho => flatm_atA Pr.len W Pr.dflt o ho))<|?_
  refine Run.alloc Audit_zo34 (lt rfl) (fun b2 => ?_)
  refine Run.store (s := [(b2, .cells #[.int .i64 ((l.getD i1 Pr.dflt).srv), .int .u32 ((l.getD i1 Pr.dflt).addr), .string ((l.getD i1 Pr.dflt).client), .int .i64 ((l.getD i1 Pr.dflt).from_), .int .i64 ((l.getD i1 Pr.dflt).till)] 34 (0, 0))]) Z Z Audit_sz34 (i := 0) Z Z (le Z) Z Z<|Ze<|Zg<|Zs<|Zr<|Zv (Y.loadAgg Z Audit_ag34 (Kn.at 0 Z) Z)<|Run.call0 (l := [.tmp 18]) Z Z Z (lt Z) (right_c_h Z)<|Ze<|Zg<|?_
  rcases Zsplit (Pr.right (l.getD i1 Pr.dflt)) with ⟨h3, g3⟩ | ⟨h3, g3⟩ <;> try simp only [kb] at g3
  ·refine Tr.cond_t Z h3<|Zr<|Zm Z<|Zv (Y.fieldAddr Z Audit_fo34_3)<|Zv (Y.load Z Audit_ts3 (Kn.at 0 Z) Z)<|?_
   refine Run.buildSlice (l := [(0, .tmp 22)]) Audit_es49 Audit_zo3 rfl WD rfl rfl WD (lt rfl) (fun b4 => ?_)
   refine Run.append (n := n1) (m := 1) (xs := (Pr.frs (l.take i1)).flatMap nI) (ys := [.int .i64 ((l.getD i1 Pr.dflt).from_)]) rfl rfl Audit_es49 Audit_zi3 WD (j := 2) rfl how (Src.of_rd Audit_es49 (Rd.one (Kn.at 0 rfl) rfl)) W W rfl (lt rfl) (fun v5 s6 ho7 hf => ?_)
   obtain ⟨p5, c5, rfl⟩ := hf
   replace ho7 := Ow.app1 (f := nI) (l := Pr.frs (l.take i1)) (x := (l.getD i1 Pr.dflt).from_) ho7
   refine Za Z<|Ze<|Zc<|Zg<|Zr<|Zv (Y.add Z Z W)<|Zm Z<|Ze<|Ex.keep [2]<|?_
   exact ZR (⟨i1 + 1, p5, (n1 + 1), c5, s6⟩ : Nat × Option Addr × Nat × Nat × Sg) ⟨by rw [Pr.frs_take W h3]; exact ho7, by rw [Pr.frs_take W h3]; rw [List.length_append, List.length_singleton]; dsimp only; omega, by omega⟩ (by dsimp only; omega)
  ·refine Tr.cond_f Z h3<|Zt<|Zc<|Zg<|Zr<|Zv (Y.add Z Z W)<|Zm Z<|Ze<|Ex.keep [1]<|?_
   exact ZR (⟨i1 + 1, p1, n1, k1, q1⟩ : Nat × Option Addr × Nat × Nat × Sg) ⟨by rw [Pr.frs_take0 W h3]; exact how, by rw [Pr.frs_take0 W h3]; exact hn, by omega⟩ (by dsimp only; omega)
 ·refine Tr.cond_f Z h1<|Zx<|Zy<|Zy<|Zi<|Zg<|Zs<|Zr<|Zm Z<|?_
  obtain rfl : i1 = l.length := by omega
  rw [List.take_length] at how hn hsl
  subst hn
  refine Run.call [0] (l := [.tmp 26]) rfl rfl rfl (lt rfl) (sort_n how W) (fun v3 V2 H2 hle hR => ?_)
  obtain ⟨hV, rfl, l2, q2, hp2, hs2, ho2, rfl⟩ := hR; replace hV := hV.symm; subst hV
  obtain rfl := up_isort (srt_up hs2) hp2
  rw [isort_length] at ho2
  refine Run.heapTo (H' := [q2]) Z ?_
  have hml : (isort (Pr.frs l)).length = (Pr.frs l).length := isort_length _
  refine Run.heapTo (H' := [q2]) Z<|Ze<|Zg<|Zs<|Zr<|Za Z<|Za Z<|Ze<|Zg<|Zs<|Zs<|Zr<|Zm Z<|Zv (Y.lenSl Z Audit_es49)<|Zm Z<|Ze<|?_
  refine Zg<|Zb<|?_
  refine ZL (X := Nat) (fun z0 => V) (fun z0 => [q2]) (fun z0 => [(0, .slice p l.length c), (7, .int .i64 ((Pr.pka l ((isort (Pr.frs l)).take z0)).1)), (8, .int .i64 ((Pr.pka l ((isort (Pr.frs l)).take z0)).2)), (28, .slice p1 (Pr.frs l).length k1), (29, .int .i64 (((Pr.frs l).length : Nat) : Int)), (30, .int .i64 (z0 : Int))]) (fun z0 => z0 ≤ (Pr.frs l).length) (fun z0 => (Pr.frs l).length - z0) (0 : Nat) (Nat.zero_le _) ?_
  rintro i2 hi2
  refine Zs<|Zr<|Zv (Y.int Z Z Z)<|Ze<|Zg<|Zs<|?_
  rcases Zsplit (decide ((i2 : Int) < (((Pr.frs l).length : Nat) : Int))) with ⟨h8, g8⟩ | ⟨h8, g8⟩ <;> try simp only [kb] at g8
  ·refine Tr.cond_t Z h8<|Zt<|Zg<|Zs<|Zb<|Zs<|Zr<|Zv (Y.idxR i2 Z Z Audit_es49 (ho2.rd 0 rfl) W W)<|Zv (Y.ldR Z Audit_ts3 (ho2.rd 0 rfl) (flatm_at0 nI_enc.len W 0 WD rfl))<|Za Z<|Ze<|Zg<|Zs<|Zr<|Zm Z<|Zm Z<|?_
   refine Run.call [] (l := [.tmp 34, .tmp 35]) rfl rfl rfl (lt rfl) (held_c (l := l) (now := ((isort (Pr.frs l)).getD i2 0)) hv (by first | omega | decide)) (fun v9 V2 H2 hle hR => ?_)
   obtain ⟨hV, q10, ho11, rfl⟩ := hR; replace hV := hV.symm; subst hV; obtain ⟨p12, k13, rfl⟩ := ho11.form
   have hhlq10 := Pr.held_len l ((isort (Pr.frs l)).getD i2 0)
   refine Run.heapTo (H' := [q2, q10]) Z<|Run.heapTo (H' := [q2, q10]) Z<|Zv (Y.lenSl Z Audit_es40)<|Za Z<|Ze<|Zg<|Zs<|Zr<|Zm Z<|Zm Z<|Zv (Y.int Z Z Z)<|Ze<|Zg<|?_
   rcases Zsplit (decide ((((Pr.held l ((isort (Pr.frs l)).getD i2 0)).length : Nat) : Int) > ((Pr.pka l ((isort (Pr.frs l)).take i2)).1))) with ⟨h14, g14⟩ | ⟨h14, g14⟩ <;> try simp only [kb] at g14
   ·refine Tr.cond_t Z h14<|Zr<|Zm Z<|Zm Z<|Za Z<|Za Z<|Ze<|Zc<|Zg<|Zr<|Zv (Y.add Z Z W)<|Zm Z<|Ze<|Ex.keep [0]<|?_
    have er : Pr.pka l ((isort (Pr.frs l)).take (i2 + 1)) = (Pr.many l ((isort (Pr.frs l)).getD i2 0), (isort (Pr.frs l)).getD i2 0) := by rw [take_succ_getD _ i2 0 W, Pr.pka_snoc, Pr.sa_yes (by unfold Pr.many; omega)]
    exact ZR (i2 + 1 : Nat) W W (by repeat (first | exact subB_nil _ | refine subB_cons (by first | rfl | exact congrArg (fun z => some (Value.int _ z)) W | exact congrArg (fun z => some (Value.int _ z)) (by (try dsimp only); rw [er]; try rfl)) ?_))
   ·refine Tr.cond_f Z h14<|Zt<|Zc<|Zg<|Zr<|Zv (Y.add Z Z W)<|Zm Z<|Ze<|Ex.keep [0]<|?_
    have er : Pr.pka l ((isort (Pr.frs l)).take (i2 + 1)) = Pr.pka l ((isort (Pr.frs l)).take i2) := by rw [take_succ_getD _ i2 0 W, Pr.pka_snoc, Pr.sa_no (by unfold Pr.many; omega)]
    exact ZR (i2 + 1 : Nat) W W (by repeat (first | exact subB_nil _ | refine subB_cons (by first | rfl | exact congrArg (fun z => some (Value.int _ z)) W | exact congrArg (fun z => some (Value.int _ z)) (by (try dsimp only); rw [er]; try rfl)) ?_))
  ·refine Tr.cond_f Z h8<|Zx<|Zy<|Zy<|Zi<|Zg<|Zs<|Zr<|Zm Z<|Zm Z<|Za Z<|Za Z<|Ze<|Zg<|Zu<|Ex.keep []<|?_
   exact Ex.ret2 rfl rfl rfl  ⟨by unfold Pr.peak; rw [List.take_of_length_le W], rfl, rfl⟩

theorem same28 {V : Vw} {l m : List Int} {p p2 : Option Addr} {c c2 : Nat} {H : Hp} (hv : Rd V H 1 (.slice p l.length c) l.length (l.flatMap nU)) (hw : Rd V H 1 (.slice p2 m.length c2) m.length (m.flatMap nU)) (hlm : l.length ≤ 1000000000)  : Does Try.prog 16 [.slice p l.length c, .slice p2 m.length c2] V H (Pv (.bool (l == m)) V H) := by
 refine Does.intro Try.func16 rfl rfl (le rfl) (fun B => ?_)
 refine Zs<|Zr<|Za Z<|Ze<|Zg<|Zs<|Zs<|Zr<|Zm Z<|Zv (Y.lenSl Z Audit_es40)<|Zm Z<|Zv (Y.lenSl Z Audit_es40)<|Zv (Y.int Z Z Z)<|Ze<|Zg<|?_
 rcases Zsplit (((l.length : Nat) : Int) != ((m.length : Nat) : Int)) with ⟨h1, g1⟩ | ⟨h1, g1⟩ <;> try simp only [kb] at g1
 ·refine Tr.cond_t Z h1<|Zs<|Zr<|Za Z<|Ze<|Zg<|Zu<|Zn<|?_
  exact Ex.ret1 rfl rfl  ⟨congrArg Value.bool (show (l == m) = false by first | exact len_ne W | exact getD_ne (i := i1) (d := 0) W).symm, rfl, rfl⟩
 ·refine Tr.cond_f Z h1<|Zt<|Zg<|Zs<|Zs<|Zr<|Za Z<|Ze<|Zg<|Zb<|?_
  refine ZL (X := Nat) (fun z0 => V) (fun z0 => H) (fun z0 => [(0, .slice p l.length c), (1, .slice p2 m.length c2), (5, .int .i64 (z0 : Int))]) (fun z0 => z0 ≤ l.length ∧ ∀ j, j < z0 → l.getD j 0 = m.getD j 0) (fun z0 => l.length - z0) (0 : Nat) ⟨Nat.zero_le _, fun j hj => absurd hj (Nat.not_lt_zero j)⟩ ?_
  rintro i1 ⟨hi, he⟩
  refine Zs<|Zs<|Zr<|Zm Z<|Zm Z<|Zv (Y.lenSl Z Audit_es40)<|Zv (Y.int Z Z Z)<|Ze<|Zg<|?_
  rcases Zsplit (decide ((i1 : Int) < ((l.length : Nat) : Int))) with ⟨h2, g2⟩ | ⟨h2, g2⟩ <;> try simp only [kb] at g2
  ·refine Tr.cond_t Z h2<|Zt<|Zg<|Zs<|Zb<|Zs<|Tr.quiet Audit_mo WK<|ZM Z<|ZM Z<|ZV (Y.idxR i1 Z Z Audit_es40 hv W W)<|ZV (Y.ldR Z Audit_ts24 hv (flatm_at0 nU_enc.len W 0 WD rfl))<|ZM Z<|ZM Z<|ZV (Y.idxR i1 Z Z Audit_es40 hw W W)<|ZV (Y.ldR Z Audit_ts24 hw (flatm_at0 nU_enc.len W 0 WD rfl))<|ZV (Y.int Z Z Z)<|?_
   refine ZE<|Zg<|?_
   rcases Zsplit ((l.getD i1 0) != (m.getD i1 0)) with ⟨h3, g3⟩ | ⟨h3, g3⟩ <;> try simp only [kb] at g3
   ·refine Tr.cond_t Z h3<|Zs<|Zr<|Za Z<|Ze<|Zg<|Zu<|Zk<|Zn<|Zn<|Zk<|Zn<|?_
    exact Ex.ret1 rfl rfl  ⟨congrArg Value.bool (show (l == m) = false by first | exact len_ne W | exact getD_ne (i := i1) (d := 0) W).symm, rfl, rfl⟩
   ·refine Tr.cond_f Z h3<|Zt<|Zc<|Zg<|Zr<|Zm Z<|Zv (Y.add Z Z W)<|Za Z<|Ze<|?_
    exact ZR (i1 + 1 : Nat) ⟨by omega, upto_succ he W⟩ W
  ·refine Tr.cond_f Z h2<|Zx<|Zy<|Zy<|Zi<|Zg<|Zs<|Zr<|Za Z<|Ze<|Zg<|Zu<|?_
   exact Ex.ret1 rfl rfl  ⟨congrArg Value.bool (getD_eq (d := 0) W (fun j hj => he j W)).symm, rfl, rfl⟩

theorem same28_h {V : Vw} {H : Hp} {l m : List Int} {v w : Value} (hv : Rd V H 1 v l.length (l.flatMap nU)) (hw : Rd V H 1 w m.length (m.flatMap nU)) (hlm : l.length ≤ 1000000000) : Does Try.prog 16 [v, w] V H (Pv (.bool (l == m)) V H) := by
  obtain ⟨p, c, rfl, _⟩ := hv.form
  obtain ⟨p2, c2, rfl, _⟩ := hw.form
  exact same28 hv hw hlm
end Go.Proofs.Ytdmelfpdillddaa
