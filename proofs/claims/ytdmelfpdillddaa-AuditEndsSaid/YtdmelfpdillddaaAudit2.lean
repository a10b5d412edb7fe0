/- Promises that clash, and are ended, walked.
Conditions: as each theorem names them. -/
import Derived.Test.YtdmelfpdillddaaProg
import Derived.Test.YtdmelfpdillddaaAudit
import Derived.Test.YtdmelfpdillddaaZG
set_option linter.unusedSimpArgs false
set_option linter.unusedVariables false
set_option maxRecDepth 4000
namespace Go.Proofs.Ytdmelfpdillddaa
open Go Go.K
attribute [local irreducible] Code.wp wpList Calls wpQuiet
theorem Audit2_es22 : elemS Try.prog 22 = some (34, 5) := by kernel_rfl
theorem Audit2_ag34 : aggsz Try.prog 34 = some 5 := by kernel_rfl
theorem Audit2_fo34_1 : fieldOff Try.prog 34 1 = some 1 := by kernel_rfl
theorem Audit2_ts24 : scal Try.prog 24 = true := by kernel_rfl
theorem Audit2_fo34_2 : fieldOff Try.prog 34 2 = some 2 := by kernel_rfl
theorem Audit2_ts9 : scal Try.prog 9 = true := by kernel_rfl
theorem Audit2_fo34_3 : fieldOff Try.prog 34 3 = some 3 := by kernel_rfl
theorem Audit2_ts3 : scal Try.prog 3 = true := by kernel_rfl
theorem Audit2_fo34_4 : fieldOff Try.prog 34 4 = some 4 := by kernel_rfl
theorem Audit2_zo34 : zeroOf Try.prog 34 = some (.agg #[.int .i64 0, .int .u32 0, .string ⟨#[]⟩, .int .i64 0, .int .i64 0]) := by kernel_rfl
theorem Audit2_sz34 : sizeT Try.prog 34 = some 5 := by kernel_rfl
theorem Audit2_sz3 : sizeT Try.prog 3 = some 1 := by kernel_rfl
theorem Audit2_zi34 : zeroInfo Try.prog 34 = some (5, 48, .agg #[.int .i64 0, .int .u32 0, .string ⟨#[]⟩, .int .i64 0, .int .i64 0]) := by kernel_rfl
theorem Audit2_mo : Try.prog.follows .mixedOrders = true := by kernel_rfl
theorem Audit2_tgs34 : tags Try.prog 34 = some [(0, .i64), (0, .u32), (2, .i64), (0, .i64), (0, .i64)] := by kernel_rfl
theorem Audit2_st9 : strT Try.prog 9 = true := by kernel_rfl

theorem index_pr {V : Vw} {H : Hp} {l : List Pr} {p : Option Addr} {c : Nat} (hv : Rd V H 5 (.slice p l.length c) l.length (l.flatMap Pr.cells)) (hlm : l.length ≤ 1000000000) {gf : FuncId} {caps : List Value} {pb : Pr → Bool} (hp : ∀ q, Does Try.prog gf (.agg (Pr.cells q).toArray :: caps) V H (Pv (.bool (pb q)) V H))  : Does Try.prog 21 [.slice p l.length c, .func (.func gf) #[] caps.toArray] V H (Pv (.int .i64 (ixf pb l)) V H) := by
 refine Does.intro Try.func21 rfl rfl (le rfl) (fun B => ?_)
 refine Zs<|Zr<|Za Z<|Ze<|Zg<|Zs<|Zs<|Zr<|Zm Z<|Zv (Y.lenSl Z Audit2_es22)<|Zm Z<|Ze<|Zg<|Zb<|?_
 refine ZL (X := Nat) (fun z0 => V) (fun z0 => H) (fun z0 => [(0, .slice p l.length c), (1, .func (.func gf) #[] caps.toArray), (7, .int .i64 ((l.length : Nat) : Int)), (8, .int .i64 (z0 : Int))]) (fun z0 => z0 ≤ l.length ∧ ∀ j, j < z0 → pb (l.getD j Pr.dflt) = false) (fun z0 => l.length - z0) (0 : Nat) ⟨Nat.zero_le _, fun j hj => absurd hj (Nat.not_lt_zero j)⟩ ?_
 rintro i1 ⟨hi, hn⟩
 refine Zs<|Zr<|Zv (Y.int Z Z Z)<|Ze<|Zg<|Zs<|?_
 rcases Zsplit (decide ((i1 : Int) < ((l.length : Nat) : Int))) with ⟨h1, g1⟩ | ⟨h1, g1⟩ <;> try simp only [kb] at g1
 ·refine Tr.cond_t Z h1<|Zt<|Zg<|Zs<|Zb<|Zs<|Zr<|Zm Z<|Za Z<|Ze<|Zg<|Zs<|Zr<|Zm Z<|Zm Z<|Zm Z<|?_
  refine Zv (Y.idxR i1 Z Z Audit2_es22 hv W W)<|Zv (Y.ldRA (vs := [.int .i64 ((l.getD i1 Pr.dflt).srv), .int .u32 ((l.getD i1 Pr.dflt).addr), .string ((l.getD i1 Pr.dflt).client), .int .i64 ((l.getD i1 Pr.dflt).from_), .int .i64 ((l.getD i1 Pr.dflt).till)]) rfl Audit2_ag34 hv rfl WD (fun o ho => flatm_atA Pr.len W Pr.dflt o ho))<|Run.call0 (l := [.tmp 15]) Z Z Z (lt Z) (hp (l.getD i1 Pr.dflt))<|?_
  refine Ze<|Zg<|?_
  rcases Zsplit (pb (l.getD i1 Pr.dflt)) with ⟨h2, g2⟩ | ⟨h2, g2⟩ <;> try simp only [kb] at g2
  ·refine Tr.cond_t Z h2<|Zs<|Zr<|Zm Z<|Za Z<|Ze<|Zg<|Zu<|Zk<|Zn<|Zn<|Zk<|Zn<|?_
   exact Ex.ret1 rfl rfl  ⟨congrArg (Value.int _) (ixf_at hn W (by assumption)).symm, rfl, rfl⟩
  ·refine Tr.cond_f Z h2<|Zt<|Zc<|Zg<|Zr<|Zv (Y.add Z Z W)<|Zm Z<|Ze<|?_
   exact ZR (i1 + 1 : Nat) ⟨by omega, upto_succ hn (by assumption)⟩ W
 ·refine Tr.cond_f Z h1<|Zx<|Zy<|Zy<|Zi<|Zg<|Zs<|Zr<|Za Z<|Ze<|Zg<|Zu<|?_
  exact Ex.ret1 rfl rfl  ⟨congrArg (Value.int _) (ixf_none (d := Pr.dflt) (fun j hj => hn j W)).symm, rfl, rfl⟩

theorem index_pr_h {V : Vw} {H : Hp} {l : List Pr} {v : Value} {n : Nat} (hv : Rd V H 5 v n (l.flatMap Pr.cells)) (hlm : l.length ≤ 1000000000) {gf : FuncId} {caps : List Value} {pb : Pr → Bool} (hp : ∀ q, Does Try.prog gf (.agg (Pr.cells q).toArray :: caps) V H (Pv (.bool (pb q)) V H)) : Does Try.prog 21 [v, .func (.func gf) #[] caps.toArray] V H (Pv (.int .i64 (ixf pb l)) V H) := by
  obtain rfl : n = l.length := by have := hv.len; rw [flat_len Pr.enc] at this; omega
  obtain ⟨p, c, rfl, _⟩ := hv.form
  exact index_pr hv hlm hp

theorem clash_c {q r : Pr} {V : Vw} : Does Try.prog 23 [.agg #[.int .i64 q.srv, .int .u32 q.addr, .string q.client, .int .i64 q.from_, .int .i64 q.till], .agg #[.int .i64 r.srv, .int .u32 r.addr, .string r.client, .int .i64 r.from_, .int .i64 r.till]] V [] (Pv (.bool (Pr.clash q r)) V []) := by
 refine Does.intro Try.func23 rfl rfl (le rfl) (fun B => ?_)
 refine Zs<|Zr<|?_
 refine Run.box rfl (lt rfl) (fun b1 => ?_)
 refine Run.box rfl (lt rfl) (fun b2 => ?_)
 refine Za Z<|Ze<|Zg<|Zs<|Zr<|Zv (Y.fieldAddr Z Audit2_fo34_1)<|Zv (Y.load Z Audit2_ts24 (Kn.at 1 Z) Z)<|Zv (Y.fieldAddr Z Audit2_fo34_1)<|Zv (Y.load Z Audit2_ts24 (Kn.at 0 Z) Z)<|Zv (Y.int Z Z Z)<|Zm Z<|?_
 rcases Zsplit (q.addr == r.addr) with ⟨h3, g3⟩ | ⟨h3, g3⟩ <;> try simp only [kb] at g3
 ·refine Zp h3<|Zv (Y.fieldAddr Z Audit2_fo34_2)<|Zp h3<|Zv (Y.load Z Audit2_ts9 (Kn.at 1 Z) Z)<|Zp h3<|Zv (Y.fieldAddr Z Audit2_fo34_2)<|Zp h3<|Zv (Y.load Z Audit2_ts9 (Kn.at 0 Z) Z)<|Zp h3<|Zv (Y.neStr Z Z)<|Zv (Y.pick_t Z h3 Z)<|Zm Z<|?_
  rcases Zsplit (q.client.toList == r.client.toList) with ⟨h4, g4⟩ | ⟨h4, g4⟩ <;> try simp only [kb] at g4
  ·refine Zo (congrArg Bool.not h4) Z<|Zo (congrArg Bool.not h4) Z<|Zv (Y.pick_f Z (congrArg Bool.not h4) Z)<|Zm Z<|Zo Z Z<|Zo Z Z<|Zv (Y.pick_f Z Z Z)<|Zm Z<|Zo Z Z<|Zo Z Z<|Zo Z Z<|Zo Z Z<|Zo Z Z<|Zo Z Z<|Zo Z Z<|Zo Z Z<|?_
   refine Zo Z Z<|Zo Z Z<|Zo Z Z<|Zv (Y.pick_f Z Z Z)<|Za Z<|Ze<|Zg<|Zu<|Ex.keep []<|?_
   exact Ex.ret1 rfl rfl  ⟨congrArg Value.bool (by unfold Pr.clash Pr.meet; simp_all <;> omega), rfl, rfl⟩
  ·refine Zp (congrArg Bool.not h4)<|Zv (Y.loadAgg Z Audit2_ag34 (Kn.at 1 Z) Z)<|Zp (congrArg Bool.not h4)<|Run.call0 (l := [.tmp 18]) Z Z Z (lt Z) (right_c_h Z)<|Zv (Y.pick_t Z (congrArg Bool.not h4) Z)<|Zm Z<|?_
   rcases Zsplit (Pr.right q) with ⟨h5, g5⟩ | ⟨h5, g5⟩ <;> try simp only [kb] at g5
   ·refine Zp h5<|Zv (Y.loadAgg Z Audit2_ag34 (Kn.at 0 Z) Z)<|Zp h5<|Run.call0 (l := [.tmp 22]) Z Z Z (lt Z) (right_c_h Z)<|Zv (Y.pick_t Z h5 Z)<|Zm Z<|?_
    rcases Zsplit (Pr.right r) with ⟨h6, g6⟩ | ⟨h6, g6⟩ <;> try simp only [kb] at g6
    ·refine Zp h6<|Zv (Y.fieldAddr Z Audit2_fo34_3)<|Zp h6<|Zv (Y.load Z Audit2_ts3 (Kn.at 1 Z) Z)<|Zp h6<|Zv (Y.fieldAddr Z Audit2_fo34_3)<|Zp h6<|Zv (Y.load Z Audit2_ts3 (Kn.at 0 Z) Z)<|Zp h6<|Zv (Y.max2 Z Z)<|Zp h6<|Zv (Y.fieldAddr Z Audit2_fo34_4)<|Zp h6<|Zv (Y.load Z Audit2_ts3 (Kn.at 1 Z) Z)<|Zp h6<|Zv (Y.fieldAddr Z Audit2_fo34_4)<|?_
     refine Zp h6<|Zv (Y.load Z Audit2_ts3 (Kn.at 0 Z) Z)<|Zp h6<|Zv (Y.min2 Z Z)<|Zp h6<|Zv (Y.int Z Z Z)<|Zv (Y.pick_t Z h6 Z)<|Za Z<|Ze<|Zg<|Zu<|Ex.keep []<|?_
     exact Ex.ret1 rfl rfl  ⟨congrArg Value.bool (by unfold Pr.clash Pr.meet; simp_all <;> omega), rfl, rfl⟩
    ·refine Zo h6 Z<|Zo h6 Z<|Zo h6 Z<|Zo h6 Z<|Zo h6 Z<|Zo h6 Z<|Zo h6 Z<|Zo h6 Z<|Zo h6 Z<|Zo h6 Z<|Zo h6 Z<|Zv (Y.pick_f Z h6 Z)<|Za Z<|Ze<|Zg<|Zu<|?_
     refine Ex.keep [] ?_
     exact Ex.ret1 rfl rfl  ⟨congrArg Value.bool (by unfold Pr.clash Pr.meet; simp_all <;> omega), rfl, rfl⟩
   ·refine Zo h5 Z<|Zo h5 Z<|Zv (Y.pick_f Z h5 Z)<|Zm Z<|Zo Z Z<|Zo Z Z<|Zo Z Z<|Zo Z Z<|Zo Z Z<|Zo Z Z<|Zo Z Z<|Zo Z Z<|Zo Z Z<|Zo Z Z<|Zo Z Z<|Zv (Y.pick_f Z Z Z)<|?_
    refine Za Z<|Ze<|Zg<|Zu<|Ex.keep []<|?_
    exact Ex.ret1 rfl rfl  ⟨congrArg Value.bool (by unfold Pr.clash Pr.meet; simp_all <;> omega), rfl, rfl⟩
 ·refine Zo h3 Z<|Zo h3 Z<|Zo h3 Z<|Zo h3 Z<|Zo h3 Z<|Zv (Y.pick_f Z h3 Z)<|Zm Z<|Zo Z Z<|Zo Z Z<|Zv (Y.pick_f Z Z Z)<|Zm Z<|Zo Z Z<|Zo Z Z<|Zv (Y.pick_f Z Z Z)<|Zm Z<|Zo Z Z<|?_
  refine Zo Z Z<|Zo Z Z<|Zo Z Z<|Zo Z Z<|Zo Z Z<|Zo Z Z<|Zo Z Z<|Zo Z Z<|Zo Z Z<|Zo Z Z<|Zv (Y.pick_f Z Z Z)<|Za Z<|Ze<|Zg<|Zu<|Ex.keep []<|?_
  exact Ex.ret1 rfl rfl  ⟨congrArg Value.bool (by unfold Pr.clash Pr.meet; simp_all <;> omega), rfl, rfl⟩

theorem clash_c_h {q r : Pr} {V : Vw} {H : Hp} {v w : Value} (hq : v = .agg #[.int .i64 q.srv, .int .u32 q.addr, .string q.client, .int .i64 q.from_, .int .i64 q.till]) (hr : w = .agg #[.int .i64 r.srv, .int .u32 r.addr, .string r.client, .int .i64 r.from_, .int .i64 r.till]) : Does Try.prog 23 [v, w] V H (Pv (.bool (Pr.clash q r)) V H) := by subst hq hr; exact clash_c.frame

theorem clos_c {q r : Pr} {b : Nat} {V : Vw} : Does Try.prog 22 [.agg #[.int .i64 q.srv, .int .u32 q.addr, .string q.client, .int .i64 q.from_, .int .i64 q.till], .pointer (some ⟨b, 0, none⟩)] V [[(b, .cells #[.int .i64 r.srv, .int .u32 r.addr, .string r.client, .int .i64 r.from_, .int .i64 r.till] 34 (0, 0))]] (Pv (.bool (Pr.clash q r)) V [[(b, .cells #[.int .i64 r.srv, .int .u32 r.addr, .string r.client, .int .i64 r.from_, .int .i64 r.till] 34 (0, 0))]]) := by
 refine Does.intro Try.func22 rfl rfl (le rfl) (fun B => ?_)
 refine Zs<|Zr<|?_
 refine Run.box rfl (lt rfl) (fun b1 => ?_)
 refine Za Z<|Ze<|Zg<|Zs<|Zr<|Zv (Y.loadAgg Z Audit2_ag34 (Kn.at 0 Z) Z)<|Zv (Y.loadAgg Z Audit2_ag34 (Kn.at 1 Z) Z)<|Run.call0 (l := [.tmp 4, .tmp 5]) Z Z Z (lt Z) (clash_c_h Z Z)<|Za Z<|Ze<|Zg<|Zu<|Ex.keep [1]<|?_
 exact Ex.ret1 rfl rfl  ⟨rfl, rfl, rfl⟩

theorem clashes_c {V : Vw} {l : List Pr} {p : Option Addr} {c : Nat} (hv : Rd V [] 5 (.slice p l.length c) l.length (l.flatMap Pr.cells)) (hl : l.length ≤ 60)  : Does Try.prog 12 [.slice p l.length c] V [] (fun v V' H' => V' = V ∧ H' = [] ∧ ∃ a b, v = .tuple #[.int .i64 a, .int .i64 b] ∧ Pr.First l a b) := by
 have hcc : l.length ≤ c := by obtain ⟨_, _, he, h⟩ := hv.form; cases he; exact h
 refine Does.intro Try.func12 rfl rfl (le rfl) (fun B => ?_)
 refine Zs<|Zr<|Za Z<|Za Z<|Ze<|Zg<|Zs<|Zs<|Zr<|Zm Z<|Zv (Y.lenSl Z Audit2_es22)<|Zm Z<|Ze<|Zg<|Zb<|?_
 refine ZL (X := Nat) (fun z0 => V) (fun z0 => []) (fun z0 => [(0, .slice p l.length c), (7, .slice p l.length c), (8, .int .i64 ((l.length : Nat) : Int)), (9, .int .i64 (z0 : Int))]) (fun z0 => z0 ≤ l.length ∧ ∀ j, j < z0 → ∀ i, i < j → Pr.clash (l.getD i Pr.dflt) (l.getD j Pr.dflt) = false) (fun z0 => l.length - z0) (0 : Nat) ⟨Nat.zero_le _, fun j hj => absurd hj (Nat.not_lt_zero j)⟩ ?_
 rintro i1 ⟨hi, hn⟩
 refine Zs<|Zr<|Zv (Y.int Z Z Z)<|Ze<|Zg<|Zs<|?_
 rcases Zsplit (decide ((i1 : Int) < ((l.length : Nat) : Int))) with ⟨h1, g1⟩ | ⟨h1, g1⟩ <;> try simp only [kb] at g1
 ·refine Tr.cond_t Z h1<|Zt<|Zg<|Zs<|Zb<|Zs<|Zr<|Zm Z<|Zv (Y.idxR i1 Z Z Audit2_es22 hv.of_nil W W)<|Zv (Y.ldRA (vs := [.int .i64 ((l.getD i1 Pr.dflt).srv), .int .u32 ((l.getD i1 Pr.dflt).addr), .string ((l.getD i1 Pr.dflt).client), .int .i64 ((l.getD i1 Pr.dflt).from_), .int .i64 ((l.getD i1 Pr.dflt).till)]) rfl Audit2_ag34 hv.of_nil rfl WD (fun o ho => flatm_atA Pr.len W Pr.dflt o ho))<|?_
  refine Run.alloc Audit2_zo34 (lt rfl) (fun b2 => ?_)
  refine Za Z<|Run.store (s := [(b2, .cells #[.int .i64 ((l.getD i1 Pr.dflt).srv), .int .u32 ((l.getD i1 Pr.dflt).addr), .string ((l.getD i1 Pr.dflt).client), .int .i64 ((l.getD i1 Pr.dflt).from_), .int .i64 ((l.getD i1 Pr.dflt).till)] 34 (0, 0))]) Z Z Audit2_sz34 (i := 0) Z Z (le Z) Z Z<|Ze<|Zg<|Zs<|Zr<|Zm Z<|Zm Z<|Zv (Y.slice (l := 0) (m := i1) Z Audit2_es22 rfl rfl W W)<|Zv (Y.makeFunc (l := []) (l' := [.tmp 5]) Z Z)<|?_
  have hln : ((l.drop 0).take (i1 - 0)).length = i1 - 0 := by rw [List.length_take, List.length_drop]; omega
  refine Run.callW (l := [.tmp 16, .tmp 17]) rfl rfl rfl (lt rfl) (index_pr_h (l := (l.drop 0).take (i1 - 0)) (pb := (fun p => Pr.clash p (l.getD i1 Pr.dflt))) (caps := [.pointer (some ⟨b2, 0, none⟩)]) (Rd.cut Pr.len hv.of_nil 0 i1 W W) W (fun q => clos_c (r := (l.getD i1 Pr.dflt)))) (fun v9 V9 H9 hle9 hR9 => ?_)
  obtain ⟨rfl, rfl, rfl⟩ := hR9
  refine Run.heapTo (H' := [[(b2, .cells #[.int .i64 ((l.getD i1 Pr.dflt).srv), .int .u32 ((l.getD i1 Pr.dflt).addr), .string ((l.getD i1 Pr.dflt).client), .int .i64 ((l.getD i1 Pr.dflt).from_), .int .i64 ((l.getD i1 Pr.dflt).till)] 34 (0, 0))]]) Z<|Za Z<|Ze<|Zg<|Zs<|Zr<|?_
  have hcs := ixf_cases (fun p => Pr.clash p (l.getD i1 Pr.dflt)) ((l.drop 0).take (i1 - 0)) Pr.dflt
  rw [hln] at hcs
  simp only [List.drop_zero, Nat.sub_zero] at hcs
  refine Zm Z<|Zv (Y.int Z Z Z)<|Ze<|Zg<|?_
  rcases Zsplit (decide ((ixf (fun p => Pr.clash p (l.getD i1 Pr.dflt)) ((l.drop 0).take (i1 - 0))) ≥ 0)) with ⟨h3, g3⟩ | ⟨h3, g3⟩ <;> try simp only [kb] at g3
  ·rcases hcs with ⟨hx, hxn⟩ | ⟨ix, hx, hxl, hxt, hxn⟩
   case inl => (simp only [List.drop_zero, Nat.sub_zero] at g3; omega)
   refine Tr.cond_t Z h3<|Zs<|Zr<|Zm Z<|Zm Z<|Za Z<|Za Z<|Ze<|Zg<|Zu<|Zk<|Zn<|Zn<|Zk<|Zn<|Ex.keep []<|?_
   exact Ex.ret2 rfl rfl rfl  ⟨rfl, rfl, _, _, rfl, .inr ⟨ix, i1, by simp only [List.drop_zero, Nat.sub_zero]; exact hx, rfl, hxl, by omega, by rw [take_getD _ hxl] at hxt; exact hxt, fun i hi => (by have := hxn i hi; rw [take_getD _ W] at this; exact this), hn⟩⟩
  ·rcases hcs with ⟨hx, hxn⟩ | ⟨ix, hx, hxl, hxt, hxn⟩
   case inr => (simp only [List.drop_zero, Nat.sub_zero] at g3; omega)
   refine Tr.cond_f Z h3<|Zt<|Zc<|Zg<|Zr<|Zv (Y.add Z Z W)<|Zm Z<|Ze<|Ex.keep []<|?_
   exact ZR (i1 + 1 : Nat) ⟨by omega, upto_succ hn (fun i hi => by have := hxn i hi; rw [take_getD _ hi] at this; exact this)⟩ W
 ·refine Tr.cond_f Z h1<|Zx<|Zy<|Zy<|Zi<|Zg<|Zs<|Zr<|Za Z<|Za Z<|Ze<|Zg<|Zu<|Ex.keep []<|?_
  exact Ex.ret2 rfl rfl rfl  ⟨rfl, rfl, _, _, rfl, .inl ⟨rfl, rfl, fun j hj => hn j W⟩⟩

theorem end_c {V : Vw} {l : List Pr} {p : Option Addr} {c : Nat} (hv : Rd V [] 5 (.slice p l.length c) l.length (l.flatMap Pr.cells)) (hl : l.length ≤ 60) {a now : Int} {cl : ByteArray}  : Does Try.prog 14 [.slice p l.length c, .int .u32 a, .string cl, .int .i64 now] V [] (fun v V' H' => V' = V ∧ ∃ q, Ow 34 5 v (Pr.endd a cl now l).length ((Pr.endd a cl now l).flatMap Pr.cells) q ∧ H' = [q]) := by
 refine Does.intro Try.func14 rfl rfl (le rfl) (fun B => ?_)
 refine Zs<|Zr<|Za Z<|Ze<|Zg<|Zs<|Zr<|Run.nilseg<|Za Z<|Ze<|Zg<|Zs<|Zs<|Zr<|Zm Z<|Zv (Y.lenSl Z Audit2_es22)<|?_
 refine Zm Z<|Ze<|Zg<|Zb<|?_
 refine ZL (X := Nat × Option Addr × Nat × Nat × Sg) (fun z0 => V) (fun z0 => [z0.2.2.2.2]) (fun z0 => [(0, .slice p l.length c), (1, .int .u32 a), (2, .string cl), (3, .int .i64 now), (9, .slice z0.2.1 z0.2.2.1 z0.2.2.2.1), (13, .slice p l.length c), (14, .int .i64 ((l.length : Nat) : Int)), (15, .int .i64 (z0.1 : Int))]) (fun z0 => Ow 34 5 (.slice z0.2.1 z0.2.2.1 z0.2.2.2.1) z0.2.2.1 ((Pr.endd a cl now (l.take z0.1)).flatMap Pr.cells) z0.2.2.2.2 ∧ z0.2.2.1 = (Pr.endd a cl now (l.take z0.1)).length ∧ z0.1 ≤ l.length) (fun z0 => l.length - z0.1) (⟨0, none, 0, 0, []⟩ : Nat × Option Addr × Nat × Nat × Sg) ⟨Ow.nil _ _, rfl, Nat.zero_le _⟩ ?_
 rintro ⟨i1, p1, n1, k1, q1⟩ ⟨how, hn, hi⟩
 try dsimp only at how hn hi ⊢
 have hsl := Pr.endd_len a cl now (l.take i1)
 rw [List.length_take] at hsl
 refine Zs<|Zr<|Zv (Y.int Z Z Z)<|Ze<|Zg<|Zs<|?_
 rcases Zsplit (decide ((i1 : Int) < ((l.length : Nat) : Int))) with ⟨h1, g1⟩ | ⟨h1, g1⟩ <;> try simp only [kb] at g1
 ·refine Tr.cond_t Z h1<|Zt<|Zg<|Zs<|Zb<|Zs<|Zr<|Zv (Y.idxR i1 Z Z Audit2_es22 hv.of_nil W W)<|Zv (Y.ldRA (vs := [.int .i64 ((l.getD i1 Pr.dflt).srv), .int .u32 ((l.getD i1 Pr.dflt).addr), .string ((l.getD i1 Pr.dflt).client), .int .i64 ((l.getD i1 Pr.dflt).from_), .int .i64 ((l.getD i1 Pr.dflt).till)]) rfl Audit2_ag34 hv.of_nil rfl WD (fun o ho => flatm_atA Pr.len W Pr.dflt o ho))<|?_
  refine Run.alloc Audit2_zo34 (lt rfl) (fun b2 => ?_)
  refine Run.store (s := [(b2, .cells #[.int .i64 ((l.getD i1 Pr.dflt).srv), .int .u32 ((l.getD i1 Pr.dflt).addr), .string ((l.getD i1 Pr.dflt).client), .int .i64 ((l.getD i1 Pr.dflt).from_), .int .i64 ((l.getD i1 Pr.dflt).till)] 34 (0, 0))]) Z Z Audit2_sz34 (i := 0) Z Z (le Z) Z Z<|Ze<|Zg<|Zs<|Zr<|Zv (Y.fieldAddr Z Audit2_fo34_1)<|Zv (Y.load Z Audit2_ts24 (Kn.at 0 Z) Z)<|Zm Z<|Zv (Y.int Z Z Z)<|Zm Z<|?_
  rcases Zsplit (((l.getD i1 Pr.dflt).addr) == a) with ⟨h3, g3⟩ | ⟨h3, g3⟩ <;> try simp only [kb] at g3
  ·refine Zp h3<|Zv (Y.fieldAddr Z Audit2_fo34_2)<|Zp h3<|Zv (Y.load Z Audit2_ts9 (Kn.at 0 Z) Z)<|Zp h3<|Zm Z<|Zp h3<|Zv (Y.eqStr Z Z)<|Zv (Y.pick_t Z h3 Z)<|Zm Z<|?_
   rcases Zsplit (((l.getD i1 Pr.dflt).client).toList == cl.toList) with ⟨h4, g4⟩ | ⟨h4, g4⟩ <;> try simp only [kb] at g4
   ·refine Zp h4<|Zv (Y.loadAgg Z Audit2_ag34 (Kn.at 0 Z) Z)<|Zp h4<|Run.call0 (l := [.tmp 30]) Z Z Z (lt Z) (right_c_h Z)<|Zv (Y.pick_t Z h4 Z)<|Za Z<|Ze<|Zg<|Zs<|Zs<|Zr<|Zm Z<|Zm Z<|?_
    rcases Zsplit (Pr.right (l.getD i1 Pr.dflt)) with ⟨h5, g5⟩ | ⟨h5, g5⟩ <;> try simp only [kb] at g5
    ·refine Zp h5<|Zv (Y.fieldAddr Z Audit2_fo34_3)<|Zp h5<|Zv (Y.load Z Audit2_ts3 (Kn.at 0 Z) Z)<|Zp h5<|Zm Z<|Zp h5<|Zv (Y.int Z Z Z)<|Zv (Y.pick_t Z h5 Z)<|Ze<|Zg<|?_
     rcases Zsplit (decide (((l.getD i1 Pr.dflt).from_) > now)) with ⟨h6, g6⟩ | ⟨h6, g6⟩ <;> try simp only [kb] at g6
     ·refine Tr.cond_t Z h6<|Zx<|Zy<|Zi<|Zg<|Zr<|Zv (Y.add Z Z W)<|Zm Z<|Ze<|Ex.keep [1]<|?_
      have er : Pr.endd a cl now (l.take (i1 + 1)) = _ := (Pr.endd_take W).trans (congrArg (fun z => Pr.endd a cl now (l.take i1) ++ z) (Pr.e1_skip (show Pr.ec a cl (l.getD i1 Pr.dflt) = true by unfold Pr.ec; simp_all) W))
      exact ZR (⟨i1 + 1, p1, n1, k1, q1⟩ : Nat × Option Addr × Nat × Nat × Sg) ⟨by rw [er, List.append_nil]; exact how, by rw [er, List.append_nil]; exact hn, by omega⟩ (by dsimp only; omega)
     ·refine Tr.cond_f Z h6<|Zt<|Zg<|Zs<|Zs<|Zr<|Zm Z<|Ze<|Zg<|Tr.cond_t Z h5<|Zr<|Zv (Y.fieldAddr Z Audit2_fo34_4)<|Zv (Y.load Z Audit2_ts3 (Kn.at 0 Z) Z)<|Zm Z<|Zv (Y.min2 Z Z)<|Zv (Y.fieldAddr Z Audit2_fo34_4)<|?_
      refine Run.store (s := [(b2, .cells #[.int .i64 ((l.getD i1 Pr.dflt).srv), .int .u32 ((l.getD i1 Pr.dflt).addr), .string ((l.getD i1 Pr.dflt).client), .int .i64 ((l.getD i1 Pr.dflt).from_), .int .i64 (min ((l.getD i1 Pr.dflt).till) now)] 34 (0, 0))]) Z Z Audit2_sz3 (i := 0) Z Z (le Z) Z Z<|Ze<|Zg<|Zr<|Zm Z<|Zv (Y.loadAgg Z Audit2_ag34 (Kn.at 0 Z) Z)<|?_
      refine Run.buildSlice (l := [(0, .tmp 47)]) (r := [.int .i64 ((l.getD i1 Pr.dflt).srv), .int .u32 ((l.getD i1 Pr.dflt).addr), .string ((l.getD i1 Pr.dflt).client), .int .i64 ((l.getD i1 Pr.dflt).from_), .int .i64 (min ((l.getD i1 Pr.dflt).till) now)]) Audit2_es22 Audit2_zo34 rfl WD rfl rfl WD (lt rfl) (fun b7 => ?_)
      refine Run.append (n := n1) (m := 1) (xs := (Pr.endd a cl now (l.take i1)).flatMap Pr.cells) (ys := [.int .i64 ((l.getD i1 Pr.dflt).srv), .int .u32 ((l.getD i1 Pr.dflt).addr), .string ((l.getD i1 Pr.dflt).client), .int .i64 ((l.getD i1 Pr.dflt).from_), .int .i64 (min ((l.getD i1 Pr.dflt).till) now)]) rfl rfl Audit2_es22 Audit2_zi34 WD (j := 2) rfl how (Src.of_rd Audit2_es22 (Rd.one (Kn.at 0 rfl) rfl)) W W rfl (lt rfl) (fun v8 s9 ho10 hf => ?_)
      obtain ⟨p8, c8, rfl⟩ := hf
      replace ho10 := Ow.app1 (f := Pr.cells) (l := Pr.endd a cl now (l.take i1)) (x := (⟨(l.getD i1 Pr.dflt).srv, (l.getD i1 Pr.dflt).addr, (l.getD i1 Pr.dflt).client, (l.getD i1 Pr.dflt).from_, min ((l.getD i1 Pr.dflt).till) now⟩ : Pr)) ho10
      refine Za Z<|Ze<|Zc<|Zg<|Zr<|Zv (Y.add Z Z W)<|Zm Z<|Ze<|Ex.keep [2]<|?_
      have er : Pr.endd a cl now (l.take (i1 + 1)) = _ := (Pr.endd_take W).trans (congrArg (fun z => Pr.endd a cl now (l.take i1) ++ z) (Pr.e1_cut (show Pr.ec a cl (l.getD i1 Pr.dflt) = true by unfold Pr.ec; simp_all) W))
      exact ZR (⟨i1 + 1, p8, (n1 + 1), c8, s9⟩ : Nat × Option Addr × Nat × Nat × Sg) ⟨by rw [er]; exact ho10, by rw [er, List.length_append, List.length_singleton]; dsimp only; omega, by omega⟩ (by dsimp only; omega)
    ·refine Zo h5 Z<|Zo h5 Z<|Zo h5 Z<|Zo h5 Z<|Zv (Y.pick_f Z h5 Z)<|Ze<|Zg<|Tr.cond_f Z Z<|Zt<|Zg<|Zs<|Zs<|Zr<|Zm Z<|Ze<|Zg<|?_
     refine Tr.cond_f Z h5<|Zt<|Zg<|Zr<|Zm Z<|Zv (Y.loadAgg Z Audit2_ag34 (Kn.at 0 Z) Z)<|?_
     refine Run.buildSlice (l := [(0, .tmp 47)]) (r := [.int .i64 ((l.getD i1 Pr.dflt).srv), .int .u32 ((l.getD i1 Pr.dflt).addr), .string ((l.getD i1 Pr.dflt).client), .int .i64 ((l.getD i1 Pr.dflt).from_), .int .i64 ((l.getD i1 Pr.dflt).till)]) Audit2_es22 Audit2_zo34 rfl WD rfl rfl WD (lt rfl) (fun b11 => ?_)
     refine Run.append (n := n1) (m := 1) (xs := (Pr.endd a cl now (l.take i1)).flatMap Pr.cells) (ys := [.int .i64 ((l.getD i1 Pr.dflt).srv), .int .u32 ((l.getD i1 Pr.dflt).addr), .string ((l.getD i1 Pr.dflt).client), .int .i64 ((l.getD i1 Pr.dflt).from_), .int .i64 ((l.getD i1 Pr.dflt).till)]) rfl rfl Audit2_es22 Audit2_zi34 WD (j := 2) rfl how (Src.of_rd Audit2_es22 (Rd.one (Kn.at 0 rfl) rfl)) W W rfl (lt rfl) (fun v12 s13 ho14 hf => ?_)
     obtain ⟨p12, c12, rfl⟩ := hf
     replace ho14 := Ow.app1 (f := Pr.cells) (l := Pr.endd a cl now (l.take i1)) (x := (⟨(l.getD i1 Pr.dflt).srv, (l.getD i1 Pr.dflt).addr, (l.getD i1 Pr.dflt).client, (l.getD i1 Pr.dflt).from_, (l.getD i1 Pr.dflt).till⟩ : Pr)) ho14
     refine Za Z<|Ze<|Zc<|Zg<|Zr<|Zv (Y.add Z Z W)<|Zm Z<|Ze<|Ex.keep [2]<|?_
     have er : Pr.endd a cl now (l.take (i1 + 1)) = _ := (Pr.endd_take W).trans (congrArg (fun z => Pr.endd a cl now (l.take i1) ++ z) (Pr.e1_keep (show Pr.ec a cl (l.getD i1 Pr.dflt) = false by unfold Pr.ec; simp_all)))
     exact ZR (⟨i1 + 1, p12, (n1 + 1), c12, s13⟩ : Nat × Option Addr × Nat × Nat × Sg) ⟨by rw [er]; exact ho14, by rw [er, List.length_append, List.length_singleton]; dsimp only; omega, by omega⟩ (by dsimp only; omega)
   ·refine Zo h4 Z<|Zo h4 Z<|Zv (Y.pick_f Z h4 Z)<|Za Z<|Ze<|Zg<|Zs<|Zs<|Zr<|Zm Z<|Zm Z<|Zo Z Z<|Zo Z Z<|Zo Z Z<|Zo Z Z<|Zv (Y.pick_f Z Z Z)<|?_
    refine Ze<|Zg<|Tr.cond_f Z Z<|Zt<|Zg<|Zs<|Zs<|Zr<|Zm Z<|Ze<|Zg<|Tr.cond_f Z Z<|Zt<|Zg<|Zr<|Zm Z<|?_
    refine Zv (Y.loadAgg Z Audit2_ag34 (Kn.at 0 Z) Z) ?_
    refine Run.buildSlice (l := [(0, .tmp 47)]) (r := [.int .i64 ((l.getD i1 Pr.dflt).srv), .int .u32 ((l.getD i1 Pr.dflt).addr), .string ((l.getD i1 Pr.dflt).client), .int .i64 ((l.getD i1 Pr.dflt).from_), .int .i64 ((l.getD i1 Pr.dflt).till)]) Audit2_es22 Audit2_zo34 rfl WD rfl rfl WD (lt rfl) (fun b15 => ?_)
    refine Run.append (n := n1) (m := 1) (xs := (Pr.endd a cl now (l.take i1)).flatMap Pr.cells) (ys := [.int .i64 ((l.getD i1 Pr.dflt).srv), .int .u32 ((l.getD i1 Pr.dflt).addr), .string ((l.getD i1 Pr.dflt).client), .int .i64 ((l.getD i1 Pr.dflt).from_), .int .i64 ((l.getD i1 Pr.dflt).till)]) rfl rfl Audit2_es22 Audit2_zi34 WD (j := 2) rfl how (Src.of_rd Audit2_es22 (Rd.one (Kn.at 0 rfl) rfl)) W W rfl (lt rfl) (fun v16 s17 ho18 hf => ?_)
    obtain ⟨p16, c16, rfl⟩ := hf
    replace ho18 := Ow.app1 (f := Pr.cells) (l := Pr.endd a cl now (l.take i1)) (x := (⟨(l.getD i1 Pr.dflt).srv, (l.getD i1 Pr.dflt).addr, (l.getD i1 Pr.dflt).client, (l.getD i1 Pr.dflt).from_, (l.getD i1 Pr.dflt).till⟩ : Pr)) ho18
    refine Za Z<|Ze<|Zc<|Zg<|Zr<|Zv (Y.add Z Z W)<|Zm Z<|Ze<|Ex.keep [2]<|?_
    have er : Pr.endd a cl now (l.take (i1 + 1)) = _ := (Pr.endd_take W).trans (congrArg (fun z => Pr.endd a cl now (l.take i1) ++ z) (Pr.e1_keep (show Pr.ec a cl (l.getD i1 Pr.dflt) = false by unfold Pr.ec; simp_all)))
    exact ZR (⟨i1 + 1, p16, (n1 + 1), c16, s17⟩ : Nat × Option Addr × Nat × Nat × Sg) ⟨by rw [er]; exact ho18, by rw [er, List.length_append, List.length_singleton]; dsimp only; omega, by omega⟩ (by dsimp only; omega)
  ·refine Zo h3 Z<|Zo h3 Z<|Zo h3 Z<|Zo h3 Z<|Zv (Y.pick_f Z h3 Z)<|Zm Z<|Zo Z Z<|Zo Z Z<|Zv (Y.pick_f Z Z Z)<|Za Z<|Ze<|Zg<|Zs<|Zs<|Zr<|Zm Z<|?_
   refine Zm Z<|Zo Z Z<|Zo Z Z<|Zo Z Z<|Zo Z Z<|Zv (Y.pick_f Z Z Z)<|Ze<|Zg<|Tr.cond_f Z Z<|Zt<|Zg<|Zs<|Zs<|Zr<|Zm Z<|Ze<|?_
   refine Zg<|Tr.cond_f Z Z<|Zt<|Zg<|Zr<|Zm Z<|Zv (Y.loadAgg Z Audit2_ag34 (Kn.at 0 Z) Z)<|?_
   refine Run.buildSlice (l := [(0, .tmp 47)]) (r := [.int .i64 ((l.getD i1 Pr.dflt).srv), .int .u32 ((l.getD i1 Pr.dflt).addr), .string ((l.getD i1 Pr.dflt).client), .int .i64 ((l.getD i1 Pr.dflt).from_), .int .i64 ((l.getD i1 Pr.dflt).till)]) Audit2_es22 Audit2_zo34 rfl WD rfl rfl WD (lt rfl) (fun b19 => ?_)
   refine Run.append (n := n1) (m := 1) (xs := (Pr.endd a cl now (l.take i1)).flatMap Pr.cells) (ys := [.int .i64 ((l.getD i1 Pr.dflt).srv), .int .u32 ((l.getD i1 Pr.dflt).addr), .string ((l.getD i1 Pr.dflt).client), .int .i64 ((l.getD i1 Pr.dflt).from_), .int .i64 ((l.getD i1 Pr.dflt).till)]) rfl rfl Audit2_es22 Audit2_zi34 WD (j := 2) rfl how (Src.of_rd Audit2_es22 (Rd.one (Kn.at 0 rfl) rfl)) W W rfl (lt rfl) (fun v20 s21 ho22 hf => ?_)
   obtain ⟨p20, c20, rfl⟩ := hf
   replace ho22 := Ow.app1 (f := Pr.cells) (l := Pr.endd a cl now (l.take i1)) (x := (⟨(l.getD i1 Pr.dflt).srv, (l.getD i1 Pr.dflt).addr, (l.getD i1 Pr.dflt).client, (l.getD i1 Pr.dflt).from_, (l.getD i1 Pr.dflt).till⟩ : Pr)) ho22
   refine Za Z<|Ze<|Zc<|Zg<|Zr<|Zv (Y.add Z Z W)<|Zm Z<|Ze<|Ex.keep [2]<|?_
   have er : Pr.endd a cl now (l.take (i1 + 1)) = _ := (Pr.endd_take W).trans (congrArg (fun z => Pr.endd a cl now (l.take i1) ++ z) (Pr.e1_keep (show Pr.ec a cl (l.getD i1 Pr.dflt) = false by unfold Pr.ec; simp_all)))
   exact ZR (⟨i1 + 1, p20, (n1 + 1), c20, s21⟩ : Nat × Option Addr × Nat × Nat × Sg) ⟨by rw [er]; exact ho22, by rw [er, List.length_append, List.length_singleton]; dsimp only; omega, by omega⟩ (by dsimp only; omega)
 ·refine Tr.cond_f Z h1<|Zx<|Zy<|Zy<|Zi<|Zg<|Zs<|Zr<|Zm Z<|Za Z<|Ze<|Zg<|Zu<|Ex.keep [0]<|?_
  obtain rfl : i1 = l.length := by omega
  rw [List.take_length] at how hn
  subst hn
  exact Ex.ret1 rfl rfl  ⟨rfl, q1, how, rfl⟩

theorem same27_c {V : Vw} {H : Hp} {l : List Pr} {p p2 : Option Addr} {c c2 : Nat} (hv : Rd V H 5 (.slice p l.length c) l.length (l.flatMap Pr.cells)) (hw : Rd V H 5 (.slice p2 l.length c2) l.length (l.flatMap Pr.cells)) (hlm : l.length ≤ 1000000000)  : Does Try.prog 15 [.slice p l.length c, .slice p2 l.length c2] V H (Pv (.bool true) V H) := by
 refine Does.intro Try.func15 rfl rfl (le rfl) (fun B => ?_)
 refine Zs<|Zr<|Za Z<|Ze<|Zg<|Zs<|Zs<|Zr<|Zm Z<|Zv (Y.lenSl Z Audit2_es22)<|Zm Z<|Zv (Y.lenSl Z Audit2_es22)<|Zv (Y.neI_f Z Z)<|Ze<|Zg<|Tr.cond_f Z Z<|?_
 refine Zt<|Zg<|Zs<|Zs<|Zr<|Za Z<|Ze<|Zg<|Zb<|?_
 refine ZL (X := Nat) (fun z0 => V) (fun z0 => H) (fun z0 => [(0, .slice p l.length c), (1, .slice p2 l.length c2), (5, .int .i64 (z0 : Int))]) (fun z0 => z0 ≤ l.length) (fun z0 => l.length - z0) (0 : Nat) (Nat.zero_le _) ?_
 rintro i1 hi
 refine Zs<|Zs<|Zr<|Zm Z<|Zm Z<|Zv (Y.lenSl Z Audit2_es22)<|Zv (Y.int Z Z Z)<|Ze<|Zg<|?_
 rcases Zsplit (decide ((i1 : Int) < ((l.length : Nat) : Int))) with ⟨h1, g1⟩ | ⟨h1, g1⟩ <;> try simp only [kb] at g1
 ·refine Tr.cond_t Z h1<|Zt<|Zg<|Zs<|Zb<|Zs<|Tr.quiet Audit2_mo WK<|ZM Z<|ZM Z<|ZV (Y.idxR i1 Z Z Audit2_es22 hv W W)<|ZV (Y.ldRA (vs := [.int .i64 ((l.getD i1 Pr.dflt).srv), .int .u32 ((l.getD i1 Pr.dflt).addr), .string ((l.getD i1 Pr.dflt).client), .int .i64 ((l.getD i1 Pr.dflt).from_), .int .i64 ((l.getD i1 Pr.dflt).till)]) rfl Audit2_ag34 hv rfl WD (fun o ho => flatm_atA Pr.len W Pr.dflt o ho))<|?_
  refine ZM Z<|ZM Z<|ZV (Y.idxR i1 Z Z Audit2_es22 hw W W)<|ZV (Y.ldRA (vs := [.int .i64 ((l.getD i1 Pr.dflt).srv), .int .u32 ((l.getD i1 Pr.dflt).addr), .string ((l.getD i1 Pr.dflt).client), .int .i64 ((l.getD i1 Pr.dflt).from_), .int .i64 ((l.getD i1 Pr.dflt).till)]) rfl Audit2_ag34 hw rfl WD (fun o ho => flatm_atA Pr.len W Pr.dflt o ho))<|ZV (Y.neS_self Z Z Audit2_tgs34 Z)<|ZE<|Zg<|?_
  refine Tr.cond_f Z Z<|Zt<|Zc<|Zg<|Zr<|Zm Z<|Zv (Y.add Z Z W)<|Za Z<|Ze<|?_
  exact ZR (i1 + 1 : Nat) W W
 ·refine Tr.cond_f Z h1<|Zx<|Zy<|Zy<|Zi<|Zg<|Zs<|Zr<|Za Z<|Ze<|Zg<|Zu<|?_
  exact Ex.ret1 rfl rfl  ⟨rfl, rfl, rfl⟩

theorem same27_h {V : Vw} {H : Hp} {l : List Pr} {v w : Value} (hv : Rd V H 5 v l.length (l.flatMap Pr.cells)) (hw : Rd V H 5 w l.length (l.flatMap Pr.cells)) (hlm : l.length ≤ 1000000000) : Does Try.prog 15 [v, w] V H (Pv (.bool true) V H) := by
  obtain ⟨p, c, rfl, _⟩ := hv.form
  obtain ⟨p2, c2, rfl, _⟩ := hw.form
  exact same27_c hv hw hlm

theorem few_c {V : Vw} {l : List Pr} {p : Option Addr} {c : Nat} (hv : Rd V [] 5 (.slice p l.length c) l.length (l.flatMap Pr.cells)) (hl : l.length ≤ 9223372036854775807)  : Does Try.prog 8 [.slice p l.length c] V [] (fun v V' H' => V' = V ∧ H' = [] ∧ ∃ b, v = .bool b ∧ (b = true → l.length ≤ 60)) := by
 refine Does.intro Try.func8 rfl rfl (le rfl) (fun B => ?_)
 refine Zs<|Zr<|Za Z<|Ze<|Zg<|Zs<|Zs<|Zr<|Za Z<|Ze<|Zg<|Zb<|?_
 refine ZL (X := Nat) (fun z0 => V) (fun z0 => []) (fun z0 => [(0, .slice p l.length c), (3, .int .i64 (z0 : Int))]) (fun z0 => z0 ≤ l.length) (fun z0 => l.length - z0) (0 : Nat) (Nat.zero_le _) ?_
 rintro i1 hi
 refine Zs<|Zs<|Zr<|Zm Z<|Zm Z<|Zv (Y.lenSl Z Audit2_es22)<|Zv (Y.int Z Z Z)<|Ze<|Zg<|?_
 rcases Zsplit (decide ((i1 : Int) < ((l.length : Nat) : Int))) with ⟨h1, g1⟩ | ⟨h1, g1⟩ <;> try simp only [kb] at g1
 ·refine Tr.cond_t Z h1<|Zt<|Zg<|Zs<|Zb<|Zs<|Zr<|Zm Z<|Zm Z<|Zv (Y.idxR i1 Z Z Audit2_es22 hv.of_nil W W)<|Zv (Y.fieldR Z Audit2_fo34_2 hv.of_nil W)<|Zv (Y.ldR Z Audit2_ts9 hv.of_nil (flatm_at Pr.len W Pr.dflt WD rfl))<|Zv (Y.lenStr Z Audit2_st9)<|Zv (Y.int Z Z Z)<|Ze<|Zg<|?_
  rcases Zsplit (decide ((((l.getD i1 Pr.dflt).client).size : Int) > 100)) with ⟨h2, g2⟩ | ⟨h2, g2⟩ <;> try simp only [kb] at g2
  ·refine Tr.cond_t Z h2<|Zs<|Zr<|Za Z<|Ze<|Zg<|Zu<|Zk<|Zn<|Zn<|Zk<|Zn<|Ex.keep []<|?_
   exact Ex.ret1 rfl rfl  ⟨rfl, rfl, false, rfl, fun h => by cases h⟩
  ·refine Tr.cond_f Z h2<|Zt<|Zc<|Zg<|Zr<|Zm Z<|Zv (Y.add Z Z W)<|Za Z<|Ze<|?_
   exact ZR (i1 + 1 : Nat) W W
 ·refine Tr.cond_f Z h1<|Zx<|Zy<|Zy<|Zi<|Zg<|Zs<|Zr<|Zm Z<|Zv (Y.lenSl Z Audit2_es22)<|Zv (Y.int Z Z Z)<|Za Z<|Ze<|Zg<|Zu<|Ex.keep []<|?_
  exact Ex.ret1 rfl rfl  ⟨rfl, rfl, _, rfl, fun h => by have := of_decide_eq_true h; omega⟩
end Go.Proofs.Ytdmelfpdillddaa
