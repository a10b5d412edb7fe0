/- The document's Spans, walked.
Conditions: as each theorem names them. -/
import Derived.Test.YtdmelfpdillddaaProg
import Derived.Test.YtdmelfpdillddaaSpans
import Derived.Test.YtdmelfpdillddaaKI
import Derived.Test.YtdmelfpdillddaaZG
set_option linter.unusedSimpArgs false
set_option linter.unusedVariables false
set_option maxRecDepth 4000
namespace Go.Proofs.Ytdmelfpdillddaa
open Go Go.K
attribute [local irreducible] Code.wp wpList Calls wpQuiet
theorem Spans2_es22 : elemS Try.prog 22 = some (34, 5) := by kernel_rfl
theorem Spans2_fo34_1 : fieldOff Try.prog 34 1 = some 1 := by kernel_rfl
theorem Spans2_ts24 : scal Try.prog 24 = true := by kernel_rfl
theorem Spans2_fo34_2 : fieldOff Try.prog 34 2 = some 2 := by kernel_rfl
theorem Spans2_ts9 : scal Try.prog 9 = true := by kernel_rfl
theorem Spans2_ag34 : aggsz Try.prog 34 = some 5 := by kernel_rfl
theorem Spans2_fo34_4 : fieldOff Try.prog 34 4 = some 4 := by kernel_rfl
theorem Spans2_ts3 : scal Try.prog 3 = true := by kernel_rfl
theorem Spans2_fo34_3 : fieldOff Try.prog 34 3 = some 3 := by kernel_rfl
theorem Spans2_zo35 : zeroOf Try.prog 35 = some (.agg #[.int .i64 0, .int .i64 0]) := by kernel_rfl
theorem Spans2_ea35 : elemA Try.prog 35 = some 1 := by kernel_rfl
theorem Spans2_es28 : elemS Try.prog 28 = some (35, 2) := by kernel_rfl
theorem Spans2_zi35 : zeroInfo Try.prog 35 = some (2, 16, .agg #[.int .i64 0, .int .i64 0]) := by kernel_rfl
theorem Spans2_mo : Try.prog.follows .mixedOrders = true := by kernel_rfl
theorem Spans2_ag35 : aggsz Try.prog 35 = some 2 := by kernel_rfl
theorem Spans2_ar35 : arrE Try.prog 35 = some [(0, .i64), (0, .i64)] := by kernel_rfl

set_option maxHeartbeats 1000000 in
theorem rspans_top {V : Vw} {l : List Pr} {p : Option Addr} {c : Nat} (hv : Rd V [] 5 (.slice p l.length c) l.length (l.flatMap Pr.cells)) (hl : l.length ≤ 60) {a : Int} {cl : ByteArray}  : Does Try.prog 11 [.slice p l.length c, .int .u32 a, .string cl] V [] (fun v V' H' => V' = V ∧ ∃ q, Ow 35 2 v (Pr.spans a cl l).length ((Pr.spans a cl l).flatMap Rg.sp2) q ∧ H' = [q]) := by
 refine Does.intro Try.func11 rfl rfl (le rfl) (fun B => ?_)
 refine Zs<|Zr<|Za Z<|Ze<|Zg<|Zs<|Zr<|Run.nilseg<|Za Z<|Ze<|Zg<|Zs<|Zr<|Za Z<|Ze<|Zg<|?_
 refine Zs<|Zb<|?_
 refine ZL (X := Int × List Rg × Option Addr × Nat × Nat × Sg) (fun z0 => V) (fun z0 => [z0.2.2.2.2.2]) (fun z0 => [(0, .slice p l.length c), (1, .int .u32 a), (2, .string cl), (7, .slice z0.2.2.1 z0.2.2.2.1 z0.2.2.2.2.1), (8, .int .i64 z0.1)]) (fun z0 => Pr.Told (Pr.mine a cl l) z0.2.1 z0.1 ∧ Ow 35 2 (.slice z0.2.2.1 z0.2.2.2.1 z0.2.2.2.2.1) z0.2.2.2.1 (z0.2.1.flatMap Rg.sp2) z0.2.2.2.2.2 ∧ z0.2.2.2.1 = z0.2.1.length ∧ z0.2.1.length + Pr.later l a cl z0.1 ≤ 60 ∧ (-1 ≤ z0.1 ∧ z0.1 ≤ 1099511627776)) (fun z0 => Pr.later l a cl z0.1) (⟨(-1), [], none, 0, 0, []⟩ : Int × List Rg × Option Addr × Nat × Nat × Sg) ⟨Pr.told_nil fun r hr => (Pr.mine_ok hr).2.1, Ow.nil _ _, rfl, by have := Pr.later_all l a cl (-1); simp only [List.length_nil]; omega, by decide⟩ ?_
 rintro ⟨f1, o, p1, n1, k1, q1⟩ ⟨ht, how, hn, hk, hfb⟩
 try dsimp only at ht how hn hk hfb ⊢
 refine Zs<|Zs<|Zr<|Zm Z<|Zv (Y.int Z Z Z)<|Ze<|Zg<|?_
 rcases Zsplit (f1 != (-2)) with ⟨h1, g1⟩ | ⟨h1, g1⟩ <;> try simp only [kb] at g1
 ·refine Tr.cond_t Z h1<|Zt<|Zg<|Zb<|Zs<|Zr<|Za Z<|Ze<|Zg<|Zs<|Zs<|Zr<|Za Z<|Ze<|Zg<|Zb<|?_
  refine ZL (X := Nat × Int) (fun z0 => V) (fun z0 => [q1]) (fun z0 => [(0, .slice p l.length c), (1, .int .u32 a), (2, .string cl), (7, .slice p1 n1 k1), (8, .int .i64 f1), (9, .int .i64 z0.2), (10, .int .i64 (z0.1 : Int))]) (fun z0 => Pr.Nxt (Pr.mine a cl (l.take z0.1)) f1 z0.2 ∧ z0.1 ≤ l.length) (fun z0 => l.length - z0.1) (⟨0, (-2)⟩ : Nat × Int) ⟨Pr.nxt_nil f1, Nat.zero_le _⟩ ?_
  rintro ⟨i1, x1⟩ ⟨hx, hi⟩
  try dsimp only at hx hi ⊢
  refine Zs<|Zs<|Zr<|Zm Z<|Zm Z<|Zv (Y.lenSl Z Spans2_es22)<|Zv (Y.int Z Z Z)<|Ze<|Zg<|?_
  rcases Zsplit (decide ((i1 : Int) < ((l.length : Nat) : Int))) with ⟨h2, g2⟩ | ⟨h2, g2⟩ <;> try simp only [kb] at g2
  ·refine Tr.cond_t Z h2<|Zt<|Zg<|Zs<|Zb<|Zs<|Zr<|Zm Z<|Zm Z<|Zv (Y.idxR i1 Z Z Spans2_es22 hv.of_nil W W)<|Zv (Y.fieldR Z Spans2_fo34_1 hv.of_nil W)<|Zv (Y.ldR Z Spans2_ts24 hv.of_nil (flatm_at Pr.len W Pr.dflt WD rfl))<|Zm Z<|Zv (Y.int Z Z Z)<|Zm Z<|?_
   rcases Zsplit (((l.getD i1 Pr.dflt).addr) == a) with ⟨h3, g3⟩ | ⟨h3, g3⟩ <;> try simp only [kb] at g3
   ·refine Zp h3<|Zm Z<|Zp h3<|Zm Z<|Zp h3<|Zv (Y.idxR i1 Z Z Spans2_es22 hv.of_nil W W)<|Zp h3<|Zv (Y.fieldR Z Spans2_fo34_2 hv.of_nil W)<|Zp h3<|Zv (Y.ldR Z Spans2_ts9 hv.of_nil (flatm_at Pr.len W Pr.dflt WD rfl))<|Zp h3<|Zm Z<|Zp h3<|Zv (Y.eqStr Z Z)<|Zv (Y.pick_t Z h3 Z)<|Zm Z<|?_
    rcases Zsplit (((l.getD i1 Pr.dflt).client).toList == cl.toList) with ⟨h4, g4⟩ | ⟨h4, g4⟩ <;> try simp only [kb] at g4
    ·refine Zp h4<|Zm Z<|Zp h4<|Zm Z<|Zp h4<|Zv (Y.idxR i1 Z Z Spans2_es22 hv.of_nil W W)<|Zp h4<|Zv (Y.ldRA (vs := [.int .i64 ((l.getD i1 Pr.dflt).srv), .int .u32 ((l.getD i1 Pr.dflt).addr), .string ((l.getD i1 Pr.dflt).client), .int .i64 ((l.getD i1 Pr.dflt).from_), .int .i64 ((l.getD i1 Pr.dflt).till)]) rfl Spans2_ag34 hv.of_nil rfl WD (fun o ho => flatm_atA Pr.len W Pr.dflt o ho))<|Zp h4<|?_
     refine Run.call0 (l := [.tmp 42]) Z Z Z (lt Z) (rright_c_h Z)<|Zv (Y.pick_t Z h4 Z)<|Zm Z<|?_
     rcases Zsplit (Pr.right (l.getD i1 Pr.dflt)) with ⟨h5, g5⟩ | ⟨h5, g5⟩ <;> try simp only [kb] at g5
     ·refine Zp h5<|Zm Z<|Zp h5<|Zm Z<|Zp h5<|Zv (Y.idxR i1 Z Z Spans2_es22 hv.of_nil W W)<|Zp h5<|Zv (Y.fieldR Z Spans2_fo34_4 hv.of_nil W)<|Zp h5<|Zv (Y.ldR Z Spans2_ts3 hv.of_nil (flatm_at Pr.len W Pr.dflt WD rfl))<|Zp h5<|Zm Z<|Zp h5<|Zv (Y.int Z Z Z)<|Zv (Y.pick_t Z h5 Z)<|Zm Z<|?_
      rcases Zsplit (decide (((l.getD i1 Pr.dflt).till) > f1)) with ⟨h6, g6⟩ | ⟨h6, g6⟩ <;> try simp only [kb] at g6
      ·refine Zp h6<|Zm Z<|Zp h6<|Zv (Y.int Z Z Z)<|Zp h6<|Zm Z<|?_
       rcases Zsplit (x1 == (-2)) with ⟨h7, g7⟩ | ⟨h7, g7⟩ <;> try simp only [kb] at g7
       ·refine Zo h7 Z<|Zo h7 Z<|Zo h7 Z<|Zo h7 Z<|Zo h7 Z<|Zo h7 Z<|Zo h7 Z<|Zp h6<|Zv (Y.pick_t Z h7 Z)<|Zv (Y.pick_t Z h6 Z)<|Ze<|Zg<|Tr.cond_t Z Z<|Zr<|Zm Z<|Zm Z<|?_
        refine Zv (Y.idxR i1 Z Z Spans2_es22 hv.of_nil W W)<|Zv (Y.fieldR Z Spans2_fo34_3 hv.of_nil W)<|Zv (Y.ldR Z Spans2_ts3 hv.of_nil (flatm_at Pr.len W Pr.dflt WD rfl))<|Za Z<|Ze<|Zc<|Zg<|Zr<|Zm Z<|Zv (Y.add Z Z W)<|Za Z<|Ze<|Ex.keep [0]<|?_
        exact ZR (⟨i1 + 1, (l.getD i1 Pr.dflt).from_⟩ : Nat × Int) ⟨Pr.nxt_yes W hx (show Pr.ec a cl (l.getD i1 Pr.dflt) = true by unfold Pr.ec; simp_all) W W, by omega⟩ (by dsimp only; omega)
       ·refine Zp h7<|Zm Z<|Zp h7<|Zm Z<|Zp h7<|Zv (Y.idxR i1 Z Z Spans2_es22 hv.of_nil W W)<|Zp h7<|Zv (Y.fieldR Z Spans2_fo34_3 hv.of_nil W)<|Zp h7<|Zv (Y.ldR Z Spans2_ts3 hv.of_nil (flatm_at Pr.len W Pr.dflt WD rfl))<|Zp h7<|Zm Z<|Zp h7<|Zv (Y.int Z Z Z)<|Zp h6<|Zv (Y.pick_f Z h7 Z)<|?_
        refine Zv (Y.pick_t Z h6 Z)<|Ze<|Zg<|?_
        rcases Zsplit (decide (((l.getD i1 Pr.dflt).from_) < x1)) with ⟨h8, g8⟩ | ⟨h8, g8⟩ <;> try simp only [kb] at g8
        ·refine Tr.cond_t Z h8<|Zr<|Zm Z<|Zm Z<|Zv (Y.idxR i1 Z Z Spans2_es22 hv.of_nil W W)<|Zv (Y.fieldR Z Spans2_fo34_3 hv.of_nil W)<|Zv (Y.ldR Z Spans2_ts3 hv.of_nil (flatm_at Pr.len W Pr.dflt WD rfl))<|Za Z<|Ze<|Zc<|Zg<|Zr<|Zm Z<|Zv (Y.add Z Z W)<|Za Z<|Ze<|?_
         refine Ex.keep [0] ?_
         exact ZR (⟨i1 + 1, (l.getD i1 Pr.dflt).from_⟩ : Nat × Int) ⟨Pr.nxt_yes W hx (show Pr.ec a cl (l.getD i1 Pr.dflt) = true by unfold Pr.ec; simp_all) W W, by omega⟩ (by dsimp only; omega)
        ·refine Tr.cond_f Z h8<|Zt<|Zc<|Zg<|Zr<|Zm Z<|Zv (Y.add Z Z W)<|Za Z<|Ze<|Ex.keep [0]<|?_
         exact ZR (⟨i1 + 1, x1⟩ : Nat × Int) ⟨Pr.nxt_no W hx (.inr (.inr ⟨by omega, by omega⟩)), by omega⟩ (by dsimp only; omega)
      ·refine Zo h6 Z<|Zo h6 Z<|Zo h6 Z<|Run.off_u Z Z Z Z (lt Z)<|Run.off_u Z Z Z Z (lt Z)<|Run.off_u Z Z Z Z (lt Z)<|Run.off_u Z Z Z Z (lt Z)<|Run.off_u Z Z Z Z (lt Z)<|Run.off_u Z Z Z Z (lt Z)<|Run.off_u Z Z Z Z (lt Z)<|Zo h6 Z<|Zv (Y.pick_f Z h6 Z)<|Ze<|Zg<|Tr.cond_f Z Z<|Zt<|?_
       refine Zc<|Zg<|Zr<|Zm Z<|Zv (Y.add Z Z W)<|Za Z<|Ze<|Ex.keep [0]<|?_
       exact ZR (⟨i1 + 1, x1⟩ : Nat × Int) ⟨Pr.nxt_no W hx (.inr (.inl W)), by omega⟩ (by dsimp only; omega)
     ·refine Zo h5 Z<|Zo h5 Z<|Zo h5 Z<|Zo h5 Z<|Zo h5 Z<|Zo h5 Z<|Zo h5 Z<|Zv (Y.pick_f Z h5 Z)<|Zm Z<|Zo Z Z<|Zo Z Z<|Zo Z Z<|Run.off_u Z Z Z Z (lt Z)<|Run.off_u Z Z Z Z (lt Z)<|Run.off_u Z Z Z Z (lt Z)<|Run.off_u Z Z Z Z (lt Z)<|?_
      refine Run.off_u Z Z Z Z (lt Z)<|Run.off_u Z Z Z Z (lt Z)<|Run.off_u Z Z Z Z (lt Z)<|Zo Z Z<|Zv (Y.pick_f Z Z Z)<|Ze<|Zg<|Tr.cond_f Z Z<|Zt<|Zc<|Zg<|Zr<|Zm Z<|Zv (Y.add Z Z W)<|Za Z<|Ze<|?_
      refine Ex.keep [0] ?_
      exact ZR (⟨i1 + 1, x1⟩ : Nat × Int) ⟨Pr.nxt_no W hx (.inl (show Pr.ec a cl (l.getD i1 Pr.dflt) = false by unfold Pr.ec; simp_all)), by omega⟩ (by dsimp only; omega)
    ·refine Zo h4 Z<|Zo h4 Z<|Zo h4 Z<|Zo h4 Z<|Zo h4 Z<|Zv (Y.pick_f Z h4 Z)<|Zm Z<|Zo Z Z<|Zo Z Z<|Zo Z Z<|Zo Z Z<|Zo Z Z<|Zo Z Z<|Zo Z Z<|Zv (Y.pick_f Z Z Z)<|Zm Z<|?_
     refine Zo Z Z<|Zo Z Z<|Zo Z Z<|Run.off_u Z Z Z Z (lt Z)<|Run.off_u Z Z Z Z (lt Z)<|Run.off_u Z Z Z Z (lt Z)<|Run.off_u Z Z Z Z (lt Z)<|Run.off_u Z Z Z Z (lt Z)<|Run.off_u Z Z Z Z (lt Z)<|Run.off_u Z Z Z Z (lt Z)<|Zo Z Z<|Zv (Y.pick_f Z Z Z)<|Ze<|Zg<|Tr.cond_f Z Z<|Zt<|?_
     refine Zc<|Zg<|Zr<|Zm Z<|Zv (Y.add Z Z W)<|Za Z<|Ze<|Ex.keep [0]<|?_
     exact ZR (⟨i1 + 1, x1⟩ : Nat × Int) ⟨Pr.nxt_no W hx (.inl (show Pr.ec a cl (l.getD i1 Pr.dflt) = false by unfold Pr.ec; simp_all)), by omega⟩ (by dsimp only; omega)
   ·refine Zo h3 Z<|Zo h3 Z<|Zo h3 Z<|Zo h3 Z<|Zo h3 Z<|Zo h3 Z<|Zo h3 Z<|Zv (Y.pick_f Z h3 Z)<|Zm Z<|Zo Z Z<|Zo Z Z<|Zo Z Z<|Zo Z Z<|Zo Z Z<|Zv (Y.pick_f Z Z Z)<|Zm Z<|?_
    refine Zo Z Z<|Zo Z Z<|Zo Z Z<|Zo Z Z<|Zo Z Z<|Zo Z Z<|Zo Z Z<|Zv (Y.pick_f Z Z Z)<|Zm Z<|Zo Z Z<|Zo Z Z<|Zo Z Z<|Run.off_u Z Z Z Z (lt Z)<|Run.off_u Z Z Z Z (lt Z)<|Run.off_u Z Z Z Z (lt Z)<|Run.off_u Z Z Z Z (lt Z)<|?_
    refine Run.off_u Z Z Z Z (lt Z)<|Run.off_u Z Z Z Z (lt Z)<|Run.off_u Z Z Z Z (lt Z)<|Zo Z Z<|Zv (Y.pick_f Z Z Z)<|Ze<|Zg<|Tr.cond_f Z Z<|Zt<|Zc<|Zg<|Zr<|Zm Z<|Zv (Y.add Z Z W)<|Za Z<|Ze<|?_
    refine Ex.keep [0] ?_
    exact ZR (⟨i1 + 1, x1⟩ : Nat × Int) ⟨Pr.nxt_no W hx (.inl (show Pr.ec a cl (l.getD i1 Pr.dflt) = false by unfold Pr.ec; simp_all)), by omega⟩ (by dsimp only; omega)
  ·refine Tr.cond_f Z h2<|Zx<|Zy<|Zy<|Zi<|Zg<|Zs<|Zs<|Zr<|?_
   obtain rfl : i1 = l.length := by omega
   rw [List.take_length] at hx
   refine Zm Z<|Zv (Y.int Z Z Z)<|Ze<|Zg<|?_
   rcases Zsplit (x1 == (-2)) with ⟨h9, g9⟩ | ⟨h9, g9⟩ <;> try simp only [kb] at g9
   ·refine Tr.cond_t Z h9<|Zs<|Zr<|Zm Z<|Za Z<|Ze<|Zg<|Zu<|Zn<|Zk<|Zn<|Zk<|Zn<|Ex.keep [0]<|?_
    exact Ex.ret1 rfl rfl  ⟨rfl, q1, by rw [← Pr.told_all ht hx W, ← hn]; exact how, rfl⟩
   ·refine Tr.cond_f Z h9<|Zt<|Zg<|Zs<|Zr<|Zm Z<|Za Z<|Ze<|Zg<|Zs<|Zs<|Zr<|Za Z<|Ze<|Zg<|Zb<|?_
    refine ZL (X := Bool × Int) (fun z0 => V) (fun z0 => [q1]) (fun z0 => [(0, .slice p l.length c), (1, .int .u32 a), (2, .string cl), (7, .slice p1 n1 k1), (8, .int .i64 f1), (9, .int .i64 x1), (11, .int .i64 z0.2), (12, .bool z0.1)]) (fun z0 => Pr.Grown (Pr.mine a cl l) x1 z0.2 ∧ (z0.1 = false → Pr.Full (Pr.mine a cl l) z0.2)) (fun z0 => 2 * Pr.later l a cl z0.2 + z0.1.toNat) (⟨true, x1⟩ : Bool × Int) ⟨Pr.nxt_grown hx W, fun z => by cases z⟩ ?_
    rintro ⟨gw, t1⟩ ⟨hgr, hg1⟩
    try dsimp only at hgr hg1 ⊢
    have htb := Pr.grown_bd hgr (Pr.mine_tm a cl l)
    refine Zs<|Zs<|Zr<|Zm Z<|Ze<|Zg<|?_
    rcases Zsplit (gw) with ⟨h10, g10⟩ | ⟨h10, g10⟩ <;> try simp only [kb] at g10
    ·refine Tr.cond_t Z h10<|Zt<|Zg<|Zb<|Zs<|Zr<|Za Z<|Ze<|Zg<|Zs<|Zr<|Za Z<|Ze<|Zg<|Zb<|?_
     refine ZL (X := Nat × Bool × Int) (fun z0 => V) (fun z0 => [q1]) (fun z0 => [(0, .slice p l.length c), (1, .int .u32 a), (2, .string cl), (7, .slice p1 n1 k1), (8, .int .i64 f1), (9, .int .i64 x1), (11, .int .i64 z0.2.2), (12, .bool z0.2.1), (13, .int .i64 (z0.1 : Int))]) (fun z0 => Pr.Grown (Pr.mine a cl l) x1 z0.2.2 ∧ (z0.2.1 = false ∧ z0.2.2 = t1 ∧ Pr.Full (Pr.mine a cl (l.take z0.1)) t1 ∨ z0.2.1 = true ∧ Pr.later l a cl z0.2.2 < Pr.later l a cl t1) ∧ z0.1 ≤ l.length) (fun z0 => l.length - z0.1) (⟨0, false, t1⟩ : Nat × Bool × Int) ⟨hgr, .inl ⟨rfl, rfl, Pr.full_nil t1⟩, Nat.zero_le _⟩ ?_
     rintro ⟨i2, gx, t2⟩ ⟨hgr2, hg2, hi2⟩
     try dsimp only at hgr2 hg2 hi2 ⊢
     have htb2 := Pr.grown_bd hgr2 (Pr.mine_tm a cl l)
     refine Zs<|Zs<|Zr<|Zm Z<|Zm Z<|Zv (Y.lenSl Z Spans2_es22)<|Zv (Y.int Z Z Z)<|Ze<|Zg<|?_
     rcases Zsplit (decide ((i2 : Int) < ((l.length : Nat) : Int))) with ⟨h11, g11⟩ | ⟨h11, g11⟩ <;> try simp only [kb] at g11
     ·refine Tr.cond_t Z h11<|Zt<|Zg<|Zs<|Zb<|Zs<|Zr<|Zm Z<|Zm Z<|Zv (Y.idxR i2 Z Z Spans2_es22 hv.of_nil W W)<|Zv (Y.fieldR Z Spans2_fo34_1 hv.of_nil W)<|Zv (Y.ldR Z Spans2_ts24 hv.of_nil (flatm_at Pr.len W Pr.dflt WD rfl))<|Zm Z<|Zv (Y.int Z Z Z)<|Zm Z<|?_
      rcases Zsplit (((l.getD i2 Pr.dflt).addr) == a) with ⟨h12, g12⟩ | ⟨h12, g12⟩ <;> try simp only [kb] at g12
      ·refine Zp h12<|Zm Z<|Zp h12<|Zm Z<|Zp h12<|Zv (Y.idxR i2 Z Z Spans2_es22 hv.of_nil W W)<|Zp h12<|Zv (Y.fieldR Z Spans2_fo34_2 hv.of_nil W)<|Zp h12<|Zv (Y.ldR Z Spans2_ts9 hv.of_nil (flatm_at Pr.len W Pr.dflt WD rfl))<|Zp h12<|Zm Z<|Zp h12<|Zv (Y.eqStr Z Z)<|Zv (Y.pick_t Z h12 Z)<|Zm Z<|?_
       rcases Zsplit (((l.getD i2 Pr.dflt).client).toList == cl.toList) with ⟨h13, g13⟩ | ⟨h13, g13⟩ <;> try simp only [kb] at g13
       ·refine Zp h13<|Zm Z<|Zp h13<|Zm Z<|Zp h13<|Zv (Y.idxR i2 Z Z Spans2_es22 hv.of_nil W W)<|Zp h13<|Zv (Y.ldRA (vs := [.int .i64 ((l.getD i2 Pr.dflt).srv), .int .u32 ((l.getD i2 Pr.dflt).addr), .string ((l.getD i2 Pr.dflt).client), .int .i64 ((l.getD i2 Pr.dflt).from_), .int .i64 ((l.getD i2 Pr.dflt).till)]) rfl Spans2_ag34 hv.of_nil rfl WD (fun o ho => flatm_atA Pr.len W Pr.dflt o ho))<|?_
        refine Zp h13<|Run.call0 (l := [.tmp 103]) Z Z Z (lt Z) (rright_c_h Z)<|Zv (Y.pick_t Z h13 Z)<|Zm Z<|?_
        rcases Zsplit (Pr.right (l.getD i2 Pr.dflt)) with ⟨h14, g14⟩ | ⟨h14, g14⟩ <;> try simp only [kb] at g14
        ·refine Zp h14<|Zm Z<|Zp h14<|Zm Z<|Zp h14<|Zv (Y.idxR i2 Z Z Spans2_es22 hv.of_nil W W)<|Zp h14<|Zv (Y.fieldR Z Spans2_fo34_3 hv.of_nil W)<|Zp h14<|Zv (Y.ldR Z Spans2_ts3 hv.of_nil (flatm_at Pr.len W Pr.dflt WD rfl))<|Zp h14<|Zm Z<|Zp h14<|Zv (Y.add Z Z W)<|Zp h14<|Zv (Y.int Z Z Z)<|?_
         refine Zv (Y.pick_t Z h14 Z)<|Zm Z<|?_
         rcases Zsplit (decide (((l.getD i2 Pr.dflt).from_) ≤ (t2 + 1))) with ⟨h15, g15⟩ | ⟨h15, g15⟩ <;> try simp only [kb] at g15
         ·refine Zp h15<|Zm Z<|Zp h15<|Zm Z<|Zp h15<|Zv (Y.idxR i2 Z Z Spans2_es22 hv.of_nil W W)<|Zp h15<|Zv (Y.fieldR Z Spans2_fo34_4 hv.of_nil W)<|Zp h15<|Zv (Y.ldR Z Spans2_ts3 hv.of_nil (flatm_at Pr.len W Pr.dflt WD rfl))<|Zp h15<|Zm Z<|Zp h15<|Zv (Y.int Z Z Z)<|Zv (Y.pick_t Z h15 Z)<|Ze<|?_
          refine Zg ?_
          rcases Zsplit (decide (((l.getD i2 Pr.dflt).till) > t2)) with ⟨h16, g16⟩ | ⟨h16, g16⟩ <;> try simp only [kb] at g16
          ·refine Tr.cond_t Z h16<|Zs<|Zr<|Zm Z<|Zm Z<|Zv (Y.idxR i2 Z Z Spans2_es22 hv.of_nil W W)<|Zv (Y.fieldR Z Spans2_fo34_4 hv.of_nil W)<|Zv (Y.ldR Z Spans2_ts3 hv.of_nil (flatm_at Pr.len W Pr.dflt WD rfl))<|Za Z<|Ze<|Zg<|Zr<|Za Z<|Ze<|Zc<|Zg<|?_
           refine Zr<|Zm Z<|Zv (Y.add Z Z W)<|Za Z<|Ze<|Ex.keep [0]<|?_
           exact ZR (⟨i2 + 1, true, (l.getD i2 Pr.dflt).till⟩ : Nat × Bool × Int) ⟨Pr.grow_in W hgr2 (show Pr.ec a cl (l.getD i2 Pr.dflt) = true by unfold Pr.ec; simp_all) W W, .inr ⟨rfl, Pr.later_step hg2 (Pr.later_in W (show Pr.ec a cl (l.getD i2 Pr.dflt) = true by unfold Pr.ec; simp_all) W)⟩, by omega⟩ (by dsimp only; omega)
          ·refine Tr.cond_f Z h16<|Zt<|Zc<|Zg<|Zr<|Zm Z<|Zv (Y.add Z Z W)<|Za Z<|Ze<|Ex.keep [0]<|?_
           exact ZR (⟨i2 + 1, gx, t2⟩ : Nat × Bool × Int) ⟨hgr2, hg2.imp (fun ⟨z, y, x⟩ => ⟨z, y, Pr.full_no W x (by rw [← y]; exact (.inr (.inr W)))⟩) id, by omega⟩ (by dsimp only; omega)
         ·refine Zo h15 Z<|Zo h15 Z<|Zo h15 Z<|Zo h15 Z<|Zo h15 Z<|Zo h15 Z<|Zo h15 Z<|Zv (Y.pick_f Z h15 Z)<|Ze<|Zg<|Tr.cond_f Z Z<|Zt<|Zc<|Zg<|Zr<|Zm Z<|?_
          refine Zv (Y.add Z Z W)<|Za Z<|Ze<|Ex.keep [0]<|?_
          exact ZR (⟨i2 + 1, gx, t2⟩ : Nat × Bool × Int) ⟨hgr2, hg2.imp (fun ⟨z, y, x⟩ => ⟨z, y, Pr.full_no W x (by rw [← y]; exact (.inr (.inl W)))⟩) id, by omega⟩ (by dsimp only; omega)
        ·refine Zo h14 Z<|Zo h14 Z<|Zo h14 Z<|Zo h14 Z<|Zo h14 Z<|Zo h14 Z<|Zo h14 Z<|Zo h14 Z<|Zv (Y.pick_f Z h14 Z)<|Zm Z<|Zo Z Z<|Zo Z Z<|Zo Z Z<|Zo Z Z<|Zo Z Z<|Zo Z Z<|?_
         refine Zo Z Z<|Zv (Y.pick_f Z Z Z)<|Ze<|Zg<|Tr.cond_f Z Z<|Zt<|Zc<|Zg<|Zr<|Zm Z<|Zv (Y.add Z Z W)<|Za Z<|Ze<|Ex.keep [0]<|?_
         exact ZR (⟨i2 + 1, gx, t2⟩ : Nat × Bool × Int) ⟨hgr2, hg2.imp (fun ⟨z, y, x⟩ => ⟨z, y, Pr.full_no W x (by rw [← y]; exact (.inl (show Pr.ec a cl (l.getD i2 Pr.dflt) = false by unfold Pr.ec; simp_all)))⟩) id, by omega⟩ (by dsimp only; omega)
       ·refine Zo h13 Z<|Zo h13 Z<|Zo h13 Z<|Zo h13 Z<|Zo h13 Z<|Zv (Y.pick_f Z h13 Z)<|Zm Z<|Zo Z Z<|Zo Z Z<|Zo Z Z<|Zo Z Z<|Zo Z Z<|Zo Z Z<|Zo Z Z<|Zo Z Z<|Zv (Y.pick_f Z Z Z)<|?_
        refine Zm Z<|Zo Z Z<|Zo Z Z<|Zo Z Z<|Zo Z Z<|Zo Z Z<|Zo Z Z<|Zo Z Z<|Zv (Y.pick_f Z Z Z)<|Ze<|Zg<|Tr.cond_f Z Z<|Zt<|Zc<|Zg<|Zr<|?_
        refine Zm Z<|Zv (Y.add Z Z W)<|Za Z<|Ze<|Ex.keep [0]<|?_
        exact ZR (⟨i2 + 1, gx, t2⟩ : Nat × Bool × Int) ⟨hgr2, hg2.imp (fun ⟨z, y, x⟩ => ⟨z, y, Pr.full_no W x (by rw [← y]; exact (.inl (show Pr.ec a cl (l.getD i2 Pr.dflt) = false by unfold Pr.ec; simp_all)))⟩) id, by omega⟩ (by dsimp only; omega)
      ·refine Zo h12 Z<|Zo h12 Z<|Zo h12 Z<|Zo h12 Z<|Zo h12 Z<|Zo h12 Z<|Zo h12 Z<|Zv (Y.pick_f Z h12 Z)<|Zm Z<|Zo Z Z<|Zo Z Z<|Zo Z Z<|Zo Z Z<|Zo Z Z<|Zv (Y.pick_f Z Z Z)<|Zm Z<|?_
       refine Zo Z Z<|Zo Z Z<|Zo Z Z<|Zo Z Z<|Zo Z Z<|Zo Z Z<|Zo Z Z<|Zo Z Z<|Zv (Y.pick_f Z Z Z)<|Zm Z<|Zo Z Z<|Zo Z Z<|Zo Z Z<|Zo Z Z<|Zo Z Z<|Zo Z Z<|?_
       refine Zo Z Z<|Zv (Y.pick_f Z Z Z)<|Ze<|Zg<|Tr.cond_f Z Z<|Zt<|Zc<|Zg<|Zr<|Zm Z<|Zv (Y.add Z Z W)<|Za Z<|Ze<|Ex.keep [0]<|?_
       exact ZR (⟨i2 + 1, gx, t2⟩ : Nat × Bool × Int) ⟨hgr2, hg2.imp (fun ⟨z, y, x⟩ => ⟨z, y, Pr.full_no W x (by rw [← y]; exact (.inl (show Pr.ec a cl (l.getD i2 Pr.dflt) = false by unfold Pr.ec; simp_all)))⟩) id, by omega⟩ (by dsimp only; omega)
     ·refine Tr.cond_f Z h11<|Zx<|Zy<|Zy<|Zi<|Zc<|Ex.keep [0]<|?_
      obtain rfl : i2 = l.length := by omega
      rw [List.take_length] at hg2
      have hme := Pr.meas h10 (hg2.imp (fun ⟨z, y, _⟩ => ⟨z, by rw [y]⟩) (fun z => z.2))
      exact ZR (⟨gx, t2⟩ : Bool × Int) ⟨hgr2, fun z => hg2.elim (fun k => by dsimp only; rw [k.2.1]; exact k.2.2) (fun k => by dsimp only at z; rw [k.1] at z; cases z)⟩ (by dsimp only; exact hme)
    ·refine Tr.cond_f Z h10<|Zx<|Zy<|Zy<|Zi<|Zg<|Zs<|Zr<|Zm Z<|Zm Z<|Zm Z<|Zv (Y.buildA (l := [(0, .tmp 131), (1, .tmp 132)]) Spans2_zo35 Spans2_ea35 Z Z)<|?_
     refine Run.buildSlice (l := [(0, .tmp 133)]) Spans2_es28 Spans2_zo35 rfl WD rfl rfl WD (lt rfl) (fun b17 => ?_)
     refine Run.append (n := n1) (m := 1) (xs := (o).flatMap Rg.sp2) (ys := [.int .i64 x1, .int .i64 t1]) rfl rfl Spans2_es28 Spans2_zi35 WD (j := 1) rfl how (Src.of_rd Spans2_es28 (Rd.one (Kn.at 0 rfl) rfl)) W W rfl (lt rfl) (fun v18 s19 ho20 hf => ?_)
     obtain ⟨p18, c18, rfl⟩ := hf
     replace ho20 := Ow.app1 (f := Rg.sp2) (l := o) (x := (⟨x1, t1⟩ : Rg)) ho20
     refine Za Z<|Ze<|Zg<|Zr<|Zm Z<|Za Z<|Ze<|Zc<|Ex.keep [1]<|?_
     have hfu := hg1 h10
     obtain ⟨ht2, hft⟩ := Pr.told_next ht hx W hgr hfu
     obtain ⟨hl2, hk2⟩ := Pr.later_told hx W hgr hfu hk hft
     exact ZR (⟨t1, o ++ [⟨x1, t1⟩], p18, (n1 + 1), c18, s19⟩ : Int × List Rg × Option Addr × Nat × Nat × Sg) ⟨ht2, ho20, by rw [List.length_append, List.length_singleton]; dsimp only; omega, hk2, by dsimp only; omega⟩ (by dsimp only; exact hl2)
 ·exfalso; omega

theorem rspans_o {V : Vw} {l : List Pr} {v : Value} (hv : Rd V [] 5 v l.length (l.flatMap Pr.cells)) (hl : l.length ≤ 60) {a : Int} {cl : ByteArray} : Does Try.prog 11 [v, .int .u32 a, .string cl] V [] (fun v V' H' => V' = V ∧ ∃ q, Ow 35 2 v (Pr.spans a cl l).length ((Pr.spans a cl l).flatMap Rg.sp2) q ∧ H' = [q]) := by
  obtain ⟨p, c, rfl, _⟩ := hv.form
  exact rspans_top hv hl

theorem samesp_c {V : Vw} {H : Hp} {l : List Rg} {p p2 : Option Addr} {c c2 : Nat} (hv : Rd V H 2 (.slice p l.length c) l.length (l.flatMap Rg.sp2)) (hw : Rd V H 2 (.slice p2 l.length c2) l.length (l.flatMap Rg.sp2)) (hlm : l.length ≤ 1000000000)  : Does Try.prog 9 [.slice p l.length c, .slice p2 l.length c2] V H (Pv (.bool true) V H) := by
 refine Does.intro Try.func9 rfl rfl (le rfl) (fun B => ?_)
 refine Zs<|Zr<|Za Z<|Ze<|Zg<|Zs<|Zs<|Zr<|Zm Z<|Zv (Y.lenSl Z Spans2_es28)<|Zm Z<|Zv (Y.lenSl Z Spans2_es28)<|Zv (Y.neI_f Z Z)<|Ze<|Zg<|Tr.cond_f Z Z<|?_
 refine Zt<|Zg<|Zs<|Zs<|Zr<|Za Z<|Ze<|Zg<|Zb<|?_
 refine ZL (X := Nat) (fun z0 => V) (fun z0 => H) (fun z0 => [(0, .slice p l.length c), (1, .slice p2 l.length c2), (5, .int .i64 (z0 : Int))]) (fun z0 => z0 ≤ l.length) (fun z0 => l.length - z0) (0 : Nat) (Nat.zero_le _) ?_
 rintro i1 hi
 refine Zs<|Zs<|Zr<|Zm Z<|Zm Z<|Zv (Y.lenSl Z Spans2_es28)<|Zv (Y.int Z Z Z)<|Ze<|Zg<|?_
 rcases Zsplit (decide ((i1 : Int) < ((l.length : Nat) : Int))) with ⟨h1, g1⟩ | ⟨h1, g1⟩ <;> try simp only [kb] at g1
 ·refine Tr.cond_t Z h1<|Zt<|Zg<|Zs<|Zb<|Zs<|Tr.quiet Spans2_mo WK<|ZM Z<|ZM Z<|ZV (Y.idxR i1 Z Z Spans2_es28 hv W W)<|ZV (Y.ldRA (vs := [.int .i64 ((l.getD i1 Rg.dflt).low), .int .i64 ((l.getD i1 Rg.dflt).high)]) rfl Spans2_ag35 hv rfl WD (fun o ho => flatm_atA Rg.sp2_len W Rg.dflt o ho))<|ZM Z<|ZM Z<|ZV (Y.idxR i1 Z Z Spans2_es28 hw W W)<|ZV (Y.ldRA (vs := [.int .i64 ((l.getD i1 Rg.dflt).low), .int .i64 ((l.getD i1 Rg.dflt).high)]) rfl Spans2_ag35 hw rfl WD (fun o ho => flatm_atA Rg.sp2_len W Rg.dflt o ho))<|?_
  refine ZV (Y.neAr_self Z Z Spans2_ar35 Z)<|ZE<|Zg<|Tr.cond_f Z Z<|Zt<|Zc<|Zg<|Zr<|Zm Z<|Zv (Y.add Z Z W)<|Za Z<|Ze<|?_
  exact ZR (i1 + 1 : Nat) W W
 ·refine Tr.cond_f Z h1<|Zx<|Zy<|Zy<|Zi<|Zg<|Zs<|Zr<|Za Z<|Ze<|Zg<|Zu<|?_
  exact Ex.ret1 rfl rfl  ⟨rfl, rfl, rfl⟩
end Go.Proofs.Ytdmelfpdillddaa
