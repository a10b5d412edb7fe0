/- The statement OutboxOnce, walked.
Conditions: as each theorem names them. -/
import Derived.Test.YtpdnkhdmajmbiaaProg
import Derived.Test.YtpdnkhdmajmbiaaLaw18
import Derived.Test.YtpdnkhdmajmbiaaBB
import Derived.Test.YtpdnkhdmajmbiaaZG
set_option linter.unusedSimpArgs false
set_option linter.unusedVariables false
set_option maxRecDepth 4000
namespace Go.Proofs.Ytpdnkhdmajmbiaa
open Go Go.K
attribute [local irreducible] Code.wp wpList Calls wpQuiet
theorem Law18b_pt24 : ptrT Try.prog 24 = true := by kernel_rfl
theorem Law18b_es22 : elemS Try.prog 22 = some (31, 2) := by kernel_rfl
theorem Law18b_al31 : arrT Try.prog 31 = some (2, 1) := by kernel_rfl
theorem Law18b_ts3 : scal Try.prog 3 = true := by kernel_rfl
theorem Law18b_it3_30 : intT Try.prog 3 30 = some .u32 := by kernel_rfl
theorem Law18b_zo35 : zeroOf Try.prog 35 = some (.agg #[.int .i64 0, .int .i64 0, .int .i64 0, .int .i64 0, .int .i64 0, .int .u32 0, .int .i64 0, .string ⟨#[]⟩, .int .i64 0, .int .i64 0, .bool false]) := by kernel_rfl
theorem Law18b_sz35 : sizeT Try.prog 35 = some 11 := by kernel_rfl
theorem Law18b_mt28 : mapT Try.prog 28 = some (.i64, 3, 4) := by kernel_rfl
theorem Law18b_zo4 : zeroOf Try.prog 4 = some (.bool false) := by kernel_rfl
theorem Law18b_es39 : elemS Try.prog 39 = some (35, 11) := by kernel_rfl
theorem Law18b_fo35_3 : fieldOff Try.prog 35 3 = some 3 := by kernel_rfl
theorem Law18b_mt26 : mapT Try.prog 26 = some (.i64, 3, 3) := by kernel_rfl
theorem Law18b_zo3 : zeroOf Try.prog 3 = some (.int .i64 0) := by kernel_rfl
theorem Law18b_mo : Try.prog.follows .mixedOrders = true := by kernel_rfl
theorem Law18b_fo35_5 : fieldOff Try.prog 35 5 = some 5 := by kernel_rfl
theorem Law18b_ts30 : scal Try.prog 30 = true := by kernel_rfl
theorem Law18b_mt27 : mapT Try.prog 27 = some (.i64, 3, 30) := by kernel_rfl
theorem Law18b_zo30 : zeroOf Try.prog 30 = some (.int .u32 0) := by kernel_rfl

set_option maxHeartbeats 1000000 in
theorem outboxonce_c {V : Vw} {l : List (Int × Int)} {p : Option Addr} {c : Nat} (hv : Rd V [] 2 (.slice p l.length c) l.length (l.flatMap pr2)) (hl9 : l.length ≤ 9223372036854775807)  : Does Try.prog 3 [.slice p l.length c] V [] (fun v _ _ => v = .bool true) := by
 refine Does.intro Try.func3 rfl rfl (le rfl) (fun B => ?_)
 refine Zs<|Zr<|Za Z<|Ze<|Zg<|Zs<|Zr<|Run.call0 (l := []) Z Z Z (lt Z) awake_h<|Run.heapTo (H' := []) Z<|Za Z<|Ze<|Zg<|Zs<|Zr<|?_
 refine Run.call [] (l := []) rfl rfl rfl (lt rfl) (new_o) (fun v9 V9 H9 hle9 hR => ?_)
 obtain ⟨hV, bx1, sb1, rfl, hb1, rfl⟩ := hR; replace hV := hV.symm; subst hV
 refine Run.heapTo (H' := [sb1]) Z<|Run.heapTo (H' := [sb1]) Z<|Za Z<|Ze<|Zg<|Zs<|Zs<|Zr<|Zm Z<|Zv (Y.not Z)<|Zm Z<|Zp Z<|Zm Z<|Zp Z<|Zv (Y.eqNil Z Z Law18b_pt24)<|Zv (Y.pick_f Z Z Z)<|?_
 refine Ze<|Zg<|Tr.cond_f Z Z<|Zt<|Zg<|Zs<|Zr<|?_
 refine Run.makeMap .i64 (lt rfl) (fun v2 s3 hm4 => ?_)
 refine Za Z<|Ze<|Zg<|Zs<|Zr<|?_
 refine Run.makeMap .i64 (lt rfl) (fun v5 s6 hm7 => ?_)
 refine Za Z<|Ze<|Zg<|Zs<|Zr<|?_
 refine Run.makeMap .i64 (lt rfl) (fun v8 s9 hm10 => ?_)
 refine Za Z<|Ze<|Zg<|Zs<|Zr<|Za Z<|Ze<|Zg<|Zs<|Zs<|Zr<|Run.keepTo (H' := [sb1, s3, s6, s9]) [3, 2, 1, 0] Z<|Za Z<|Ze<|Zg<|Zb<|?_
 refine ZL (X := Nat × Ob × Sg × Sg × Sg × Sg × List (Int × Int) × List (Int × Int) × List (Int × Bool) × Int) (fun z0 => V) (fun z0 => [z0.2.2.1, z0.2.2.2.1, z0.2.2.2.2.1, z0.2.2.2.2.2.1]) (fun z0 => [(0, .slice p l.length c), (4, .pointer (some ⟨bx1, 0, none⟩)), (5, v2), (6, v5), (7, v8), (8, .int .i64 z0.2.2.2.2.2.2.2.2.2), (9, .int .i64 (z0.1 : Int))]) (fun z0 => Ob.In 105 99 z0.2.1 bx1 z0.2.2.1 ∧ Om .i64 v2 (pm vI z0.2.2.2.2.2.2.1) z0.2.2.2.1 ∧ Om .i64 v5 (pm vU z0.2.2.2.2.2.2.2.1) z0.2.2.2.2.1 ∧ Om .i64 v8 (pm vB z0.2.2.2.2.2.2.2.2.1) z0.2.2.2.2.2.1 ∧ Ob.Once z0.2.1 z0.2.2.2.2.2.2.1 z0.2.2.2.2.2.2.2.1 z0.2.2.2.2.2.2.2.2.1 ∧ z0.2.1.load ≤ (z0.1 : Int) ∧ (0 ≤ z0.2.2.2.2.2.2.2.2.2 ∧ z0.2.2.2.2.2.2.2.2.2 ≤ 3 * (z0.1 : Int)) ∧ z0.1 ≤ l.length ∧ z0.1 ≤ 150) (fun z0 => l.length - z0.1) (⟨0, Ob.new, sb1, s3, s6, s9, [], [], [], 0⟩ : Nat × Ob × Sg × Sg × Sg × Sg × List (Int × Int) × List (Int × Int) × List (Int × Bool) × Int) ⟨hb1, hm4, hm7, hm10, Ob.once_new, Int.le_refl _, ⟨Int.le_refl _, Int.le_refl _⟩, Nat.zero_le _, Nat.zero_le _⟩ ?_
 rintro ⟨i1, o, sb, s5, s6, s7, sn, ofm, gn, now⟩ ⟨hb, h5, h6, h7, hO, hlo, hnw, hil, hi2⟩
 try dsimp only at hb h5 h6 h7 hO hlo hnw hil hi2 ⊢
 refine Zs<|Zs<|Zr<|Zm Z<|Zm Z<|Zv (Y.lenSl Z Law18b_es22)<|Zv (Y.int Z Z Z)<|Zm Z<|?_
 rcases Zsplit (decide ((i1 : Int) < ((l.length : Nat) : Int))) with ⟨h11, g11⟩ | ⟨h11, g11⟩ <;> try simp only [kb] at g11
 ·refine Zp h11<|Zm Z<|Zp h11<|Zv (Y.int Z Z Z)<|Zv (Y.pick_t Z h11 Z)<|Ze<|Zg<|?_
  rcases Zsplit (decide ((i1 : Int) < 150)) with ⟨h12, g12⟩ | ⟨h12, g12⟩ <;> try simp only [kb] at g12
  ·refine Tr.cond_t Z h12<|Zt<|Zg<|Zs<|Zb<|Zs<|Zr<|?_
   have hll := Ob.last_load o
   refine Zm Z<|Zm Z<|Zv (Y.idxR i1 Z Z Law18b_es22 hv.of_nil W W)<|Zv (Y.idxArrR Z Z Law18b_al31 hv.of_nil W WD WD)<|Zv (Y.ldR Z Law18b_ts3 hv.of_nil (flatm_at pr2_enc.len W ((0, 0) : Int × Int) WD rfl))<|Zv (Y.int (r := .int .i64 (((l.getD i1 ((0, 0) : Int × Int)).2) % 4)) rfl rfl (by simp only [intRes]; rw [and_low2 ((l.getD i1 ((0, 0) : Int × Int)).2) 3 4 2 WD rfl rfl]))<|?_
   refine Zv (Y.conv (((l.getD i1 ((0, 0) : Int × Int)).2) % 4) rfl Law18b_it3_30 (wrap_u32 W))<|Za Z<|Ze<|Zg<|Zs<|Zr<|Zm Z<|Zm Z<|Zv (Y.idxR i1 Z Z Law18b_es22 hv.of_nil W W)<|Zv (Y.idxArrR Z Z Law18b_al31 hv.of_nil W WD WD)<|Zv (Y.ldR Z Law18b_ts3 hv.of_nil (flatm_at pr2_enc.len W ((0, 0) : Int × Int) WD rfl))<|Zv (Y.int (r := .int .i64 (((l.getD i1 ((0, 0) : Int × Int)).1) % 4)) rfl rfl (by simp only [intRes]; rw [and_low2 ((l.getD i1 ((0, 0) : Int × Int)).1) 3 4 2 WD rfl rfl]))<|?_
   refine Ze<|Zg<|Zb<|Zs<|Zr<|Zv (Y.int Z Z Z)<|Za Z<|Ze<|Zg<|?_
   rcases Zsplit ((((l.getD i1 ((0, 0) : Int × Int)).1) % 4) == 0) with ⟨h13, g13⟩ | ⟨h13, g13⟩ <;> try simp only [kb] at g13
   ·refine Tr.cond_t Z h13<|Zr<|Zm Z<|Zm Z<|Zm Z<|Run.call0 (l := [.tmp 165, .tmp 166]) Z Z Z (lt Z) update_h<|?_
    refine Run.call [0] (l := [.tmp 164, .tmp 167]) rfl rfl rfl (lt rfl) (put_o hb (m := (Ob.upd (((l.getD i1 ((0, 0) : Int × Int)).2) % 4) (i1 : Int)))) (fun v9 V9 H9 hle9 hR => ?_)
    obtain ⟨hV, b14, e14, o14, sb14, hq14, rfl, hb14, rfl⟩ := hR; replace hV := hV.symm; subst hV
    refine Run.heapTo (H' := [s5, s6, s7, sb14]) Z<|Run.heapTo (H' := [s5, s6, s7, sb14]) Z<|Ze<|Zc<|Zc<|Zg<|Zr<|Zm Z<|Zv (Y.add Z Z W)<|Za Z<|Ze<|Ex.keep [3, 0, 0, 0]<|?_
    have hld := Ob.load_put hq14
    exact ZR (⟨i1 + 1, o14, sb14, s5, s6, s7, sn, ofm, gn, now⟩ : Nat × Ob × Sg × Sg × Sg × Sg × List (Int × Int) × List (Int × Int) × List (Int × Bool) × Int) ⟨hb14, h5, h6, h7, (Ob.once_put hO hq14), by (try dsimp only); omega, by (try dsimp only); constructor <;> omega, by (try dsimp only); omega, by (try dsimp only); omega⟩ (by dsimp only; omega)
   ·refine Tr.cond_f Z h13<|Zs<|Zr<|Zv (Y.int Z Z Z)<|Za Z<|Ze<|Zg<|?_
    rcases Zsplit ((((l.getD i1 ((0, 0) : Int × Int)).1) % 4) == 1) with ⟨h15, g15⟩ | ⟨h15, g15⟩ <;> try simp only [kb] at g15
    ·refine Tr.cond_t Z h15<|Zs<|Zr<|Zm Z<|Zm Z<|Zv (Y.idxR i1 Z Z Law18b_es22 hv.of_nil W W)<|Zv (Y.idxArrR Z Z Law18b_al31 hv.of_nil W WD WD)<|Zv (Y.ldR Z Law18b_ts3 hv.of_nil (flatm_at pr2_enc.len W ((0, 0) : Int × Int) WD rfl))<|Zv (Y.int (r := .int .i64 (((l.getD i1 ((0, 0) : Int × Int)).2) % 16)) rfl rfl (by simp only [intRes]; rw [and_low2 ((l.getD i1 ((0, 0) : Int × Int)).2) 15 16 4 WD rfl rfl]))<|?_
     refine Zv (Y.add Z Z W)<|Za Z<|Ze<|Zg<|Zs<|Zr<|Zm Z<|Zm Z<|?_
     refine Run.call [0] (l := [.tmp 179, .tmp 180]) rfl rfl rfl (lt rfl) (acked_o hb (k := 1 + (((l.getD i1 ((0, 0) : Int × Int)).2) % 16))) (fun v9 V9 H9 hle9 hR => ?_)
     obtain ⟨hV, b16, m16, f16, o16, sb16, hq16, rfl, hb16, rfl⟩ := hR; replace hV := hV.symm; subst hV
     refine Run.heapTo (H' := [s5, s6, s7, sb16]) Z<|Run.heapTo (H' := [s5, s6, s7, sb16]) Z<|Zm Z<|Zv (Y.extract Z Z)<|Zv (Y.extract Z Z)<|?_
     refine Run.alloc Law18b_zo35 (lt rfl) (fun b17 => ?_)
     refine Run.store (s := [(b17, .cells #[.int .i64 m16.kind, .int .i64 m16.life, .int .i64 m16.seen, .int .i64 m16.xid, .int .i64 m16.state, .int .u32 m16.addr, .int .i64 m16.bind, .string m16.client, .int .i64 m16.pot, .int .i64 m16.at_, .bool m16.ok] 35 (0, 0))]) Z Z Law18b_sz35 (i := 0) Z Z (le Z) Z Z<|Za Z<|Ze<|Zg<|Zs<|Zs<|Zr<|?_
     have hAk := (Ob.once_acked hb.1 hO hq16).1
     refine Zm Z<|Zm Z<|?_
     rcases Zsplit (f16) with ⟨h18, g18⟩ | ⟨h18, g18⟩ <;> try simp only [kb] at g18
     ·refine Zp h18<|Zm Z<|Zp h18<|Zm Z<|Zp h18<|Zv (Y.lookupP (r := .bool ((gn.lookup (1 + (((l.getD i1 ((0, 0) : Int × Int)).2) % 16))).getD false)) (f := vB) (l := gn) false Z Z Law18b_mt28 Law18b_zo4 Z h7 (j := 3) Z Z)<|Zv (Y.pick_t Z h18 Z)<|Ze<|Zg<|Tr.cond_f Z (hAk h18)<|Zt<|Zg<|Zr<|Zm Z<|Zm Z<|Zm Z<|?_
      refine Zm Z<|Zv (Y.lookupP (r := .bool ((gn.lookup (1 + (((l.getD i1 ((0, 0) : Int × Int)).2) % 16))).getD false)) (f := vB) (l := gn) false Z Z Law18b_mt28 Law18b_zo4 Z h7 (j := 3) Z Z)<|Zm Z<|Zp (hAk h18)<|Zm Z<|Zv (Y.pick_f Z (hAk h18) Z)<|?_
      refine Run.mapUpdateP (f := vB) (u := f16) (l := gn) 3 rfl rfl rfl Law18b_mt28 h7 rfl (fun s19 hm20 => ?_)
      refine Run.heapTo (H' := [[(b17, .cells #[.int .i64 m16.kind, .int .i64 m16.life, .int .i64 m16.seen, .int .i64 m16.xid, .int .i64 m16.state, .int .u32 m16.addr, .int .i64 m16.bind, .string m16.client, .int .i64 m16.pot, .int .i64 m16.at_, .bool m16.ok] 35 (0, 0))], s5, s6, s19, sb16]) Z<|Ze<|Zc<|Zc<|Zg<|Zr<|Zm Z<|Zv (Y.add Z Z W)<|Za Z<|Ze<|Ex.keep [4, 1, 1, 1]<|?_
      have hOe : Ob.Once o16 sn ofm (pset gn (1 + (((l.getD i1 ((0, 0) : Int × Int)).2) % 16)) f16) := by have h9 := (Ob.once_acked hb.1 hO hq16).2; rw [(hAk h18)] at h9; exact h9
      have hld := Ob.load_acked hq16
      exact ZR (⟨i1 + 1, o16, sb16, s5, s6, s19, sn, ofm, pset gn (1 + (((l.getD i1 ((0, 0) : Int × Int)).2) % 16)) f16, now⟩ : Nat × Ob × Sg × Sg × Sg × Sg × List (Int × Int) × List (Int × Int) × List (Int × Bool) × Int) ⟨hb16, h5, h6, hm20, hOe, by (try dsimp only); omega, by (try dsimp only); constructor <;> omega, by (try dsimp only); omega, by (try dsimp only); omega⟩ (by dsimp only; omega)
     ·refine Zo h18 Z<|Zo h18 Z<|Zo h18 Z<|Zv (Y.pick_f Z h18 Z)<|Ze<|Zg<|Tr.cond_f Z Z<|Zt<|Zg<|Zr<|Zm Z<|Zm Z<|Zm Z<|Zm Z<|Zv (Y.lookupP (r := .bool ((gn.lookup (1 + (((l.getD i1 ((0, 0) : Int × Int)).2) % 16))).getD false)) (f := vB) (l := gn) false Z Z Law18b_mt28 Law18b_zo4 Z h7 (j := 3) Z Z)<|Zm Z<|?_
      rcases Zsplit ((gn.lookup (1 + (((l.getD i1 ((0, 0) : Int × Int)).2) % 16))).getD false) with ⟨h21, g21⟩ | ⟨h21, g21⟩ <;> try simp only [kb] at g21
      ·refine Zo h21 Z<|Zv (Y.pick_t Z h21 Z)<|?_
       refine Run.mapUpdateP (f := vB) (u := true) (l := gn) 3 rfl rfl rfl Law18b_mt28 h7 rfl (fun s22 hm23 => ?_)
       refine Run.heapTo (H' := [[(b17, .cells #[.int .i64 m16.kind, .int .i64 m16.life, .int .i64 m16.seen, .int .i64 m16.xid, .int .i64 m16.state, .int .u32 m16.addr, .int .i64 m16.bind, .string m16.client, .int .i64 m16.pot, .int .i64 m16.at_, .bool m16.ok] 35 (0, 0))], s5, s6, s22, sb16]) Z<|Ze<|Zc<|Zc<|Zg<|Zr<|Zm Z<|Zv (Y.add Z Z W)<|Za Z<|Ze<|Ex.keep [4, 1, 1, 1]<|?_
       have hOe : Ob.Once o16 sn ofm (pset gn (1 + (((l.getD i1 ((0, 0) : Int × Int)).2) % 16)) true) := by have h9 := (Ob.once_acked hb.1 hO hq16).2; rw [h21] at h9; exact h9
       have hld := Ob.load_acked hq16
       exact ZR (⟨i1 + 1, o16, sb16, s5, s6, s22, sn, ofm, pset gn (1 + (((l.getD i1 ((0, 0) : Int × Int)).2) % 16)) true, now⟩ : Nat × Ob × Sg × Sg × Sg × Sg × List (Int × Int) × List (Int × Int) × List (Int × Bool) × Int) ⟨hb16, h5, h6, hm23, hOe, by (try dsimp only); omega, by (try dsimp only); constructor <;> omega, by (try dsimp only); omega, by (try dsimp only); omega⟩ (by dsimp only; omega)
      ·refine Zp h21<|Zm Z<|Zv (Y.pick_f Z h21 Z)<|?_
       refine Run.mapUpdateP (f := vB) (u := f16) (l := gn) 3 rfl rfl rfl Law18b_mt28 h7 rfl (fun s24 hm25 => ?_)
       refine Run.heapTo (H' := [[(b17, .cells #[.int .i64 m16.kind, .int .i64 m16.life, .int .i64 m16.seen, .int .i64 m16.xid, .int .i64 m16.state, .int .u32 m16.addr, .int .i64 m16.bind, .string m16.client, .int .i64 m16.pot, .int .i64 m16.at_, .bool m16.ok] 35 (0, 0))], s5, s6, s24, sb16]) Z<|Ze<|Zc<|Zc<|Zg<|Zr<|Zm Z<|Zv (Y.add Z Z W)<|Za Z<|Ze<|Ex.keep [4, 1, 1, 1]<|?_
       have hOe : Ob.Once o16 sn ofm (pset gn (1 + (((l.getD i1 ((0, 0) : Int × Int)).2) % 16)) f16) := by have h9 := (Ob.once_acked hb.1 hO hq16).2; rw [h21] at h9; exact h9
       have hld := Ob.load_acked hq16
       exact ZR (⟨i1 + 1, o16, sb16, s5, s6, s24, sn, ofm, pset gn (1 + (((l.getD i1 ((0, 0) : Int × Int)).2) % 16)) f16, now⟩ : Nat × Ob × Sg × Sg × Sg × Sg × List (Int × Int) × List (Int × Int) × List (Int × Bool) × Int) ⟨hb16, h5, h6, hm25, hOe, by (try dsimp only); omega, by (try dsimp only); constructor <;> omega, by (try dsimp only); omega, by (try dsimp only); omega⟩ (by dsimp only; omega)
    ·refine Tr.cond_f Z h15<|Zs<|Zr<|Zm Z<|Zm Z<|Zm Z<|Zv (Y.idxR i1 Z Z Law18b_es22 hv.of_nil W W)<|Zv (Y.idxArrR Z Z Law18b_al31 hv.of_nil W WD WD)<|Zv (Y.ldR Z Law18b_ts3 hv.of_nil (flatm_at pr2_enc.len W ((0, 0) : Int × Int) WD rfl))<|Zv (Y.int (r := .int .i64 (((l.getD i1 ((0, 0) : Int × Int)).2) % 4)) rfl rfl (by simp only [intRes]; rw [and_low2 ((l.getD i1 ((0, 0) : Int × Int)).2) 3 4 2 WD rfl rfl]))<|?_
     refine Zv (Y.add Z Z W)<|Za Z<|Ze<|Zg<|Zs<|Zr<|Zm Z<|Zm Z<|?_
     refine Run.call [0] (l := [.tmp 64, .tmp 65]) rfl rfl rfl (lt rfl) (tick_o hb (now := now + (((l.getD i1 ((0, 0) : Int × Int)).2) % 4)) W) (fun v9 V9 H9 hle9 hR => ?_)
     obtain ⟨hV, ms26, e26, o26, p26, c26, q26, sb26, hq26, rfl, ho26, hb26, rfl⟩ := hR; replace hV := hV.symm; subst hV
     refine Run.heapTo (H' := [s5, s6, s7, q26, sb26]) Z<|Run.heapTo (H' := [s5, s6, s7, q26, sb26]) Z<|Zm Z<|Zv (Y.extract Z Z)<|Zv (Y.extract Z Z)<|Za Z<|Za Z<|Ze<|Zg<|Zs<|Zr<|?_
     obtain ⟨hTm, hTe, hTo⟩ := Ob.tick_of hq26 (by constructor <;> omega)
     have hTl : o26.last = o.last := by rw [hTo]; rfl
     have hTn : ms26.length = (o.outs.filter (Ob.due (now + (((l.getD i1 ((0, 0) : Int × Int)).2) % 4)))).length := by rw [hTm, Ob.msgs_len]
     have hTb := List.length_filter_le (Ob.due (now + (((l.getD i1 ((0, 0) : Int × Int)).2) % 4))) o.outs
     have hOl := Ob.outs_len hb.1
     refine Run.keepTo (H' := [sb26, q26, s5, s6, s7]) [4, 3, 0, 0, 0] Z<|Za Z<|Ze<|Zg<|Zb<|?_
     refine ZL (X := Nat × Sg × Sg × List (Int × Int) × List (Int × Int)) (fun z0 => V) (fun z0 => [sb26, q26, z0.2.1, z0.2.2.1, s7]) (fun z0 => [(0, .slice p l.length c), (4, .pointer (some ⟨bx1, 0, none⟩)), (5, v2), (6, v5), (7, v8), (8, .int .i64 (now + (((l.getD i1 ((0, 0) : Int × Int)).2) % 4))), (9, .int .i64 (i1 : Int)), (14, .slice p26 ms26.length c26), (16, .int .i64 (z0.1 : Int))]) (fun z0 => Om .i64 v2 (pm vI z0.2.2.2.1) z0.2.1 ∧ Om .i64 v5 (pm vU z0.2.2.2.2) z0.2.2.1 ∧ Ob.Once (Ob.onceK (now + (((l.getD i1 ((0, 0) : Int × Int)).2) % 4)) o z0.1) z0.2.2.2.1 z0.2.2.2.2 gn ∧ z0.1 ≤ ms26.length) (fun z0 => ms26.length - z0.1) (⟨0, s5, s6, sn, ofm⟩ : Nat × Sg × Sg × List (Int × Int) × List (Int × Int)) ⟨h5, h6, by rw [Ob.onceK_zero]; exact hO, Nat.zero_le _⟩ ?_
     rintro ⟨k1, s5b, s6b, sn2, ofm2⟩ ⟨h5b, h6b, hOk, hkl⟩
     try dsimp only at h5b h6b hOk hkl ⊢
     refine Zs<|Zs<|Zr<|Zm Z<|Zm Z<|Zv (Y.lenSl Z Law18b_es39)<|Zv (Y.int Z Z Z)<|Ze<|Zg<|?_
     rcases Zsplit (decide ((k1 : Int) < ((ms26.length : Nat) : Int))) with ⟨h27, g27⟩ | ⟨h27, g27⟩ <;> try simp only [kb] at g27
     ·refine Tr.cond_t Z h27<|Zt<|Zg<|Zs<|Zb<|Zs<|Zr<|?_
      obtain ⟨hF1, hF2, hF3, hF4, hF5⟩ := Ob.once_at (now := (now + (((l.getD i1 ((0, 0) : Int × Int)).2) % 4))) hb.1 (k := k1) W hOk hTm
      refine Zm Z<|Zm Z<|Zv (Y.idxR k1 Z Z Law18b_es39 (ho26.rd 1 rfl) W W)<|Zv (Y.fieldR Z Law18b_fo35_3 (ho26.rd 1 rfl) W)<|Zv (Y.ldR Z Law18b_ts3 (ho26.rd 1 rfl) (flatm_at Msg.cl_enc.len W Msg.zero WD rfl))<|Za Z<|Ze<|Zg<|Zs<|Zr<|Zm Z<|Zm Z<|?_
      rcases hsn : sn2.lookup (ms26.getD k1 Msg.zero).xid with _ | at1
      ·refine Zv (Y.lookupPT (r := .tuple #[.int .i64 0, .bool false]) (f := vI) (l := sn2) (0 : Int) rfl rfl Law18b_mt26 Law18b_zo3 rfl h5b (j := 2) rfl (by rw [hsn]; rfl))<|Zm Z<|Zv (Y.extract Z Z)<|Zv (Y.extract Z Z)<|Za Z<|Za Z<|Ze<|Zg<|Zs<|Zs<|Tr.quiet Law18b_mo WK<|ZM Z<|ZM Z<|ZV (Y.lookupP (r := .bool ((gn.lookup ((ms26.getD k1 Msg.zero).xid)).getD false)) (f := vB) (l := gn) false Z Z Law18b_mt28 Law18b_zo4 Z h7 (j := 4) Z Z)<|?_
       refine ZM Z<|ZP hF1<|ZM Z<|ZP hF1<|ZM Z<|ZO Z Z<|ZO Z Z<|ZO Z Z<|ZO Z Z<|ZP hF1<|ZV (Y.pick_f Z Z Z)<|ZV (Y.pick_f Z hF1 Z)<|ZM Z<|ZP Z<|ZM Z<|ZP Z<|?_
       refine ZV (Y.int Z Z Z)<|ZV (Y.pick_f Z Z Z)<|ZM Z<|RunQ.on rfl rfl rfl (decide_eq_false W)<|ZM Z<|RunQ.on rfl rfl rfl (decide_eq_false W)<|ZM Z<|RunQ.on rfl rfl rfl (decide_eq_false W)<|RunQ.call0 (l := [.tmp 104]) Z Z Z (lt Z) (Does.frame1 0 Z (last_o hb26))<|RunQ.on rfl rfl rfl (decide_eq_false W)<|ZV (Y.int Z Z Z)<|ZV (Y.pick_f Z (decide_eq_false W) rfl)<|ZM Z<|RunQ.on rfl rfl rfl (decide_eq_false W)<|?_
       refine ZM Z<|RunQ.on rfl rfl rfl (decide_eq_false W)<|ZM Z<|ZO Z Z<|ZO Z Z<|ZO Z Z<|ZO Z Z<|ZO Z Z<|ZO Z Z<|ZO Z Z<|ZO Z Z<|ZO Z Z<|RunQ.on rfl rfl rfl (decide_eq_false W)<|ZV (Y.pick_f Z Z Z)<|ZV (Y.pick_f Z (decide_eq_false W) rfl)<|ZM Z<|?_
       refine ZP Z<|ZM Z<|ZP Z<|ZV (Y.int Z Z Z)<|ZP Z<|ZM Z<|?_
       rcases Zsplit (decide ((k1 : Int) > 0)) with ⟨h28, g28⟩ | ⟨h28, g28⟩ <;> try simp only [kb] at g28
       ·refine ZP h28<|ZM Z<|ZP h28<|ZM Z<|ZP h28<|ZV (Y.sub Z Z W)<|ZP h28<|ZV (Y.idxR (k1 - 1) rfl rfl Law18b_es39 (ho26.rd 1 rfl) W W)<|ZP h28<|ZV (Y.fieldR Z Law18b_fo35_3 (ho26.rd 1 rfl) W)<|ZP h28<|ZV (Y.ldR Z Law18b_ts3 (ho26.rd 1 rfl) (flatm_at Msg.cl_enc.len W Msg.zero WD rfl))<|ZP h28<|ZM Z<|ZP h28<|ZV (Y.int Z Z Z)<|?_
        refine ZP Z<|ZV (Y.pick_t Z h28 Z)<|ZV (Y.pick_f Z Z Z)<|ZE<|Zg<|Tr.cond_f rfl (decide_eq_false (by have := hF4 W; omega))<|Zt<|Zg<|Zs<|Zs<|Zr<|Za Z<|Ze<|Zg<|Zb<|?_
        refine ZL (X := Nat) (fun z0 => V) (fun z0 => [sb26, q26, s5b, s6b, s7]) (fun z0 => [(0, .slice p l.length c), (4, .pointer (some ⟨bx1, 0, none⟩)), (5, v2), (6, v5), (7, v8), (8, .int .i64 (now + (((l.getD i1 ((0, 0) : Int × Int)).2) % 4))), (9, .int .i64 (i1 : Int)), (14, .slice p26 ms26.length c26), (16, .int .i64 (k1 : Int)), (17, .int .i64 ((ms26.getD k1 Msg.zero).xid)), (20, .int .i64 (z0 : Int))]) (fun z0 => z0 ≤ k1) (fun z0 => k1 - z0) (0 : Nat) (Nat.zero_le _) ?_
        rintro j1 hjk
        refine Zs<|Zs<|Zr<|Zm Z<|Zm Z<|Zv (Y.int Z Z Z)<|Ze<|Zg<|?_
        rcases Zsplit (decide ((j1 : Int) < (k1 : Int))) with ⟨h29, g29⟩ | ⟨h29, g29⟩ <;> try simp only [kb] at g29
        ·refine Tr.cond_t Z h29<|Zt<|Zg<|Zs<|Zb<|Zs<|Tr.quiet Law18b_mo WK<|ZM Z<|ZM Z<|ZV (Y.idxR j1 Z Z Law18b_es39 (ho26.rd 1 rfl) W W)<|ZV (Y.fieldR Z Law18b_fo35_5 (ho26.rd 1 rfl) W)<|ZV (Y.ldR Z Law18b_ts30 (ho26.rd 1 rfl) (flatm_at Msg.cl_enc.len W Msg.zero WD rfl))<|ZM Z<|ZM Z<|ZV (Y.idxR k1 Z Z Law18b_es39 (ho26.rd 1 rfl) W W)<|ZV (Y.fieldR Z Law18b_fo35_5 (ho26.rd 1 rfl) W)<|?_
         refine ZV (Y.ldR Z Law18b_ts30 (ho26.rd 1 rfl) (flatm_at Msg.cl_enc.len W Msg.zero WD rfl))<|ZV (Y.int Z Z Z)<|ZE<|Zg<|Tr.cond_f rfl (beq_eq_false_iff_ne.2 (hF5 j1 W))<|Zt<|Zc<|Zg<|Zr<|Zm Z<|Zv (Y.add Z Z W)<|Za Z<|Ze<|Ex.keep [0, 0, 0, 0, 0]<|?_
         exact ZR (j1 + 1 : Nat) W W
        ·refine Tr.cond_f Z h29<|Zx<|Zy<|Zy<|Zi<|Zg<|Zs<|Zr<|Zm Z<|Zm Z<|Zm Z<|?_
         refine Run.mapUpdateP (f := vI) (u := now + (((l.getD i1 ((0, 0) : Int × Int)).2) % 4)) (l := sn2) 2 rfl rfl rfl Law18b_mt26 h5b rfl (fun s30 hm31 => ?_)
         refine Run.heapTo (H' := [sb26, q26, s30, s6b, s7]) Z<|Ze<|Zg<|Zr<|Zm Z<|Zm Z<|Zm Z<|Zm Z<|Zv (Y.idxR k1 Z Z Law18b_es39 (ho26.rd 1 rfl) W W)<|Zv (Y.fieldR Z Law18b_fo35_5 (ho26.rd 1 rfl) W)<|Zv (Y.ldR Z Law18b_ts30 (ho26.rd 1 rfl) (flatm_at Msg.cl_enc.len W Msg.zero WD rfl))<|?_
         refine Run.mapUpdateP (f := vU) (u := (ms26.getD k1 Msg.zero).addr) (l := ofm2) 3 rfl rfl rfl Law18b_mt27 h6b rfl (fun s32 hm33 => ?_)
         refine Run.heapTo (H' := [sb26, q26, s30, s32, s7]) Z<|Ze<|Zc<|Zg<|Zr<|Zm Z<|Zv (Y.add Z Z W)<|Za Z<|Ze<|Ex.keep [0, 0, 0, 0, 0]<|?_
         exact ZR (⟨k1 + 1, s30, s32, pset sn2 ((ms26.getD k1 Msg.zero).xid) (now + (((l.getD i1 ((0, 0) : Int × Int)).2) % 4)), pset ofm2 ((ms26.getD k1 Msg.zero).xid) ((ms26.getD k1 Msg.zero).addr)⟩ : Nat × Sg × Sg × List (Int × Int) × List (Int × Int)) ⟨hm31, hm33, Ob.once_step hb.1 W W hOk (by rw [hTm]), by omega⟩ (by dsimp only; omega)
       ·refine ZO h28 Z<|ZO h28 Z<|ZO h28 Z<|ZO h28 Z<|ZO h28 Z<|ZO h28 Z<|ZO h28 Z<|ZO h28 Z<|ZP Z<|ZV (Y.pick_f Z h28 Z)<|ZV (Y.pick_f Z Z Z)<|ZE<|Zg<|Tr.cond_f Z Z<|Zt<|Zg<|?_
        refine Zs<|Zs<|Zr<|Za Z<|Ze<|Zg<|Zb<|?_
        refine ZL (X := Nat) (fun z0 => V) (fun z0 => [sb26, q26, s5b, s6b, s7]) (fun z0 => [(0, .slice p l.length c), (4, .pointer (some ⟨bx1, 0, none⟩)), (5, v2), (6, v5), (7, v8), (8, .int .i64 (now + (((l.getD i1 ((0, 0) : Int × Int)).2) % 4))), (9, .int .i64 (i1 : Int)), (14, .slice p26 ms26.length c26), (16, .int .i64 (k1 : Int)), (17, .int .i64 ((ms26.getD k1 Msg.zero).xid)), (20, .int .i64 (z0 : Int))]) (fun z0 => z0 ≤ k1) (fun z0 => k1 - z0) (0 : Nat) (Nat.zero_le _) ?_
        rintro j1 hjk
        refine Zs<|Zs<|Zr<|Zm Z<|Zm Z<|Zv (Y.int Z Z Z)<|Ze<|Zg<|?_
        rcases Zsplit (decide ((j1 : Int) < (k1 : Int))) with ⟨h34, g34⟩ | ⟨h34, g34⟩ <;> try simp only [kb] at g34
        ·refine Tr.cond_t Z h34<|Zt<|Zg<|Zs<|Zb<|Zs<|Tr.quiet Law18b_mo WK<|ZM Z<|ZM Z<|ZV (Y.idxR j1 Z Z Law18b_es39 (ho26.rd 1 rfl) W W)<|ZV (Y.fieldR Z Law18b_fo35_5 (ho26.rd 1 rfl) W)<|ZV (Y.ldR Z Law18b_ts30 (ho26.rd 1 rfl) (flatm_at Msg.cl_enc.len W Msg.zero WD rfl))<|ZM Z<|ZM Z<|ZV (Y.idxR k1 Z Z Law18b_es39 (ho26.rd 1 rfl) W W)<|ZV (Y.fieldR Z Law18b_fo35_5 (ho26.rd 1 rfl) W)<|?_
         refine ZV (Y.ldR Z Law18b_ts30 (ho26.rd 1 rfl) (flatm_at Msg.cl_enc.len W Msg.zero WD rfl))<|ZV (Y.int Z Z Z)<|ZE<|Zg<|Tr.cond_f rfl (beq_eq_false_iff_ne.2 (hF5 j1 W))<|Zt<|Zc<|Zg<|Zr<|Zm Z<|Zv (Y.add Z Z W)<|Za Z<|Ze<|Ex.keep [0, 0, 0, 0, 0]<|?_
         exact ZR (j1 + 1 : Nat) W W
        ·refine Tr.cond_f Z h34<|Zx<|Zy<|Zy<|Zi<|Zg<|Zs<|Zr<|Zm Z<|Zm Z<|Zm Z<|?_
         refine Run.mapUpdateP (f := vI) (u := now + (((l.getD i1 ((0, 0) : Int × Int)).2) % 4)) (l := sn2) 2 rfl rfl rfl Law18b_mt26 h5b rfl (fun s35 hm36 => ?_)
         refine Run.heapTo (H' := [sb26, q26, s35, s6b, s7]) Z<|Ze<|Zg<|Zr<|Zm Z<|Zm Z<|Zm Z<|Zm Z<|Zv (Y.idxR k1 Z Z Law18b_es39 (ho26.rd 1 rfl) W W)<|Zv (Y.fieldR Z Law18b_fo35_5 (ho26.rd 1 rfl) W)<|Zv (Y.ldR Z Law18b_ts30 (ho26.rd 1 rfl) (flatm_at Msg.cl_enc.len W Msg.zero WD rfl))<|?_
         refine Run.mapUpdateP (f := vU) (u := (ms26.getD k1 Msg.zero).addr) (l := ofm2) 3 rfl rfl rfl Law18b_mt27 h6b rfl (fun s37 hm38 => ?_)
         refine Run.heapTo (H' := [sb26, q26, s35, s37, s7]) Z<|Ze<|Zc<|Zg<|Zr<|Zm Z<|Zv (Y.add Z Z W)<|Za Z<|Ze<|Ex.keep [0, 0, 0, 0, 0]<|?_
         exact ZR (⟨k1 + 1, s35, s37, pset sn2 ((ms26.getD k1 Msg.zero).xid) (now + (((l.getD i1 ((0, 0) : Int × Int)).2) % 4)), pset ofm2 ((ms26.getD k1 Msg.zero).xid) ((ms26.getD k1 Msg.zero).addr)⟩ : Nat × Sg × Sg × List (Int × Int) × List (Int × Int)) ⟨hm36, hm38, Ob.once_step hb.1 W W hOk (by rw [hTm]), by omega⟩ (by dsimp only; omega)
      ·refine Zv (Y.lookupPT (r := .tuple #[.int .i64 at1, .bool true]) (f := vI) (l := sn2) (0 : Int) rfl rfl Law18b_mt26 Law18b_zo3 rfl h5b (j := 2) rfl (by rw [hsn]; rfl)) ?_
       obtain ⟨hG1, hG2, hG3⟩ := hF3 at1 hsn
       refine Zm Z<|Zv (Y.extract Z Z)<|Zv (Y.extract Z Z)<|Za Z<|Za Z<|Ze<|Zg<|Zs<|Zs<|Tr.quiet Law18b_mo WK<|ZM Z<|ZM Z<|ZV (Y.lookupP (r := .bool ((gn.lookup ((ms26.getD k1 Msg.zero).xid)).getD false)) (f := vB) (l := gn) false Z Z Law18b_mt28 Law18b_zo4 Z h7 (j := 4) Z Z)<|ZM Z<|ZP hF1<|ZM Z<|?_
       refine ZP hF1<|ZM Z<|ZP Z<|ZM Z<|ZP Z<|ZM Z<|ZP Z<|ZV (Y.sub Z Z W)<|ZP Z<|ZV (Y.int Z Z Z)<|ZP hF1<|ZV (Y.pick_t Z Z Z)<|ZV (Y.pick_f Z hF1 Z)<|ZM Z<|RunQ.on rfl rfl rfl (decide_eq_false W)<|ZM Z<|?_
       refine RunQ.on rfl rfl rfl (decide_eq_false W)<|ZV (Y.int Z Z Z)<|ZV (Y.pick_f Z (decide_eq_false W) rfl)<|ZM Z<|RunQ.on rfl rfl rfl (decide_eq_false W)<|ZM Z<|RunQ.on rfl rfl rfl (decide_eq_false W)<|ZM Z<|RunQ.on rfl rfl rfl (decide_eq_false W)<|RunQ.call0 (l := [.tmp 104]) Z Z Z (lt Z) (Does.frame1 0 Z (last_o hb26))<|RunQ.on rfl rfl rfl (decide_eq_false W)<|ZV (Y.int Z Z Z)<|?_
       refine ZV (Y.pick_f Z (decide_eq_false W) rfl)<|ZM Z<|RunQ.on rfl rfl rfl (decide_eq_false W)<|ZM Z<|RunQ.on rfl rfl rfl (decide_eq_false W)<|ZM Z<|ZP Z<|ZM Z<|ZP Z<|ZM Z<|ZP Z<|ZV (Y.lookupP (r := .int .u32 ((ms26.getD k1 Msg.zero).addr)) (f := vU) (l := ofm2) (0 : Int) rfl rfl Law18b_mt27 Law18b_zo30 rfl h6b (j := 3) rfl (by rw [hG2]; rfl))<|ZP Z<|ZM Z<|ZP Z<|ZM Z<|?_
       refine ZP Z<|ZV (Y.idxR k1 Z Z Law18b_es39 (ho26.rd 1 rfl) W W)<|ZP Z<|ZV (Y.fieldR Z Law18b_fo35_5 (ho26.rd 1 rfl) W)<|ZP Z<|ZV (Y.ldR Z Law18b_ts30 (ho26.rd 1 rfl) (flatm_at Msg.cl_enc.len W Msg.zero WD rfl))<|ZP Z<|ZV (Y.neI_f Z Z)<|RunQ.on rfl rfl rfl (decide_eq_false W)<|ZV (Y.pick_t Z Z Z)<|ZV (Y.pick_f Z (decide_eq_false W) rfl)<|ZM Z<|ZP Z<|ZM Z<|ZP Z<|ZV (Y.int Z Z Z)<|?_
       refine ZP Z<|ZM Z<|?_
       rcases Zsplit (decide ((k1 : Int) > 0)) with ⟨h39, g39⟩ | ⟨h39, g39⟩ <;> try simp only [kb] at g39
       ·refine ZP h39<|ZM Z<|ZP h39<|ZM Z<|ZP h39<|ZV (Y.sub Z Z W)<|ZP h39<|ZV (Y.idxR (k1 - 1) rfl rfl Law18b_es39 (ho26.rd 1 rfl) W W)<|ZP h39<|ZV (Y.fieldR Z Law18b_fo35_3 (ho26.rd 1 rfl) W)<|ZP h39<|ZV (Y.ldR Z Law18b_ts3 (ho26.rd 1 rfl) (flatm_at Msg.cl_enc.len W Msg.zero WD rfl))<|ZP h39<|ZM Z<|ZP h39<|ZV (Y.int Z Z Z)<|?_
        refine ZP Z<|ZV (Y.pick_t Z h39 Z)<|ZV (Y.pick_f Z Z Z)<|ZE<|Zg<|Tr.cond_f rfl (decide_eq_false (by have := hF4 W; omega))<|Zt<|Zg<|Zs<|Zs<|Zr<|Za Z<|Ze<|Zg<|Zb<|?_
        refine ZL (X := Nat) (fun z0 => V) (fun z0 => [sb26, q26, s5b, s6b, s7]) (fun z0 => [(0, .slice p l.length c), (4, .pointer (some ⟨bx1, 0, none⟩)), (5, v2), (6, v5), (7, v8), (8, .int .i64 (now + (((l.getD i1 ((0, 0) : Int × Int)).2) % 4))), (9, .int .i64 (i1 : Int)), (14, .slice p26 ms26.length c26), (16, .int .i64 (k1 : Int)), (17, .int .i64 ((ms26.getD k1 Msg.zero).xid)), (20, .int .i64 (z0 : Int))]) (fun z0 => z0 ≤ k1) (fun z0 => k1 - z0) (0 : Nat) (Nat.zero_le _) ?_
        rintro j1 hjk
        refine Zs<|Zs<|Zr<|Zm Z<|Zm Z<|Zv (Y.int Z Z Z)<|Ze<|Zg<|?_
        rcases Zsplit (decide ((j1 : Int) < (k1 : Int))) with ⟨h40, g40⟩ | ⟨h40, g40⟩ <;> try simp only [kb] at g40
        ·refine Tr.cond_t Z h40<|Zt<|Zg<|Zs<|Zb<|Zs<|Tr.quiet Law18b_mo WK<|ZM Z<|ZM Z<|ZV (Y.idxR j1 Z Z Law18b_es39 (ho26.rd 1 rfl) W W)<|ZV (Y.fieldR Z Law18b_fo35_5 (ho26.rd 1 rfl) W)<|ZV (Y.ldR Z Law18b_ts30 (ho26.rd 1 rfl) (flatm_at Msg.cl_enc.len W Msg.zero WD rfl))<|ZM Z<|ZM Z<|ZV (Y.idxR k1 Z Z Law18b_es39 (ho26.rd 1 rfl) W W)<|ZV (Y.fieldR Z Law18b_fo35_5 (ho26.rd 1 rfl) W)<|?_
         refine ZV (Y.ldR Z Law18b_ts30 (ho26.rd 1 rfl) (flatm_at Msg.cl_enc.len W Msg.zero WD rfl))<|ZV (Y.int Z Z Z)<|ZE<|Zg<|Tr.cond_f rfl (beq_eq_false_iff_ne.2 (hF5 j1 W))<|Zt<|Zc<|Zg<|Zr<|Zm Z<|Zv (Y.add Z Z W)<|Za Z<|Ze<|Ex.keep [0, 0, 0, 0, 0]<|?_
         exact ZR (j1 + 1 : Nat) W W
        ·refine Tr.cond_f Z h40<|Zx<|Zy<|Zy<|Zi<|Zg<|Zs<|Zr<|Zm Z<|Zm Z<|Zm Z<|?_
         refine Run.mapUpdateP (f := vI) (u := now + (((l.getD i1 ((0, 0) : Int × Int)).2) % 4)) (l := sn2) 2 rfl rfl rfl Law18b_mt26 h5b rfl (fun s41 hm42 => ?_)
         refine Run.heapTo (H' := [sb26, q26, s41, s6b, s7]) Z<|Ze<|Zg<|Zr<|Zm Z<|Zm Z<|Zm Z<|Zm Z<|Zv (Y.idxR k1 Z Z Law18b_es39 (ho26.rd 1 rfl) W W)<|Zv (Y.fieldR Z Law18b_fo35_5 (ho26.rd 1 rfl) W)<|Zv (Y.ldR Z Law18b_ts30 (ho26.rd 1 rfl) (flatm_at Msg.cl_enc.len W Msg.zero WD rfl))<|?_
         refine Run.mapUpdateP (f := vU) (u := (ms26.getD k1 Msg.zero).addr) (l := ofm2) 3 rfl rfl rfl Law18b_mt27 h6b rfl (fun s43 hm44 => ?_)
         refine Run.heapTo (H' := [sb26, q26, s41, s43, s7]) Z<|Ze<|Zc<|Zg<|Zr<|Zm Z<|Zv (Y.add Z Z W)<|Za Z<|Ze<|Ex.keep [0, 0, 0, 0, 0]<|?_
         exact ZR (⟨k1 + 1, s41, s43, pset sn2 ((ms26.getD k1 Msg.zero).xid) (now + (((l.getD i1 ((0, 0) : Int × Int)).2) % 4)), pset ofm2 ((ms26.getD k1 Msg.zero).xid) ((ms26.getD k1 Msg.zero).addr)⟩ : Nat × Sg × Sg × List (Int × Int) × List (Int × Int)) ⟨hm42, hm44, Ob.once_step hb.1 W W hOk (by rw [hTm]), by omega⟩ (by dsimp only; omega)
       ·refine ZO h39 Z<|ZO h39 Z<|ZO h39 Z<|ZO h39 Z<|ZO h39 Z<|ZO h39 Z<|ZO h39 Z<|ZO h39 Z<|ZP Z<|ZV (Y.pick_f Z h39 Z)<|ZV (Y.pick_f Z Z Z)<|ZE<|Zg<|Tr.cond_f Z Z<|Zt<|Zg<|?_
        refine Zs<|Zs<|Zr<|Za Z<|Ze<|Zg<|Zb<|?_
        refine ZL (X := Nat) (fun z0 => V) (fun z0 => [sb26, q26, s5b, s6b, s7]) (fun z0 => [(0, .slice p l.length c), (4, .pointer (some ⟨bx1, 0, none⟩)), (5, v2), (6, v5), (7, v8), (8, .int .i64 (now + (((l.getD i1 ((0, 0) : Int × Int)).2) % 4))), (9, .int .i64 (i1 : Int)), (14, .slice p26 ms26.length c26), (16, .int .i64 (k1 : Int)), (17, .int .i64 ((ms26.getD k1 Msg.zero).xid)), (20, .int .i64 (z0 : Int))]) (fun z0 => z0 ≤ k1) (fun z0 => k1 - z0) (0 : Nat) (Nat.zero_le _) ?_
        rintro j1 hjk
        refine Zs<|Zs<|Zr<|Zm Z<|Zm Z<|Zv (Y.int Z Z Z)<|Ze<|Zg<|?_
        rcases Zsplit (decide ((j1 : Int) < (k1 : Int))) with ⟨h45, g45⟩ | ⟨h45, g45⟩ <;> try simp only [kb] at g45
        ·refine Tr.cond_t Z h45<|Zt<|Zg<|Zs<|Zb<|Zs<|Tr.quiet Law18b_mo WK<|ZM Z<|ZM Z<|ZV (Y.idxR j1 Z Z Law18b_es39 (ho26.rd 1 rfl) W W)<|ZV (Y.fieldR Z Law18b_fo35_5 (ho26.rd 1 rfl) W)<|ZV (Y.ldR Z Law18b_ts30 (ho26.rd 1 rfl) (flatm_at Msg.cl_enc.len W Msg.zero WD rfl))<|ZM Z<|ZM Z<|ZV (Y.idxR k1 Z Z Law18b_es39 (ho26.rd 1 rfl) W W)<|ZV (Y.fieldR Z Law18b_fo35_5 (ho26.rd 1 rfl) W)<|?_
         refine ZV (Y.ldR Z Law18b_ts30 (ho26.rd 1 rfl) (flatm_at Msg.cl_enc.len W Msg.zero WD rfl))<|ZV (Y.int Z Z Z)<|ZE<|Zg<|Tr.cond_f rfl (beq_eq_false_iff_ne.2 (hF5 j1 W))<|Zt<|Zc<|Zg<|Zr<|Zm Z<|Zv (Y.add Z Z W)<|Za Z<|Ze<|Ex.keep [0, 0, 0, 0, 0]<|?_
         exact ZR (j1 + 1 : Nat) W W
        ·refine Tr.cond_f Z h45<|Zx<|Zy<|Zy<|Zi<|Zg<|Zs<|Zr<|Zm Z<|Zm Z<|Zm Z<|?_
         refine Run.mapUpdateP (f := vI) (u := now + (((l.getD i1 ((0, 0) : Int × Int)).2) % 4)) (l := sn2) 2 rfl rfl rfl Law18b_mt26 h5b rfl (fun s46 hm47 => ?_)
         refine Run.heapTo (H' := [sb26, q26, s46, s6b, s7]) Z<|Ze<|Zg<|Zr<|Zm Z<|Zm Z<|Zm Z<|Zm Z<|Zv (Y.idxR k1 Z Z Law18b_es39 (ho26.rd 1 rfl) W W)<|Zv (Y.fieldR Z Law18b_fo35_5 (ho26.rd 1 rfl) W)<|Zv (Y.ldR Z Law18b_ts30 (ho26.rd 1 rfl) (flatm_at Msg.cl_enc.len W Msg.zero WD rfl))<|?_
         refine Run.mapUpdateP (f := vU) (u := (ms26.getD k1 Msg.zero).addr) (l := ofm2) 3 rfl rfl rfl Law18b_mt27 h6b rfl (fun s48 hm49 => ?_)
         refine Run.heapTo (H' := [sb26, q26, s46, s48, s7]) Z<|Ze<|Zc<|Zg<|Zr<|Zm Z<|Zv (Y.add Z Z W)<|Za Z<|Ze<|Ex.keep [0, 0, 0, 0, 0]<|?_
         exact ZR (⟨k1 + 1, s46, s48, pset sn2 ((ms26.getD k1 Msg.zero).xid) (now + (((l.getD i1 ((0, 0) : Int × Int)).2) % 4)), pset ofm2 ((ms26.getD k1 Msg.zero).xid) ((ms26.getD k1 Msg.zero).addr)⟩ : Nat × Sg × Sg × List (Int × Int) × List (Int × Int)) ⟨hm47, hm49, Ob.once_step hb.1 W W hOk (by rw [hTm]), by omega⟩ (by dsimp only; omega)
     ·refine Tr.cond_f Z h27<|Zx<|Zy<|Zy<|Zi<|Zc<|Zc<|Zg<|Zr<|Zm Z<|Zv (Y.add Z Z W)<|Za Z<|Ze<|Ex.keep [0, 1, 1, 1]<|?_
      have hOe : Ob.Once o26 sn2 ofm2 gn := by rw [hTo, ← Ob.onceK_all (k := k1) hb.1 W]; exact hOk
      have hld := Ob.load_tick hq26
      exact ZR (⟨i1 + 1, o26, sb26, s5b, s6b, s7, sn2, ofm2, gn, now + (((l.getD i1 ((0, 0) : Int × Int)).2) % 4)⟩ : Nat × Ob × Sg × Sg × Sg × Sg × List (Int × Int) × List (Int × Int) × List (Int × Bool) × Int) ⟨hb26, h5b, h6b, h7, hOe, by (try dsimp only); omega, by (try dsimp only); constructor <;> omega, by (try dsimp only); omega, by (try dsimp only); omega⟩ (by dsimp only; omega)
  ·refine Tr.cond_f Z h12<|Zx<|Zy<|Zy<|Zi<|Zg<|Zs<|Zr<|Za Z<|Ze<|Zg<|Zu<|Ex.keep []<|?_
   exact Ex.ret1 rfl rfl  rfl
 ·refine Zo h11 Z<|Zo h11 Z<|Zv (Y.pick_f Z h11 Z)<|Ze<|Zg<|Tr.cond_f Z Z<|Zx<|Zy<|Zy<|Zi<|Zg<|Zs<|Zr<|Za Z<|Ze<|Zg<|?_
  refine Zu<|Ex.keep []<|?_
  exact Ex.ret1 rfl rfl  rfl

theorem outboxonce_h {V : Vw} {l : List (Int × Int)} {v0 : Value} (hv : Rd V [] 2 v0 l.length (l.map pr2).flatten) (hl9 : l.length ≤ 9223372036854775807) : Does Try.prog 3 [v0] V [] (fun v _ _ => v = .bool true) := by
  obtain ⟨p, c, rfl, _⟩ := hv.form
  rw [← List.flatMap_def] at hv
  exact outboxonce_c hv hl9
end Go.Proofs.Ytpdnkhdmajmbiaa
