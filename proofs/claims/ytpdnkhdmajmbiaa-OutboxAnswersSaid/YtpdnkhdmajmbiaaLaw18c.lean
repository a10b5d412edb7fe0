/- The statement OutboxLast, walked.
Conditions: as each theorem names them. -/
import Derived.Test.YtpdnkhdmajmbiaaProg
import Derived.Test.YtpdnkhdmajmbiaaLaw18b
import Derived.Test.YtpdnkhdmajmbiaaBB
import Derived.Test.YtpdnkhdmajmbiaaZG
set_option linter.unusedSimpArgs false
set_option linter.unusedVariables false
set_option maxRecDepth 4000
namespace Go.Proofs.Ytpdnkhdmajmbiaa
open Go Go.K
attribute [local irreducible] Code.wp wpList Calls wpQuiet
theorem Law18c_pt24 : ptrT Try.prog 24 = true := by kernel_rfl
theorem Law18c_es22 : elemS Try.prog 22 = some (31, 2) := by kernel_rfl
theorem Law18c_al31 : arrT Try.prog 31 = some (2, 1) := by kernel_rfl
theorem Law18c_ts3 : scal Try.prog 3 = true := by kernel_rfl
theorem Law18c_it3_30 : intT Try.prog 3 30 = some .u32 := by kernel_rfl
theorem Law18c_mt54 : mapT Try.prog 54 = some (.u32, 30, 3) := by kernel_rfl
theorem Law18c_es39 : elemS Try.prog 39 = some (35, 11) := by kernel_rfl
theorem Law18c_mo : Try.prog.follows .mixedOrders = true := by kernel_rfl
theorem Law18c_fo35_5 : fieldOff Try.prog 35 5 = some 5 := by kernel_rfl
theorem Law18c_ts30 : scal Try.prog 30 = true := by kernel_rfl
theorem Law18c_fo35_8 : fieldOff Try.prog 35 8 = some 8 := by kernel_rfl
theorem Law18c_fo35_3 : fieldOff Try.prog 35 3 = some 3 := by kernel_rfl
theorem Law18c_zo3 : zeroOf Try.prog 3 = some (.int .i64 0) := by kernel_rfl
theorem Law18c_zo35 : zeroOf Try.prog 35 = some (.agg #[.int .i64 0, .int .i64 0, .int .i64 0, .int .i64 0, .int .i64 0, .int .u32 0, .int .i64 0, .string ⟨#[]⟩, .int .i64 0, .int .i64 0, .bool false]) := by kernel_rfl
theorem Law18c_sz35 : sizeT Try.prog 35 = some 11 := by kernel_rfl
theorem Law18c_tg4 : tagOf Try.prog 4 = some (1, .i64) := by kernel_rfl

set_option maxHeartbeats 1000000 in
theorem outboxlast_c {V : Vw} {l : List (Int × Int)} {p : Option Addr} {c : Nat} (hv : Rd V [] 2 (.slice p l.length c) l.length (l.flatMap pr2)) (hl9 : l.length ≤ 9223372036854775807)  : Does Try.prog 5 [.slice p l.length c] V [] (fun v _ _ => v = .bool true) := by
 refine Does.intro Try.func5 rfl rfl (le rfl) (fun B => ?_)
 refine Zs<|Zr<|Za Z<|Ze<|Zg<|Zs<|Zr<|Run.call0 (l := []) Z Z Z (lt Z) awake_h<|Run.heapTo (H' := []) Z<|Za Z<|Ze<|Zg<|Zs<|Zr<|?_
 refine Run.call [] (l := []) rfl rfl rfl (lt rfl) (new_o) (fun v9 V9 H9 hle9 hR => ?_)
 obtain ⟨hV, bx1, sb1, rfl, hb1, rfl⟩ := hR; replace hV := hV.symm; subst hV
 refine Run.heapTo (H' := [sb1]) Z<|Run.heapTo (H' := [sb1]) Z<|Za Z<|Ze<|Zg<|Zs<|Zs<|Zr<|Zm Z<|Zv (Y.not Z)<|Zm Z<|Zp Z<|Zm Z<|Zp Z<|Zv (Y.eqNil Z Z Law18c_pt24)<|Zv (Y.pick_f Z Z Z)<|?_
 refine Ze<|Zg<|Tr.cond_f Z Z<|Zt<|Zg<|Zs<|Zr<|?_
 refine Run.makeMap .u32 (lt rfl) (fun v2 s3 hm4 => ?_)
 refine Za Z<|Ze<|Zg<|Zs<|Zr<|?_
 refine Run.makeMap .u32 (lt rfl) (fun v5 s6 hm7 => ?_)
 refine Za Z<|Ze<|Zg<|Zs<|Zr<|?_
 refine Run.makeMap .u32 (lt rfl) (fun v8 s9 hm10 => ?_)
 refine Za Z<|Ze<|Zg<|Zs<|Zr<|Za Z<|Ze<|Zg<|Zs<|Zs<|Zr<|Run.keepTo (H' := [sb1, s3, s6, s9]) [3, 2, 1, 0] Z<|Za Z<|Ze<|Zg<|Zb<|?_
 refine ZL (X := Nat × Ob × Sg × Sg × Sg × Sg × List (Int × Int) × List (Int × Int) × List (Int × Int) × Int) (fun z0 => V) (fun z0 => [z0.2.2.1, z0.2.2.2.1, z0.2.2.2.2.1, z0.2.2.2.2.2.1]) (fun z0 => [(0, .slice p l.length c), (4, .pointer (some ⟨bx1, 0, none⟩)), (5, v2), (6, v5), (7, v8), (8, .int .i64 z0.2.2.2.2.2.2.2.2.2), (9, .int .i64 (z0.1 : Int))]) (fun z0 => Ob.In 105 99 z0.2.1 bx1 z0.2.2.1 ∧ Om .u32 v2 (pm vI z0.2.2.2.2.2.2.1) z0.2.2.2.1 ∧ Om .u32 v5 (pm vI z0.2.2.2.2.2.2.2.1) z0.2.2.2.2.1 ∧ Om .u32 v8 (pm vI z0.2.2.2.2.2.2.2.2.1) z0.2.2.2.2.2.1 ∧ Ob.Lst z0.2.1 z0.2.2.2.2.2.2.1 z0.2.2.2.2.2.2.2.1 z0.2.2.2.2.2.2.2.2.1 z0.2.2.2.2.2.2.2.2.2 ∧ z0.2.1.load ≤ (z0.1 : Int) ∧ (0 ≤ z0.2.2.2.2.2.2.2.2.2 ∧ z0.2.2.2.2.2.2.2.2.2 ≤ (z0.1 : Int)) ∧ z0.1 ≤ l.length ∧ z0.1 ≤ 150) (fun z0 => l.length - z0.1) (⟨0, Ob.new, sb1, s3, s6, s9, [], [], [], 0⟩ : Nat × Ob × Sg × Sg × Sg × Sg × List (Int × Int) × List (Int × Int) × List (Int × Int) × Int) ⟨hb1, hm4, hm7, hm10, Ob.lst_new, Int.le_refl _, ⟨Int.le_refl _, Int.le_refl _⟩, Nat.zero_le _, Nat.zero_le _⟩ ?_
 rintro ⟨i1, o, sb, s5, s6, s7, pt, tl, xd, now⟩ ⟨hb, h5, h6, h7, hO, hlo, hnw, hil, hi2⟩
 try dsimp only at hb h5 h6 h7 hO hlo hnw hil hi2 ⊢
 refine Zs<|Zs<|Zr<|Zm Z<|Zm Z<|Zv (Y.lenSl Z Law18c_es22)<|Zv (Y.int Z Z Z)<|Zm Z<|?_
 rcases Zsplit (decide ((i1 : Int) < ((l.length : Nat) : Int))) with ⟨h11, g11⟩ | ⟨h11, g11⟩ <;> try simp only [kb] at g11
 ·refine Zp h11<|Zm Z<|Zp h11<|Zv (Y.int Z Z Z)<|Zv (Y.pick_t Z h11 Z)<|Ze<|Zg<|?_
  rcases Zsplit (decide ((i1 : Int) < 150)) with ⟨h12, g12⟩ | ⟨h12, g12⟩ <;> try simp only [kb] at g12
  ·refine Tr.cond_t Z h12<|Zt<|Zg<|Zs<|Zb<|Zs<|Zr<|?_
   have hll := Ob.last_load o
   refine Zm Z<|Zm Z<|Zv (Y.idxR i1 Z Z Law18c_es22 hv.of_nil W W)<|Zv (Y.idxArrR Z Z Law18c_al31 hv.of_nil W WD WD)<|Zv (Y.ldR Z Law18c_ts3 hv.of_nil (flatm_at pr2_enc.len W ((0, 0) : Int × Int) WD rfl))<|Zv (Y.int (r := .int .i64 (((l.getD i1 ((0, 0) : Int × Int)).2) % 4)) rfl rfl (by simp only [intRes]; rw [and_low2 ((l.getD i1 ((0, 0) : Int × Int)).2) 3 4 2 WD rfl rfl]))<|?_
   refine Zv (Y.conv (((l.getD i1 ((0, 0) : Int × Int)).2) % 4) rfl Law18c_it3_30 (wrap_u32 W))<|Za Z<|Ze<|Zg<|Zs<|Zr<|Zm Z<|Zm Z<|Zv (Y.idxR i1 Z Z Law18c_es22 hv.of_nil W W)<|Zv (Y.idxArrR Z Z Law18c_al31 hv.of_nil W WD WD)<|Zv (Y.ldR Z Law18c_ts3 hv.of_nil (flatm_at pr2_enc.len W ((0, 0) : Int × Int) WD rfl))<|Zv (Y.int (r := .int .i64 (((l.getD i1 ((0, 0) : Int × Int)).1) % 4)) rfl rfl (by simp only [intRes]; rw [and_low2 ((l.getD i1 ((0, 0) : Int × Int)).1) 3 4 2 WD rfl rfl]))<|?_
   refine Ze<|Zg<|Zb<|Zs<|Zs<|Zr<|Zv (Y.int Z Z Z)<|Za Z<|Ze<|Zg<|?_
   rcases Zsplit ((((l.getD i1 ((0, 0) : Int × Int)).1) % 4) == 0) with ⟨h13, g13⟩ | ⟨h13, g13⟩ <;> try simp only [kb] at g13
   ·refine Tr.cond_t Z h13<|Zt<|Zg<|Tr.cond_t Z h13<|Zs<|Zr<|Zm Z<|Zm Z<|Zm Z<|Run.call0 (l := [.tmp 69, .tmp 70]) Z Z Z (lt Z) update_h<|?_
    refine Run.call [0] (l := [.tmp 68, .tmp 71]) rfl rfl rfl (lt rfl) (put_o hb (m := (Ob.upd (((l.getD i1 ((0, 0) : Int × Int)).2) % 4) (i1 : Int)))) (fun v9 V9 H9 hle9 hR => ?_)
    obtain ⟨hV, b14, e14, o14, sb14, hq14, rfl, hb14, rfl⟩ := hR; replace hV := hV.symm; subst hV
    refine Run.heapTo (H' := [s5, s6, s7, sb14]) Z<|Run.heapTo (H' := [s5, s6, s7, sb14]) Z<|Za Z<|Ze<|Zg<|Zs<|Zs<|Zr<|?_
    have hPu := Ob.lst_put hO hnw.1 (by constructor <;> omega) W hq14
    refine Zm Z<|Zv (Y.int Z Z Z)<|Ze<|Zg<|Tr.cond_f rfl (by rw [hPu.1]; rfl)<|Zt<|Zg<|Zr<|Zm Z<|Zm Z<|Zm Z<|?_
    refine Run.mapUpdateP (f := vI) (u := (i1 : Int)) (l := pt) 0 rfl rfl rfl Law18c_mt54 h5 rfl (fun s15 hm16 => ?_)
    refine Run.heapTo (H' := [s15, s6, s7, sb14]) Z<|Ze<|Zc<|Zc<|Zg<|Zr<|Zm Z<|Zv (Y.add Z Z W)<|Za Z<|Ze<|Ex.keep [3, 0, 0, 0]<|?_
    have hld := Ob.load_put hq14
    exact ZR (⟨i1 + 1, o14, sb14, s15, s6, s7, pset pt (((l.getD i1 ((0, 0) : Int × Int)).2) % 4) (i1 : Int), tl, xd, now⟩ : Nat × Ob × Sg × Sg × Sg × Sg × List (Int × Int) × List (Int × Int) × List (Int × Int) × Int) ⟨hb14, hm16, h6, h7, hPu.2, by (try dsimp only); omega, by (try dsimp only); constructor <;> omega, by (try dsimp only); omega, by (try dsimp only); omega⟩ (by dsimp only; omega)
   ·refine Tr.cond_f Z h13<|Zr<|Zv (Y.int Z Z Z)<|Za Z<|Ze<|Zg<|?_
    rcases Zsplit ((((l.getD i1 ((0, 0) : Int × Int)).1) % 4) == 1) with ⟨h17, g17⟩ | ⟨h17, g17⟩ <;> try simp only [kb] at g17
    ·refine Tr.cond_t Z h17<|Zs<|Zr<|Zm Z<|Zm Z<|Zm Z<|Run.call0 (l := [.tmp 69, .tmp 70]) Z Z Z (lt Z) update_h<|?_
     refine Run.call [0] (l := [.tmp 68, .tmp 71]) rfl rfl rfl (lt rfl) (put_o hb (m := (Ob.upd (((l.getD i1 ((0, 0) : Int × Int)).2) % 4) (i1 : Int)))) (fun v9 V9 H9 hle9 hR => ?_)
     obtain ⟨hV, b18, e18, o18, sb18, hq18, rfl, hb18, rfl⟩ := hR; replace hV := hV.symm; subst hV
     refine Run.heapTo (H' := [s5, s6, s7, sb18]) Z<|Run.heapTo (H' := [s5, s6, s7, sb18]) Z<|Za Z<|Ze<|Zg<|Zs<|Zs<|Zr<|?_
     have hPu := Ob.lst_put hO hnw.1 (by constructor <;> omega) W hq18
     refine Zm Z<|Zv (Y.int Z Z Z)<|Ze<|Zg<|Tr.cond_f rfl (by rw [hPu.1]; rfl)<|Zt<|Zg<|Zr<|Zm Z<|Zm Z<|Zm Z<|?_
     refine Run.mapUpdateP (f := vI) (u := (i1 : Int)) (l := pt) 0 rfl rfl rfl Law18c_mt54 h5 rfl (fun s19 hm20 => ?_)
     refine Run.heapTo (H' := [s19, s6, s7, sb18]) Z<|Ze<|Zc<|Zc<|Zg<|Zr<|Zm Z<|Zv (Y.add Z Z W)<|Za Z<|Ze<|Ex.keep [3, 0, 0, 0]<|?_
     have hld := Ob.load_put hq18
     exact ZR (⟨i1 + 1, o18, sb18, s19, s6, s7, pset pt (((l.getD i1 ((0, 0) : Int × Int)).2) % 4) (i1 : Int), tl, xd, now⟩ : Nat × Ob × Sg × Sg × Sg × Sg × List (Int × Int) × List (Int × Int) × List (Int × Int) × Int) ⟨hb18, hm20, h6, h7, hPu.2, by (try dsimp only); omega, by (try dsimp only); constructor <;> omega, by (try dsimp only); omega, by (try dsimp only); omega⟩ (by dsimp only; omega)
    ·refine Tr.cond_f Z h17<|Zs<|Zr<|Zv (Y.int Z Z Z)<|Za Z<|Ze<|Zg<|?_
     rcases Zsplit ((((l.getD i1 ((0, 0) : Int × Int)).1) % 4) == 2) with ⟨h21, g21⟩ | ⟨h21, g21⟩ <;> try simp only [kb] at g21
     ·refine Tr.cond_t Z h21<|Zs<|Zr<|Zm Z<|Zv (Y.add Z Z W)<|Za Z<|Ze<|Zg<|Zs<|Zr<|Zm Z<|Zm Z<|?_
      refine Run.call [0] (l := [.tmp 83, .tmp 84]) rfl rfl rfl (lt rfl) (tick_o hb (now := now + 1) W) (fun v9 V9 H9 hle9 hR => ?_)
      obtain ⟨hV, ms22, e22, o22, p22, c22, q22, sb22, hq22, rfl, ho22, hb22, rfl⟩ := hR; replace hV := hV.symm; subst hV
      refine Run.heapTo (H' := [s5, s6, s7, q22, sb22]) Z<|Run.heapTo (H' := [s5, s6, s7, q22, sb22]) Z<|Zm Z<|Zv (Y.extract Z Z)<|Zv (Y.extract Z Z)<|Za Z<|Za Z<|Ze<|Zg<|Zs<|Zr<|?_
      obtain ⟨hTm, hTe, hTo⟩ := Ob.tick_of hq22 (by constructor <;> omega)
      have hTn : ms22.length = (o.outs.filter (Ob.due (now + 1))).length := by rw [hTm, Ob.msgs_len]
      have hTb := List.length_filter_le (Ob.due (now + 1)) o.outs
      have hOl := Ob.outs_len hb.1
      refine Run.keepTo (H' := [sb22, q22, s5, s6, s7]) [4, 3, 0, 0, 0] Z<|Za Z<|Ze<|Zg<|Zb<|?_
      refine ZL (X := Nat × Sg × Sg × List (Int × Int) × List (Int × Int)) (fun z0 => V) (fun z0 => [sb22, q22, s5, z0.2.1, z0.2.2.1]) (fun z0 => [(0, .slice p l.length c), (4, .pointer (some ⟨bx1, 0, none⟩)), (5, v2), (6, v5), (7, v8), (8, .int .i64 (now + 1)), (9, .int .i64 (i1 : Int)), (12, .slice p22 ms22.length c22), (14, .int .i64 (z0.1 : Int))]) (fun z0 => Om .u32 v5 (pm vI z0.2.2.2.1) z0.2.1 ∧ Om .u32 v8 (pm vI z0.2.2.2.2) z0.2.2.1 ∧ Ob.Lst (Ob.onceK (now + 1) o z0.1) pt z0.2.2.2.1 z0.2.2.2.2 (now + 1) ∧ z0.1 ≤ ms22.length) (fun z0 => ms22.length - z0.1) (⟨0, s6, s7, tl, xd⟩ : Nat × Sg × Sg × List (Int × Int) × List (Int × Int)) ⟨h6, h7, Ob.lst_start hO W, Nat.zero_le _⟩ ?_
      rintro ⟨k1, s6b, s7b, tl2, xd2⟩ ⟨h6b, h7b, hOk, hkl⟩
      try dsimp only at h6b h7b hOk hkl ⊢
      refine Zs<|Zs<|Zr<|Zm Z<|Zm Z<|Zv (Y.lenSl Z Law18c_es39)<|Zv (Y.int Z Z Z)<|Ze<|Zg<|?_
      rcases Zsplit (decide ((k1 : Int) < ((ms22.length : Nat) : Int))) with ⟨h23, g23⟩ | ⟨h23, g23⟩ <;> try simp only [kb] at g23
      ·refine Tr.cond_t Z h23<|Zt<|Zg<|Zs<|Zb<|Zs<|Tr.tail 11 Law18c_mo WK<|ZM Z<|ZM Z<|ZM Z<|ZV (Y.idxR k1 Z Z Law18c_es39 (ho22.rd 1 rfl) W W)<|ZV (Y.fieldR Z Law18c_fo35_5 (ho22.rd 1 rfl) W)<|ZV (Y.ldR Z Law18c_ts30 (ho22.rd 1 rfl) (flatm_at Msg.cl_enc.len W Msg.zero WD rfl))<|ZM Z<|ZM Z<|ZV (Y.idxR k1 Z Z Law18c_es39 (ho22.rd 1 rfl) W W)<|?_
       refine ZV (Y.fieldR Z Law18c_fo35_8 (ho22.rd 1 rfl) W)<|ZV (Y.ldR Z Law18c_ts3 (ho22.rd 1 rfl) (flatm_at Msg.cl_enc.len W Msg.zero WD rfl))<|RunQ.nil_run<|?_
       refine Run.mapUpdateP (f := vI) (u := (ms22.getD k1 Msg.zero).pot) (l := tl2) 3 rfl rfl rfl Law18c_mt54 h6b rfl (fun s24 hm25 => ?_)
       refine Run.heapTo (H' := [sb22, q22, s5, s24, s7b]) Z<|Ze<|Zg<|Tr.tail 11 Law18c_mo WK<|ZM Z<|ZM Z<|ZM Z<|ZV (Y.idxR k1 Z Z Law18c_es39 (ho22.rd 1 rfl) W W)<|ZV (Y.fieldR Z Law18c_fo35_5 (ho22.rd 1 rfl) W)<|ZV (Y.ldR Z Law18c_ts30 (ho22.rd 1 rfl) (flatm_at Msg.cl_enc.len W Msg.zero WD rfl))<|ZM Z<|ZM Z<|ZV (Y.idxR k1 Z Z Law18c_es39 (ho22.rd 1 rfl) W W)<|?_
       refine ZV (Y.fieldR Z Law18c_fo35_3 (ho22.rd 1 rfl) W)<|ZV (Y.ldR Z Law18c_ts3 (ho22.rd 1 rfl) (flatm_at Msg.cl_enc.len W Msg.zero WD rfl))<|RunQ.nil_run<|?_
       refine Run.mapUpdateP (f := vI) (u := (ms22.getD k1 Msg.zero).xid) (l := xd2) 4 rfl rfl rfl Law18c_mt54 h7b rfl (fun s26 hm27 => ?_)
       refine Run.heapTo (H' := [sb22, q22, s5, s24, s26]) Z<|Ze<|Zc<|Zg<|Zr<|Zm Z<|Zv (Y.add Z Z W)<|Za Z<|Ze<|Ex.keep [0, 0, 0, 0, 0]<|?_
       exact ZR (⟨k1 + 1, s24, s26, pset tl2 ((ms22.getD k1 Msg.zero).addr) ((ms22.getD k1 Msg.zero).pot), pset xd2 ((ms22.getD k1 Msg.zero).addr) ((ms22.getD k1 Msg.zero).xid)⟩ : Nat × Sg × Sg × List (Int × Int) × List (Int × Int)) ⟨hm25, hm27, Ob.lst_step hb.1 W W hOk (by rw [hTm]), by omega⟩ (by dsimp only; omega)
      ·refine Tr.cond_f Z h23<|Zx<|Zy<|Zy<|Zi<|Zc<|Zc<|Zg<|Zr<|Zm Z<|Zv (Y.add Z Z W)<|Za Z<|Ze<|Ex.keep [0, 1, 1, 1]<|?_
       have hOe : Ob.Lst o22 pt tl2 xd2 (now + 1) := by rw [hTo, ← Ob.onceK_all (k := k1) hb.1 W]; exact hOk
       have hld := Ob.load_tick hq22
       exact ZR (⟨i1 + 1, o22, sb22, s5, s6b, s7b, pt, tl2, xd2, now + 1⟩ : Nat × Ob × Sg × Sg × Sg × Sg × List (Int × Int) × List (Int × Int) × List (Int × Int) × Int) ⟨hb22, h5, h6b, h7b, hOe, by (try dsimp only); omega, by (try dsimp only); constructor <;> omega, by (try dsimp only); omega, by (try dsimp only); omega⟩ (by dsimp only; omega)
     ·refine Tr.cond_f Z h21<|Zr<|Zm Z<|Zm Z<|Zm Z<|Zv (Y.lookupP (r := .int .i64 ((xd.lookup (((l.getD i1 ((0, 0) : Int × Int)).2) % 4)).getD (0 : Int))) (f := vI) (l := xd) (0 : Int) Z Z Law18c_mt54 Law18c_zo3 Z h7 (j := 3) Z Z)<|?_
      refine Run.call [0] (l := [.tmp 60, .tmp 63]) rfl rfl rfl (lt rfl) (acked_o hb (k := (xd.lookup (((l.getD i1 ((0, 0) : Int × Int)).2) % 4)).getD (0 : Int))) (fun v9 V9 H9 hle9 hR => ?_)
      obtain ⟨hV, b28, m28, f28, o28, sb28, hq28, rfl, hb28, rfl⟩ := hR; replace hV := hV.symm; subst hV
      refine Run.heapTo (H' := [s5, s6, s7, sb28]) Z<|Run.heapTo (H' := [s5, s6, s7, sb28]) Z<|Ze<|Zc<|Zc<|Zg<|Zr<|Zm Z<|Zv (Y.add Z Z W)<|Za Z<|Ze<|Ex.keep [3, 0, 0, 0]<|?_
      have hld := Ob.load_acked hq28
      exact ZR (⟨i1 + 1, o28, sb28, s5, s6, s7, pt, tl, xd, now⟩ : Nat × Ob × Sg × Sg × Sg × Sg × List (Int × Int) × List (Int × Int) × List (Int × Int) × Int) ⟨hb28, h5, h6, h7, (Ob.lst_acked hb.1 hO hnw.1 W hq28), by (try dsimp only); omega, by (try dsimp only); constructor <;> omega, by (try dsimp only); omega, by (try dsimp only); omega⟩ (by dsimp only; omega)
  ·refine Tr.cond_f Z h12<|Zx<|Zy<|Zy<|Zi<|Zg<|Zs<|Zs<|Zr<|Za Z<|Ze<|Zg<|Zb<|?_
   refine ZL (X := Nat × Ob × Sg × Sg × List (Int × Int) × Int) (fun z0 => V) (fun z0 => [z0.2.2.1, s5, z0.2.2.2.1, s7]) (fun z0 => [(4, .pointer (some ⟨bx1, 0, none⟩)), (5, v2), (6, v5), (8, .int .i64 z0.2.2.2.2.2), (15, .int .i64 (z0.1 : Int))]) (fun z0 => Ob.In 105 99 z0.2.1 bx1 z0.2.2.1 ∧ Om .u32 v5 (pm vI z0.2.2.2.2.1) z0.2.2.2.1 ∧ Ob.Put z0.2.1 pt z0.2.2.2.2.1 ∧ (∀ x, x ∈ z0.2.1.outs → x.sent ≤ z0.2.2.2.2.2) ∧ z0.2.1.load ≤ 150 ∧ (0 ≤ z0.2.2.2.2.2 ∧ z0.2.2.2.2.2 ≤ 150 + 3 * (z0.1 : Int)) ∧ z0.1 ≤ 400 ∧ (z0.1 = 0 ∨ z0.2.1.waits = []) ∧ (z0.1 ≤ 1 ∨ z0.2.1.outs = [])) (fun z0 => 400 - z0.1) (⟨0, o, sb, s6, tl, now⟩ : Nat × Ob × Sg × Sg × List (Int × Int) × Int) ⟨hb, h6, hO.p, hO.sn, by (try dsimp only); omega, by (try dsimp only); constructor <;> omega, Nat.zero_le _, .inl rfl, .inl (Nat.zero_le _)⟩ ?_
   rintro ⟨t1, r, sc, s6c, tl3, nw2⟩ ⟨hc, h6c, hPt, hsn, hlo3, hnw3, htl, hw0, hou⟩
   try dsimp only at hc h6c hPt hsn hlo3 hnw3 htl hw0 hou ⊢
   refine Zs<|Zs<|Zr<|?_
   have hll3 := Ob.last_load r
   have hwl3 : r.waits.length ≤ 4294967296 := by have := hc.1.l0; unfold Ob.load at hlo3; omega
   refine Zm Z<|Zv (Y.int Z Z Z)<|Zm Z<|?_
   rcases Zsplit (decide ((t1 : Int) < 400)) with ⟨h29, g29⟩ | ⟨h29, g29⟩ <;> try simp only [kb] at g29
   ·refine Zp h29<|Zm Z<|Zp h29<|Run.call0 (l := [.tmp 119]) Z Z Z (lt Z) (Does.frame1 0 Z (len_o hc hwl3))<|Zp h29<|Zv (Y.int Z Z Z)<|Zv (Y.pick_t Z h29 Z)<|Ze<|Zg<|?_
    rcases Zsplit (decide (((r.len : Nat) : Int) > 0)) with ⟨h30, g30⟩ | ⟨h30, g30⟩ <;> try simp only [kb] at g30
    ·refine Tr.cond_t Z h30<|Zt<|Zg<|Zs<|Zb<|Zs<|Zr<|Zm Z<|Zv (Y.add Z Z W)<|Za Z<|Ze<|Zg<|Zs<|Zr<|Zm Z<|Zm Z<|?_
     refine Run.call [0] (l := [.tmp 128, .tmp 129]) rfl rfl rfl (lt rfl) (tick_o hc (now := nw2 + 3) W) (fun v9 V9 H9 hle9 hR => ?_)
     obtain ⟨hV, ms31, e31, o31, p31, c31, q31, sb31, hq31, rfl, ho31, hb31, rfl⟩ := hR; replace hV := hV.symm; subst hV
     refine Run.heapTo (H' := [s5, s6c, s7, q31, sb31]) Z<|Run.heapTo (H' := [s5, s6c, s7, q31, sb31]) Z<|Zm Z<|Zv (Y.extract Z Z)<|Zv (Y.extract Z Z)<|Za Z<|Za Z<|Ze<|Zg<|Zs<|Zr<|?_
     have hAd : r.outs.filter (Ob.due (nw2 + 3)) = r.outs := Ob.all_due fun x hx => .inr (by have := hsn x hx; omega)
     obtain ⟨hTm, hTe, hTo⟩ := Ob.tick_of hq31 (by constructor <;> omega)
     rw [hAd] at hTm
     have hTn : o31.outs.length = ms31.length := by rw [hTo, hTm, Ob.msgs_len]; unfold Ob.tick; simp
     have hTp : ∀ k, k < ms31.length → ms31.getD k Msg.zero = (o31.outs.getD k Ob.odflt).msg := fun k hk => by rw [hTm, hTo]; rw [hTm, Ob.msgs_len] at hk; exact Ob.tick_msg hk
     have hTl : o31.load ≤ 150 := by have := Ob.load_tick hq31; omega
     have hTb := Ob.outs_len hb31.1
     have hTc := Ob.last_load o31
     have hFs : Ob.Fin o31 o31 0 (r.waits = []) pt tl3 := by rw [hTo]; exact Ob.fin_start hPt
     refine Run.keepTo (H' := [sb31, q31, s5, s6c, s7]) [4, 3, 0, 0, 0] Z<|Za Z<|Ze<|Zg<|Zb<|?_
     refine ZL (X := Nat × Ob × Sg × Sg × List (Int × Int)) (fun z0 => V) (fun z0 => [z0.2.2.1, q31, s5, z0.2.2.2.1, s7]) (fun z0 => [(4, .pointer (some ⟨bx1, 0, none⟩)), (5, v2), (6, v5), (8, .int .i64 (nw2 + 3)), (15, .int .i64 (t1 : Int)), (16, .slice p31 ms31.length c31), (18, .int .i64 (z0.1 : Int))]) (fun z0 => Ob.In 105 99 z0.2.1 bx1 z0.2.2.1 ∧ Om .u32 v5 (pm vI z0.2.2.2.2) z0.2.2.2.1 ∧ Ob.Fin o31 z0.2.1 z0.1 (r.waits = []) pt z0.2.2.2.2 ∧ z0.2.1.load ≤ 150 ∧ z0.1 ≤ ms31.length) (fun z0 => ms31.length - z0.1) (⟨0, o31, sb31, s6c, tl3⟩ : Nat × Ob × Sg × Sg × List (Int × Int)) ⟨hb31, h6c, hFs, hTl, Nat.zero_le _⟩ ?_
     rintro ⟨k1, r2, sd, s6d, tl4⟩ ⟨hd, h6d, hFn, hlo4, hkl⟩
     try dsimp only at hd h6d hFn hlo4 hkl ⊢
     refine Zs<|Zs<|Zr<|?_
     have hll4 := Ob.last_load r2
     refine Zm Z<|Zm Z<|Zv (Y.lenSl Z Law18c_es39)<|Zv (Y.int Z Z Z)<|Ze<|Zg<|?_
     rcases Zsplit (decide ((k1 : Int) < ((ms31.length : Nat) : Int))) with ⟨h32, g32⟩ | ⟨h32, g32⟩ <;> try simp only [kb] at g32
     ·refine Tr.cond_t Z h32<|Zt<|Zg<|Zs<|Zb<|Zs<|Tr.tail 11 Law18c_mo WK<|ZM Z<|ZM Z<|ZM Z<|ZV (Y.idxR k1 Z Z Law18c_es39 (ho31.rd 1 rfl) W W)<|ZV (Y.fieldR Z Law18c_fo35_5 (ho31.rd 1 rfl) W)<|ZV (Y.ldR Z Law18c_ts30 (ho31.rd 1 rfl) (flatm_at Msg.cl_enc.len W Msg.zero WD rfl))<|ZM Z<|ZM Z<|ZV (Y.idxR k1 Z Z Law18c_es39 (ho31.rd 1 rfl) W W)<|?_
      refine ZV (Y.fieldR Z Law18c_fo35_8 (ho31.rd 1 rfl) W)<|ZV (Y.ldR Z Law18c_ts3 (ho31.rd 1 rfl) (flatm_at Msg.cl_enc.len W Msg.zero WD rfl))<|RunQ.nil_run<|?_
      refine Run.mapUpdateP (f := vI) (u := (ms31.getD k1 Msg.zero).pot) (l := tl4) 3 rfl rfl rfl Law18c_mt54 h6d rfl (fun s33 hm34 => ?_)
      refine Run.heapTo (H' := [sd, q31, s5, s33, s7]) Z<|Ze<|Zg<|Zs<|Zr<|Zm Z<|Zm Z<|Zm Z<|Zv (Y.idxR k1 Z Z Law18c_es39 (ho31.rd 1 rfl) W W)<|Zv (Y.fieldR Z Law18c_fo35_3 (ho31.rd 1 rfl) W)<|Zv (Y.ldR Z Law18c_ts3 (ho31.rd 1 rfl) (flatm_at Msg.cl_enc.len W Msg.zero WD rfl))<|?_
      refine Run.call [0] (l := [.tmp 151, .tmp 156]) rfl rfl rfl (lt rfl) (acked_o hd (k := (ms31.getD k1 Msg.zero).xid)) (fun v9 V9 H9 hle9 hR => ?_)
      obtain ⟨hV, b35, m35, f35, o35, sb35, hq35, rfl, hb35, rfl⟩ := hR; replace hV := hV.symm; subst hV
      refine Run.heapTo (H' := [q31, s5, s33, s7, sb35]) Z<|Run.heapTo (H' := [q31, s5, s33, s7, sb35]) Z<|Zm Z<|Zv (Y.extract Z Z)<|Zv (Y.extract Z Z)<|?_
      refine Run.alloc Law18c_zo35 (lt rfl) (fun b36 => ?_)
      refine Run.store (s := [(b36, .cells #[.int .i64 m35.kind, .int .i64 m35.life, .int .i64 m35.seen, .int .i64 m35.xid, .int .i64 m35.state, .int .u32 m35.addr, .int .i64 m35.bind, .string m35.client, .int .i64 m35.pot, .int .i64 m35.at_, .bool m35.ok] 35 (0, 0))]) Z Z Law18c_sz35 (i := 0) Z Z (le Z) Z Z<|Za Z<|Ze<|Zg<|Zs<|Zr<|?_
      have hFt := Ob.fin_step (E := ms31.getD k1 Msg.zero) hd.1 hFn W W (hTp k1 W) (hb31.1.mx _ (Ob.getD_mem W)) hq35
      refine Zm Z<|Zv (Y.not Z)<|Ze<|Zg<|Tr.cond_f Z (congrArg Bool.not hFt.1)<|Zt<|Zc<|Zg<|Zr<|Zm Z<|Zv (Y.add Z Z W)<|Za Z<|Ze<|Ex.keep [5, 1, 1, 1, 1]<|?_
      exact ZR (⟨k1 + 1, o35, sb35, s33, pset tl4 ((ms31.getD k1 Msg.zero).addr) ((ms31.getD k1 Msg.zero).pot)⟩ : Nat × Ob × Sg × Sg × List (Int × Int)) ⟨hb35, hm34, hFt.2, by (try dsimp only); have := Ob.load_acked hq35; omega, by (try dsimp only); omega⟩ (by dsimp only; omega)
     ·refine Tr.cond_f Z h32<|Zx<|Zy<|Zy<|Zi<|Zc<|Zg<|Zr<|Zm Z<|Zv (Y.add Z Z W)<|Za Z<|Ze<|Ex.keep [0, 1, 1, 1]<|?_
      obtain ⟨hE1, hE2, hE3, hE4⟩ := Ob.fin_end hFn W
      exact ZR (⟨t1 + 1, r2, sd, s6d, tl4, nw2 + 3⟩ : Nat × Ob × Sg × Sg × List (Int × Int) × Int) ⟨hd, h6d, hE1, fun x hx => by have := hE2 x hx; (try dsimp only); omega, by (try dsimp only); omega, by (try dsimp only); constructor <;> omega, by (try dsimp only); omega, .inr hE3, by (try dsimp only); exact (Nat.eq_zero_or_pos t1).elim (fun h9 => .inl W) (fun h9 => .inr (hE4 (hw0.resolve_left W)))⟩ (by dsimp only; omega)
    ·refine Tr.cond_f Z h30<|Zx<|Zy<|Zy<|Zi<|Zg<|Zs<|Zs<|Zr<|?_
     have hz : r.len = 0 := by first | omega | exact Ob.len_zero.2 ⟨hou.resolve_left W, hw0.resolve_left W⟩
     refine Za Z<|Ze<|Zg<|Zb<|?_
     refine ZL (X := Nat) (fun z0 => V) (fun z0 => [sc, s5, s6c, s7]) (fun z0 => [(4, .pointer (some ⟨bx1, 0, none⟩)), (5, v2), (6, v5), (21, .int .u32 (z0 : Int))]) (fun z0 => z0 ≤ 4) (fun z0 => 4 - z0) (0 : Nat) (Nat.zero_le _) ?_
     rintro a1 ha4
     refine Zs<|Zs<|Zr<|Zm Z<|Zv (Y.int Z Z Z)<|Ze<|Zg<|?_
     rcases Zsplit (decide ((a1 : Int) < 4)) with ⟨h37, g37⟩ | ⟨h37, g37⟩ <;> try simp only [kb] at g37
     ·refine Tr.cond_t Z h37<|Zt<|Zg<|Zs<|Zb<|Zs<|Zr<|Zm Z<|Zm Z<|Zv (Y.lookupPT (r := .tuple #[.int .i64 ((pt.lookup (a1 : Int)).getD (0 : Int)), .bool ((pt.lookup (a1 : Int)).isSome)]) (f := vI) (l := pt) (0 : Int) Z Z Law18c_mt54 Law18c_zo3 Z h5 (j := 1) Z Z)<|Zm Z<|Zv (Y.extract Z Z)<|Zv (Y.extract Z Z)<|Za Z<|Za Z<|Ze<|?_
      refine Zg<|Zs<|Zr<|Zm Z<|Zm Z<|?_
      have hpe := Ob.put_done hPt hz (a1 : Int)
      refine Zv (Y.lookupPT (r := .tuple #[.int .i64 ((pt.lookup (a1 : Int)).getD (0 : Int)), .bool ((pt.lookup (a1 : Int)).isSome)]) (f := vI) (l := tl3) (0 : Int) rfl rfl Law18c_mt54 Law18c_zo3 rfl h6c (j := 2) rfl (by rw [← hpe]; rfl))<|Zm Z<|Zv (Y.extract Z Z)<|Zv (Y.extract Z Z)<|Za Z<|Za Z<|Ze<|Zg<|Zs<|Zr<|Zm Z<|Zm Z<|Zv (Y.neB_f Z Z Law18c_tg4)<|Zm Z<|Zp Z<|Zm Z<|?_
      refine Zp Z<|Zm Z<|Zp Z<|Zv (Y.neI_f Z Z)<|Zv (Y.pick_f Z Z Z)<|Ze<|Zg<|Tr.cond_f Z Z<|Zt<|Zc<|Zg<|Zr<|Zm Z<|Zv (Y.int (r := .int .u32 ((a1 : Int) + 1)) rfl rfl (by simp only [intRes]; rw [wrap_u32 W]))<|Za Z<|Ze<|?_
      refine Ex.keep [0, 0, 0, 0] ?_
      exact ZR (a1 + 1 : Nat) W W
     ·refine Tr.cond_f Z h37<|Zx<|Zy<|Zy<|Zi<|Zg<|Zs<|Zr<|Zm Z<|Run.call0 (l := [.tmp 186]) Z Z Z (lt Z) (Does.frame1 0 Z (len_o hc hwl3))<|Zv (Y.int Z Z Z)<|Za Z<|Ze<|Zg<|Zu<|Ex.keep []<|?_
      exact Ex.ret1 rfl rfl  (congrArg Value.bool (by rw [hz]; rfl))
   ·refine Zo h29 Z<|Zo h29 Z<|Zo h29 Z<|Zv (Y.pick_f Z h29 Z)<|Ze<|Zg<|Tr.cond_f Z Z<|Zx<|Zy<|Zy<|Zi<|Zg<|Zs<|Zs<|Zr<|?_
    have hz : r.len = 0 := by first | omega | exact Ob.len_zero.2 ⟨hou.resolve_left W, hw0.resolve_left W⟩
    refine Za Z<|Ze<|Zg<|Zb<|?_
    refine ZL (X := Nat) (fun z0 => V) (fun z0 => [sc, s5, s6c, s7]) (fun z0 => [(4, .pointer (some ⟨bx1, 0, none⟩)), (5, v2), (6, v5), (21, .int .u32 (z0 : Int))]) (fun z0 => z0 ≤ 4) (fun z0 => 4 - z0) (0 : Nat) (Nat.zero_le _) ?_
    rintro a1 ha4
    refine Zs<|Zs<|Zr<|Zm Z<|Zv (Y.int Z Z Z)<|Ze<|Zg<|?_
    rcases Zsplit (decide ((a1 : Int) < 4)) with ⟨h38, g38⟩ | ⟨h38, g38⟩ <;> try simp only [kb] at g38
    ·refine Tr.cond_t Z h38<|Zt<|Zg<|Zs<|Zb<|Zs<|Zr<|Zm Z<|Zm Z<|Zv (Y.lookupPT (r := .tuple #[.int .i64 ((pt.lookup (a1 : Int)).getD (0 : Int)), .bool ((pt.lookup (a1 : Int)).isSome)]) (f := vI) (l := pt) (0 : Int) Z Z Law18c_mt54 Law18c_zo3 Z h5 (j := 1) Z Z)<|Zm Z<|Zv (Y.extract Z Z)<|Zv (Y.extract Z Z)<|Za Z<|Za Z<|Ze<|?_
     refine Zg<|Zs<|Zr<|Zm Z<|Zm Z<|?_
     have hpe := Ob.put_done hPt hz (a1 : Int)
     refine Zv (Y.lookupPT (r := .tuple #[.int .i64 ((pt.lookup (a1 : Int)).getD (0 : Int)), .bool ((pt.lookup (a1 : Int)).isSome)]) (f := vI) (l := tl3) (0 : Int) rfl rfl Law18c_mt54 Law18c_zo3 rfl h6c (j := 2) rfl (by rw [← hpe]; rfl))<|Zm Z<|Zv (Y.extract Z Z)<|Zv (Y.extract Z Z)<|Za Z<|Za Z<|Ze<|Zg<|Zs<|Zr<|Zm Z<|Zm Z<|Zv (Y.neB_f Z Z Law18c_tg4)<|Zm Z<|Zp Z<|Zm Z<|?_
     refine Zp Z<|Zm Z<|Zp Z<|Zv (Y.neI_f Z Z)<|Zv (Y.pick_f Z Z Z)<|Ze<|Zg<|Tr.cond_f Z Z<|Zt<|Zc<|Zg<|Zr<|Zm Z<|Zv (Y.int (r := .int .u32 ((a1 : Int) + 1)) rfl rfl (by simp only [intRes]; rw [wrap_u32 W]))<|Za Z<|Ze<|?_
     refine Ex.keep [0, 0, 0, 0] ?_
     exact ZR (a1 + 1 : Nat) W W
    ·refine Tr.cond_f Z h38<|Zx<|Zy<|Zy<|Zi<|Zg<|Zs<|Zr<|Zm Z<|Run.call0 (l := [.tmp 186]) Z Z Z (lt Z) (Does.frame1 0 Z (len_o hc hwl3))<|Zv (Y.int Z Z Z)<|Za Z<|Ze<|Zg<|Zu<|Ex.keep []<|?_
     exact Ex.ret1 rfl rfl  (congrArg Value.bool (by rw [hz]; rfl))
 ·refine Zo h11 Z<|Zo h11 Z<|Zv (Y.pick_f Z h11 Z)<|Ze<|Zg<|Tr.cond_f Z Z<|Zx<|Zy<|Zy<|Zi<|Zg<|Zs<|Zs<|Zr<|Za Z<|Ze<|?_
  refine Zg<|Zb<|?_
  refine ZL (X := Nat × Ob × Sg × Sg × List (Int × Int) × Int) (fun z0 => V) (fun z0 => [z0.2.2.1, s5, z0.2.2.2.1, s7]) (fun z0 => [(4, .pointer (some ⟨bx1, 0, none⟩)), (5, v2), (6, v5), (8, .int .i64 z0.2.2.2.2.2), (15, .int .i64 (z0.1 : Int))]) (fun z0 => Ob.In 105 99 z0.2.1 bx1 z0.2.2.1 ∧ Om .u32 v5 (pm vI z0.2.2.2.2.1) z0.2.2.2.1 ∧ Ob.Put z0.2.1 pt z0.2.2.2.2.1 ∧ (∀ x, x ∈ z0.2.1.outs → x.sent ≤ z0.2.2.2.2.2) ∧ z0.2.1.load ≤ 150 ∧ (0 ≤ z0.2.2.2.2.2 ∧ z0.2.2.2.2.2 ≤ 150 + 3 * (z0.1 : Int)) ∧ z0.1 ≤ 400 ∧ (z0.1 = 0 ∨ z0.2.1.waits = []) ∧ (z0.1 ≤ 1 ∨ z0.2.1.outs = [])) (fun z0 => 400 - z0.1) (⟨0, o, sb, s6, tl, now⟩ : Nat × Ob × Sg × Sg × List (Int × Int) × Int) ⟨hb, h6, hO.p, hO.sn, by (try dsimp only); omega, by (try dsimp only); constructor <;> omega, Nat.zero_le _, .inl rfl, .inl (Nat.zero_le _)⟩ ?_
  rintro ⟨t1, r, sc, s6c, tl3, nw2⟩ ⟨hc, h6c, hPt, hsn, hlo3, hnw3, htl, hw0, hou⟩
  try dsimp only at hc h6c hPt hsn hlo3 hnw3 htl hw0 hou ⊢
  refine Zs<|Zs<|Zr<|?_
  have hll3 := Ob.last_load r
  have hwl3 : r.waits.length ≤ 4294967296 := by have := hc.1.l0; unfold Ob.load at hlo3; omega
  refine Zm Z<|Zv (Y.int Z Z Z)<|Zm Z<|?_
  rcases Zsplit (decide ((t1 : Int) < 400)) with ⟨h39, g39⟩ | ⟨h39, g39⟩ <;> try simp only [kb] at g39
  ·refine Zp h39<|Zm Z<|Zp h39<|Run.call0 (l := [.tmp 119]) Z Z Z (lt Z) (Does.frame1 0 Z (len_o hc hwl3))<|Zp h39<|Zv (Y.int Z Z Z)<|Zv (Y.pick_t Z h39 Z)<|Ze<|Zg<|?_
   rcases Zsplit (decide (((r.len : Nat) : Int) > 0)) with ⟨h40, g40⟩ | ⟨h40, g40⟩ <;> try simp only [kb] at g40
   ·refine Tr.cond_t Z h40<|Zt<|Zg<|Zs<|Zb<|Zs<|Zr<|Zm Z<|Zv (Y.add Z Z W)<|Za Z<|Ze<|Zg<|Zs<|Zr<|Zm Z<|Zm Z<|?_
    refine Run.call [0] (l := [.tmp 128, .tmp 129]) rfl rfl rfl (lt rfl) (tick_o hc (now := nw2 + 3) W) (fun v9 V9 H9 hle9 hR => ?_)
    obtain ⟨hV, ms41, e41, o41, p41, c41, q41, sb41, hq41, rfl, ho41, hb41, rfl⟩ := hR; replace hV := hV.symm; subst hV
    refine Run.heapTo (H' := [s5, s6c, s7, q41, sb41]) Z<|Run.heapTo (H' := [s5, s6c, s7, q41, sb41]) Z<|Zm Z<|Zv (Y.extract Z Z)<|Zv (Y.extract Z Z)<|Za Z<|Za Z<|Ze<|Zg<|Zs<|Zr<|?_
    have hAd : r.outs.filter (Ob.due (nw2 + 3)) = r.outs := Ob.all_due fun x hx => .inr (by have := hsn x hx; omega)
    obtain ⟨hTm, hTe, hTo⟩ := Ob.tick_of hq41 (by constructor <;> omega)
    rw [hAd] at hTm
    have hTn : o41.outs.length = ms41.length := by rw [hTo, hTm, Ob.msgs_len]; unfold Ob.tick; simp
    have hTp : ∀ k, k < ms41.length → ms41.getD k Msg.zero = (o41.outs.getD k Ob.odflt).msg := fun k hk => by rw [hTm, hTo]; rw [hTm, Ob.msgs_len] at hk; exact Ob.tick_msg hk
    have hTl : o41.load ≤ 150 := by have := Ob.load_tick hq41; omega
    have hTb := Ob.outs_len hb41.1
    have hTc := Ob.last_load o41
    have hFs : Ob.Fin o41 o41 0 (r.waits = []) pt tl3 := by rw [hTo]; exact Ob.fin_start hPt
    refine Run.keepTo (H' := [sb41, q41, s5, s6c, s7]) [4, 3, 0, 0, 0] Z<|Za Z<|Ze<|Zg<|Zb<|?_
    refine ZL (X := Nat × Ob × Sg × Sg × List (Int × Int)) (fun z0 => V) (fun z0 => [z0.2.2.1, q41, s5, z0.2.2.2.1, s7]) (fun z0 => [(4, .pointer (some ⟨bx1, 0, none⟩)), (5, v2), (6, v5), (8, .int .i64 (nw2 + 3)), (15, .int .i64 (t1 : Int)), (16, .slice p41 ms41.length c41), (18, .int .i64 (z0.1 : Int))]) (fun z0 => Ob.In 105 99 z0.2.1 bx1 z0.2.2.1 ∧ Om .u32 v5 (pm vI z0.2.2.2.2) z0.2.2.2.1 ∧ Ob.Fin o41 z0.2.1 z0.1 (r.waits = []) pt z0.2.2.2.2 ∧ z0.2.1.load ≤ 150 ∧ z0.1 ≤ ms41.length) (fun z0 => ms41.length - z0.1) (⟨0, o41, sb41, s6c, tl3⟩ : Nat × Ob × Sg × Sg × List (Int × Int)) ⟨hb41, h6c, hFs, hTl, Nat.zero_le _⟩ ?_
    rintro ⟨k1, r2, sd, s6d, tl4⟩ ⟨hd, h6d, hFn, hlo4, hkl⟩
    try dsimp only at hd h6d hFn hlo4 hkl ⊢
    refine Zs<|Zs<|Zr<|?_
    have hll4 := Ob.last_load r2
    refine Zm Z<|Zm Z<|Zv (Y.lenSl Z Law18c_es39)<|Zv (Y.int Z Z Z)<|Ze<|Zg<|?_
    rcases Zsplit (decide ((k1 : Int) < ((ms41.length : Nat) : Int))) with ⟨h42, g42⟩ | ⟨h42, g42⟩ <;> try simp only [kb] at g42
    ·refine Tr.cond_t Z h42<|Zt<|Zg<|Zs<|Zb<|Zs<|Tr.tail 11 Law18c_mo WK<|ZM Z<|ZM Z<|ZM Z<|ZV (Y.idxR k1 Z Z Law18c_es39 (ho41.rd 1 rfl) W W)<|ZV (Y.fieldR Z Law18c_fo35_5 (ho41.rd 1 rfl) W)<|ZV (Y.ldR Z Law18c_ts30 (ho41.rd 1 rfl) (flatm_at Msg.cl_enc.len W Msg.zero WD rfl))<|ZM Z<|ZM Z<|ZV (Y.idxR k1 Z Z Law18c_es39 (ho41.rd 1 rfl) W W)<|?_
     refine ZV (Y.fieldR Z Law18c_fo35_8 (ho41.rd 1 rfl) W)<|ZV (Y.ldR Z Law18c_ts3 (ho41.rd 1 rfl) (flatm_at Msg.cl_enc.len W Msg.zero WD rfl))<|RunQ.nil_run<|?_
     refine Run.mapUpdateP (f := vI) (u := (ms41.getD k1 Msg.zero).pot) (l := tl4) 3 rfl rfl rfl Law18c_mt54 h6d rfl (fun s43 hm44 => ?_)
     refine Run.heapTo (H' := [sd, q41, s5, s43, s7]) Z<|Ze<|Zg<|Zs<|Zr<|Zm Z<|Zm Z<|Zm Z<|Zv (Y.idxR k1 Z Z Law18c_es39 (ho41.rd 1 rfl) W W)<|Zv (Y.fieldR Z Law18c_fo35_3 (ho41.rd 1 rfl) W)<|Zv (Y.ldR Z Law18c_ts3 (ho41.rd 1 rfl) (flatm_at Msg.cl_enc.len W Msg.zero WD rfl))<|?_
     refine Run.call [0] (l := [.tmp 151, .tmp 156]) rfl rfl rfl (lt rfl) (acked_o hd (k := (ms41.getD k1 Msg.zero).xid)) (fun v9 V9 H9 hle9 hR => ?_)
     obtain ⟨hV, b45, m45, f45, o45, sb45, hq45, rfl, hb45, rfl⟩ := hR; replace hV := hV.symm; subst hV
     refine Run.heapTo (H' := [q41, s5, s43, s7, sb45]) Z<|Run.heapTo (H' := [q41, s5, s43, s7, sb45]) Z<|Zm Z<|Zv (Y.extract Z Z)<|Zv (Y.extract Z Z)<|?_
     refine Run.alloc Law18c_zo35 (lt rfl) (fun b46 => ?_)
     refine Run.store (s := [(b46, .cells #[.int .i64 m45.kind, .int .i64 m45.life, .int .i64 m45.seen, .int .i64 m45.xid, .int .i64 m45.state, .int .u32 m45.addr, .int .i64 m45.bind, .string m45.client, .int .i64 m45.pot, .int .i64 m45.at_, .bool m45.ok] 35 (0, 0))]) Z Z Law18c_sz35 (i := 0) Z Z (le Z) Z Z<|Za Z<|Ze<|Zg<|Zs<|Zr<|?_
     have hFt := Ob.fin_step (E := ms41.getD k1 Msg.zero) hd.1 hFn W W (hTp k1 W) (hb41.1.mx _ (Ob.getD_mem W)) hq45
     refine Zm Z<|Zv (Y.not Z)<|Ze<|Zg<|Tr.cond_f Z (congrArg Bool.not hFt.1)<|Zt<|Zc<|Zg<|Zr<|Zm Z<|Zv (Y.add Z Z W)<|Za Z<|Ze<|Ex.keep [5, 1, 1, 1, 1]<|?_
     exact ZR (⟨k1 + 1, o45, sb45, s43, pset tl4 ((ms41.getD k1 Msg.zero).addr) ((ms41.getD k1 Msg.zero).pot)⟩ : Nat × Ob × Sg × Sg × List (Int × Int)) ⟨hb45, hm44, hFt.2, by (try dsimp only); have := Ob.load_acked hq45; omega, by (try dsimp only); omega⟩ (by dsimp only; omega)
    ·refine Tr.cond_f Z h42<|Zx<|Zy<|Zy<|Zi<|Zc<|Zg<|Zr<|Zm Z<|Zv (Y.add Z Z W)<|Za Z<|Ze<|Ex.keep [0, 1, 1, 1]<|?_
     obtain ⟨hE1, hE2, hE3, hE4⟩ := Ob.fin_end hFn W
     exact ZR (⟨t1 + 1, r2, sd, s6d, tl4, nw2 + 3⟩ : Nat × Ob × Sg × Sg × List (Int × Int) × Int) ⟨hd, h6d, hE1, fun x hx => by have := hE2 x hx; (try dsimp only); omega, by (try dsimp only); omega, by (try dsimp only); constructor <;> omega, by (try dsimp only); omega, .inr hE3, by (try dsimp only); exact (Nat.eq_zero_or_pos t1).elim (fun h9 => .inl W) (fun h9 => .inr (hE4 (hw0.resolve_left W)))⟩ (by dsimp only; omega)
   ·refine Tr.cond_f Z h40<|Zx<|Zy<|Zy<|Zi<|Zg<|Zs<|Zs<|Zr<|?_
    have hz : r.len = 0 := by first | omega | exact Ob.len_zero.2 ⟨hou.resolve_left W, hw0.resolve_left W⟩
    refine Za Z<|Ze<|Zg<|Zb<|?_
    refine ZL (X := Nat) (fun z0 => V) (fun z0 => [sc, s5, s6c, s7]) (fun z0 => [(4, .pointer (some ⟨bx1, 0, none⟩)), (5, v2), (6, v5), (21, .int .u32 (z0 : Int))]) (fun z0 => z0 ≤ 4) (fun z0 => 4 - z0) (0 : Nat) (Nat.zero_le _) ?_
    rintro a1 ha4
    refine Zs<|Zs<|Zr<|Zm Z<|Zv (Y.int Z Z Z)<|Ze<|Zg<|?_
    rcases Zsplit (decide ((a1 : Int) < 4)) with ⟨h47, g47⟩ | ⟨h47, g47⟩ <;> try simp only [kb] at g47
    ·refine Tr.cond_t Z h47<|Zt<|Zg<|Zs<|Zb<|Zs<|Zr<|Zm Z<|Zm Z<|Zv (Y.lookupPT (r := .tuple #[.int .i64 ((pt.lookup (a1 : Int)).getD (0 : Int)), .bool ((pt.lookup (a1 : Int)).isSome)]) (f := vI) (l := pt) (0 : Int) Z Z Law18c_mt54 Law18c_zo3 Z h5 (j := 1) Z Z)<|Zm Z<|Zv (Y.extract Z Z)<|Zv (Y.extract Z Z)<|Za Z<|Za Z<|Ze<|?_
     refine Zg<|Zs<|Zr<|Zm Z<|Zm Z<|?_
     have hpe := Ob.put_done hPt hz (a1 : Int)
     refine Zv (Y.lookupPT (r := .tuple #[.int .i64 ((pt.lookup (a1 : Int)).getD (0 : Int)), .bool ((pt.lookup (a1 : Int)).isSome)]) (f := vI) (l := tl3) (0 : Int) rfl rfl Law18c_mt54 Law18c_zo3 rfl h6c (j := 2) rfl (by rw [← hpe]; rfl))<|Zm Z<|Zv (Y.extract Z Z)<|Zv (Y.extract Z Z)<|Za Z<|Za Z<|Ze<|Zg<|Zs<|Zr<|Zm Z<|Zm Z<|Zv (Y.neB_f Z Z Law18c_tg4)<|Zm Z<|Zp Z<|Zm Z<|?_
     refine Zp Z<|Zm Z<|Zp Z<|Zv (Y.neI_f Z Z)<|Zv (Y.pick_f Z Z Z)<|Ze<|Zg<|Tr.cond_f Z Z<|Zt<|Zc<|Zg<|Zr<|Zm Z<|Zv (Y.int (r := .int .u32 ((a1 : Int) + 1)) rfl rfl (by simp only [intRes]; rw [wrap_u32 W]))<|Za Z<|Ze<|?_
     refine Ex.keep [0, 0, 0, 0] ?_
     exact ZR (a1 + 1 : Nat) W W
    ·refine Tr.cond_f Z h47<|Zx<|Zy<|Zy<|Zi<|Zg<|Zs<|Zr<|Zm Z<|Run.call0 (l := [.tmp 186]) Z Z Z (lt Z) (Does.frame1 0 Z (len_o hc hwl3))<|Zv (Y.int Z Z Z)<|Za Z<|Ze<|Zg<|Zu<|Ex.keep []<|?_
     exact Ex.ret1 rfl rfl  (congrArg Value.bool (by rw [hz]; rfl))
  ·refine Zo h39 Z<|Zo h39 Z<|Zo h39 Z<|Zv (Y.pick_f Z h39 Z)<|Ze<|Zg<|Tr.cond_f Z Z<|Zx<|Zy<|Zy<|Zi<|Zg<|Zs<|Zs<|Zr<|?_
   have hz : r.len = 0 := by first | omega | exact Ob.len_zero.2 ⟨hou.resolve_left W, hw0.resolve_left W⟩
   refine Za Z<|Ze<|Zg<|Zb<|?_
   refine ZL (X := Nat) (fun z0 => V) (fun z0 => [sc, s5, s6c, s7]) (fun z0 => [(4, .pointer (some ⟨bx1, 0, none⟩)), (5, v2), (6, v5), (21, .int .u32 (z0 : Int))]) (fun z0 => z0 ≤ 4) (fun z0 => 4 - z0) (0 : Nat) (Nat.zero_le _) ?_
   rintro a1 ha4
   refine Zs<|Zs<|Zr<|Zm Z<|Zv (Y.int Z Z Z)<|Ze<|Zg<|?_
   rcases Zsplit (decide ((a1 : Int) < 4)) with ⟨h48, g48⟩ | ⟨h48, g48⟩ <;> try simp only [kb] at g48
   ·refine Tr.cond_t Z h48<|Zt<|Zg<|Zs<|Zb<|Zs<|Zr<|Zm Z<|Zm Z<|Zv (Y.lookupPT (r := .tuple #[.int .i64 ((pt.lookup (a1 : Int)).getD (0 : Int)), .bool ((pt.lookup (a1 : Int)).isSome)]) (f := vI) (l := pt) (0 : Int) Z Z Law18c_mt54 Law18c_zo3 Z h5 (j := 1) Z Z)<|Zm Z<|Zv (Y.extract Z Z)<|Zv (Y.extract Z Z)<|Za Z<|Za Z<|Ze<|?_
    refine Zg<|Zs<|Zr<|Zm Z<|Zm Z<|?_
    have hpe := Ob.put_done hPt hz (a1 : Int)
    refine Zv (Y.lookupPT (r := .tuple #[.int .i64 ((pt.lookup (a1 : Int)).getD (0 : Int)), .bool ((pt.lookup (a1 : Int)).isSome)]) (f := vI) (l := tl3) (0 : Int) rfl rfl Law18c_mt54 Law18c_zo3 rfl h6c (j := 2) rfl (by rw [← hpe]; rfl))<|Zm Z<|Zv (Y.extract Z Z)<|Zv (Y.extract Z Z)<|Za Z<|Za Z<|Ze<|Zg<|Zs<|Zr<|Zm Z<|Zm Z<|Zv (Y.neB_f Z Z Law18c_tg4)<|Zm Z<|Zp Z<|Zm Z<|?_
    refine Zp Z<|Zm Z<|Zp Z<|Zv (Y.neI_f Z Z)<|Zv (Y.pick_f Z Z Z)<|Ze<|Zg<|Tr.cond_f Z Z<|Zt<|Zc<|Zg<|Zr<|Zm Z<|Zv (Y.int (r := .int .u32 ((a1 : Int) + 1)) rfl rfl (by simp only [intRes]; rw [wrap_u32 W]))<|Za Z<|Ze<|?_
    refine Ex.keep [0, 0, 0, 0] ?_
    exact ZR (a1 + 1 : Nat) W W
   ·refine Tr.cond_f Z h48<|Zx<|Zy<|Zy<|Zi<|Zg<|Zs<|Zr<|Zm Z<|Run.call0 (l := [.tmp 186]) Z Z Z (lt Z) (Does.frame1 0 Z (len_o hc hwl3))<|Zv (Y.int Z Z Z)<|Za Z<|Ze<|Zg<|Zu<|Ex.keep []<|?_
    exact Ex.ret1 rfl rfl  (congrArg Value.bool (by rw [hz]; rfl))

theorem outboxlast_h {V : Vw} {l : List (Int × Int)} {v0 : Value} (hv : Rd V [] 2 v0 l.length (l.map pr2).flatten) (hl9 : l.length ≤ 9223372036854775807) : Does Try.prog 5 [v0] V [] (fun v _ _ => v = .bool true) := by
  obtain ⟨p, c, rfl, _⟩ := hv.form
  rw [← List.flatMap_def] at hv
  exact outboxlast_c hv hl9
end Go.Proofs.Ytpdnkhdmajmbiaa
