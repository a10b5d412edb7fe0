/- Statements on tables, walked.
Conditions: as each theorem names them. -/
import Derived.Test.YtpdnkhdmajmbiaaProg
import Derived.Test.YtpdnkhdmajmbiaaTable5
import Derived.Test.YtpdnkhdmajmbiaaTable4
import Derived.Test.YtpdnkhdmajmbiaaTC
import Derived.Test.YtpdnkhdmajmbiaaLA
import Derived.Test.YtpdnkhdmajmbiaaZG
set_option linter.unusedSimpArgs false
set_option linter.unusedVariables false
set_option maxRecDepth 4000
namespace Go.Proofs.Ytpdnkhdmajmbiaa
open Go Go.K
attribute [local irreducible] Code.wp wpList Calls wpQuiet
theorem Law12_es67 : elemS Try.prog 67 = some (69, 8) := by kernel_rfl
theorem Law12_fo69_2 : fieldOff Try.prog 69 2 = some 2 := by kernel_rfl
theorem Law12_ts9 : scal Try.prog 9 = true := by kernel_rfl
theorem Law12_st9 : strT Try.prog 9 = true := by kernel_rfl
theorem Law12_es66 : elemS Try.prog 66 = some (124, 2) := by kernel_rfl
theorem Law12_zo124 : zeroOf Try.prog 124 = some (.agg #[.int .u32 0, .int .u32 0]) := by kernel_rfl
theorem Law12_pl124 : placesS Try.prog 124 = some [(0, 1), (1, 1)] := by kernel_rfl
theorem Law12_pt71 : ptrT Try.prog 71 = true := by kernel_rfl
theorem Law12_zo69 : zeroOf Try.prog 69 = some (.agg #[.int .u32 0, .int .i64 0, .string ⟨#[]⟩, .int .i64 0, .int .i64 0, .int .i64 0, .int .i64 0, .int .i64 0]) := by kernel_rfl
theorem Law12_pl69 : placesS Try.prog 69 = some [(0, 1), (1, 1), (2, 1), (3, 1), (4, 1), (5, 1), (6, 1), (7, 1)] := by kernel_rfl
theorem Law12_pt72 : ptrT Try.prog 72 = true := by kernel_rfl
theorem Law12_tg4 : tagOf Try.prog 4 = some (1, .i64) := by kernel_rfl
theorem Law12_ag69 : aggsz Try.prog 69 = some 8 := by kernel_rfl

theorem long_c {V : Vw} {H : Hp} {p : Option Addr} {n0 c : Nat} {ls : List Le} {p2 : Option Addr} {c2 : Nat} (hv : Rd V H 8 (.slice p2 ls.length c2) ls.length (ls.flatMap Le.cells)) (hl9 : ls.length ≤ 9223372036854775807)  : Does Try.prog 34 [.slice p n0 c, .slice p2 ls.length c2] V H (Pv (.bool (Le.long n0 ls)) V H) := by
 refine Does.intro Try.func34 rfl rfl (le rfl) (fun B => ?_)
 refine Zs<|Zr<|Za Z<|Ze<|Zg<|Zs<|Zs<|Zr<|Za Z<|Ze<|Zg<|Zb<|?_
 refine ZL (X := Nat) (fun z0 => V) (fun z0 => H) (fun z0 => [(0, .slice p n0 c), (1, .slice p2 ls.length c2), (5, .int .i64 (z0 : Int))]) (fun z0 => z0 ≤ ls.length ∧ ∀ j, j < z0 → ¬ (ls.getD j Le.dflt).client.size > 200) (fun z0 => ls.length - z0) (0 : Nat) ⟨Nat.zero_le _, fun j hj => absurd hj (Nat.not_lt_zero j)⟩ ?_
 rintro i1 ⟨hi, hno⟩
 refine Zs<|Zs<|Zr<|Zm Z<|Zm Z<|Zv (Y.lenSl Z Law12_es67)<|Zv (Y.int Z Z Z)<|Ze<|Zg<|?_
 rcases Zsplit (decide ((i1 : Int) < ((ls.length : Nat) : Int))) with ⟨h1, g1⟩ | ⟨h1, g1⟩ <;> try simp only [kb] at g1
 ·refine Tr.cond_t Z h1<|Zt<|Zg<|Zs<|Zb<|Zs<|Zr<|Zm Z<|Zm Z<|Zv (Y.idxR i1 Z Z Law12_es67 hv W W)<|Zv (Y.fieldR Z Law12_fo69_2 hv W)<|Zv (Y.ldR Z Law12_ts9 hv (flatm_at Le.len W Le.dflt WD rfl))<|Zv (Y.lenStr Z Law12_st9)<|Zv (Y.int Z Z Z)<|Ze<|Zg<|?_
  rcases Zsplit (decide ((((ls.getD i1 Le.dflt).client).size : Int) > 200)) with ⟨h2, g2⟩ | ⟨h2, g2⟩ <;> try simp only [kb] at g2
  ·refine Tr.cond_t Z h2<|Zs<|Zr<|Za Z<|Ze<|Zg<|Zu<|Zk<|Zn<|Zn<|Zk<|Zn<|?_
   exact Ex.ret1 rfl rfl  ⟨by rw [Le.long_at (i := i1) W W], rfl, rfl⟩
  ·refine Tr.cond_f Z h2<|Zt<|Zc<|Zg<|Zr<|Zm Z<|Zv (Y.add Z Z W)<|Za Z<|Ze<|?_
   exact ZR (i1 + 1 : Nat) ⟨by omega, upto_succ hno W⟩ W
 ·refine Tr.cond_f Z h1<|Zx<|Zy<|Zy<|Zi<|Zg<|Zs<|Zr<|Zm Z<|Zv (Y.lenSl Z Law12_es66)<|Zv (Y.int Z Z Z)<|Zm Z<|?_
  rcases Zsplit (decide (((n0 : Nat) : Int) > 50)) with ⟨h3, g3⟩ | ⟨h3, g3⟩ <;> try simp only [kb] at g3
  ·refine Zo h3 Z<|Zo h3 Z<|Zo h3 Z<|Zv (Y.pick_t Z h3 Z)<|Za Z<|Ze<|Zg<|Zu<|?_
   exact Ex.ret1 rfl rfl  ⟨congrArg Value.bool (by rw [Le.long_no fun j hj => hno j W, decide_eq_true (p := n0 > 50) W]; rfl), rfl, rfl⟩
  ·refine Zp h3<|Zm Z<|Zp h3<|Zv (Y.lenSl Z Law12_es67)<|Zp h3<|Zv (Y.int Z Z Z)<|Zv (Y.pick_f Z h3 Z)<|Za Z<|Ze<|Zg<|Zu<|?_
   exact Ex.ret1 rfl rfl  ⟨congrArg Value.bool (by rw [Le.long_no fun j hj => hno j W, decide_eq_false (p := n0 > 50) W, Bool.false_or]; exact decide_eq_decide.2 W), rfl, rfl⟩

theorem awake12_c  {V : Vw} : Does Try.prog 33 [] V [] (fun v V' H' => V.le V' ∧ H' = [] ∧ v = .bool true) := by
 refine Does.intro Try.func33 rfl rfl (le rfl) (fun B => ?_)
 refine Zs<|Zr<|Za Z<|Ze<|Zg<|Zs<|Zr<|Zv (Y.buildS (l := [(0, .const (.int .u32 1)), (1, .const (.int .u32 3))]) Law12_zo124 Law12_pl124 Z Z)<|?_
 refine Run.buildSlice (l := [(0, .tmp 7)]) Law12_es66 Law12_zo124 rfl WD rfl rfl WD (lt rfl) (fun b1 => ?_)
 have hsh := (Ow.lit (e := 124) (k := 2) (b := b1) (n := 1) (cur := #[.int .u32 1, .int .u32 3]) rfl WD).shows
 refine Run.keepTo (H' := [[(b1, .cells #[.int .u32 1, .int .u32 3] 124 (0, 0))]]) [0] Z ?_
 refine Run.show (fun V9 hle9 hsh9 => ?_)
 have hv0 : Rd V9 [] 2 (.slice (some ⟨b1, 0, none⟩) 1 1) Rg.p13.length (Rg.p13.flatMap Rg.cells) := hsh _ hsh9
 have hVle := hle9
 refine Run.call [] (l := [.tmp 8]) rfl rfl rfl (lt rfl) (new_t (rs := Rg.p13) hv0 WD Rg.p13_ok) (fun v2 V2 H2 hle2 hR2 => ?_)
 rw [Rg.pool13] at hR2; dsimp only at hR2; rw [Rg.adr13] at hR2
 rcases hR2 with ⟨_, ⟨hpn, _⟩ | ⟨_, tx, sb, rfl, hin, rfl⟩⟩
 · exact absurd rfl hpn
 replace hVle := Vw.le_trans hVle hle2
 refine Run.heapTo (H' := [sb]) Z<|Zm Z<|Zv (Y.extract Z Z)<|Zv (Y.extract Z Z)<|Za Z<|Za Z<|Ze<|Zg<|Zs<|Zs<|Zr<|Zm Z<|Zv (Y.int (r := .bool false) Z Z Z)<|Zm Z<|Zp Z<|Zm Z<|?_
 refine Zp Z<|Zv (Y.eqNil Z Z Law12_pt71)<|Zv (Y.pick_f Z Z Z)<|Ze<|Zg<|Tr.cond_f Z Z<|Zt<|Zg<|Zs<|Zr<|Zm Z<|Zv (Y.buildS (l := [(0, .const (.int .u32 2)), (1, .const (.int .i64 1))]) Law12_zo69 Law12_pl69 Z Z)<|?_
 refine Run.call [0] (l := [.tmp 18, .tmp 19]) rfl rfl rfl (lt rfl) (set_o (q := Le.q13) hin WD) (fun v3 V3 H3 hle3 hR3 => ?_)
 obtain ⟨hV, rfl, sb3, hin3, rfl⟩ := hR3; replace hV := hV.symm; subst hV
 refine Run.heapTo (H' := [sb3]) Z<|Za Z<|Ze<|Zg<|Zs<|Zr<|Zm Z<|Run.call0 (l := [.tmp 22, .const (.int .i64 1)]) Z Z Z (lt Z) (Does.frame1 0 Z (first_o (bd := 1) hin3))<|Zm Z<|Zv (Y.extract Z Z)<|Zv (Y.extract Z Z)<|Za Z<|Za Z<|Ze<|Zg<|Zs<|?_
 refine Zr<|Zm Z<|Zv (Y.int Z Z Z)<|Zm Z<|Run.on rfl rfl rfl (by rw [Le.aw1]; rfl)<|Zm Z<|Zv (Y.pick_t Z (by rw [Le.aw1]; rfl) rfl)<|Zm Z<|Run.on rfl rfl rfl (by rw [Le.aw2])<|Zm Z<|Run.on rfl rfl rfl (by rw [Le.aw2])<|Zv (Y.int Z Z Z)<|Zv (Y.pick_t Z (by rw [Le.aw2]) rfl)<|Zm Z<|Run.on rfl rfl rfl (by rw [Le.aw2]; rfl)<|Zm Z<|?_
 refine Run.on rfl rfl rfl (by rw [Le.aw2]; rfl)<|Run.call0 (l := [.tmp 36, .const (.int .i64 0)]) Z Z Z (lt Z) (Does.frame1 0 Z (count_o (bd := 0) hin3))<|Run.on rfl rfl rfl (by rw [Le.aw2]; rfl)<|Zv (Y.int Z Z Z)<|Zv (Y.pick_t Z (by rw [Le.aw2]; rfl) rfl)<|Za Z<|Ze<|Zg<|Zu<|Ex.keep []<|?_
 exact Ex.ret1 rfl rfl  ⟨hVle, rfl, congrArg Value.bool (by rw [Le.aw3]; rfl)⟩

theorem made_c {V : Vw} {rs : List Rg} {p : Option Addr} {c : Nat} (hv : Rd V [] 2 (.slice p rs.length c) rs.length (rs.flatMap Rg.cells)) (hok : Rg.Oks rs) {ls : List Le} {p2 : Option Addr} {c2 : Nat} (hv2 : Rd V [] 8 (.slice p2 ls.length c2) ls.length (ls.flatMap Le.cells)) (hcs : ∀ x, x ∈ ls → x.client.size ≤ 9223372036854775807) (hn : rs.length ≤ 1000) (hl9 : ls.length ≤ 9223372036854775807)  : Does Try.prog 35 [.slice p rs.length c, .slice p2 ls.length c2] V [] (fun v V' H' => V.le V' ∧ ((Rg.pool rs).2 ≠ 0 ∧ v = .tuple #[.pointer none, .pointer none, .bool true] ∧ H' = [] ∨ (Rg.pool rs).2 = 0 ∧ ∃ l tx rx s pl cl ql, v = .tuple #[.pointer (some ⟨tx, 0, none⟩), .pointer (some ⟨rx, 0, none⟩), .bool true] ∧ Le.In 135 l tx s ∧ Ow 69 8 (.slice pl l.length cl) l.length (l.flatMap Le.cells) ql ∧ (ls = [] → l = Le.new (Rg.adr (Rg.pool rs).1)) ∧ H' = [s, [(rx, .cells #[.slice pl l.length cl] 94 (0, 0))], ql])) := by
 refine Does.intro Try.func35 rfl rfl (le rfl) (fun B => ?_)
 refine Zs<|Zr<|Za Z<|Za Z<|Za Z<|Ze<|Zg<|Zs<|Zr<|?_
 by_cases hp0 : (Rg.pool rs).2 = 0
 ·refine Zm Z ?_
  refine Run.call [] (l := [.tmp 14]) rfl rfl rfl (lt rfl) (new_t hv hn hok) (fun v1 V1 H1 hle1 hR1 => ?_)
  rcases hR1 with ⟨_, ⟨hpn, _⟩ | ⟨_, tx, s0, rfl, hin0, rfl⟩⟩
  · exact absurd hp0 hpn
  replace hv := hv.le hle1
  replace hv2 := hv2.le hle1
  have hVle := hle1
  refine Run.heapTo (H' := [s0]) Z<|Run.heapTo (H' := [s0]) Z<|Zm Z<|Zv (Y.extract Z Z)<|Zv (Y.extract Z Z)<|Za Z<|Za Z<|Ze<|Zg<|Zs<|Zr<|Zm Z<|?_
  refine Run.call [] (l := [.tmp 19]) rfl rfl rfl (lt rfl) (rnew12_c hv hn hok) (fun v2 V2 H2 hle2 hR2 => ?_)
  rcases hR2 with ⟨_, ⟨hpn, _⟩ | ⟨_, rx, pl, cl, ql0, rfl, hl0, rfl⟩⟩
  · exact absurd hp0 hpn
  replace hv := hv.le hle2
  replace hv2 := hv2.le hle2
  replace hVle := Vw.le_trans hVle hle2
  refine Run.heapTo (H' := [s0, [(rx, .cells #[.slice pl (Le.new (Rg.adr (Rg.pool rs).1)).length cl] 94 (0, 0))], ql0]) Z<|Run.heapTo (H' := [s0, [(rx, .cells #[.slice pl (Le.new (Rg.adr (Rg.pool rs).1)).length cl] 94 (0, 0))], ql0]) Z<|Zm Z<|Zv (Y.extract Z Z)<|Zv (Y.extract Z Z)<|Za Z<|Za Z<|Ze<|Zg<|Zs<|Zs<|Zr<|Zm Z<|Zm Z<|Zv (Y.int (r := .bool false) Z Z Z)<|Zm Z<|?_
  refine Zp Z<|Zm Z<|Zp Z<|Zv (Y.eqNil Z Z Law12_pt71)<|Zp Z<|Zm Z<|Zp Z<|Zv (Y.eqNil Z Z Law12_pt72)<|Zp Z<|Zv (Y.neB_f Z Z Law12_tg4)<|Zv (Y.pick_f Z Z Z)<|Ze<|Zg<|Tr.cond_f Z Z<|Zt<|Zg<|?_
  refine Zs<|Zs<|Zr<|Za Z<|Ze<|Zg<|Zb<|?_
  refine ZL (X := Nat × List Le × Sg × Sg) (fun z0 => V2) (fun z0 => [z0.2.2.1, [(rx, .cells #[.slice pl z0.2.1.length cl] 94 (0, 0))], z0.2.2.2]) (fun z0 => [(0, .slice p rs.length c), (1, .slice p2 ls.length c2), (7, .pointer (some ⟨tx, 0, none⟩)), (9, .pointer (some ⟨rx, 0, none⟩)), (11, .int .i64 (z0.1 : Int))]) (fun z0 => Le.In 135 z0.2.1 tx z0.2.2.1 ∧ Ow 69 8 (.slice pl z0.2.1.length cl) z0.2.1.length (z0.2.1.flatMap Le.cells) z0.2.2.2 ∧ (ls = [] → z0.2.1 = Le.new (Rg.adr (Rg.pool rs).1)) ∧ z0.1 ≤ ls.length) (fun z0 => ls.length - z0.1) (⟨0, Le.new (Rg.adr (Rg.pool rs).1), s0, ql0⟩ : Nat × List Le × Sg × Sg) ⟨hin0, hl0, fun _ => rfl, Nat.zero_le _⟩ ?_
  rintro ⟨i1, l, s1, ql⟩ ⟨hin, hl, hnl, hi⟩
  try dsimp only at hin hl hnl hi ⊢
  refine Zs<|Zs<|Zr<|Zm Z<|Zm Z<|Zv (Y.lenSl Z Law12_es67)<|Zv (Y.int Z Z Z)<|Zm Z<|?_
  rcases Zsplit (decide ((i1 : Int) < ((ls.length : Nat) : Int))) with ⟨h3, g3⟩ | ⟨h3, g3⟩ <;> try simp only [kb] at g3
  ·refine Zp h3<|Zm Z<|Zp h3<|Zv (Y.int Z Z Z)<|Zv (Y.pick_t Z h3 Z)<|Zm Z<|?_
   rcases Zsplit (decide ((i1 : Int) < 200)) with ⟨h4, g4⟩ | ⟨h4, g4⟩ <;> try simp only [kb] at g4
   ·refine Zp h4<|Zm Z<|Zp h4<|Zv (Y.neNil Z Z Law12_pt71)<|Zv (Y.pick_t Z h4 Z)<|Ze<|Zg<|Tr.cond_t Z Z<|Zt<|Zg<|Zs<|Zb<|Zs<|Zr<|?_
    obtain ⟨hr, hlm, _⟩ := id hin
    refine Zm Z<|Zm Z<|Zm Z<|Zv (Y.idxR i1 Z Z Law12_es67 hv2.of_nil W W)<|Zv (Y.ldRA (vs := [.int .u32 ((ls.getD i1 Le.dflt).addr), .int .i64 ((ls.getD i1 Le.dflt).bind), .string ((ls.getD i1 Le.dflt).client), .int .i64 ((ls.getD i1 Le.dflt).till), .int .i64 ((ls.getD i1 Le.dflt).acked), .int .i64 ((ls.getD i1 Le.dflt).told), .int .i64 ((ls.getD i1 Le.dflt).at_), .int .i64 ((ls.getD i1 Le.dflt).ver)]) rfl Law12_ag69 hv2.of_nil rfl WD (fun o ho => flatm_atA Le.len W Le.dflt o ho))<|?_
    refine Run.call [0] (l := [.tmp 47, .tmp 51]) rfl rfl rfl (lt rfl) (set_o (q := (ls.getD i1 Le.dflt)) hin (hcs _ (Le.mem_getD W))) (fun v5 V5 H5 hle5 hR5 => ?_)
    obtain ⟨hV, rfl, sb5, hin5, rfl⟩ := hR5; replace hV := hV.symm; subst hV
    refine Run.heapTo (H' := [[(rx, .cells #[.slice pl l.length cl] 94 (0, 0))], ql, sb5]) Z<|Run.heapTo (H' := [[(rx, .cells #[.slice pl l.length cl] 94 (0, 0))], ql, sb5]) Z<|Za Z<|Ze<|Zg<|Zs<|Zr<|Zm Z<|Zm Z<|Zm Z<|Zm Z<|Zv (Y.idxR i1 Z Z Law12_es67 hv2.of_nil W W)<|Zv (Y.ldRA (vs := [.int .u32 ((ls.getD i1 Le.dflt).addr), .int .i64 ((ls.getD i1 Le.dflt).bind), .string ((ls.getD i1 Le.dflt).client), .int .i64 ((ls.getD i1 Le.dflt).till), .int .i64 ((ls.getD i1 Le.dflt).acked), .int .i64 ((ls.getD i1 Le.dflt).told), .int .i64 ((ls.getD i1 Le.dflt).at_), .int .i64 ((ls.getD i1 Le.dflt).ver)]) rfl Law12_ag69 hv2.of_nil rfl WD (fun o ho => flatm_atA Le.len W Le.dflt o ho))<|?_
    refine Run.call [0, 0] (l := [.tmp 54, .tmp 58]) rfl rfl rfl (lt rfl) (rset_c (q := (ls.getD i1 Le.dflt)) hl hlm hr (hcs _ (Le.mem_getD W))) (fun v6 V6 H6 hle6 hR6 => ?_)
    obtain ⟨hV, rfl, q6, ho6, rfl⟩ := hR6; replace hV := hV.symm; subst hV
    refine Run.heapTo (H' := [sb5, [(rx, .cells #[.slice pl (Le.setE l (ls.getD i1 Le.dflt)).2.length cl] 94 (0, 0))], q6]) Z<|Run.heapTo (H' := [sb5, [(rx, .cells #[.slice pl (Le.setE l (ls.getD i1 Le.dflt)).2.length cl] 94 (0, 0))], q6]) Z<|Zv (Y.neI_f Z Z)<|Ze<|Zg<|Tr.cond_f Z Z<|Zt<|Zc<|Zg<|Zr<|Zm Z<|Zv (Y.add Z Z W)<|Za Z<|Ze<|Ex.keep [0, 0, 0]<|?_
    exact ZR (⟨i1 + 1, (Le.setE l (ls.getD i1 Le.dflt)).2, sb5, q6⟩ : Nat × List Le × Sg × Sg) ⟨hin5, ho6, (fun h0 => by subst h0; exact absurd (show i1 < 0 by simpa using (show i1 < ([] : List Le).length by omega)) (Nat.not_lt_zero _)), by omega⟩ (by dsimp only; omega)
   ·refine Zo h4 Z<|Zo h4 Z<|Zv (Y.pick_f Z h4 Z)<|Ze<|Zg<|Tr.cond_f Z Z<|Zx<|Zy<|Zy<|Zi<|Zg<|Zs<|Zr<|Zm Z<|Zm Z<|Za Z<|?_
    refine Za Z<|Za Z<|Ze<|Zg<|Zu<|Ex.keepTo (H' := [s1, [(rx, .cells #[.slice pl l.length cl] 94 (0, 0))], ql]) [0, 0, 0] Z<|?_
    exact Ex.ret3 rfl rfl rfl rfl  ⟨hVle, .inr ⟨hp0, l, tx, rx, s1, pl, cl, ql, rfl, hin, hl, hnl, rfl⟩⟩
  ·refine Zo h3 Z<|Zo h3 Z<|Zv (Y.pick_f Z h3 Z)<|Zm Z<|Zo Z Z<|Zo Z Z<|Zv (Y.pick_f Z Z Z)<|Ze<|Zg<|Tr.cond_f Z Z<|Zx<|Zy<|Zy<|Zi<|Zg<|Zs<|?_
   refine Zr<|Zm Z<|Zm Z<|Za Z<|Za Z<|Za Z<|Ze<|Zg<|Zu<|Ex.keepTo (H' := [s1, [(rx, .cells #[.slice pl l.length cl] 94 (0, 0))], ql]) [0, 0, 0] Z<|?_
   exact Ex.ret3 rfl rfl rfl rfl  ⟨hVle, .inr ⟨hp0, l, tx, rx, s1, pl, cl, ql, rfl, hin, hl, hnl, rfl⟩⟩
 ·refine Zm Z ?_
  refine Run.call [] (l := [.tmp 14]) rfl rfl rfl (lt rfl) (new_t hv hn hok) (fun v7 V7 H7 hle7 hR7 => ?_)
  obtain ⟨_, rfl, rfl⟩ := hR7.2.resolve_right fun h9 => hp0 h9.1
  replace hv := hv.le hle7
  replace hv2 := hv2.le hle7
  have hVle := hle7
  refine Run.heapTo (H' := []) Z<|Run.heapTo (H' := []) Z<|Zm Z<|Zv (Y.extract Z Z)<|Zv (Y.extract Z Z)<|Za Z<|Za Z<|Ze<|Zg<|Zs<|Zr<|Zm Z<|?_
  refine Run.call [] (l := [.tmp 19]) rfl rfl rfl (lt rfl) (rnew12_c hv hn hok) (fun v8 V8 H8 hle8 hR8 => ?_)
  obtain ⟨_, rfl, rfl⟩ := hR8.2.resolve_right fun h9 => hp0 h9.1
  replace hv := hv.le hle8
  replace hv2 := hv2.le hle8
  replace hVle := Vw.le_trans hVle hle8
  refine Run.heapTo (H' := []) Z<|Run.heapTo (H' := []) Z<|Zm Z<|Zv (Y.extract Z Z)<|Zv (Y.extract Z Z)<|Za Z<|Za Z<|Ze<|Zg<|Zs<|Zs<|Zr<|Zm Z<|Zm Z<|Zv (Y.neI_f Z Z)<|Zm Z<|?_
  refine Zp Z<|Zm Z<|Zp Z<|Zv (Y.eqNil Z Z Law12_pt71)<|Zp Z<|Zm Z<|Zp Z<|Zv (Y.eqNil Z Z Law12_pt72)<|Zp Z<|Zv (Y.neB_f Z Z Law12_tg4)<|Zv (Y.pick_f Z Z Z)<|Ze<|Zg<|Tr.cond_f Z Z<|Zt<|Zg<|?_
  refine Zs<|Zs<|Zr<|Za Z<|Ze<|Zg<|Zb<|?_
  refine ZL (X := Nat) (fun z0 => V8) (fun z0 => []) (fun z0 => [(0, .slice p rs.length c), (1, .slice p2 ls.length c2), (7, .pointer none), (9, .pointer none), (11, .int .i64 (z0 : Int))]) (fun z0 => z0 = 0) (fun z0 => ls.length - z0) (0 : Nat) rfl ?_
  rintro i1 hi
  refine Zs<|Zs<|Zr<|Zm Z<|Zm Z<|Zv (Y.lenSl Z Law12_es67)<|Zv (Y.int Z Z Z)<|Zm Z<|?_
  rcases Zsplit (decide ((i1 : Int) < ((ls.length : Nat) : Int))) with ⟨h9, g9⟩ | ⟨h9, g9⟩ <;> try simp only [kb] at g9
  ·refine Zp h9<|Zm Z<|Zp h9<|Zv (Y.int Z Z Z)<|Zv (Y.pick_t Z h9 Z)<|Zm Z<|?_
   rcases Zsplit (decide ((i1 : Int) < 200)) with ⟨h10, g10⟩ | ⟨h10, g10⟩ <;> try simp only [kb] at g10
   ·refine Zp h10<|Zm Z<|Zp h10<|Zv (Y.neNil Z Z Law12_pt71)<|Zv (Y.pick_t Z h10 Z)<|Ze<|Zg<|Tr.cond_f Z Z<|Zx<|Zy<|Zy<|Zi<|Zg<|Zs<|Zr<|Zm Z<|?_
    refine Zm Z<|Za Z<|Za Z<|Za Z<|Ze<|Zg<|Zu<|Ex.keep []<|?_
    exact Ex.ret3 rfl rfl rfl rfl  ⟨hVle, .inl ⟨hp0, rfl, rfl⟩⟩
   ·refine Zo h10 Z<|Zo h10 Z<|Zv (Y.pick_f Z h10 Z)<|Ze<|Zg<|Tr.cond_f Z Z<|Zx<|Zy<|Zy<|Zi<|Zg<|Zs<|Zr<|Zm Z<|Zm Z<|Za Z<|?_
    refine Za Z<|Za Z<|Ze<|Zg<|Zu<|Ex.keep []<|?_
    exact Ex.ret3 rfl rfl rfl rfl  ⟨hVle, .inl ⟨hp0, rfl, rfl⟩⟩
  ·refine Zo h9 Z<|Zo h9 Z<|Zv (Y.pick_f Z h9 Z)<|Zm Z<|Zo Z Z<|Zo Z Z<|Zv (Y.pick_f Z Z Z)<|Ze<|Zg<|Tr.cond_f Z Z<|Zx<|Zy<|Zy<|Zi<|Zg<|Zs<|?_
   refine Zr<|Zm Z<|Zm Z<|Za Z<|Za Z<|Za Z<|Ze<|Zg<|Zu<|Ex.keep []<|?_
   exact Ex.ret3 rfl rfl rfl rfl  ⟨hVle, .inl ⟨hp0, rfl, rfl⟩⟩

theorem tclients_c {V : Vw} {rs : List Rg} {p : Option Addr} {c : Nat} (hv : Rd V [] 2 (.slice p rs.length c) rs.length (rs.flatMap Rg.cells)) (hok : Rg.Oks rs) {ls : List Le} {p2 : Option Addr} {c2 : Nat} (hv2 : Rd V [] 8 (.slice p2 ls.length c2) ls.length (ls.flatMap Le.cells)) (hcs : ∀ x, x ∈ ls → x.client.size ≤ 9223372036854775807) (hl9 : ls.length ≤ 9223372036854775807) {cl9 : ByteArray} (hc9 : cl9.size ≤ 9223372036854775807)  : Does Try.prog 10 [.slice p rs.length c, .slice p2 ls.length c2, .string cl9] V [] (fun v _ _ => v = .bool true) := by
 refine Does.intro Try.func10 rfl rfl (le rfl) (fun B => ?_)
 refine Zs<|Zr<|Za Z<|Ze<|Zg<|Zs<|Zr<|?_
 refine Run.call [] (l := []) rfl rfl rfl (lt rfl) (awake12_c) (fun v1 V1 H1 hle1 hR1 => ?_)
 obtain ⟨_, rfl, rfl⟩ := hR1
 replace hv := hv.le hle1
 replace hv2 := hv2.le hle1
 have hVle := hle1
 refine Run.heapTo (H' := []) Z<|Run.heapTo (H' := []) Z<|Za Z<|Ze<|Zg<|Zs<|Zr<|Zm Z<|Zm Z<|Run.call0 (l := [.tmp 13, .tmp 14]) rfl rfl rfl (lt rfl) (long_c (n0 := rs.length) hv2.of_nil W)<|Za Z<|Ze<|Zg<|Zs<|Zs<|Zr<|?_
 refine Zm Z<|Zv (Y.not Z)<|Zm Z<|Zp Z<|Zm Z<|Zv (Y.pick_f Z Z Z)<|Zm Z<|?_
 rcases Zsplit (Le.long rs.length ls) with ⟨h2, g2⟩ | ⟨h2, g2⟩ <;> try simp only [kb] at g2
 ·refine Zo h2 Z<|Zo h2 Z<|Zo h2 Z<|Zv (Y.pick_t Z h2 Z)<|Ze<|Zg<|Tr.cond_t Z Z<|Zs<|Zr<|Zm Z<|Za Z<|Ze<|Zg<|Zu<|Zn<|Ex.keep []<|?_
  exact Ex.ret1 rfl rfl  rfl
 ·obtain ⟨hlg3, hlg4⟩ := Le.long_f h2
  refine Zp h2<|Zm Z<|Zp h2<|Zv (Y.lenStr Z Law12_st9)<|Zp h2<|Zv (Y.int Z Z Z)<|Zv (Y.pick_f Z h2 Z)<|Ze<|Zg<|?_
  rcases Zsplit (decide ((cl9.size : Int) > 200)) with ⟨h5, g5⟩ | ⟨h5, g5⟩ <;> try simp only [kb] at g5
  ·refine Tr.cond_t Z h5<|Zs<|Zr<|Zm Z<|Za Z<|Ze<|Zg<|Zu<|Zn<|Ex.keep []<|?_
   exact Ex.ret1 rfl rfl  rfl
  ·refine Tr.cond_f Z h5<|Zt<|Zg<|Zs<|Zr<|?_
   by_cases hp0 : (Rg.pool rs).2 = 0
   ·refine Zm Z<|Zm Z<|?_
    refine Run.call [] (l := [.tmp 28, .tmp 29]) rfl rfl rfl (lt rfl) (made_c hv hok hv2 hcs W W) (fun v6 V6 H6 hle6 hR6 => ?_)
    rcases hR6 with ⟨_, ⟨hpn, _⟩ | ⟨_, l, tx, rx, s1, pl, cl, ql, rfl, hin, hl, hnl, rfl⟩⟩
    · exact absurd hp0 hpn
    replace hv := hv.le hle6
    replace hv2 := hv2.le hle6
    replace hVle := Vw.le_trans hVle hle6
    obtain ⟨hr, hlm, _⟩ := id hin
    refine Run.heapTo (H' := [s1, [(rx, .cells #[.slice pl l.length cl] 94 (0, 0))], ql]) Z<|Run.heapTo (H' := [s1, [(rx, .cells #[.slice pl l.length cl] 94 (0, 0))], ql]) Z<|Zm Z<|Zv (Y.extract Z Z)<|Zv (Y.extract Z Z)<|Zv (Y.extract Z Z)<|Za Z<|Za Z<|Za Z<|Ze<|Zg<|Zs<|Zs<|Zr<|Zm Z<|Zv (Y.not Z)<|?_
    refine Zm Z<|Zp Z<|Zm Z<|Zp Z<|Zv (Y.eqNil Z Z Law12_pt71)<|Zv (Y.pick_f Z Z Z)<|Ze<|Zg<|Tr.cond_f Z Z<|Zt<|Zg<|Zs<|Zr<|Zm Z<|Zm Z<|?_
    refine Run.call [0] (l := [.tmp 41, .tmp 42]) rfl rfl rfl (lt rfl) (of_o hin) (fun v7 V7 H7 hle7 hR7 => ?_)
    obtain ⟨hV, q7, ho7, rfl⟩ := hR7; replace hV := hV.symm; subst hV
    obtain ⟨p7, c7, rfl⟩ := ho7.form
    refine Run.heapTo (H' := [[(rx, .cells #[.slice pl l.length cl] 94 (0, 0))], ql, q7, s1]) Z<|Run.heapTo (H' := [[(rx, .cells #[.slice pl l.length cl] 94 (0, 0))], ql, q7, s1]) Z<|Zm Z<|Zm Z<|?_
    refine Run.call [0, 0] (l := [.tmp 44, .tmp 45]) rfl rfl rfl (lt rfl) (rof_c (c := cl9) hl hlm) (fun v8 V8 H8 hle8 hR8 => ?_)
    obtain ⟨hV, q8, ho8, rfl⟩ := hR8; replace hV := hV.symm; subst hV
    obtain ⟨p8, c8, rfl⟩ := ho8.form
    refine Run.heapTo (H' := [q7, s1, q8, [(rx, .cells #[.slice pl l.length cl] 94 (0, 0))], ql]) Z<|Run.heapTo (H' := [q7, s1, q8, [(rx, .cells #[.slice pl l.length cl] 94 (0, 0))], ql]) Z<|Run.call0 (l := [.tmp 43, .tmp 46]) rfl rfl rfl (lt rfl) (same11_c (ho7.rd 0 rfl) (ho8.rd 2 rfl) rfl (by first | omega | exact Nat.le_trans (Le.due_few _ l) W | exact Nat.le_trans (Le.fil_le _ l) W))<|Za Z<|Ze<|Zg<|?_
    refine Zu<|Ex.keep []<|?_
    exact Ex.ret1 rfl rfl  rfl
   ·refine Zm Z<|Zm Z<|?_
    refine Run.call [] (l := [.tmp 28, .tmp 29]) rfl rfl rfl (lt rfl) (made_c hv hok hv2 hcs W W) (fun v9 V9 H9 hle9 hR9 => ?_)
    obtain ⟨_, rfl, rfl⟩ := hR9.2.resolve_right fun h9 => hp0 h9.1
    replace hv := hv.le hle9
    replace hv2 := hv2.le hle9
    replace hVle := Vw.le_trans hVle hle9
    refine Run.heapTo (H' := []) Z<|Run.heapTo (H' := []) Z<|Zm Z<|Zv (Y.extract Z Z)<|Zv (Y.extract Z Z)<|Zv (Y.extract Z Z)<|Za Z<|Za Z<|Za Z<|Ze<|Zg<|Zs<|Zs<|Zr<|Zm Z<|Zv (Y.not Z)<|?_
    refine Zm Z<|Zp Z<|Zm Z<|Zp Z<|Zv (Y.eqNil Z Z Law12_pt71)<|Zv (Y.pick_f Z Z Z)<|Ze<|Zg<|Tr.cond_t Z Z<|Zs<|Zr<|Zm Z<|Za Z<|Ze<|Zg<|Zu<|?_
    refine Zn<|Ex.keep []<|?_
    exact Ex.ret1 rfl rfl  rfl

theorem tableclients_h {V : Vw} {rs : List Rg} {v0 v1 : Value} (hv : Rd V [] 2 v0 rs.length (rs.map Rg.cells).flatten) (hok : ∀ r, r ∈ rs → Rg.Ok r) {ls : List Le} (hv2 : Rd V [] 8 v1 ls.length (ls.map Le.cells).flatten) (hcs : ∀ x, x ∈ ls → Le.Ok x) (hl9 : ls.length ≤ 9223372036854775807) {cl9 : ByteArray} (hc9 : cl9.size ≤ 9223372036854775807) : Does Try.prog 10 [v0, v1, .string cl9] V [] (fun v _ _ => v = .bool true) := by
  obtain ⟨p, c, rfl, _⟩ := hv.form
  obtain ⟨p2, c2, rfl, _⟩ := hv2.form
  rw [← List.flatMap_def] at hv hv2
  exact tclients_c hv hok hv2 (fun x hx => (hcs x hx).client) hl9 hc9
end Go.Proofs.Ytpdnkhdmajmbiaa
