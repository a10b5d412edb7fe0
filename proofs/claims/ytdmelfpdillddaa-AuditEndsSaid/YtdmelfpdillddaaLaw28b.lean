/- The laws AuditSpans, AuditApart, AuditMore and AuditEnds, walked.
Conditions: as each theorem names them. -/
import Derived.Test.YtdmelfpdillddaaProg
import Derived.Test.YtdmelfpdillddaaLaw28
import Derived.Test.YtdmelfpdillddaaSpans2
import Derived.Test.YtdmelfpdillddaaKG
import Derived.Test.YtdmelfpdillddaaZG
set_option linter.unusedSimpArgs false
set_option linter.unusedVariables false
set_option maxRecDepth 4000
namespace Go.Proofs.Ytdmelfpdillddaa
open Go Go.K
attribute [local irreducible] Code.wp wpList Calls wpQuiet
theorem Law28b_es22 : elemS Try.prog 22 = some (34, 5) := by kernel_rfl
theorem Law28b_mo : Try.prog.follows .mixedOrders = true := by kernel_rfl
theorem Law28b_fo34_1 : fieldOff Try.prog 34 1 = some 1 := by kernel_rfl
theorem Law28b_ts24 : scal Try.prog 24 = true := by kernel_rfl
theorem Law28b_fo34_2 : fieldOff Try.prog 34 2 = some 2 := by kernel_rfl
theorem Law28b_ts9 : scal Try.prog 9 = true := by kernel_rfl
theorem Law28b_es28 : elemS Try.prog 28 = some (35, 2) := by kernel_rfl
theorem Law28b_al35 : arrT Try.prog 35 = some (2, 1) := by kernel_rfl
theorem Law28b_ts3 : scal Try.prog 3 = true := by kernel_rfl
theorem Law28b_fo34_3 : fieldOff Try.prog 34 3 = some 3 := by kernel_rfl
theorem Law28b_st9 : strT Try.prog 9 = true := by kernel_rfl
theorem Law28b_ag34 : aggsz Try.prog 34 = some 5 := by kernel_rfl
theorem Law28b_zi34 : zeroInfo Try.prog 34 = some (5, 48, .agg #[.int .i64 0, .int .u32 0, .string ⟨#[]⟩, .int .i64 0, .int .i64 0]) := by kernel_rfl
theorem Law28b_zo34 : zeroOf Try.prog 34 = some (.agg #[.int .i64 0, .int .u32 0, .string ⟨#[]⟩, .int .i64 0, .int .i64 0]) := by kernel_rfl

theorem end_o {V : Vw} {l : List Pr} {v : Value} (hv : Rd V [] 5 v l.length (l.flatMap Pr.cells)) (hl : l.length ≤ 60) {a now : Int} {cl : ByteArray} : Does Try.prog 14 [v, .int .u32 a, .string cl, .int .i64 now] V [] (fun v V' H' => V' = V ∧ ∃ q, Ow 34 5 v (Pr.endd a cl now l).length ((Pr.endd a cl now l).flatMap Pr.cells) q ∧ H' = [q]) := by
  obtain ⟨p, c, rfl, _⟩ := hv.form
  exact end_c hv hl
theorem held_o {V : Vw} {l : List Pr} {v : Value} (hv : Rd V [] 5 v l.length (l.flatMap Pr.cells)) (hl : l.length ≤ 60) {now : Int} : Does Try.prog 17 [v, .int .i64 now] V [] (fun v V' H' => V' = V ∧ ∃ q, Ow 24 1 v (Pr.held l now).length ((Pr.held l now).flatMap nU) q ∧ H' = [q]) := by
  obtain ⟨p, c, rfl, _⟩ := hv.form
  exact held_c hv hl

theorem auditspans_c {V : Vw} {l : List Pr} {p : Option Addr} {c : Nat} (hv : Rd V [] 5 (.slice p l.length c) l.length (l.flatMap Pr.cells)) (hl9 : l.length ≤ 9223372036854775807) {a : Int} {cl : ByteArray}  : Does Try.prog 3 [.slice p l.length c, .int .u32 a, .string cl] V [] (fun v _ _ => v = .bool true) := by
 refine Does.intro Try.func3 rfl rfl (le rfl) (fun B => ?_)
 refine Zs<|Zr<|Za Z<|Ze<|Zg<|Zs<|Zr<|?_
 refine Run.call [] (l := []) rfl rfl rfl (lt rfl) awake28_c (fun v7 V7 H7 hle7 hR7 => ?_)
 obtain ⟨hle, rfl, rfl⟩ := hR7
 replace hv := hv.le hle
 refine Run.heapTo (H' := []) Z<|Run.heapTo (H' := []) Z<|Za Z<|Ze<|Zg<|Zs<|Zr<|Zm Z<|?_
 refine Run.call [] (l := [.tmp 10]) rfl rfl rfl (lt rfl) (few_c hv hl9) (fun v8 V8 H8 hle8 hR8 => ?_)
 obtain ⟨hV, rfl, bf, rfl, hbf⟩ := hR8; replace hV := hV.symm; subst hV
 refine Run.heapTo (H' := []) Z<|Run.heapTo (H' := []) Z<|Za Z<|Ze<|Zg<|Zs<|Zs<|Zr<|Zm Z<|Zv (Y.not Z)<|Zm Z<|Zp Z<|Zm Z<|Zp Z<|Zv (Y.not Z)<|Zv (Y.pick_f Z Z Z)<|?_
 refine Ze<|Zg<|?_
 rcases Zsplit (bf) with ⟨h1, g1⟩ | ⟨h1, g1⟩ <;> try simp only [kb] at g1
 ·have hl := hbf h1
  refine Tr.cond_f Z (congrArg Bool.not h1)<|Zt<|Zg<|Zs<|Zr<|Zm Z<|Zm Z<|Zm Z<|?_
  refine Run.call [] (l := [.tmp 19, .tmp 20, .tmp 21]) rfl rfl rfl (lt rfl) (spans_o (l := l) (a := a) (cl := cl) hv (by first | omega | decide)) (fun v2 V2 H2 hle hR => ?_)
  obtain ⟨hV, q3, ho4, rfl⟩ := hR; replace hV := hV.symm; subst hV
  have hslho4 := Pr.spans_len a cl l
  obtain ⟨p5, k6, rfl⟩ := ho4.form
  refine Run.heapTo (H' := [q3]) Z<|Run.heapTo (H' := [q3]) Z<|Zm Z<|Zm Z<|Zm Z<|?_
  refine Run.call [] (l := [.tmp 23, .tmp 24, .tmp 25]) rfl rfl rfl (lt rfl) (rspans_o (l := l) (a := a) (cl := cl) hv (by first | omega | decide)) (fun v7 V2 H2 hle hR => ?_)
  obtain ⟨hV, q8, ho9, rfl⟩ := hR; replace hV := hV.symm; subst hV
  have hslho9 := Pr.spans_len a cl l
  obtain ⟨p10, k11, rfl⟩ := ho9.form
  refine Run.heapTo (H' := [q3, q8]) Z<|Run.heapTo (H' := [q3, q8]) Z<|Run.call0 (l := [.tmp 22, .tmp 26]) rfl rfl rfl (lt rfl) (samesp_c (ho4.rd 0 rfl) (ho9.rd 1 rfl) W)<|Za Z<|Ze<|Zg<|Zu<|Ex.keep []<|?_
  exact Ex.ret1 rfl rfl  rfl
 ·refine Tr.cond_t Z (congrArg Bool.not h1)<|Zs<|Zr<|Zm Z<|Za Z<|Ze<|Zg<|Zu<|Zn<|Ex.keep []<|?_
  exact Ex.ret1 rfl rfl  rfl

theorem auditspans_h {V : Vw} {l : List Pr} {v0 : Value} (hv : Rd V [] 5 v0 l.length (l.map Pr.cells).flatten) (hl9 : l.length ≤ 9223372036854775807) {a : Int} {cl : ByteArray} : Does Try.prog 3 [v0, .int .u32 a, .string cl] V [] (fun v _ _ => v = .bool true) := by
  obtain ⟨p, c, rfl, _⟩ := hv.form
  rw [← List.flatMap_def] at hv
  exact auditspans_c hv hl9

set_option maxHeartbeats 1000000 in
theorem auditapart_c {V : Vw} {l : List Pr} {p : Option Addr} {c : Nat} (hv : Rd V [] 5 (.slice p l.length c) l.length (l.flatMap Pr.cells)) (hl9 : l.length ≤ 9223372036854775807)  : Does Try.prog 4 [.slice p l.length c] V [] (fun v _ _ => v = .bool true) := by
 refine Does.intro Try.func4 rfl rfl (le rfl) (fun B => ?_)
 refine Zs<|Zr<|Za Z<|Ze<|Zg<|Zs<|Zr<|?_
 refine Run.call [] (l := []) rfl rfl rfl (lt rfl) awake28_c (fun v7 V7 H7 hle7 hR7 => ?_)
 obtain ⟨hle, rfl, rfl⟩ := hR7
 replace hv := hv.le hle
 refine Run.heapTo (H' := []) Z<|Run.heapTo (H' := []) Z<|Za Z<|Ze<|Zg<|Zs<|Zr<|Zm Z<|?_
 refine Run.call [] (l := [.tmp 14]) rfl rfl rfl (lt rfl) (few_c hv hl9) (fun v8 V8 H8 hle8 hR8 => ?_)
 obtain ⟨hV, rfl, bf, rfl, hbf⟩ := hR8; replace hV := hV.symm; subst hV
 refine Run.heapTo (H' := []) Z<|Run.heapTo (H' := []) Z<|Za Z<|Ze<|Zg<|Zs<|Zs<|Zr<|Zm Z<|Zv (Y.not Z)<|Zm Z<|Zp Z<|Zm Z<|Zp Z<|Zv (Y.not Z)<|Zv (Y.pick_f Z Z Z)<|?_
 refine Zm Z ?_
 rcases Zsplit (bf) with ⟨h1, g1⟩ | ⟨h1, g1⟩ <;> try simp only [kb] at g1
 ·have hl := hbf h1
  refine Zp (congrArg Bool.not h1)<|Zm Z<|Zp (congrArg Bool.not h1)<|Zv (Y.lenSl Z Law28b_es22)<|Zp (congrArg Bool.not h1)<|Zv (Y.int Z Z Z)<|Zv (Y.pick_f Z (congrArg Bool.not h1) Z)<|Ze<|Zg<|?_
  rcases Zsplit (decide (((l.length : Nat) : Int) > 20)) with ⟨h2, g2⟩ | ⟨h2, g2⟩ <;> try simp only [kb] at g2
  ·refine Tr.cond_t Z h2<|Zs<|Zr<|Zm Z<|Za Z<|Ze<|Zg<|Zu<|Zn<|Ex.keep []<|?_
   exact Ex.ret1 rfl rfl  rfl
  ·refine Tr.cond_f Z h2<|Zt<|Zg<|Zs<|Zr<|Zm Z<|?_
   refine Run.call [] (l := [.tmp 29]) rfl rfl rfl (lt rfl) (clashes_c (l := l) hv (by first | omega | decide)) (fun va V2 H2 hle hR => ?_)
   obtain ⟨hV, rfl, aa, ba, rfl, hfa⟩ := hR; replace hV := hV.symm; subst hV
   refine Run.heapTo (H' := []) Z<|Run.heapTo (H' := []) Z<|Zm Z<|Zv (Y.extract Z Z)<|Zv (Y.extract Z Z)<|Za Z<|Za Z<|Ze<|Zg<|Zs<|Zs<|Zr<|Za Z<|Ze<|Zg<|Zb<|?_
   refine ZL (X := Nat) (fun z0 => V7) (fun z0 => []) (fun z0 => [(0, .slice p l.length c), (5, .int .i64 aa), (6, .int .i64 ba), (7, .int .i64 (z0 : Int))]) (fun z0 => z0 ≤ l.length ∧ ∀ k, k < z0 → ∀ m, m < k → Pr.Ap l k m) (fun z0 => l.length - z0) (0 : Nat) ⟨Nat.zero_le _, fun k hk => absurd hk (Nat.not_lt_zero k)⟩ ?_
   rintro kk ⟨hk, hka⟩
   refine Zs<|Zs<|Zr<|Zm Z<|Zm Z<|Zv (Y.lenSl Z Law28b_es22)<|Zv (Y.int Z Z Z)<|Ze<|Zg<|?_
   rcases Zsplit (decide ((kk : Int) < ((l.length : Nat) : Int))) with ⟨h3, g3⟩ | ⟨h3, g3⟩ <;> try simp only [kb] at g3
   ·refine Tr.cond_t Z h3<|Zt<|Zg<|Zs<|Zb<|Zs<|Zr<|Za Z<|Ze<|Zg<|Zb<|?_
    refine ZL (X := Nat) (fun z0 => V7) (fun z0 => []) (fun z0 => [(0, .slice p l.length c), (5, .int .i64 aa), (6, .int .i64 ba), (7, .int .i64 (kk : Int)), (8, .int .i64 (z0 : Int))]) (fun z0 => z0 ≤ kk ∧ ∀ m, m < z0 → Pr.Ap l kk m) (fun z0 => kk - z0) (0 : Nat) ⟨Nat.zero_le _, fun k hk => absurd hk (Nat.not_lt_zero k)⟩ ?_
    rintro mm ⟨hm, hma⟩
    refine Zs<|Zs<|Zr<|Zm Z<|Zm Z<|Zv (Y.int Z Z Z)<|Ze<|Zg<|?_
    rcases Zsplit (decide ((mm : Int) < (kk : Int))) with ⟨h4, g4⟩ | ⟨h4, g4⟩ <;> try simp only [kb] at g4
    ·refine Tr.cond_t Z h4<|Zt<|Zg<|Zs<|Zb<|Zs<|Zs<|Tr.quiet Law28b_mo WK<|ZM Z<|ZM Z<|ZV (Y.idxR kk Z Z Law28b_es22 hv.of_nil W W)<|ZV (Y.fieldR Z Law28b_fo34_1 hv.of_nil W)<|ZV (Y.ldR Z Law28b_ts24 hv.of_nil (flatm_at Pr.len W Pr.dflt WD rfl))<|ZM Z<|ZM Z<|ZV (Y.idxR mm Z Z Law28b_es22 hv.of_nil W W)<|?_
     refine ZV (Y.fieldR Z Law28b_fo34_1 hv.of_nil W)<|ZV (Y.ldR Z Law28b_ts24 hv.of_nil (flatm_at Pr.len W Pr.dflt WD rfl))<|ZV (Y.int Z Z Z)<|ZM Z<|?_
     rcases Zsplit (((l.getD kk Pr.dflt).addr) != ((l.getD mm Pr.dflt).addr)) with ⟨h5, g5⟩ | ⟨h5, g5⟩ <;> try simp only [kb] at g5
     ·refine ZO h5 Z<|ZO h5 Z<|ZO h5 Z<|ZO h5 Z<|ZO h5 Z<|ZO h5 Z<|ZO h5 Z<|ZO h5 Z<|ZO h5 Z<|ZO h5 Z<|ZO h5 Z<|ZV (Y.pick_t Z h5 Z)<|ZE<|Zg<|Tr.cond_t Z Z<|Zx<|?_
      refine Zy<|Zi<|Zg<|Zr<|Zm Z<|Zv (Y.add Z Z W)<|Za Z<|Ze<|Ex.keep []<|?_
      exact ZR (mm + 1 : Nat) ⟨by omega, upto_succ hma (fun h9 _ => absurd h9 W)⟩ W
     ·refine ZP h5<|ZM Z<|ZP h5<|ZM Z<|ZP h5<|ZV (Y.idxR kk Z Z Law28b_es22 hv.of_nil W W)<|ZP h5<|ZV (Y.fieldR Z Law28b_fo34_2 hv.of_nil W)<|ZP h5<|ZV (Y.ldR Z Law28b_ts9 hv.of_nil (flatm_at Pr.len W Pr.dflt WD rfl))<|ZP h5<|ZM Z<|ZP h5<|ZM Z<|ZP h5<|ZV (Y.idxR mm Z Z Law28b_es22 hv.of_nil W W)<|?_
      refine ZP h5<|ZV (Y.fieldR Z Law28b_fo34_2 hv.of_nil W)<|ZP h5<|ZV (Y.ldR Z Law28b_ts9 hv.of_nil (flatm_at Pr.len W Pr.dflt WD rfl))<|ZP h5<|ZV (Y.eqStr Z Z)<|ZV (Y.pick_f Z h5 Z)<|ZE<|Zg<|?_
      rcases Zsplit (((l.getD kk Pr.dflt).client).toList == ((l.getD mm Pr.dflt).client).toList) with ⟨h6, g6⟩ | ⟨h6, g6⟩ <;> try simp only [kb] at g6
      ·refine Tr.cond_t Z h6<|Zx<|Zy<|Zi<|Zg<|Zr<|Zm Z<|Zv (Y.add Z Z W)<|Za Z<|Ze<|Ex.keep []<|?_
       exact ZR (mm + 1 : Nat) ⟨by omega, upto_succ hma (fun _ h9 => absurd (h9.symm.trans h6) WD)⟩ W
      ·refine Tr.cond_f Z h6<|Zt<|Zg<|Zs<|Tr.tail 11 Law28b_mo WK<|ZM Z<|ZM Z<|ZM Z<|ZV (Y.idxR kk Z Z Law28b_es22 hv.of_nil W W)<|ZV (Y.fieldR Z Law28b_fo34_1 hv.of_nil W)<|ZV (Y.ldR Z Law28b_ts24 hv.of_nil (flatm_at Pr.len W Pr.dflt WD rfl))<|ZM Z<|ZM Z<|ZV (Y.idxR kk Z Z Law28b_es22 hv.of_nil W W)<|ZV (Y.fieldR Z Law28b_fo34_2 hv.of_nil W)<|ZV (Y.ldR Z Law28b_ts9 hv.of_nil (flatm_at Pr.len W Pr.dflt WD rfl))<|?_
       refine RunQ.nil_run ?_
       refine Run.call [] (l := [.tmp 68, .tmp 73, .tmp 78]) rfl rfl rfl (lt rfl) (spans_o (l := l) (a := (l.getD kk Pr.dflt).addr) (cl := (l.getD kk Pr.dflt).client) hv (by first | omega | decide)) (fun v7 V2 H2 hle hR => ?_)
       obtain ⟨hV, q8, ho9, rfl⟩ := hR; replace hV := hV.symm; subst hV
       have hslho9 := Pr.spans_len ((l.getD kk Pr.dflt).addr) ((l.getD kk Pr.dflt).client) l
       obtain ⟨p10, k11, rfl⟩ := ho9.form
       refine Run.heapTo (H' := [q8]) Z<|Run.heapTo (H' := [q8]) Z<|Za Z<|Ze<|Zg<|Zs<|Tr.tail 11 Law28b_mo WK<|ZM Z<|ZM Z<|ZM Z<|ZV (Y.idxR mm Z Z Law28b_es22 hv.of_nil W W)<|ZV (Y.fieldR Z Law28b_fo34_1 hv.of_nil W)<|ZV (Y.ldR Z Law28b_ts24 hv.of_nil (flatm_at Pr.len W Pr.dflt WD rfl))<|ZM Z<|ZM Z<|ZV (Y.idxR mm Z Z Law28b_es22 hv.of_nil W W)<|?_
       refine ZV (Y.fieldR Z Law28b_fo34_2 hv.of_nil W)<|ZV (Y.ldR Z Law28b_ts9 hv.of_nil (flatm_at Pr.len W Pr.dflt WD rfl))<|RunQ.nil_run<|?_
       refine Run.call [] (l := [.tmp 80, .tmp 85, .tmp 90]) rfl rfl rfl (lt rfl) (spans_o (l := l) (a := (l.getD mm Pr.dflt).addr) (cl := (l.getD mm Pr.dflt).client) hv (by first | omega | decide)) (fun v12 V2 H2 hle hR => ?_)
       obtain ⟨hV, q13, ho14, rfl⟩ := hR; replace hV := hV.symm; subst hV
       have hslho14 := Pr.spans_len ((l.getD mm Pr.dflt).addr) ((l.getD mm Pr.dflt).client) l
       obtain ⟨p15, k16, rfl⟩ := ho14.form
       refine Run.heapTo (H' := [q8, q13]) Z<|Run.heapTo (H' := [q8, q13]) Z<|Za Z<|Ze<|Zg<|Zs<|Zr<|Run.keepTo (H' := [q8, q13]) [0, 0] Z<|Za Z<|Ze<|Zg<|Zb<|?_
       refine ZL (X := Nat) (fun z0 => V7) (fun z0 => [q8, q13]) (fun z0 => [(0, .slice p l.length c), (5, .int .i64 aa), (6, .int .i64 ba), (7, .int .i64 (kk : Int)), (8, .int .i64 (mm : Int)), (9, .slice p10 (Pr.spans ((l.getD kk Pr.dflt).addr) ((l.getD kk Pr.dflt).client) l).length k11), (10, .slice p15 (Pr.spans ((l.getD mm Pr.dflt).addr) ((l.getD mm Pr.dflt).client) l).length k16), (11, .int .i64 (z0 : Int))]) (fun z0 => z0 ≤ (Pr.spans (l.getD kk Pr.dflt).addr (l.getD kk Pr.dflt).client l).length ∧ ∀ p, p < z0 → ∀ q, q < (Pr.spans (l.getD mm Pr.dflt).addr (l.getD mm Pr.dflt).client l).length → ¬ Pr.Mt ((Pr.spans (l.getD kk Pr.dflt).addr (l.getD kk Pr.dflt).client l).getD p Rg.dflt) ((Pr.spans (l.getD mm Pr.dflt).addr (l.getD mm Pr.dflt).client l).getD q Rg.dflt)) (fun z0 => (Pr.spans (l.getD kk Pr.dflt).addr (l.getD kk Pr.dflt).client l).length - z0) (0 : Nat) ⟨Nat.zero_le _, fun k hk => absurd hk (Nat.not_lt_zero k)⟩ ?_
       rintro pp ⟨hp, hpa⟩
       refine Zs<|Zs<|Zr<|Zm Z<|Zm Z<|Zv (Y.lenSl Z Law28b_es28)<|Zv (Y.int Z Z Z)<|Ze<|Zg<|?_
       rcases Zsplit (decide ((pp : Int) < (((Pr.spans ((l.getD kk Pr.dflt).addr) ((l.getD kk Pr.dflt).client) l).length : Nat) : Int))) with ⟨h17, g17⟩ | ⟨h17, g17⟩ <;> try simp only [kb] at g17
       ·refine Tr.cond_t Z h17<|Zt<|Zg<|Zs<|Zb<|Zs<|Zr<|Za Z<|Ze<|Zg<|Zb<|?_
        refine ZL (X := Nat) (fun z0 => V7) (fun z0 => [q8, q13]) (fun z0 => [(0, .slice p l.length c), (5, .int .i64 aa), (6, .int .i64 ba), (7, .int .i64 (kk : Int)), (8, .int .i64 (mm : Int)), (9, .slice p10 (Pr.spans ((l.getD kk Pr.dflt).addr) ((l.getD kk Pr.dflt).client) l).length k11), (10, .slice p15 (Pr.spans ((l.getD mm Pr.dflt).addr) ((l.getD mm Pr.dflt).client) l).length k16), (11, .int .i64 (pp : Int)), (12, .int .i64 (z0 : Int))]) (fun z0 => z0 ≤ (Pr.spans (l.getD mm Pr.dflt).addr (l.getD mm Pr.dflt).client l).length ∧ ∀ q, q < z0 → ¬ Pr.Mt ((Pr.spans (l.getD kk Pr.dflt).addr (l.getD kk Pr.dflt).client l).getD pp Rg.dflt) ((Pr.spans (l.getD mm Pr.dflt).addr (l.getD mm Pr.dflt).client l).getD q Rg.dflt)) (fun z0 => (Pr.spans (l.getD mm Pr.dflt).addr (l.getD mm Pr.dflt).client l).length - z0) (0 : Nat) ⟨Nat.zero_le _, fun k hk => absurd hk (Nat.not_lt_zero k)⟩ ?_
        rintro qq ⟨hq, hqa⟩
        refine Zs<|Zs<|Zr<|Zm Z<|Zm Z<|Zv (Y.lenSl Z Law28b_es28)<|Zv (Y.int Z Z Z)<|Ze<|Zg<|?_
        rcases Zsplit (decide ((qq : Int) < (((Pr.spans ((l.getD mm Pr.dflt).addr) ((l.getD mm Pr.dflt).client) l).length : Nat) : Int))) with ⟨h18, g18⟩ | ⟨h18, g18⟩ <;> try simp only [kb] at g18
        ·refine Tr.cond_t Z h18<|Zt<|Zg<|Zs<|Zb<|Zs<|Tr.quiet Law28b_mo WK<|ZM Z<|ZM Z<|ZV (Y.idxR pp Z Z Law28b_es28 (ho9.rd 0 rfl) W W)<|ZV (Y.idxArrR Z Z Law28b_al35 (ho9.rd 0 rfl) W WD WD)<|ZV (Y.ldR Z Law28b_ts3 (ho9.rd 0 rfl) (flatm_at Rg.sp2_len W Rg.dflt WD rfl))<|ZM Z<|ZM Z<|ZV (Y.idxR qq Z Z Law28b_es28 (ho14.rd 1 rfl) W W)<|ZV (Y.idxArrR Z Z Law28b_al35 (ho14.rd 1 rfl) W WD WD)<|?_
         refine ZV (Y.ldR Z Law28b_ts3 (ho14.rd 1 rfl) (flatm_at Rg.sp2_len W Rg.dflt WD rfl))<|ZV (Y.int Z Z Z)<|ZM Z<|?_
         rcases Zsplit (decide ((((Pr.spans ((l.getD kk Pr.dflt).addr) ((l.getD kk Pr.dflt).client) l).getD pp Rg.dflt).low) ≤ (((Pr.spans ((l.getD mm Pr.dflt).addr) ((l.getD mm Pr.dflt).client) l).getD qq Rg.dflt).high))) with ⟨h19, g19⟩ | ⟨h19, g19⟩ <;> try simp only [kb] at g19
         ·refine ZP h19<|ZM Z<|ZP h19<|ZM Z<|ZP h19<|ZV (Y.idxR qq Z Z Law28b_es28 (ho14.rd 1 rfl) W W)<|ZP h19<|ZV (Y.idxArrR Z Z Law28b_al35 (ho14.rd 1 rfl) W WD WD)<|ZP h19<|ZV (Y.ldR Z Law28b_ts3 (ho14.rd 1 rfl) (flatm_at Rg.sp2_len W Rg.dflt WD rfl))<|ZP h19<|ZM Z<|ZP h19<|ZM Z<|ZP h19<|ZV (Y.idxR pp Z Z Law28b_es28 (ho9.rd 0 rfl) W W)<|?_
          refine ZP h19<|ZV (Y.idxArrR Z Z Law28b_al35 (ho9.rd 0 rfl) W WD WD)<|ZP h19<|ZV (Y.ldR Z Law28b_ts3 (ho9.rd 0 rfl) (flatm_at Rg.sp2_len W Rg.dflt WD rfl))<|ZP h19<|ZV (Y.int Z Z Z)<|ZV (Y.pick_t Z h19 Z)<|ZE<|Zg<|?_
          rcases Zsplit (decide ((((Pr.spans ((l.getD mm Pr.dflt).addr) ((l.getD mm Pr.dflt).client) l).getD qq Rg.dflt).low) ≤ (((Pr.spans ((l.getD kk Pr.dflt).addr) ((l.getD kk Pr.dflt).client) l).getD pp Rg.dflt).high))) with ⟨h20, g20⟩ | ⟨h20, g20⟩ <;> try simp only [kb] at g20
          ·refine Tr.cond_t Z h20<|Zs<|Zr<|Zm Z<|Zv (Y.int Z Z Z)<|Za Z<|Ze<|Zg<|Zu<|Zk<|Zn<|Zn<|Zk<|Zk<|Zn<|Zn<|?_
           refine Zk<|Zk<|Zn<|Zn<|Zk<|Zk<|Zn<|Zn<|Zk<|Zn<|Ex.keep []<|?_
           exact Ex.ret1 rfl rfl  (congrArg Value.bool (decide_eq_true (Pr.met_first h6 (Pr.rg_at (xs := Pr.spans (l.getD kk Pr.dflt).addr (l.getD kk Pr.dflt).client l) (i := pp) W) (show (Pr.spans (l.getD mm Pr.dflt).addr (l.getD mm Pr.dflt).client l).getD qq Rg.dflt ∈ Pr.spans (l.getD kk Pr.dflt).addr (l.getD mm Pr.dflt).client l from by rw [show (l.getD kk Pr.dflt).addr = (l.getD mm Pr.dflt).addr from by omega]; exact Pr.rg_at W) W W hfa)))
          ·refine Tr.cond_f Z h20<|Zt<|Zc<|Zg<|Zr<|Zm Z<|Zv (Y.add Z Z W)<|Za Z<|Ze<|Ex.keep [0, 0]<|?_
           exact ZR (qq + 1 : Nat) ⟨by omega, upto_succ hqa (by unfold Pr.Mt; omega)⟩ W
         ·refine ZO h19 Z<|ZO h19 Z<|ZO h19 Z<|ZO h19 Z<|ZO h19 Z<|ZO h19 Z<|ZO h19 Z<|ZO h19 Z<|ZO h19 Z<|ZO h19 Z<|ZO h19 Z<|ZV (Y.pick_f Z h19 Z)<|ZE<|Zg<|Tr.cond_f Z Z<|Zt<|?_
          refine Zc<|Zg<|Zr<|Zm Z<|Zv (Y.add Z Z W)<|Za Z<|Ze<|Ex.keep [0, 0]<|?_
          exact ZR (qq + 1 : Nat) ⟨by omega, upto_succ hqa (by unfold Pr.Mt; omega)⟩ W
        ·refine Tr.cond_f Z h18<|Zx<|Zy<|Zy<|Zi<|Zc<|Zg<|Zr<|Zm Z<|Zv (Y.add Z Z W)<|Za Z<|Ze<|Ex.keep [0, 0]<|?_
         exact ZR (pp + 1 : Nat) ⟨by omega, upto_succ hpa (fun q h9 => hqa q W)⟩ W
       ·refine Tr.cond_f Z h17<|Zx<|Zy<|Zy<|Zi<|Zc<|Zg<|Zr<|Zm Z<|Zv (Y.add Z Z W)<|Za Z<|Ze<|Ex.keep []<|?_
        exact ZR (mm + 1 : Nat) ⟨by omega, upto_succ hma (Pr.ap_all (fun p h9 => hpa p W))⟩ W
    ·refine Tr.cond_f Z h4<|Zx<|Zy<|Zy<|Zi<|Zc<|Zg<|Zr<|Zm Z<|Zv (Y.add Z Z W)<|Za Z<|Ze<|Ex.keep []<|?_
     exact ZR (kk + 1 : Nat) ⟨by omega, upto_succ hka (fun m h9 => hma m W)⟩ W
   ·refine Tr.cond_f Z h3<|Zx<|Zy<|Zy<|Zi<|Zg<|Zs<|Zr<|Zm Z<|Zv (Y.int Z Z Z)<|Za Z<|Ze<|Zg<|Zu<|Ex.keep []<|?_
    exact Ex.ret1 rfl rfl  (congrArg Value.bool (decide_eq_true (Pr.apart_first (fun k h1 m h2 => hka k W m h2) hfa)))
 ·refine Zo (congrArg Bool.not h1) Z<|Zo (congrArg Bool.not h1) Z<|Zo (congrArg Bool.not h1) Z<|Zv (Y.pick_t Z (congrArg Bool.not h1) Z)<|Ze<|Zg<|Tr.cond_t Z Z<|Zs<|Zr<|Zm Z<|Za Z<|Ze<|Zg<|Zu<|Zn<|Ex.keep []<|?_
  exact Ex.ret1 rfl rfl  rfl

theorem auditapart_h {V : Vw} {l : List Pr} {v0 : Value} (hv : Rd V [] 5 v0 l.length (l.map Pr.cells).flatten) (hl9 : l.length ≤ 9223372036854775807)  : Does Try.prog 4 [v0] V [] (fun v _ _ => v = .bool true) := by
  obtain ⟨p, c, rfl, _⟩ := hv.form
  rw [← List.flatMap_def] at hv
  exact auditapart_c hv hl9

set_option maxHeartbeats 1000000 in
theorem auditends_c {V : Vw} {l : List Pr} {p : Option Addr} {c : Nat} (hv : Rd V [] 5 (.slice p l.length c) l.length (l.flatMap Pr.cells)) (hl9 : l.length ≤ 9223372036854775807) {a now : Int}  : Does Try.prog 6 [.slice p l.length c, .int .u32 a, .int .i64 now] V [] (fun v _ _ => v = .bool true) := by
 refine Does.intro Try.func6 rfl rfl (le rfl) (fun B => ?_)
 refine Zs<|Zr<|Za Z<|Ze<|Zg<|Zs<|Zr<|?_
 refine Run.call [] (l := []) rfl rfl rfl (lt rfl) awake28_c (fun v7 V7 H7 hle7 hR7 => ?_)
 obtain ⟨hle, rfl, rfl⟩ := hR7
 replace hv := hv.le hle
 refine Run.heapTo (H' := []) Z<|Run.heapTo (H' := []) Z<|Za Z<|Ze<|Zg<|Zs<|Zr<|Zm Z<|?_
 refine Run.call [] (l := [.tmp 15]) rfl rfl rfl (lt rfl) (few_c hv hl9) (fun v8 V8 H8 hle8 hR8 => ?_)
 obtain ⟨hV, rfl, bf, rfl, hbf⟩ := hR8; replace hV := hV.symm; subst hV
 refine Run.heapTo (H' := []) Z<|Run.heapTo (H' := []) Z<|Za Z<|Ze<|Zg<|Zs<|Zs<|Zr<|Zm Z<|Zv (Y.not Z)<|Zm Z<|Zp Z<|Zm Z<|Zp Z<|Zv (Y.not Z)<|Zv (Y.pick_f Z Z Z)<|?_
 refine Zm Z ?_
 rcases Zsplit (bf) with ⟨h1, g1⟩ | ⟨h1, g1⟩ <;> try simp only [kb] at g1
 ·have hl := hbf h1
  refine Zp (congrArg Bool.not h1)<|Zm Z<|Zp (congrArg Bool.not h1)<|Zv (Y.int Z Z Z)<|Zv (Y.pick_f Z (congrArg Bool.not h1) Z)<|Ze<|Zg<|?_
  rcases Zsplit (decide (now < 0)) with ⟨h2, g2⟩ | ⟨h2, g2⟩ <;> try simp only [kb] at g2
  ·refine Tr.cond_t Z h2<|Zs<|Zr<|Zm Z<|Za Z<|Ze<|Zg<|Zu<|Zn<|Ex.keep []<|?_
   exact Ex.ret1 rfl rfl  rfl
  ·refine Tr.cond_f Z h2<|Zt<|Zg<|Zs<|Zr<|Zm Z<|Zm Z<|Zm Z<|?_
   refine Run.call [] (l := [.tmp 28, .tmp 29, .const (.string ⟨#[97]⟩), .tmp 30]) rfl rfl rfl (lt rfl) (end_o (l := l) (a := a) (cl := ⟨#[97]⟩) (now := now) hv (by first | omega | decide)) (fun v3 V2 H2 hle hR => ?_)
   obtain ⟨hV, q4, ho5, rfl⟩ := hR; replace hV := hV.symm; subst hV
   have helho5 := Pr.endd_len a (⟨#[97]⟩ : ByteArray) now l
   obtain ⟨p6, k7, rfl⟩ := ho5.form
   refine Run.heapTo (H' := [q4]) Z<|Run.heapTo (H' := [q4]) Z<|Za Z<|Ze<|Zg<|Zs<|Zr<|Run.keepTo (H' := [q4]) [0] Z<|?_
   refine Run.show (fun V8 hleV8 hshV8 => ?_)
   have hme := ho5.shows _ hshV8
   replace hv := hv.le hleV8
   have hVle := hleV8
   refine Zm Z<|Zm Z<|Zm Z<|?_
   refine Run.call [] (l := [.tmp 32, .tmp 33, .const (.string ⟨#[97]⟩), .tmp 34]) rfl rfl rfl (lt rfl) (end_o (l := (Pr.endd a (⟨#[97]⟩ : ByteArray) now l)) (a := a) (cl := ⟨#[97]⟩) (now := now) hme (by first | omega | decide)) (fun v9 V2 H2 hle hR => ?_)
   obtain ⟨hV, q10, ho11, rfl⟩ := hR; replace hV := hV.symm; subst hV
   have helho11 := Pr.endd_len a (⟨#[97]⟩ : ByteArray) now l
   rw [Pr.endd_again] at ho11
   obtain ⟨p12, k13, rfl⟩ := ho11.form
   refine Run.heapTo (H' := [q10]) Z<|Run.heapTo (H' := [q10]) Z<|Zm Z<|Run.call0 (l := [.tmp 35, .tmp 36]) rfl rfl rfl (lt rfl) (same27_h (ho11.rd 0 rfl) hme.of_nil W)<|Za Z<|Ze<|Zg<|Zs<|Zs<|Zr<|Run.keepTo (H' := []) [] Z<|Za Z<|Ze<|Zg<|Zb<|?_
   refine ZL (X := Nat) (fun z0 => V8) (fun z0 => []) (fun z0 => [(0, .slice p l.length c), (1, .int .u32 a), (2, .int .i64 now), (9, .slice p6 (Pr.endd a (⟨#[97]⟩ : ByteArray) now l).length k7), (10, .bool true), (11, .int .i64 (z0 : Int))]) (fun z0 => z0 ≤ l.length) (fun z0 => l.length - z0) (0 : Nat) (Nat.zero_le _) ?_
   rintro ii hi
   refine Zs<|Zs<|Zr<|Zm Z<|Zm Z<|Zv (Y.lenSl Z Law28b_es22)<|Zv (Y.int Z Z Z)<|Ze<|Zg<|?_
   rcases Zsplit (decide ((ii : Int) < ((l.length : Nat) : Int))) with ⟨h14, g14⟩ | ⟨h14, g14⟩ <;> try simp only [kb] at g14
   ·refine Tr.cond_t Z h14<|Zt<|Zg<|Zs<|Zb<|Zs<|Zr<|Za Z<|Ze<|Zg<|Zb<|?_
    refine ZL (X := Nat) (fun z0 => V8) (fun z0 => []) (fun z0 => [(0, .slice p l.length c), (1, .int .u32 a), (2, .int .i64 now), (9, .slice p6 (Pr.endd a (⟨#[97]⟩ : ByteArray) now l).length k7), (10, .bool true), (11, .int .i64 (ii : Int)), (12, .int .i64 (z0 : Int))]) (fun z0 => z0 ≤ 2) (fun z0 => 2 - z0) (0 : Nat) (Nat.zero_le _) ?_
    rintro kq hkq
    refine Zs<|Zs<|Zr<|Zm Z<|Zv (Y.int Z Z Z)<|Ze<|Zg<|?_
    rcases Zsplit (decide ((kq : Int) ≤ 1)) with ⟨h15, g15⟩ | ⟨h15, g15⟩ <;> try simp only [kb] at g15
    ·refine Tr.cond_t Z h15<|Zt<|Zg<|Zs<|Zb<|Zs<|Zr<|Zm Z<|Zm Z<|Zv (Y.idxR ii Z Z Law28b_es22 hv.of_nil W W)<|Zv (Y.fieldR Z Law28b_fo34_3 hv.of_nil W)<|Zv (Y.ldR Z Law28b_ts3 hv.of_nil (flatm_at Pr.len W Pr.dflt WD rfl))<|Zm Z<|Zv (Y.int (r := .int .i64 (IntKind.i64.wrap ((l.getD ii Pr.dflt).from_ - (kq : Int)))) Z Z (Z))<|Za Z<|Ze<|?_
     refine Zg<|Zs<|Zr<|Zm Z<|Zv (Y.int Z Z Z)<|Zm Z<|?_
     rcases Zsplit (decide ((IntKind.i64.wrap ((l.getD ii Pr.dflt).from_ - (kq : Int))) ≥ 0)) with ⟨h16, g16⟩ | ⟨h16, g16⟩ <;> try simp only [kb] at g16
     ·refine Zp h16<|Zm Z<|Zp h16<|Zm Z<|Zp h16<|Zv (Y.int Z Z Z)<|Zv (Y.pick_t Z h16 Z)<|Zm Z<|?_
      rcases Zsplit (decide ((IntKind.i64.wrap ((l.getD ii Pr.dflt).from_ - (kq : Int))) ≤ now)) with ⟨h17, g17⟩ | ⟨h17, g17⟩ <;> try simp only [kb] at g17
      ·refine Zp h17<|Zm Z<|Zp h17<|Zm Z<|Zp h17<|?_
       refine Run.call [] (l := [.tmp 63, .tmp 64]) rfl rfl rfl (lt rfl) (held_o (l := l) (now := IntKind.i64.wrap ((l.getD ii Pr.dflt).from_ - (kq : Int))) hv (by first | omega | decide)) (fun v18 V2 H2 hle hR => ?_)
       obtain ⟨hV, q19, ho20, rfl⟩ := hR; replace hV := hV.symm; subst hV
       have hhlho20 := Pr.held_len l (IntKind.i64.wrap ((l.getD ii Pr.dflt).from_ - (kq : Int)))
       obtain ⟨p21, k22, rfl⟩ := ho20.form
       refine Run.heapTo (H' := [q19]) Z<|Run.heapTo (H' := [q19]) Z<|Zp h17<|Zm Z<|Zp h17<|Zm Z<|Zp h17<|?_
       refine Run.call [] (l := [.tmp 66, .tmp 67]) rfl rfl rfl (lt rfl) (held_o (l := (Pr.endd a (⟨#[97]⟩ : ByteArray) now l)) (now := IntKind.i64.wrap ((l.getD ii Pr.dflt).from_ - (kq : Int))) hme (by first | omega | decide)) (fun v23 V2 H2 hle hR => ?_)
       obtain ⟨hV, q24, ho25, rfl⟩ := hR; replace hV := hV.symm; subst hV
       rw [← Pr.held_endd (show IntKind.i64.wrap ((l.getD ii Pr.dflt).from_ - (kq : Int)) ≤ now by omega)] at ho25
       have hhlho25 := Pr.held_len l (IntKind.i64.wrap ((l.getD ii Pr.dflt).from_ - (kq : Int)))
       obtain ⟨p26, k27, rfl⟩ := ho25.form
       refine Run.heapTo (H' := [q19, q24]) Z<|Run.heapTo (H' := [q19, q24]) Z<|Zp h17<|Run.call0 (l := [.tmp 65, .tmp 68]) rfl rfl rfl (lt rfl) (same28_h (ho20.rd 0 rfl) (ho25.rd 1 rfl) W)<|Zp h17<|Zv (Y.not Z)<|Zv (Y.pick_t Z h17 Z)<|Ze<|Zg<|Tr.cond_f Z (congrArg Bool.not (beq_self_eq_true _))<|Zt<|Zc<|Zg<|Zr<|Zm Z<|Zv (Y.add Z Z W)<|?_
       refine Za Z<|Ze<|Ex.keep []<|?_
       exact ZR (kq + 1 : Nat) W W
      ·refine Zo h17 Z<|Zo h17 Z<|Zo h17 Z<|Zo h17 Z<|Zo h17 Z<|Zo h17 Z<|Zo h17 Z<|Zo h17 Z<|Zv (Y.pick_f Z h17 Z)<|Ze<|Zg<|Tr.cond_f Z Z<|Zt<|Zc<|Zg<|Zr<|?_
       refine Zm Z<|Zv (Y.add Z Z W)<|Za Z<|Ze<|Ex.keep []<|?_
       exact ZR (kq + 1 : Nat) W W
     ·refine Zo h16 Z<|Zo h16 Z<|Zo h16 Z<|Zv (Y.pick_f Z h16 Z)<|Zm Z<|Zo Z Z<|Zo Z Z<|Zo Z Z<|Zo Z Z<|Zo Z Z<|Zo Z Z<|Zo Z Z<|Zo Z Z<|Zv (Y.pick_f Z Z Z)<|Ze<|Zg<|?_
      refine Tr.cond_f Z Z<|Zt<|Zc<|Zg<|Zr<|Zm Z<|Zv (Y.add Z Z W)<|Za Z<|Ze<|Ex.keep []<|?_
      exact ZR (kq + 1 : Nat) W W
    ·refine Tr.cond_f Z h15<|Zx<|Zy<|Zy<|Zi<|Zc<|Zg<|Zr<|Zm Z<|Zv (Y.add Z Z W)<|Za Z<|Ze<|Ex.keep []<|?_
     exact ZR (ii + 1 : Nat) W W
   ·refine Tr.cond_f Z h14<|Zx<|Zy<|Zy<|Zi<|Zg<|Zs<|Zr<|Zm Z<|Zm Z<|Zp Z<|Zm Z<|Zp Z<|Zv (Y.lenSl Z Law28b_es22)<|Zp Z<|Zm Z<|?_
    refine Zp Z<|Zv (Y.lenSl Z Law28b_es22)<|Zp Z<|Zv (Y.int Z Z Z)<|Zv (Y.pick_t Z Z Z)<|Zm Z<|?_
    rcases Zsplit (decide ((((Pr.endd a (⟨#[97]⟩ : ByteArray) now l).length : Nat) : Int) ≤ ((l.length : Nat) : Int))) with ⟨h28, g28⟩ | ⟨h28, g28⟩ <;> try simp only [kb] at g28
    ·refine Zp h28<|Zm Z<|Zp h28<|Zm Z<|Zp h28<|?_
     refine Run.call [] (l := [.tmp 81, .tmp 82, .const (.string ⟨#[98]⟩)]) rfl rfl rfl (lt rfl) (spans_o (l := l) (a := a) (cl := ⟨#[98]⟩) hv (by first | omega | decide)) (fun v29 V2 H2 hle hR => ?_)
     obtain ⟨hV, q30, ho31, rfl⟩ := hR; replace hV := hV.symm; subst hV
     have hslho31 := Pr.spans_len a (⟨#[98]⟩ : ByteArray) l
     obtain ⟨p32, k33, rfl⟩ := ho31.form
     refine Run.heapTo (H' := [q30]) Z<|Run.heapTo (H' := [q30]) Z<|Zp h28<|Zm Z<|Zp h28<|Zm Z<|Zp h28<|?_
     refine Run.call [] (l := [.tmp 84, .tmp 85, .const (.string ⟨#[98]⟩)]) rfl rfl rfl (lt rfl) (spans_o (l := (Pr.endd a (⟨#[97]⟩ : ByteArray) now l)) (a := a) (cl := ⟨#[98]⟩) hme (by first | omega | decide)) (fun v34 V2 H2 hle hR => ?_)
     obtain ⟨hV, q35, ho36, rfl⟩ := hR; replace hV := hV.symm; subst hV
     rw [← Pr.spans_endd (by decide +kernel)] at ho36
     have hslho36 := Pr.spans_len a (⟨#[98]⟩ : ByteArray) l
     obtain ⟨p37, k38, rfl⟩ := ho36.form
     refine Run.heapTo (H' := [q30, q35]) Z<|Run.heapTo (H' := [q30, q35]) Z<|Zp h28<|Run.call0 (l := [.tmp 83, .tmp 86]) rfl rfl rfl (lt rfl) (samesp_c (ho31.rd 0 rfl) (ho36.rd 1 rfl) W)<|Zv (Y.pick_t Z h28 Z)<|Za Z<|Ze<|Zg<|Zu<|Ex.keep []<|?_
     exact Ex.ret1 rfl rfl  rfl
    ·exfalso; omega
 ·refine Zo (congrArg Bool.not h1) Z<|Zo (congrArg Bool.not h1) Z<|Zv (Y.pick_t Z (congrArg Bool.not h1) Z)<|Ze<|Zg<|Tr.cond_t Z Z<|Zs<|Zr<|Zm Z<|Za Z<|Ze<|Zg<|Zu<|Zn<|Ex.keep []<|?_
  exact Ex.ret1 rfl rfl  rfl

theorem auditends_h {V : Vw} {l : List Pr} {v0 : Value} (hv : Rd V [] 5 v0 l.length (l.map Pr.cells).flatten) (hl9 : l.length ≤ 9223372036854775807) {a now : Int} : Does Try.prog 6 [v0, .int .u32 a, .int .i64 now] V [] (fun v _ _ => v = .bool true) := by
  obtain ⟨p, c, rfl, _⟩ := hv.form
  rw [← List.flatMap_def] at hv
  exact auditends_c hv hl9

set_option maxHeartbeats 1000000 in
theorem auditmore_c {V : Vw} {l : List Pr} {p : Option Addr} {c : Nat} (hv : Rd V [] 5 (.slice p l.length c) l.length (l.flatMap Pr.cells)) (hl9 : l.length ≤ 9223372036854775807) {x : Pr} {now : Int}  : Does Try.prog 5 [.slice p l.length c, .agg #[.int .i64 x.srv, .int .u32 x.addr, .string x.client, .int .i64 x.from_, .int .i64 x.till], .int .i64 now] V [] (fun v _ _ => v = .bool true) := by
 refine Does.intro Try.func5 rfl rfl (le rfl) (fun B => ?_)
 refine Zs<|Zr<|?_
 refine Run.box rfl (lt rfl) (fun b1 => ?_)
 refine Za Z<|Ze<|Zg<|Zs<|Zr<|?_
 refine Run.call [] (l := []) rfl rfl rfl (lt rfl) awake28_c (fun v7 V7 H7 hle7 hR7 => ?_)
 obtain ⟨hle, rfl, rfl⟩ := hR7
 replace hv := hv.le hle
 refine Run.heapTo (H' := [[(b1, .cells #[.int .i64 x.srv, .int .u32 x.addr, .string x.client, .int .i64 x.from_, .int .i64 x.till] 34 (0, 0))]]) Z<|Run.heapTo (H' := [[(b1, .cells #[.int .i64 x.srv, .int .u32 x.addr, .string x.client, .int .i64 x.from_, .int .i64 x.till] 34 (0, 0))]]) Z<|Za Z<|Ze<|Zg<|Zs<|Zr<|Zm Z<|?_
 refine Run.call [] (l := [.tmp 22]) rfl rfl rfl (lt rfl) (few_c hv hl9) (fun v8 V8 H8 hle8 hR8 => ?_)
 obtain ⟨hV, rfl, bf, rfl, hbf⟩ := hR8; replace hV := hV.symm; subst hV
 refine Run.heapTo (H' := [[(b1, .cells #[.int .i64 x.srv, .int .u32 x.addr, .string x.client, .int .i64 x.from_, .int .i64 x.till] 34 (0, 0))]]) Z<|Run.heapTo (H' := [[(b1, .cells #[.int .i64 x.srv, .int .u32 x.addr, .string x.client, .int .i64 x.from_, .int .i64 x.till] 34 (0, 0))]]) Z<|Za Z<|Ze<|Zg<|Zs<|Zs<|Zr<|Zm Z<|Zv (Y.not Z)<|Zm Z<|Zp Z<|Zm Z<|Zp Z<|Zv (Y.not Z)<|Zv (Y.pick_f Z Z Z)<|?_
 refine Zm Z ?_
 rcases Zsplit (bf) with ⟨h2, g2⟩ | ⟨h2, g2⟩ <;> try simp only [kb] at g2
 ·have hl := hbf h2
  refine Zp (congrArg Bool.not h2)<|Zm Z<|Zp (congrArg Bool.not h2)<|Zv (Y.lenSl Z Law28b_es22)<|Zp (congrArg Bool.not h2)<|Zv (Y.int Z Z Z)<|Zv (Y.pick_f Z (congrArg Bool.not h2) Z)<|Zm Z<|?_
  rcases Zsplit (decide (((l.length : Nat) : Int) > 30)) with ⟨h3, g3⟩ | ⟨h3, g3⟩ <;> try simp only [kb] at g3
  ·refine Zo h3 Z<|Zo h3 Z<|Zo h3 Z<|Zo h3 Z<|Zv (Y.pick_t Z h3 Z)<|Ze<|Zg<|Tr.cond_t Z Z<|Zs<|Zr<|Zm Z<|Za Z<|Ze<|Zg<|Zu<|Zn<|?_
   refine Ex.keep [] ?_
   exact Ex.ret1 rfl rfl  rfl
  ·refine Zp h3<|Zv (Y.fieldAddr Z Law28b_fo34_2)<|Zp h3<|Zv (Y.load Z Law28b_ts9 (Kn.at 0 Z) Z)<|Zp h3<|Zv (Y.lenStr Z Law28b_st9)<|Zp h3<|Zv (Y.int Z Z Z)<|Zv (Y.pick_f Z h3 Z)<|Ze<|Zg<|?_
   rcases Zsplit (decide ((x.client.size : Int) > 100)) with ⟨h4, g4⟩ | ⟨h4, g4⟩ <;> try simp only [kb] at g4
   ·refine Tr.cond_t Z h4<|Zs<|Zr<|Zm Z<|Za Z<|Ze<|Zg<|Zu<|Zn<|Ex.keep []<|?_
    exact Ex.ret1 rfl rfl  rfl
   ·refine Tr.cond_f Z h4<|Zt<|Zg<|Zs<|Tr.anyD [(b1, .cells #[.int .i64 x.srv, .int .u32 x.addr, .string x.client, .int .i64 x.from_, .int .i64 x.till] 34 (0, 0))] Law28b_mo<|RunD.pure (i := 1) rfl WK WK WK (fun _ _ _ h => h) (lt rfl) (ZK 0 Z) (fun _ => (Y.move rfl))<|RunD.take (i := 3) 0 rfl rfl WK WK WK (fun _ _ _ h => h) (lt rfl) (ZK 0 Z) (fun _ => (Y.loadAgg rfl Law28b_ag34 Kn.vk1 rfl))<|?_
    refine RunD.two (i := 0) (j := 4) WK rfl rfl  ?_ ?_ 
    ·refine Run.buildSlice0 Law28b_es22 (lt rfl) (fun b5 => ?_)
     refine Ze<|Ex.anyD (ZK 1 Z)<|?_
     refine RunD.two (i := 2) (j := 4) WK rfl rfl  ?_ ?_ 
     ·refine Run.append (n := 0) (m := l.length) (xs := []) (ys := l.flatMap Pr.cells) rfl rfl Law28b_es22 Law28b_zi34 WD (j := 0) rfl (Ow.lit (cur := #[]) rfl WD) (Src.of_rd Law28b_es22 hv.of_nil) W W (all_one_flat Pr.enc _) (lt rfl) (fun v6 s7 ho8 hf => ?_)
      obtain ⟨p6, c6, rfl⟩ := hf
      replace ho8 := Ow.app (f := Pr.cells) (l := []) (m := l) ho8
      refine Ze<|Ex.anyD (ZK 1 Z)<|?_
      refine RunD.one (i := 4) WK rfl  ?_ 
      refine Run.buildSlice (l := [(0, .tmp 45)]) (r := [.int .i64 x.srv, .int .u32 x.addr, .string x.client, .int .i64 x.from_, .int .i64 x.till]) Law28b_es22 Law28b_zo34 rfl WD rfl rfl WD (lt rfl) (fun b9 => ?_)
      refine Ze<|Ex.anyD (ZK 2 Z)<|?_
      refine RunD.one (i := 5) WK rfl  ?_ 
      refine Run.append (n := 0 + l.length) (m := 1) (xs := ([] ++ l).flatMap Pr.cells) (ys := [.int .i64 x.srv, .int .u32 x.addr, .string x.client, .int .i64 x.from_, .int .i64 x.till]) rfl rfl Law28b_es22 Law28b_zi34 WD (j := 1) rfl ho8 (Src.of_rd Law28b_es22 (Rd.one (Kn.at 0 rfl) rfl)) W W rfl (lt rfl) (fun v10 s11 ho12 hf => ?_)
      obtain ⟨p10, c10, rfl⟩ := hf
      replace ho12 := Ow.app1 (f := Pr.cells) (l := [] ++ l) (x := (⟨x.srv, x.addr, x.client, x.from_, x.till⟩ : Pr)) ho12
      refine Ze<|Ex.anyD (ZK 2 Z)<|RunD.pure (i := 6) rfl WK WK WK (fun _ _ _ h => h) (lt rfl) (ZK 2 Z) (fun _ => (Y.assign rfl))<|RunD.done WK<|Zg<|Zs<|Zr<|Run.keepTo (H' := [s11, [(b9, .cells #[.int .i64 x.srv, .int .u32 x.addr, .string x.client, .int .i64 x.from_, .int .i64 x.till] 34 (0, 0))], [(b1, .cells #[.int .i64 x.srv, .int .u32 x.addr, .string x.client, .int .i64 x.from_, .int .i64 x.till] 34 (0, 0))]]) [1, 0, 0] Z<|?_
      refine Run.show (fun V13 hleV13 hshV13 => ?_)
      have hmo := ho12.shows _ hshV13
      replace hv := hv.le hleV13
      have hVle := hleV13
      have hmo2 : Rd V13 [] 5 (.slice p10 (0 + l.length + 1) c10) (l ++ [x]).length ((l ++ [x]).flatMap Pr.cells) := by rw [show (l ++ [x]).length = 0 + l.length + 1 from by simp <;> omega]; exact hmo
      have hmo3 : Rd V13 [] 5 (.slice p10 (0 + l.length + 1) c10) (0 + l.length + 1) ((l ++ [x]).flatMap Pr.cells) := hmo
      have hml : (l ++ [x]).length ≤ 60 := by rw [List.length_append, List.length_singleton]; omega
      have hmL : (l ++ [x]).length = l.length + 1 := by rw [List.length_append, List.length_singleton]
      have hpm := Pr.peak_more l x
      refine Zm Z<|Run.call0 (l := [.tmp 49]) rfl rfl rfl (lt rfl) (peak_c_h (l := l) hv (by first | omega | decide))<|Zm Z<|Zv (Y.extract Z Z)<|Zv (Y.extract Z Z)<|Za Z<|Za Z<|Ze<|Zg<|Zs<|Zr<|Zm Z<|Run.call0 (l := [.tmp 54]) rfl rfl rfl (lt rfl) (peak_c_h (l := (l ++ [x])) hmo2 (by first | omega | decide))<|Zm Z<|Zv (Y.extract Z Z)<|Zv (Y.extract Z Z)<|?_
      refine Za Z<|Za Z<|Ze<|Zg<|Zs<|Zr<|Run.keepTo (H' := [[(b1, .cells #[.int .i64 x.srv, .int .u32 x.addr, .string x.client, .int .i64 x.from_, .int .i64 x.till] 34 (0, 0))]]) [1] Z<|Za Z<|Ze<|Zg<|Zs<|Zs<|Zr<|Run.nilseg<|Zm Z<|Zv (Y.lenSl Z Law28b_es22)<|?_
      refine Zv (Y.sub Z Z W)<|Za Z<|Ze<|Zg<|Zb<|?_
      refine ZL (X := Nat × Option Addr × Nat × Nat × Sg) (fun z0 => V13) (fun z0 => [z0.2.2.2.2, [(b1, .cells #[.int .i64 x.srv, .int .u32 x.addr, .string x.client, .int .i64 x.from_, .int .i64 x.till] 34 (0, 0))]]) (fun z0 => [(2, .int .i64 now), (4, .pointer (some ⟨b1, 0, none⟩)), (9, .slice p10 (0 + l.length + 1) c10), (10, .int .i64 ((Pr.peak l).1)), (12, .int .i64 ((Pr.peak (l ++ [x])).1)), (13, .int .i64 ((Pr.peak (l ++ [x])).2)), (14, .slice z0.2.1 z0.2.2.1 z0.2.2.2.1), (15, .int .i64 ((z0.1 : Int) - 1))]) (fun z0 => Ow 34 5 (.slice z0.2.1 z0.2.2.1 z0.2.2.2.1) z0.2.2.1 ((((l ++ [x]).drop z0.1).reverse).flatMap Pr.cells) z0.2.2.2.2 ∧ z0.2.2.1 = l.length + 1 - z0.1 ∧ z0.1 ≤ l.length + 1) (fun z0 => z0.1) (⟨l.length + 1, none, 0, 0, []⟩ : Nat × Option Addr × Nat × Nat × Sg) ⟨by rw [Pr.rev_more]; exact Ow.nil _ _, by dsimp only; omega, Nat.le_refl _⟩ ?_
      rintro ⟨jj, p1, n1, k1, q1⟩ ⟨how, hn, hj⟩
      try dsimp only at how hn hj ⊢
      refine Zs<|Zs<|Zr<|Zm Z<|Zv (Y.int Z Z Z)<|Ze<|Zg<|?_
      rcases Zsplit (decide (((jj : Int) - 1) ≥ 0)) with ⟨h14, g14⟩ | ⟨h14, g14⟩ <;> try simp only [kb] at g14
      ·refine Tr.cond_t Z h14<|Zt<|Zg<|Zs<|Zb<|Zr<|Zm Z<|Zm Z<|Zm Z<|Zv (Y.idxR (jj - 1) rfl rfl Law28b_es22 hmo3.of_nil W W)<|Zv (Y.ldRA (vs := [.int .i64 (((l ++ [x]).getD (jj - 1) Pr.dflt).srv), .int .u32 (((l ++ [x]).getD (jj - 1) Pr.dflt).addr), .string (((l ++ [x]).getD (jj - 1) Pr.dflt).client), .int .i64 (((l ++ [x]).getD (jj - 1) Pr.dflt).from_), .int .i64 (((l ++ [x]).getD (jj - 1) Pr.dflt).till)]) rfl Law28b_ag34 hmo3.of_nil rfl WD (fun o ho => flatm_atA Pr.len W Pr.dflt o ho))<|?_
       refine Run.buildSlice (l := [(0, .tmp 69)]) (r := [.int .i64 (((l ++ [x]).getD (jj - 1) Pr.dflt).srv), .int .u32 (((l ++ [x]).getD (jj - 1) Pr.dflt).addr), .string (((l ++ [x]).getD (jj - 1) Pr.dflt).client), .int .i64 (((l ++ [x]).getD (jj - 1) Pr.dflt).from_), .int .i64 (((l ++ [x]).getD (jj - 1) Pr.dflt).till)]) Law28b_es22 Law28b_zo34 rfl WD rfl rfl WD (lt rfl) (fun b15 => ?_)
       refine Run.append (n := n1) (m := 1) (xs := (((l ++ [x]).drop jj).reverse).flatMap Pr.cells) (ys := [.int .i64 (((l ++ [x]).getD (jj - 1) Pr.dflt).srv), .int .u32 (((l ++ [x]).getD (jj - 1) Pr.dflt).addr), .string (((l ++ [x]).getD (jj - 1) Pr.dflt).client), .int .i64 (((l ++ [x]).getD (jj - 1) Pr.dflt).from_), .int .i64 (((l ++ [x]).getD (jj - 1) Pr.dflt).till)]) rfl rfl Law28b_es22 Law28b_zi34 WD (j := 1) rfl how (Src.of_rd Law28b_es22 (Rd.one (Kn.at 0 rfl) rfl)) W W rfl (lt rfl) (fun v16 s17 ho18 hf => ?_)
       obtain ⟨p16, c16, rfl⟩ := hf
       replace ho18 := Ow.app1 (f := Pr.cells) (l := ((l ++ [x]).drop jj).reverse) (x := (⟨((l ++ [x]).getD (jj - 1) Pr.dflt).srv, ((l ++ [x]).getD (jj - 1) Pr.dflt).addr, ((l ++ [x]).getD (jj - 1) Pr.dflt).client, ((l ++ [x]).getD (jj - 1) Pr.dflt).from_, ((l ++ [x]).getD (jj - 1) Pr.dflt).till⟩ : Pr)) ho18
       refine Za Z<|Ze<|Zc<|Zg<|Zr<|Zm Z<|Zv (Y.sub Z Z W)<|Za Z<|Ze<|Ex.keep [1, 1]<|?_
       have er := Pr.rev_drop (l := (l ++ [x])) (j := jj - 1) W
       rw [show jj - 1 + 1 = jj from by omega] at er
       exact ZR (⟨jj - 1, p16, (n1 + 1), c16, s17⟩ : Nat × Option Addr × Nat × Nat × Sg) ⟨by rw [er]; exact ho18, by dsimp only; omega, by dsimp only; omega⟩ (by dsimp only; omega)
      ·refine Tr.cond_f Z h14<|Zx<|Zy<|Zy<|Zi<|Zg<|Zs<|Zr<|?_
       obtain rfl : jj = 0 := by omega
       rw [List.drop_zero] at how
       refine Run.keepTo (H' := [q1, [(b1, .cells #[.int .i64 x.srv, .int .u32 x.addr, .string x.client, .int .i64 x.from_, .int .i64 x.till] 34 (0, 0))]]) [0, 0] Z ?_
       refine Run.show (fun V19 hleV19 hshV19 => ?_)
       have hba := how.shows _ hshV19
       replace hv := hv.le hleV19
       replace hmo := hmo.le hleV19
       replace hmo2 := hmo2.le hleV19
       replace hmo3 := hmo3.le hleV19
       replace hVle := Vw.le_trans hVle hleV19
       have hba2 : Rd V19 [] 5 (.slice p1 n1 k1) (l ++ [x]).reverse.length ((l ++ [x]).reverse.flatMap Pr.cells) := by rw [show (l ++ [x]).reverse.length = n1 from by simp <;> omega]; exact hba
       have hba3 : Rd V19 [] 5 (.slice p1 n1 k1) (n1) ((l ++ [x]).reverse.flatMap Pr.cells) := hba
       have hbl : (l ++ [x]).reverse.length ≤ 60 := by rw [List.length_reverse]; exact hml
       have hpk : Pr.peak (l ++ [x]).reverse = Pr.peak (l ++ [x]) := Pr.peak_perm (List.reverse_perm _)
       refine Zm Z<|Run.call0 (l := [.tmp 73]) rfl rfl rfl (lt rfl) (peak_c_h (l := (l ++ [x]).reverse) hba2 (by first | omega | decide))<|Zm Z<|Zv (Y.extract Z Z)<|Zv (Y.extract Z Z)<|Za Z<|Za Z<|Ze<|Zg<|Zs<|Zr<|?_
       rw [hpk]
       refine Zm Z<|Zv (Y.fieldAddr Z Law28b_fo34_1)<|Zv (Y.load Z Law28b_ts24 (Kn.at 0 Z) Z)<|Zv (Y.fieldAddr Z Law28b_fo34_2)<|Zv (Y.load Z Law28b_ts9 (Kn.at 0 Z) Z)<|Zm Z<|?_
       refine Run.call [] (l := [.tmp 77, .tmp 79, .tmp 81, .tmp 82]) rfl rfl rfl (lt rfl) (end_o (l := (l ++ [x])) (a := x.addr) (cl := x.client) (now := now) hmo2 (by first | omega | decide)) (fun v20 V2 H2 hle hR => ?_)
       obtain ⟨hV, q21, ho22, rfl⟩ := hR; replace hV := hV.symm; subst hV
       have helho22 := Pr.endd_len x.addr x.client now (l ++ [x])
       obtain ⟨p23, k24, rfl⟩ := ho22.form
       refine Run.heapTo (H' := [[(b1, .cells #[.int .i64 x.srv, .int .u32 x.addr, .string x.client, .int .i64 x.from_, .int .i64 x.till] 34 (0, 0))], q21]) Z<|Run.heapTo (H' := [[(b1, .cells #[.int .i64 x.srv, .int .u32 x.addr, .string x.client, .int .i64 x.from_, .int .i64 x.till] 34 (0, 0))], q21]) Z<|Za Z<|Ze<|Zg<|Zs<|Zr<|Run.keepTo (H' := [q21, [(b1, .cells #[.int .i64 x.srv, .int .u32 x.addr, .string x.client, .int .i64 x.from_, .int .i64 x.till] 34 (0, 0))]]) [1, 0] Z<|?_
       refine Run.show (fun V25 hleV25 hshV25 => ?_)
       have hre := ho22.shows _ hshV25
       replace hv := hv.le hleV25
       replace hmo := hmo.le hleV25
       replace hmo2 := hmo2.le hleV25
       replace hmo3 := hmo3.le hleV25
       replace hba := hba.le hleV25
       replace hba2 := hba2.le hleV25
       replace hba3 := hba3.le hleV25
       replace hVle := Vw.le_trans hVle hleV25
       have hrl : (Pr.endd x.addr x.client now (l ++ [x])).length ≤ 60 := by omega
       refine Zm Z<|Zv (Y.fieldAddr Z Law28b_fo34_1)<|Zv (Y.load Z Law28b_ts24 (Kn.at 0 Z) Z)<|Zv (Y.fieldAddr Z Law28b_fo34_2)<|Zv (Y.load Z Law28b_ts9 (Kn.at 0 Z) Z)<|?_
       refine Run.call [] (l := [.tmp 84, .tmp 86, .tmp 88]) rfl rfl rfl (lt rfl) (spans_o (l := (Pr.endd x.addr x.client now (l ++ [x]))) (a := x.addr) (cl := x.client) hre (by first | omega | decide)) (fun v26 V2 H2 hle hR => ?_)
       obtain ⟨hV, q27, ho28, rfl⟩ := hR; replace hV := hV.symm; subst hV
       have hslho28 := Pr.spans_len x.addr x.client (Pr.endd x.addr x.client now (l ++ [x]))
       obtain ⟨p29, k30, rfl⟩ := ho28.form
       refine Run.heapTo (H' := [[(b1, .cells #[.int .i64 x.srv, .int .u32 x.addr, .string x.client, .int .i64 x.from_, .int .i64 x.till] 34 (0, 0))], q27]) Z<|Run.heapTo (H' := [[(b1, .cells #[.int .i64 x.srv, .int .u32 x.addr, .string x.client, .int .i64 x.from_, .int .i64 x.till] 34 (0, 0))], q27]) Z<|Za Z<|Ze<|Zg<|Zs<|Zr<|Za Z<|Ze<|Zg<|Zs<|Zs<|Zr<|?_
       have hov : ∀ i, i < (Pr.spans x.addr x.client (Pr.endd x.addr x.client now (l ++ [x]))).length → ((Pr.spans x.addr x.client (Pr.endd x.addr x.client now (l ++ [x]))).getD i Rg.dflt).high ≤ now := fun i hi => Pr.spans_over (Pr.rg_at hi)
       refine Zm Z<|Zv (Y.lenSl Z Law28b_es28)<|Zv (Y.int Z Z Z)<|Ze<|Zg<|?_
       rcases Zsplit (decide ((((Pr.spans x.addr x.client (Pr.endd x.addr x.client now (l ++ [x]))).length : Nat) : Int) > 0)) with ⟨h31, g31⟩ | ⟨h31, g31⟩ <;> try simp only [kb] at g31
       ·refine Tr.cond_t Z h31<|Zr<|Zm Z<|Zm Z<|Zv (Y.lenSl Z Law28b_es28)<|Zv (Y.sub Z Z W)<|Zv (Y.idxR (((((Pr.spans x.addr x.client (Pr.endd x.addr x.client now (l ++ [x]))).length : Nat) : Int) - 1).toNat) rfl rfl Law28b_es28 (ho28.rd 1 rfl) W W)<|Zv (Y.idxArrR Z Z Law28b_al35 (ho28.rd 1 rfl) W WD WD)<|Zv (Y.ldR Z Law28b_ts3 (ho28.rd 1 rfl) (flatm_at Rg.sp2_len W Rg.dflt WD rfl))<|?_
        refine Za Z<|Ze<|Zg<|Zs<|Zr<|?_
        have hov2 := hov (((((Pr.spans x.addr x.client (Pr.endd x.addr x.client now (l ++ [x]))).length : Nat) : Int) - 1).toNat) W
        refine Zm Z<|Zm Z<|Zv (Y.int Z Z Z)<|Zm Z<|?_
        rcases Zsplit (decide (((Pr.peak (l ++ [x])).1) ≥ ((Pr.peak l).1))) with ⟨h32, g32⟩ | ⟨h32, g32⟩ <;> try simp only [kb] at g32
        ·refine Zp h32<|Zm Z<|Zp h32<|Zm Z<|Zp h32<|Zv (Y.eqI_t Z Z)<|Zv (Y.pick_t Z h32 Z)<|Zm Z<|Zp Z<|Zm Z<|Zp Z<|Zm Z<|Zp Z<|Zv (Y.eqI_t Z Z)<|Zv (Y.pick_t Z Z Z)<|Zm Z<|?_
         refine Zp Z<|Zm Z<|Zp Z<|Zv (Y.int Z Z Z)<|Zp Z<|Zm Z<|?_
         rcases Zsplit (decide (now < 0)) with ⟨h33, g33⟩ | ⟨h33, g33⟩ <;> try simp only [kb] at g33
         ·refine Zo h33 Z<|Zo h33 Z<|Zo h33 Z<|Zp Z<|Zv (Y.pick_t Z h33 Z)<|Zv (Y.pick_t Z Z Z)<|Zm Z<|Zp Z<|Zm Z<|Zp Z<|Zv (Y.lenSl Z Law28b_es22)<|Zp Z<|Zm Z<|Zp Z<|Zv (Y.lenSl Z Law28b_es22)<|Zp Z<|?_
          refine Zv (Y.int Z Z Z)<|Zv (Y.pick_t Z Z Z)<|Za Z<|Ze<|Zg<|Zu<|Ex.keep []<|?_
          exact Ex.ret1 rfl rfl  (congrArg Value.bool (decide_eq_true W))
         ·refine Zp h33<|Zm Z<|Zp h33<|Zm Z<|Zp h33<|Zv (Y.int Z Z Z)<|Zp Z<|Zv (Y.pick_f Z h33 Z)<|Zv (Y.pick_t Z Z Z)<|Zm Z<|?_
          rcases Zsplit (decide ((((Pr.spans x.addr x.client (Pr.endd x.addr x.client now (l ++ [x]))).getD (((((Pr.spans x.addr x.client (Pr.endd x.addr x.client now (l ++ [x]))).length : Nat) : Int) - 1).toNat) Rg.dflt).high) ≤ now)) with ⟨h34, g34⟩ | ⟨h34, g34⟩ <;> try simp only [kb] at g34
          ·refine Zp h34<|Zm Z<|Zp h34<|Zv (Y.lenSl Z Law28b_es22)<|Zp h34<|Zm Z<|Zp h34<|Zv (Y.lenSl Z Law28b_es22)<|Zp h34<|Zv (Y.int Z Z Z)<|Zv (Y.pick_t Z h34 Z)<|Za Z<|Ze<|Zg<|Zu<|Ex.keep []<|?_
           exact Ex.ret1 rfl rfl  (congrArg Value.bool (decide_eq_true W))
          ·exfalso; omega
        ·exfalso; omega
       ·refine Tr.cond_f Z h31<|Zt<|Zg<|Zs<|Zr<|Zm Z<|Zm Z<|Zv (Y.int Z Z Z)<|Zm Z<|?_
        rcases Zsplit (decide (((Pr.peak (l ++ [x])).1) ≥ ((Pr.peak l).1))) with ⟨h35, g35⟩ | ⟨h35, g35⟩ <;> try simp only [kb] at g35
        ·refine Zp h35<|Zm Z<|Zp h35<|Zm Z<|Zp h35<|Zv (Y.eqI_t Z Z)<|Zv (Y.pick_t Z h35 Z)<|Zm Z<|Zp Z<|Zm Z<|Zp Z<|Zm Z<|Zp Z<|Zv (Y.eqI_t Z Z)<|Zv (Y.pick_t Z Z Z)<|Zm Z<|?_
         refine Zp Z<|Zm Z<|Zp Z<|Zv (Y.int Z Z Z)<|Zp Z<|Zm Z<|?_
         rcases Zsplit (decide (now < 0)) with ⟨h36, g36⟩ | ⟨h36, g36⟩ <;> try simp only [kb] at g36
         ·refine Zo h36 Z<|Zo h36 Z<|Zo h36 Z<|Zp Z<|Zv (Y.pick_t Z h36 Z)<|Zv (Y.pick_t Z Z Z)<|Zm Z<|Zp Z<|Zm Z<|Zp Z<|Zv (Y.lenSl Z Law28b_es22)<|Zp Z<|Zm Z<|Zp Z<|Zv (Y.lenSl Z Law28b_es22)<|Zp Z<|?_
          refine Zv (Y.int Z Z Z)<|Zv (Y.pick_t Z Z Z)<|Za Z<|Ze<|Zg<|Zu<|Ex.keep []<|?_
          exact Ex.ret1 rfl rfl  (congrArg Value.bool (decide_eq_true W))
         ·refine Zp h36<|Zm Z<|Zp h36<|Zm Z<|Zp h36<|Zv (Y.int Z Z Z)<|Zp Z<|Zv (Y.pick_f Z h36 Z)<|Zv (Y.pick_t Z Z Z)<|Zm Z<|?_
          rcases Zsplit (decide ((-1) ≤ now)) with ⟨h37, g37⟩ | ⟨h37, g37⟩ <;> try simp only [kb] at g37
          ·refine Zp h37<|Zm Z<|Zp h37<|Zv (Y.lenSl Z Law28b_es22)<|Zp h37<|Zm Z<|Zp h37<|Zv (Y.lenSl Z Law28b_es22)<|Zp h37<|Zv (Y.int Z Z Z)<|Zv (Y.pick_t Z h37 Z)<|Za Z<|Ze<|Zg<|Zu<|Ex.keep []<|?_
           exact Ex.ret1 rfl rfl  (congrArg Value.bool (decide_eq_true W))
          ·exfalso; omega
        ·exfalso; omega
     ·refine Run.buildSlice (l := [(0, .tmp 45)]) (r := [.int .i64 x.srv, .int .u32 x.addr, .string x.client, .int .i64 x.from_, .int .i64 x.till]) Law28b_es22 Law28b_zo34 rfl WD rfl rfl WD (lt rfl) (fun b38 => ?_)
      refine Ze<|Ex.anyD (ZK 2 Z)<|?_
      refine RunD.one (i := 2) WK rfl  ?_ 
      refine Run.append (n := 0) (m := l.length) (xs := []) (ys := l.flatMap Pr.cells) rfl rfl Law28b_es22 Law28b_zi34 WD (j := 1) rfl (Ow.lit (cur := #[]) rfl WD) (Src.of_rd Law28b_es22 hv.of_nil) W W (all_one_flat Pr.enc _) (lt rfl) (fun v39 s40 ho41 hf => ?_)
      obtain ⟨p39, c39, rfl⟩ := hf
      replace ho41 := Ow.app (f := Pr.cells) (l := []) (m := l) ho41
      refine Ze<|Ex.anyD (ZK 2 Z)<|?_
      refine RunD.one (i := 5) WK rfl  ?_ 
      refine Run.append (n := 0 + l.length) (m := 1) (xs := ([] ++ l).flatMap Pr.cells) (ys := [.int .i64 x.srv, .int .u32 x.addr, .string x.client, .int .i64 x.from_, .int .i64 x.till]) rfl rfl Law28b_es22 Law28b_zi34 WD (j := 1) rfl ho41 (Src.of_rd Law28b_es22 (Rd.one (Kn.at 0 rfl) rfl)) W W rfl (lt rfl) (fun v42 s43 ho44 hf => ?_)
      obtain ⟨p42, c42, rfl⟩ := hf
      replace ho44 := Ow.app1 (f := Pr.cells) (l := [] ++ l) (x := (⟨x.srv, x.addr, x.client, x.from_, x.till⟩ : Pr)) ho44
      refine Ze<|Ex.anyD (ZK 2 Z)<|RunD.pure (i := 6) rfl WK WK WK (fun _ _ _ h => h) (lt rfl) (ZK 2 Z) (fun _ => (Y.assign rfl))<|RunD.done WK<|Zg<|Zs<|Zr<|Run.keepTo (H' := [s43, [(b38, .cells #[.int .i64 x.srv, .int .u32 x.addr, .string x.client, .int .i64 x.from_, .int .i64 x.till] 34 (0, 0))], [(b1, .cells #[.int .i64 x.srv, .int .u32 x.addr, .string x.client, .int .i64 x.from_, .int .i64 x.till] 34 (0, 0))]]) [1, 0, 0] Z<|?_
      refine Run.show (fun V45 hleV45 hshV45 => ?_)
      have hmo := ho44.shows _ hshV45
      replace hv := hv.le hleV45
      have hVle := hleV45
      have hmo2 : Rd V45 [] 5 (.slice p42 (0 + l.length + 1) c42) (l ++ [x]).length ((l ++ [x]).flatMap Pr.cells) := by rw [show (l ++ [x]).length = 0 + l.length + 1 from by simp <;> omega]; exact hmo
      have hmo3 : Rd V45 [] 5 (.slice p42 (0 + l.length + 1) c42) (0 + l.length + 1) ((l ++ [x]).flatMap Pr.cells) := hmo
      have hml : (l ++ [x]).length ≤ 60 := by rw [List.length_append, List.length_singleton]; omega
      have hmL : (l ++ [x]).length = l.length + 1 := by rw [List.length_append, List.length_singleton]
      have hpm := Pr.peak_more l x
      refine Zm Z<|Run.call0 (l := [.tmp 49]) rfl rfl rfl (lt rfl) (peak_c_h (l := l) hv (by first | omega | decide))<|Zm Z<|Zv (Y.extract Z Z)<|Zv (Y.extract Z Z)<|Za Z<|Za Z<|Ze<|Zg<|Zs<|Zr<|Zm Z<|Run.call0 (l := [.tmp 54]) rfl rfl rfl (lt rfl) (peak_c_h (l := (l ++ [x])) hmo2 (by first | omega | decide))<|Zm Z<|Zv (Y.extract Z Z)<|Zv (Y.extract Z Z)<|?_
      refine Za Z<|Za Z<|Ze<|Zg<|Zs<|Zr<|Run.keepTo (H' := [[(b1, .cells #[.int .i64 x.srv, .int .u32 x.addr, .string x.client, .int .i64 x.from_, .int .i64 x.till] 34 (0, 0))]]) [1] Z<|Za Z<|Ze<|Zg<|Zs<|Zs<|Zr<|Run.nilseg<|Zm Z<|Zv (Y.lenSl Z Law28b_es22)<|?_
      refine Zv (Y.sub Z Z W)<|Za Z<|Ze<|Zg<|Zb<|?_
      refine ZL (X := Nat × Option Addr × Nat × Nat × Sg) (fun z0 => V45) (fun z0 => [z0.2.2.2.2, [(b1, .cells #[.int .i64 x.srv, .int .u32 x.addr, .string x.client, .int .i64 x.from_, .int .i64 x.till] 34 (0, 0))]]) (fun z0 => [(2, .int .i64 now), (4, .pointer (some ⟨b1, 0, none⟩)), (9, .slice p42 (0 + l.length + 1) c42), (10, .int .i64 ((Pr.peak l).1)), (12, .int .i64 ((Pr.peak (l ++ [x])).1)), (13, .int .i64 ((Pr.peak (l ++ [x])).2)), (14, .slice z0.2.1 z0.2.2.1 z0.2.2.2.1), (15, .int .i64 ((z0.1 : Int) - 1))]) (fun z0 => Ow 34 5 (.slice z0.2.1 z0.2.2.1 z0.2.2.2.1) z0.2.2.1 ((((l ++ [x]).drop z0.1).reverse).flatMap Pr.cells) z0.2.2.2.2 ∧ z0.2.2.1 = l.length + 1 - z0.1 ∧ z0.1 ≤ l.length + 1) (fun z0 => z0.1) (⟨l.length + 1, none, 0, 0, []⟩ : Nat × Option Addr × Nat × Nat × Sg) ⟨by rw [Pr.rev_more]; exact Ow.nil _ _, by dsimp only; omega, Nat.le_refl _⟩ ?_
      rintro ⟨jj, p1, n1, k1, q1⟩ ⟨how, hn, hj⟩
      try dsimp only at how hn hj ⊢
      refine Zs<|Zs<|Zr<|Zm Z<|Zv (Y.int Z Z Z)<|Ze<|Zg<|?_
      rcases Zsplit (decide (((jj : Int) - 1) ≥ 0)) with ⟨h46, g46⟩ | ⟨h46, g46⟩ <;> try simp only [kb] at g46
      ·refine Tr.cond_t Z h46<|Zt<|Zg<|Zs<|Zb<|Zr<|Zm Z<|Zm Z<|Zm Z<|Zv (Y.idxR (jj - 1) rfl rfl Law28b_es22 hmo3.of_nil W W)<|Zv (Y.ldRA (vs := [.int .i64 (((l ++ [x]).getD (jj - 1) Pr.dflt).srv), .int .u32 (((l ++ [x]).getD (jj - 1) Pr.dflt).addr), .string (((l ++ [x]).getD (jj - 1) Pr.dflt).client), .int .i64 (((l ++ [x]).getD (jj - 1) Pr.dflt).from_), .int .i64 (((l ++ [x]).getD (jj - 1) Pr.dflt).till)]) rfl Law28b_ag34 hmo3.of_nil rfl WD (fun o ho => flatm_atA Pr.len W Pr.dflt o ho))<|?_
       refine Run.buildSlice (l := [(0, .tmp 69)]) (r := [.int .i64 (((l ++ [x]).getD (jj - 1) Pr.dflt).srv), .int .u32 (((l ++ [x]).getD (jj - 1) Pr.dflt).addr), .string (((l ++ [x]).getD (jj - 1) Pr.dflt).client), .int .i64 (((l ++ [x]).getD (jj - 1) Pr.dflt).from_), .int .i64 (((l ++ [x]).getD (jj - 1) Pr.dflt).till)]) Law28b_es22 Law28b_zo34 rfl WD rfl rfl WD (lt rfl) (fun b47 => ?_)
       refine Run.append (n := n1) (m := 1) (xs := (((l ++ [x]).drop jj).reverse).flatMap Pr.cells) (ys := [.int .i64 (((l ++ [x]).getD (jj - 1) Pr.dflt).srv), .int .u32 (((l ++ [x]).getD (jj - 1) Pr.dflt).addr), .string (((l ++ [x]).getD (jj - 1) Pr.dflt).client), .int .i64 (((l ++ [x]).getD (jj - 1) Pr.dflt).from_), .int .i64 (((l ++ [x]).getD (jj - 1) Pr.dflt).till)]) rfl rfl Law28b_es22 Law28b_zi34 WD (j := 1) rfl how (Src.of_rd Law28b_es22 (Rd.one (Kn.at 0 rfl) rfl)) W W rfl (lt rfl) (fun v48 s49 ho50 hf => ?_)
       obtain ⟨p48, c48, rfl⟩ := hf
       replace ho50 := Ow.app1 (f := Pr.cells) (l := ((l ++ [x]).drop jj).reverse) (x := (⟨((l ++ [x]).getD (jj - 1) Pr.dflt).srv, ((l ++ [x]).getD (jj - 1) Pr.dflt).addr, ((l ++ [x]).getD (jj - 1) Pr.dflt).client, ((l ++ [x]).getD (jj - 1) Pr.dflt).from_, ((l ++ [x]).getD (jj - 1) Pr.dflt).till⟩ : Pr)) ho50
       refine Za Z<|Ze<|Zc<|Zg<|Zr<|Zm Z<|Zv (Y.sub Z Z W)<|Za Z<|Ze<|Ex.keep [1, 1]<|?_
       have er := Pr.rev_drop (l := (l ++ [x])) (j := jj - 1) W
       rw [show jj - 1 + 1 = jj from by omega] at er
       exact ZR (⟨jj - 1, p48, (n1 + 1), c48, s49⟩ : Nat × Option Addr × Nat × Nat × Sg) ⟨by rw [er]; exact ho50, by dsimp only; omega, by dsimp only; omega⟩ (by dsimp only; omega)
      ·refine Tr.cond_f Z h46<|Zx<|Zy<|Zy<|Zi<|Zg<|Zs<|Zr<|?_
       obtain rfl : jj = 0 := by omega
       rw [List.drop_zero] at how
       refine Run.keepTo (H' := [q1, [(b1, .cells #[.int .i64 x.srv, .int .u32 x.addr, .string x.client, .int .i64 x.from_, .int .i64 x.till] 34 (0, 0))]]) [0, 0] Z ?_
       refine Run.show (fun V51 hleV51 hshV51 => ?_)
       have hba := how.shows _ hshV51
       replace hv := hv.le hleV51
       replace hmo := hmo.le hleV51
       replace hmo2 := hmo2.le hleV51
       replace hmo3 := hmo3.le hleV51
       replace hVle := Vw.le_trans hVle hleV51
       have hba2 : Rd V51 [] 5 (.slice p1 n1 k1) (l ++ [x]).reverse.length ((l ++ [x]).reverse.flatMap Pr.cells) := by rw [show (l ++ [x]).reverse.length = n1 from by simp <;> omega]; exact hba
       have hba3 : Rd V51 [] 5 (.slice p1 n1 k1) (n1) ((l ++ [x]).reverse.flatMap Pr.cells) := hba
       have hbl : (l ++ [x]).reverse.length ≤ 60 := by rw [List.length_reverse]; exact hml
       have hpk : Pr.peak (l ++ [x]).reverse = Pr.peak (l ++ [x]) := Pr.peak_perm (List.reverse_perm _)
       refine Zm Z<|Run.call0 (l := [.tmp 73]) rfl rfl rfl (lt rfl) (peak_c_h (l := (l ++ [x]).reverse) hba2 (by first | omega | decide))<|Zm Z<|Zv (Y.extract Z Z)<|Zv (Y.extract Z Z)<|Za Z<|Za Z<|Ze<|Zg<|Zs<|Zr<|?_
       rw [hpk]
       refine Zm Z<|Zv (Y.fieldAddr Z Law28b_fo34_1)<|Zv (Y.load Z Law28b_ts24 (Kn.at 0 Z) Z)<|Zv (Y.fieldAddr Z Law28b_fo34_2)<|Zv (Y.load Z Law28b_ts9 (Kn.at 0 Z) Z)<|Zm Z<|?_
       refine Run.call [] (l := [.tmp 77, .tmp 79, .tmp 81, .tmp 82]) rfl rfl rfl (lt rfl) (end_o (l := (l ++ [x])) (a := x.addr) (cl := x.client) (now := now) hmo2 (by first | omega | decide)) (fun v52 V2 H2 hle hR => ?_)
       obtain ⟨hV, q53, ho54, rfl⟩ := hR; replace hV := hV.symm; subst hV
       have helho54 := Pr.endd_len x.addr x.client now (l ++ [x])
       obtain ⟨p55, k56, rfl⟩ := ho54.form
       refine Run.heapTo (H' := [[(b1, .cells #[.int .i64 x.srv, .int .u32 x.addr, .string x.client, .int .i64 x.from_, .int .i64 x.till] 34 (0, 0))], q53]) Z<|Run.heapTo (H' := [[(b1, .cells #[.int .i64 x.srv, .int .u32 x.addr, .string x.client, .int .i64 x.from_, .int .i64 x.till] 34 (0, 0))], q53]) Z<|Za Z<|Ze<|Zg<|Zs<|Zr<|Run.keepTo (H' := [q53, [(b1, .cells #[.int .i64 x.srv, .int .u32 x.addr, .string x.client, .int .i64 x.from_, .int .i64 x.till] 34 (0, 0))]]) [1, 0] Z<|?_
       refine Run.show (fun V57 hleV57 hshV57 => ?_)
       have hre := ho54.shows _ hshV57
       replace hv := hv.le hleV57
       replace hmo := hmo.le hleV57
       replace hmo2 := hmo2.le hleV57
       replace hmo3 := hmo3.le hleV57
       replace hba := hba.le hleV57
       replace hba2 := hba2.le hleV57
       replace hba3 := hba3.le hleV57
       replace hVle := Vw.le_trans hVle hleV57
       have hrl : (Pr.endd x.addr x.client now (l ++ [x])).length ≤ 60 := by omega
       refine Zm Z<|Zv (Y.fieldAddr Z Law28b_fo34_1)<|Zv (Y.load Z Law28b_ts24 (Kn.at 0 Z) Z)<|Zv (Y.fieldAddr Z Law28b_fo34_2)<|Zv (Y.load Z Law28b_ts9 (Kn.at 0 Z) Z)<|?_
       refine Run.call [] (l := [.tmp 84, .tmp 86, .tmp 88]) rfl rfl rfl (lt rfl) (spans_o (l := (Pr.endd x.addr x.client now (l ++ [x]))) (a := x.addr) (cl := x.client) hre (by first | omega | decide)) (fun v58 V2 H2 hle hR => ?_)
       obtain ⟨hV, q59, ho60, rfl⟩ := hR; replace hV := hV.symm; subst hV
       have hslho60 := Pr.spans_len x.addr x.client (Pr.endd x.addr x.client now (l ++ [x]))
       obtain ⟨p61, k62, rfl⟩ := ho60.form
       refine Run.heapTo (H' := [[(b1, .cells #[.int .i64 x.srv, .int .u32 x.addr, .string x.client, .int .i64 x.from_, .int .i64 x.till] 34 (0, 0))], q59]) Z<|Run.heapTo (H' := [[(b1, .cells #[.int .i64 x.srv, .int .u32 x.addr, .string x.client, .int .i64 x.from_, .int .i64 x.till] 34 (0, 0))], q59]) Z<|Za Z<|Ze<|Zg<|Zs<|Zr<|Za Z<|Ze<|Zg<|Zs<|Zs<|Zr<|?_
       have hov : ∀ i, i < (Pr.spans x.addr x.client (Pr.endd x.addr x.client now (l ++ [x]))).length → ((Pr.spans x.addr x.client (Pr.endd x.addr x.client now (l ++ [x]))).getD i Rg.dflt).high ≤ now := fun i hi => Pr.spans_over (Pr.rg_at hi)
       refine Zm Z<|Zv (Y.lenSl Z Law28b_es28)<|Zv (Y.int Z Z Z)<|Ze<|Zg<|?_
       rcases Zsplit (decide ((((Pr.spans x.addr x.client (Pr.endd x.addr x.client now (l ++ [x]))).length : Nat) : Int) > 0)) with ⟨h63, g63⟩ | ⟨h63, g63⟩ <;> try simp only [kb] at g63
       ·refine Tr.cond_t Z h63<|Zr<|Zm Z<|Zm Z<|Zv (Y.lenSl Z Law28b_es28)<|Zv (Y.sub Z Z W)<|Zv (Y.idxR (((((Pr.spans x.addr x.client (Pr.endd x.addr x.client now (l ++ [x]))).length : Nat) : Int) - 1).toNat) rfl rfl Law28b_es28 (ho60.rd 1 rfl) W W)<|Zv (Y.idxArrR Z Z Law28b_al35 (ho60.rd 1 rfl) W WD WD)<|Zv (Y.ldR Z Law28b_ts3 (ho60.rd 1 rfl) (flatm_at Rg.sp2_len W Rg.dflt WD rfl))<|?_
        refine Za Z<|Ze<|Zg<|Zs<|Zr<|?_
        have hov2 := hov (((((Pr.spans x.addr x.client (Pr.endd x.addr x.client now (l ++ [x]))).length : Nat) : Int) - 1).toNat) W
        refine Zm Z<|Zm Z<|Zv (Y.int Z Z Z)<|Zm Z<|?_
        rcases Zsplit (decide (((Pr.peak (l ++ [x])).1) ≥ ((Pr.peak l).1))) with ⟨h64, g64⟩ | ⟨h64, g64⟩ <;> try simp only [kb] at g64
        ·refine Zp h64<|Zm Z<|Zp h64<|Zm Z<|Zp h64<|Zv (Y.eqI_t Z Z)<|Zv (Y.pick_t Z h64 Z)<|Zm Z<|Zp Z<|Zm Z<|Zp Z<|Zm Z<|Zp Z<|Zv (Y.eqI_t Z Z)<|Zv (Y.pick_t Z Z Z)<|Zm Z<|?_
         refine Zp Z<|Zm Z<|Zp Z<|Zv (Y.int Z Z Z)<|Zp Z<|Zm Z<|?_
         rcases Zsplit (decide (now < 0)) with ⟨h65, g65⟩ | ⟨h65, g65⟩ <;> try simp only [kb] at g65
         ·refine Zo h65 Z<|Zo h65 Z<|Zo h65 Z<|Zp Z<|Zv (Y.pick_t Z h65 Z)<|Zv (Y.pick_t Z Z Z)<|Zm Z<|Zp Z<|Zm Z<|Zp Z<|Zv (Y.lenSl Z Law28b_es22)<|Zp Z<|Zm Z<|Zp Z<|Zv (Y.lenSl Z Law28b_es22)<|Zp Z<|?_
          refine Zv (Y.int Z Z Z)<|Zv (Y.pick_t Z Z Z)<|Za Z<|Ze<|Zg<|Zu<|Ex.keep []<|?_
          exact Ex.ret1 rfl rfl  (congrArg Value.bool (decide_eq_true W))
         ·refine Zp h65<|Zm Z<|Zp h65<|Zm Z<|Zp h65<|Zv (Y.int Z Z Z)<|Zp Z<|Zv (Y.pick_f Z h65 Z)<|Zv (Y.pick_t Z Z Z)<|Zm Z<|?_
          rcases Zsplit (decide ((((Pr.spans x.addr x.client (Pr.endd x.addr x.client now (l ++ [x]))).getD (((((Pr.spans x.addr x.client (Pr.endd x.addr x.client now (l ++ [x]))).length : Nat) : Int) - 1).toNat) Rg.dflt).high) ≤ now)) with ⟨h66, g66⟩ | ⟨h66, g66⟩ <;> try simp only [kb] at g66
          ·refine Zp h66<|Zm Z<|Zp h66<|Zv (Y.lenSl Z Law28b_es22)<|Zp h66<|Zm Z<|Zp h66<|Zv (Y.lenSl Z Law28b_es22)<|Zp h66<|Zv (Y.int Z Z Z)<|Zv (Y.pick_t Z h66 Z)<|Za Z<|Ze<|Zg<|Zu<|Ex.keep []<|?_
           exact Ex.ret1 rfl rfl  (congrArg Value.bool (decide_eq_true W))
          ·exfalso; omega
        ·exfalso; omega
       ·refine Tr.cond_f Z h63<|Zt<|Zg<|Zs<|Zr<|Zm Z<|Zm Z<|Zv (Y.int Z Z Z)<|Zm Z<|?_
        rcases Zsplit (decide (((Pr.peak (l ++ [x])).1) ≥ ((Pr.peak l).1))) with ⟨h67, g67⟩ | ⟨h67, g67⟩ <;> try simp only [kb] at g67
        ·refine Zp h67<|Zm Z<|Zp h67<|Zm Z<|Zp h67<|Zv (Y.eqI_t Z Z)<|Zv (Y.pick_t Z h67 Z)<|Zm Z<|Zp Z<|Zm Z<|Zp Z<|Zm Z<|Zp Z<|Zv (Y.eqI_t Z Z)<|Zv (Y.pick_t Z Z Z)<|Zm Z<|?_
         refine Zp Z<|Zm Z<|Zp Z<|Zv (Y.int Z Z Z)<|Zp Z<|Zm Z<|?_
         rcases Zsplit (decide (now < 0)) with ⟨h68, g68⟩ | ⟨h68, g68⟩ <;> try simp only [kb] at g68
         ·refine Zo h68 Z<|Zo h68 Z<|Zo h68 Z<|Zp Z<|Zv (Y.pick_t Z h68 Z)<|Zv (Y.pick_t Z Z Z)<|Zm Z<|Zp Z<|Zm Z<|Zp Z<|Zv (Y.lenSl Z Law28b_es22)<|Zp Z<|Zm Z<|Zp Z<|Zv (Y.lenSl Z Law28b_es22)<|Zp Z<|?_
          refine Zv (Y.int Z Z Z)<|Zv (Y.pick_t Z Z Z)<|Za Z<|Ze<|Zg<|Zu<|Ex.keep []<|?_
          exact Ex.ret1 rfl rfl  (congrArg Value.bool (decide_eq_true W))
         ·refine Zp h68<|Zm Z<|Zp h68<|Zm Z<|Zp h68<|Zv (Y.int Z Z Z)<|Zp Z<|Zv (Y.pick_f Z h68 Z)<|Zv (Y.pick_t Z Z Z)<|Zm Z<|?_
          rcases Zsplit (decide ((-1) ≤ now)) with ⟨h69, g69⟩ | ⟨h69, g69⟩ <;> try simp only [kb] at g69
          ·refine Zp h69<|Zm Z<|Zp h69<|Zv (Y.lenSl Z Law28b_es22)<|Zp h69<|Zm Z<|Zp h69<|Zv (Y.lenSl Z Law28b_es22)<|Zp h69<|Zv (Y.int Z Z Z)<|Zv (Y.pick_t Z h69 Z)<|Za Z<|Ze<|Zg<|Zu<|Ex.keep []<|?_
           exact Ex.ret1 rfl rfl  (congrArg Value.bool (decide_eq_true W))
          ·exfalso; omega
        ·exfalso; omega
    ·refine Run.buildSlice (l := [(0, .tmp 45)]) (r := [.int .i64 x.srv, .int .u32 x.addr, .string x.client, .int .i64 x.from_, .int .i64 x.till]) Law28b_es22 Law28b_zo34 rfl WD rfl rfl WD (lt rfl) (fun b70 => ?_)
     refine Ze<|Ex.anyD (ZK 1 Z)<|?_
     refine RunD.one (i := 0) WK rfl  ?_ 
     refine Run.buildSlice0 Law28b_es22 (lt rfl) (fun b71 => ?_)
     refine Ze<|Ex.anyD (ZK 2 Z)<|?_
     refine RunD.one (i := 2) WK rfl  ?_ 
     refine Run.append (n := 0) (m := l.length) (xs := []) (ys := l.flatMap Pr.cells) rfl rfl Law28b_es22 Law28b_zi34 WD (j := 0) rfl (Ow.lit (cur := #[]) rfl WD) (Src.of_rd Law28b_es22 hv.of_nil) W W (all_one_flat Pr.enc _) (lt rfl) (fun v72 s73 ho74 hf => ?_)
     obtain ⟨p72, c72, rfl⟩ := hf
     replace ho74 := Ow.app (f := Pr.cells) (l := []) (m := l) ho74
     refine Ze<|Ex.anyD (ZK 2 Z)<|?_
     refine RunD.one (i := 5) WK rfl  ?_ 
     refine Run.append (n := 0 + l.length) (m := 1) (xs := ([] ++ l).flatMap Pr.cells) (ys := [.int .i64 x.srv, .int .u32 x.addr, .string x.client, .int .i64 x.from_, .int .i64 x.till]) rfl rfl Law28b_es22 Law28b_zi34 WD (j := 0) rfl ho74 (Src.of_rd Law28b_es22 (Rd.one (Kn.at 1 rfl) rfl)) W W rfl (lt rfl) (fun v75 s76 ho77 hf => ?_)
     obtain ⟨p75, c75, rfl⟩ := hf
     replace ho77 := Ow.app1 (f := Pr.cells) (l := [] ++ l) (x := (⟨x.srv, x.addr, x.client, x.from_, x.till⟩ : Pr)) ho77
     refine Ze<|Ex.anyD (ZK 2 Z)<|RunD.pure (i := 6) rfl WK WK WK (fun _ _ _ h => h) (lt rfl) (ZK 2 Z) (fun _ => (Y.assign rfl))<|RunD.done WK<|Zg<|Zs<|Zr<|Run.keepTo (H' := [s76, [(b70, .cells #[.int .i64 x.srv, .int .u32 x.addr, .string x.client, .int .i64 x.from_, .int .i64 x.till] 34 (0, 0))], [(b1, .cells #[.int .i64 x.srv, .int .u32 x.addr, .string x.client, .int .i64 x.from_, .int .i64 x.till] 34 (0, 0))]]) [0, 0, 0] Z<|?_
     refine Run.show (fun V78 hleV78 hshV78 => ?_)
     have hmo := ho77.shows _ hshV78
     replace hv := hv.le hleV78
     have hVle := hleV78
     have hmo2 : Rd V78 [] 5 (.slice p75 (0 + l.length + 1) c75) (l ++ [x]).length ((l ++ [x]).flatMap Pr.cells) := by rw [show (l ++ [x]).length = 0 + l.length + 1 from by simp <;> omega]; exact hmo
     have hmo3 : Rd V78 [] 5 (.slice p75 (0 + l.length + 1) c75) (0 + l.length + 1) ((l ++ [x]).flatMap Pr.cells) := hmo
     have hml : (l ++ [x]).length ≤ 60 := by rw [List.length_append, List.length_singleton]; omega
     have hmL : (l ++ [x]).length = l.length + 1 := by rw [List.length_append, List.length_singleton]
     have hpm := Pr.peak_more l x
     refine Zm Z<|Run.call0 (l := [.tmp 49]) rfl rfl rfl (lt rfl) (peak_c_h (l := l) hv (by first | omega | decide))<|Zm Z<|Zv (Y.extract Z Z)<|Zv (Y.extract Z Z)<|Za Z<|Za Z<|Ze<|Zg<|Zs<|Zr<|Zm Z<|Run.call0 (l := [.tmp 54]) rfl rfl rfl (lt rfl) (peak_c_h (l := (l ++ [x])) hmo2 (by first | omega | decide))<|Zm Z<|Zv (Y.extract Z Z)<|Zv (Y.extract Z Z)<|?_
     refine Za Z<|Za Z<|Ze<|Zg<|Zs<|Zr<|Run.keepTo (H' := [[(b1, .cells #[.int .i64 x.srv, .int .u32 x.addr, .string x.client, .int .i64 x.from_, .int .i64 x.till] 34 (0, 0))]]) [1] Z<|Za Z<|Ze<|Zg<|Zs<|Zs<|Zr<|Run.nilseg<|Zm Z<|Zv (Y.lenSl Z Law28b_es22)<|?_
     refine Zv (Y.sub Z Z W)<|Za Z<|Ze<|Zg<|Zb<|?_
     refine ZL (X := Nat × Option Addr × Nat × Nat × Sg) (fun z0 => V78) (fun z0 => [z0.2.2.2.2, [(b1, .cells #[.int .i64 x.srv, .int .u32 x.addr, .string x.client, .int .i64 x.from_, .int .i64 x.till] 34 (0, 0))]]) (fun z0 => [(2, .int .i64 now), (4, .pointer (some ⟨b1, 0, none⟩)), (9, .slice p75 (0 + l.length + 1) c75), (10, .int .i64 ((Pr.peak l).1)), (12, .int .i64 ((Pr.peak (l ++ [x])).1)), (13, .int .i64 ((Pr.peak (l ++ [x])).2)), (14, .slice z0.2.1 z0.2.2.1 z0.2.2.2.1), (15, .int .i64 ((z0.1 : Int) - 1))]) (fun z0 => Ow 34 5 (.slice z0.2.1 z0.2.2.1 z0.2.2.2.1) z0.2.2.1 ((((l ++ [x]).drop z0.1).reverse).flatMap Pr.cells) z0.2.2.2.2 ∧ z0.2.2.1 = l.length + 1 - z0.1 ∧ z0.1 ≤ l.length + 1) (fun z0 => z0.1) (⟨l.length + 1, none, 0, 0, []⟩ : Nat × Option Addr × Nat × Nat × Sg) ⟨by rw [Pr.rev_more]; exact Ow.nil _ _, by dsimp only; omega, Nat.le_refl _⟩ ?_
     rintro ⟨jj, p1, n1, k1, q1⟩ ⟨how, hn, hj⟩
     try dsimp only at how hn hj ⊢
     refine Zs<|Zs<|Zr<|Zm Z<|Zv (Y.int Z Z Z)<|Ze<|Zg<|?_
     rcases Zsplit (decide (((jj : Int) - 1) ≥ 0)) with ⟨h79, g79⟩ | ⟨h79, g79⟩ <;> try simp only [kb] at g79
     ·refine Tr.cond_t Z h79<|Zt<|Zg<|Zs<|Zb<|Zr<|Zm Z<|Zm Z<|Zm Z<|Zv (Y.idxR (jj - 1) rfl rfl Law28b_es22 hmo3.of_nil W W)<|Zv (Y.ldRA (vs := [.int .i64 (((l ++ [x]).getD (jj - 1) Pr.dflt).srv), .int .u32 (((l ++ [x]).getD (jj - 1) Pr.dflt).addr), .string (((l ++ [x]).getD (jj - 1) Pr.dflt).client), .int .i64 (((l ++ [x]).getD (jj - 1) Pr.dflt).from_), .int .i64 (((l ++ [x]).getD (jj - 1) Pr.dflt).till)]) rfl Law28b_ag34 hmo3.of_nil rfl WD (fun o ho => flatm_atA Pr.len W Pr.dflt o ho))<|?_
      refine Run.buildSlice (l := [(0, .tmp 69)]) (r := [.int .i64 (((l ++ [x]).getD (jj - 1) Pr.dflt).srv), .int .u32 (((l ++ [x]).getD (jj - 1) Pr.dflt).addr), .string (((l ++ [x]).getD (jj - 1) Pr.dflt).client), .int .i64 (((l ++ [x]).getD (jj - 1) Pr.dflt).from_), .int .i64 (((l ++ [x]).getD (jj - 1) Pr.dflt).till)]) Law28b_es22 Law28b_zo34 rfl WD rfl rfl WD (lt rfl) (fun b80 => ?_)
      refine Run.append (n := n1) (m := 1) (xs := (((l ++ [x]).drop jj).reverse).flatMap Pr.cells) (ys := [.int .i64 (((l ++ [x]).getD (jj - 1) Pr.dflt).srv), .int .u32 (((l ++ [x]).getD (jj - 1) Pr.dflt).addr), .string (((l ++ [x]).getD (jj - 1) Pr.dflt).client), .int .i64 (((l ++ [x]).getD (jj - 1) Pr.dflt).from_), .int .i64 (((l ++ [x]).getD (jj - 1) Pr.dflt).till)]) rfl rfl Law28b_es22 Law28b_zi34 WD (j := 1) rfl how (Src.of_rd Law28b_es22 (Rd.one (Kn.at 0 rfl) rfl)) W W rfl (lt rfl) (fun v81 s82 ho83 hf => ?_)
      obtain ⟨p81, c81, rfl⟩ := hf
      replace ho83 := Ow.app1 (f := Pr.cells) (l := ((l ++ [x]).drop jj).reverse) (x := (⟨((l ++ [x]).getD (jj - 1) Pr.dflt).srv, ((l ++ [x]).getD (jj - 1) Pr.dflt).addr, ((l ++ [x]).getD (jj - 1) Pr.dflt).client, ((l ++ [x]).getD (jj - 1) Pr.dflt).from_, ((l ++ [x]).getD (jj - 1) Pr.dflt).till⟩ : Pr)) ho83
      refine Za Z<|Ze<|Zc<|Zg<|Zr<|Zm Z<|Zv (Y.sub Z Z W)<|Za Z<|Ze<|Ex.keep [1, 1]<|?_
      have er := Pr.rev_drop (l := (l ++ [x])) (j := jj - 1) W
      rw [show jj - 1 + 1 = jj from by omega] at er
      exact ZR (⟨jj - 1, p81, (n1 + 1), c81, s82⟩ : Nat × Option Addr × Nat × Nat × Sg) ⟨by rw [er]; exact ho83, by dsimp only; omega, by dsimp only; omega⟩ (by dsimp only; omega)
     ·refine Tr.cond_f Z h79<|Zx<|Zy<|Zy<|Zi<|Zg<|Zs<|Zr<|?_
      obtain rfl : jj = 0 := by omega
      rw [List.drop_zero] at how
      refine Run.keepTo (H' := [q1, [(b1, .cells #[.int .i64 x.srv, .int .u32 x.addr, .string x.client, .int .i64 x.from_, .int .i64 x.till] 34 (0, 0))]]) [0, 0] Z ?_
      refine Run.show (fun V84 hleV84 hshV84 => ?_)
      have hba := how.shows _ hshV84
      replace hv := hv.le hleV84
      replace hmo := hmo.le hleV84
      replace hmo2 := hmo2.le hleV84
      replace hmo3 := hmo3.le hleV84
      replace hVle := Vw.le_trans hVle hleV84
      have hba2 : Rd V84 [] 5 (.slice p1 n1 k1) (l ++ [x]).reverse.length ((l ++ [x]).reverse.flatMap Pr.cells) := by rw [show (l ++ [x]).reverse.length = n1 from by simp <;> omega]; exact hba
      have hba3 : Rd V84 [] 5 (.slice p1 n1 k1) (n1) ((l ++ [x]).reverse.flatMap Pr.cells) := hba
      have hbl : (l ++ [x]).reverse.length ≤ 60 := by rw [List.length_reverse]; exact hml
      have hpk : Pr.peak (l ++ [x]).reverse = Pr.peak (l ++ [x]) := Pr.peak_perm (List.reverse_perm _)
      refine Zm Z<|Run.call0 (l := [.tmp 73]) rfl rfl rfl (lt rfl) (peak_c_h (l := (l ++ [x]).reverse) hba2 (by first | omega | decide))<|Zm Z<|Zv (Y.extract Z Z)<|Zv (Y.extract Z Z)<|Za Z<|Za Z<|Ze<|Zg<|Zs<|Zr<|?_
      rw [hpk]
      refine Zm Z<|Zv (Y.fieldAddr Z Law28b_fo34_1)<|Zv (Y.load Z Law28b_ts24 (Kn.at 0 Z) Z)<|Zv (Y.fieldAddr Z Law28b_fo34_2)<|Zv (Y.load Z Law28b_ts9 (Kn.at 0 Z) Z)<|Zm Z<|?_
      refine Run.call [] (l := [.tmp 77, .tmp 79, .tmp 81, .tmp 82]) rfl rfl rfl (lt rfl) (end_o (l := (l ++ [x])) (a := x.addr) (cl := x.client) (now := now) hmo2 (by first | omega | decide)) (fun v85 V2 H2 hle hR => ?_)
      obtain ⟨hV, q86, ho87, rfl⟩ := hR; replace hV := hV.symm; subst hV
      have helho87 := Pr.endd_len x.addr x.client now (l ++ [x])
      obtain ⟨p88, k89, rfl⟩ := ho87.form
      refine Run.heapTo (H' := [[(b1, .cells #[.int .i64 x.srv, .int .u32 x.addr, .string x.client, .int .i64 x.from_, .int .i64 x.till] 34 (0, 0))], q86]) Z<|Run.heapTo (H' := [[(b1, .cells #[.int .i64 x.srv, .int .u32 x.addr, .string x.client, .int .i64 x.from_, .int .i64 x.till] 34 (0, 0))], q86]) Z<|Za Z<|Ze<|Zg<|Zs<|Zr<|Run.keepTo (H' := [q86, [(b1, .cells #[.int .i64 x.srv, .int .u32 x.addr, .string x.client, .int .i64 x.from_, .int .i64 x.till] 34 (0, 0))]]) [1, 0] Z<|?_
      refine Run.show (fun V90 hleV90 hshV90 => ?_)
      have hre := ho87.shows _ hshV90
      replace hv := hv.le hleV90
      replace hmo := hmo.le hleV90
      replace hmo2 := hmo2.le hleV90
      replace hmo3 := hmo3.le hleV90
      replace hba := hba.le hleV90
      replace hba2 := hba2.le hleV90
      replace hba3 := hba3.le hleV90
      replace hVle := Vw.le_trans hVle hleV90
      have hrl : (Pr.endd x.addr x.client now (l ++ [x])).length ≤ 60 := by omega
      refine Zm Z<|Zv (Y.fieldAddr Z Law28b_fo34_1)<|Zv (Y.load Z Law28b_ts24 (Kn.at 0 Z) Z)<|Zv (Y.fieldAddr Z Law28b_fo34_2)<|Zv (Y.load Z Law28b_ts9 (Kn.at 0 Z) Z)<|?_
      refine Run.call [] (l := [.tmp 84, .tmp 86, .tmp 88]) rfl rfl rfl (lt rfl) (spans_o (l := (Pr.endd x.addr x.client now (l ++ [x]))) (a := x.addr) (cl := x.client) hre (by first | omega | decide)) (fun v91 V2 H2 hle hR => ?_)
      obtain ⟨hV, q92, ho93, rfl⟩ := hR; replace hV := hV.symm; subst hV
      have hslho93 := Pr.spans_len x.addr x.client (Pr.endd x.addr x.client now (l ++ [x]))
      obtain ⟨p94, k95, rfl⟩ := ho93.form
      refine Run.heapTo (H' := [[(b1, .cells #[.int .i64 x.srv, .int .u32 x.addr, .string x.client, .int .i64 x.from_, .int .i64 x.till] 34 (0, 0))], q92]) Z<|Run.heapTo (H' := [[(b1, .cells #[.int .i64 x.srv, .int .u32 x.addr, .string x.client, .int .i64 x.from_, .int .i64 x.till] 34 (0, 0))], q92]) Z<|Za Z<|Ze<|Zg<|Zs<|Zr<|Za Z<|Ze<|Zg<|Zs<|Zs<|Zr<|?_
      have hov : ∀ i, i < (Pr.spans x.addr x.client (Pr.endd x.addr x.client now (l ++ [x]))).length → ((Pr.spans x.addr x.client (Pr.endd x.addr x.client now (l ++ [x]))).getD i Rg.dflt).high ≤ now := fun i hi => Pr.spans_over (Pr.rg_at hi)
      refine Zm Z<|Zv (Y.lenSl Z Law28b_es28)<|Zv (Y.int Z Z Z)<|Ze<|Zg<|?_
      rcases Zsplit (decide ((((Pr.spans x.addr x.client (Pr.endd x.addr x.client now (l ++ [x]))).length : Nat) : Int) > 0)) with ⟨h96, g96⟩ | ⟨h96, g96⟩ <;> try simp only [kb] at g96
      ·refine Tr.cond_t Z h96<|Zr<|Zm Z<|Zm Z<|Zv (Y.lenSl Z Law28b_es28)<|Zv (Y.sub Z Z W)<|Zv (Y.idxR (((((Pr.spans x.addr x.client (Pr.endd x.addr x.client now (l ++ [x]))).length : Nat) : Int) - 1).toNat) rfl rfl Law28b_es28 (ho93.rd 1 rfl) W W)<|Zv (Y.idxArrR Z Z Law28b_al35 (ho93.rd 1 rfl) W WD WD)<|Zv (Y.ldR Z Law28b_ts3 (ho93.rd 1 rfl) (flatm_at Rg.sp2_len W Rg.dflt WD rfl))<|?_
       refine Za Z<|Ze<|Zg<|Zs<|Zr<|?_
       have hov2 := hov (((((Pr.spans x.addr x.client (Pr.endd x.addr x.client now (l ++ [x]))).length : Nat) : Int) - 1).toNat) W
       refine Zm Z<|Zm Z<|Zv (Y.int Z Z Z)<|Zm Z<|?_
       rcases Zsplit (decide (((Pr.peak (l ++ [x])).1) ≥ ((Pr.peak l).1))) with ⟨h97, g97⟩ | ⟨h97, g97⟩ <;> try simp only [kb] at g97
       ·refine Zp h97<|Zm Z<|Zp h97<|Zm Z<|Zp h97<|Zv (Y.eqI_t Z Z)<|Zv (Y.pick_t Z h97 Z)<|Zm Z<|Zp Z<|Zm Z<|Zp Z<|Zm Z<|Zp Z<|Zv (Y.eqI_t Z Z)<|Zv (Y.pick_t Z Z Z)<|Zm Z<|?_
        refine Zp Z<|Zm Z<|Zp Z<|Zv (Y.int Z Z Z)<|Zp Z<|Zm Z<|?_
        rcases Zsplit (decide (now < 0)) with ⟨h98, g98⟩ | ⟨h98, g98⟩ <;> try simp only [kb] at g98
        ·refine Zo h98 Z<|Zo h98 Z<|Zo h98 Z<|Zp Z<|Zv (Y.pick_t Z h98 Z)<|Zv (Y.pick_t Z Z Z)<|Zm Z<|Zp Z<|Zm Z<|Zp Z<|Zv (Y.lenSl Z Law28b_es22)<|Zp Z<|Zm Z<|Zp Z<|Zv (Y.lenSl Z Law28b_es22)<|Zp Z<|?_
         refine Zv (Y.int Z Z Z)<|Zv (Y.pick_t Z Z Z)<|Za Z<|Ze<|Zg<|Zu<|Ex.keep []<|?_
         exact Ex.ret1 rfl rfl  (congrArg Value.bool (decide_eq_true W))
        ·refine Zp h98<|Zm Z<|Zp h98<|Zm Z<|Zp h98<|Zv (Y.int Z Z Z)<|Zp Z<|Zv (Y.pick_f Z h98 Z)<|Zv (Y.pick_t Z Z Z)<|Zm Z<|?_
         rcases Zsplit (decide ((((Pr.spans x.addr x.client (Pr.endd x.addr x.client now (l ++ [x]))).getD (((((Pr.spans x.addr x.client (Pr.endd x.addr x.client now (l ++ [x]))).length : Nat) : Int) - 1).toNat) Rg.dflt).high) ≤ now)) with ⟨h99, g99⟩ | ⟨h99, g99⟩ <;> try simp only [kb] at g99
         ·refine Zp h99<|Zm Z<|Zp h99<|Zv (Y.lenSl Z Law28b_es22)<|Zp h99<|Zm Z<|Zp h99<|Zv (Y.lenSl Z Law28b_es22)<|Zp h99<|Zv (Y.int Z Z Z)<|Zv (Y.pick_t Z h99 Z)<|Za Z<|Ze<|Zg<|Zu<|Ex.keep []<|?_
          exact Ex.ret1 rfl rfl  (congrArg Value.bool (decide_eq_true W))
         ·exfalso; omega
       ·exfalso; omega
      ·refine Tr.cond_f Z h96<|Zt<|Zg<|Zs<|Zr<|Zm Z<|Zm Z<|Zv (Y.int Z Z Z)<|Zm Z<|?_
       rcases Zsplit (decide (((Pr.peak (l ++ [x])).1) ≥ ((Pr.peak l).1))) with ⟨h100, g100⟩ | ⟨h100, g100⟩ <;> try simp only [kb] at g100
       ·refine Zp h100<|Zm Z<|Zp h100<|Zm Z<|Zp h100<|Zv (Y.eqI_t Z Z)<|Zv (Y.pick_t Z h100 Z)<|Zm Z<|Zp Z<|Zm Z<|Zp Z<|Zm Z<|Zp Z<|Zv (Y.eqI_t Z Z)<|Zv (Y.pick_t Z Z Z)<|Zm Z<|?_
        refine Zp Z<|Zm Z<|Zp Z<|Zv (Y.int Z Z Z)<|Zp Z<|Zm Z<|?_
        rcases Zsplit (decide (now < 0)) with ⟨h101, g101⟩ | ⟨h101, g101⟩ <;> try simp only [kb] at g101
        ·refine Zo h101 Z<|Zo h101 Z<|Zo h101 Z<|Zp Z<|Zv (Y.pick_t Z h101 Z)<|Zv (Y.pick_t Z Z Z)<|Zm Z<|Zp Z<|Zm Z<|Zp Z<|Zv (Y.lenSl Z Law28b_es22)<|Zp Z<|Zm Z<|Zp Z<|Zv (Y.lenSl Z Law28b_es22)<|Zp Z<|?_
         refine Zv (Y.int Z Z Z)<|Zv (Y.pick_t Z Z Z)<|Za Z<|Ze<|Zg<|Zu<|Ex.keep []<|?_
         exact Ex.ret1 rfl rfl  (congrArg Value.bool (decide_eq_true W))
        ·refine Zp h101<|Zm Z<|Zp h101<|Zm Z<|Zp h101<|Zv (Y.int Z Z Z)<|Zp Z<|Zv (Y.pick_f Z h101 Z)<|Zv (Y.pick_t Z Z Z)<|Zm Z<|?_
         rcases Zsplit (decide ((-1) ≤ now)) with ⟨h102, g102⟩ | ⟨h102, g102⟩ <;> try simp only [kb] at g102
         ·refine Zp h102<|Zm Z<|Zp h102<|Zv (Y.lenSl Z Law28b_es22)<|Zp h102<|Zm Z<|Zp h102<|Zv (Y.lenSl Z Law28b_es22)<|Zp h102<|Zv (Y.int Z Z Z)<|Zv (Y.pick_t Z h102 Z)<|Za Z<|Ze<|Zg<|Zu<|Ex.keep []<|?_
          exact Ex.ret1 rfl rfl  (congrArg Value.bool (decide_eq_true W))
         ·exfalso; omega
       ·exfalso; omega
 ·refine Zo (congrArg Bool.not h2) Z<|Zo (congrArg Bool.not h2) Z<|Zo (congrArg Bool.not h2) Z<|Zv (Y.pick_t Z (congrArg Bool.not h2) Z)<|Zm Z<|Zo Z Z<|Zo Z Z<|Zo Z Z<|Zo Z Z<|Zv (Y.pick_t Z Z Z)<|Ze<|Zg<|Tr.cond_t Z Z<|Zs<|Zr<|Zm Z<|?_
  refine Za Z<|Ze<|Zg<|Zu<|Zn<|Ex.keep []<|?_
  exact Ex.ret1 rfl rfl  rfl

theorem auditmore_h {V : Vw} {l : List Pr} {v0 : Value} (hv : Rd V [] 5 v0 l.length (l.map Pr.cells).flatten) (hl9 : l.length ≤ 9223372036854775807) {x : Pr} {now : Int} : Does Try.prog 5 [v0, .agg x.cells.toArray, .int .i64 now] V [] (fun v _ _ => v = .bool true) := by
  obtain ⟨p, c, rfl, _⟩ := hv.form
  rw [← List.flatMap_def] at hv
  exact auditmore_c hv hl9
end Go.Proofs.Ytdmelfpdillddaa
