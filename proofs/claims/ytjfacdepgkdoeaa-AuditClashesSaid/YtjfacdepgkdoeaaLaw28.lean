/- The laws AuditHolds and AuditClashes, walked.
Conditions: as each theorem names them. -/
import Derived.Test.YtjfacdepgkdoeaaProg
import Derived.Test.YtjfacdepgkdoeaaAudit2
set_option linter.unusedSimpArgs false
set_option linter.unusedVariables false
set_option maxRecDepth 4000
namespace Go.Proofs.Ytjfacdepgkdoeaa
open Go Go.K
attribute [local irreducible] Code.wp wpList Calls wpQuiet
theorem Law28_zo47 : zeroOf Try.prog 47 = some (.agg #[.int .i64 0, .int .u32 0, .string ⟨#[]⟩, .int .i64 0, .int .i64 0]) := by kernel_rfl
theorem Law28_pl47 : placesS Try.prog 47 = some [(0, 1), (1, 1), (2, 1), (3, 1), (4, 1)] := by kernel_rfl
theorem Law28_es40 : elemS Try.prog 40 = some (47, 5) := by kernel_rfl
theorem Law28_es32 : elemS Try.prog 32 = some (37, 1) := by kernel_rfl
theorem Law28_fo47_2 : fieldOff Try.prog 47 2 = some 2 := by kernel_rfl
theorem Law28_ts9 : scal Try.prog 9 = true := by kernel_rfl

theorem peak_c_h {V : Vw} {H : Hp} {l : List Pr} {v : Value} (hv : Rd V [] 5 v l.length (l.flatMap Pr.cells)) (hl : l.length ≤ 60) : Does Try.prog 22 [v] V H (Pv (.tuple #[.int .i64 (Pr.peak l).1, .int .i64 (Pr.peak l).2]) V H) := by
  obtain ⟨p, c, rfl, _⟩ := hv.form
  exact (peak_c hv hl).frame
theorem rpeak_c_h {V : Vw} {H : Hp} {l : List Pr} {v : Value} (hv : Rd V [] 5 v l.length (l.flatMap Pr.cells)) (hl : l.length ≤ 60) : Does Try.prog 23 [v] V H (Pv (.tuple #[.int .i64 (Pr.peak l).1, .int .i64 (Pr.peak l).2]) V H) := by
  obtain ⟨p, c, rfl, _⟩ := hv.form
  exact (rpeak_c hv hl).frame

theorem awake28_c  {V : Vw} : Does Try.prog 20 [] V [] (fun v V' H' => V.le V' ∧ H' = [] ∧ v = .bool true) := by
 refine Does.intro Try.func20 rfl rfl (le rfl) (fun B => ?_)
 refine Tr.seq ?_
 refine Tr.region ?_
 refine Run.val (lt rfl) (Y.assign rfl) ?_
 refine Run.to_end ?_
 refine Ex.go ?_
 refine Tr.seq ?_
 refine Tr.region ?_
 refine Run.val (lt rfl) (Y.buildS (l := [(1, .const (.int .u32 1)), (2, .const (.string ⟨#[97]⟩)), (3, .const (.int .i64 5)), (4, .const (.int .i64 9))]) Law28_zo47 Law28_pl47 rfl rfl) ?_
 refine Run.val (lt rfl) (Y.buildS (l := [(1, .const (.int .u32 1)), (2, .const (.string ⟨#[98]⟩)), (3, .const (.int .i64 9)), (4, .const (.int .i64 12))]) Law28_zo47 Law28_pl47 rfl rfl) ?_
 refine Run.buildSlice (l := [(0, .tmp 6), (1, .tmp 7)]) (r := [.int .i64 0, .int .u32 1, .string ⟨#[97]⟩, .int .i64 5, .int .i64 9, .int .i64 0, .int .u32 1, .string ⟨#[98]⟩, .int .i64 9, .int .i64 12]) Law28_es40 Law28_zo47 rfl (by decide) rfl rfl (by decide) (lt rfl) (fun b1 => ?_)
 refine Run.val (lt rfl) (Y.assign rfl) ?_
 refine Run.to_end ?_
 refine Ex.go ?_
 refine Tr.seq ?_
 refine Tr.region ?_
 have hsh := (Ow.lit (e := 47) (k := 5) (b := b1) (n := 2) (cur := #[.int .i64 0, .int .u32 1, .string ⟨#[97]⟩, .int .i64 5, .int .i64 9, .int .i64 0, .int .u32 1, .string ⟨#[98]⟩, .int .i64 9, .int .i64 12]) rfl (by decide)).shows
 refine Run.keepTo (H' := [[(b1, .cells #[.int .i64 0, .int .u32 1, .string ⟨#[97]⟩, .int .i64 5, .int .i64 9, .int .i64 0, .int .u32 1, .string ⟨#[98]⟩, .int .i64 9, .int .i64 12] 47 (0, 0))]]) [0] rfl ?_
 refine Run.show (fun V9 hle9 hsh9 => ?_)
 have hv0 : Rd V9 [] 5 (.slice (some ⟨b1, 0, none⟩) 2 2) Pr.l0.length (Pr.l0.flatMap Pr.cells) := hsh _ hsh9
 refine Run.val (lt rfl) (Y.move rfl) ?_
 refine Run.call [] (l := [.tmp 10]) rfl rfl rfl (lt rfl) (clashes_c (l := Pr.l0) hv0 (by first | omega | decide)) (fun va V2 H2 hle hR => ?_)
 obtain ⟨hV, rfl, aa, ba, rfl, hfa⟩ := hR; replace hV := hV.symm; subst hV
 refine Run.heapTo (H' := []) rfl ?_
 refine Run.heapTo (H' := []) rfl ?_
 refine Run.val (lt rfl) (Y.move rfl) ?_
 refine Run.val (lt rfl) (Y.extract rfl rfl) ?_
 refine Run.val (lt rfl) (Y.extract rfl rfl) ?_
 refine Run.val (lt rfl) (Y.assign rfl) ?_
 refine Run.val (lt rfl) (Y.assign rfl) ?_
 refine Run.to_end ?_
 refine Ex.go ?_
 refine Tr.seq ?_
 refine Tr.region ?_
 obtain ⟨rfl, rfl⟩ := Pr.first0 hfa
 refine Run.val (lt rfl) (Y.move rfl) ?_
 refine Run.call0 (l := [.tmp 15]) rfl rfl rfl (lt rfl) (peak_c_h (l := Pr.l0) hv0 (by first | omega | decide)) ?_
 refine Run.val (lt rfl) (Y.move rfl) ?_
 refine Run.val (lt rfl) (Y.extract rfl rfl) ?_
 refine Run.val (lt rfl) (Y.extract rfl rfl) ?_
 refine Run.val (lt rfl) (Y.assign rfl) ?_
 refine Run.val (lt rfl) (Y.assign rfl) ?_
 refine Run.to_end ?_
 refine Ex.go ?_
 refine Tr.seq ?_
 refine Tr.region ?_
 refine Run.val (lt rfl) (Y.move rfl) ?_
 refine Run.val (lt rfl) (Y.int (r := .bool true) rfl rfl rfl) ?_
 refine Run.val (lt rfl) (Y.move rfl) ?_
 refine Run.on rfl rfl rfl rfl ?_
 refine Run.val (lt rfl) (Y.move rfl) ?_
 refine Run.on rfl rfl rfl rfl ?_
 refine Run.val (lt rfl) (Y.int (r := .bool true) rfl rfl rfl) ?_
 refine Run.val (lt rfl) (Y.pick_t rfl rfl rfl) ?_
 refine Run.val (lt rfl) (Y.move rfl) ?_
 refine Run.on rfl rfl rfl rfl ?_
 refine Run.val (lt rfl) (Y.move rfl) ?_
 refine Run.on rfl rfl rfl rfl ?_
 refine Run.val (lt rfl) (Y.int rfl rfl rfl) ?_
 refine Run.val (lt rfl) (Y.pick_t rfl rfl rfl) ?_
 refine Run.val (lt rfl) (Y.move rfl) ?_
 refine Run.on rfl rfl rfl (by rw [Pr.peak0]; rfl) ?_
 refine Run.val (lt rfl) (Y.move rfl) ?_
 refine Run.on rfl rfl rfl (by rw [Pr.peak0]; rfl) ?_
 refine Run.val (lt rfl) (Y.int rfl rfl rfl) ?_
 refine Run.val (lt rfl) (Y.pick_t rfl (by rw [Pr.peak0]; rfl) rfl) ?_
 refine Run.val (lt rfl) (Y.move rfl) ?_
 refine Run.on rfl rfl rfl (by rw [Pr.peak0]; rfl) ?_
 refine Run.val (lt rfl) (Y.move rfl) ?_
 refine Run.on rfl rfl rfl (by rw [Pr.peak0]; rfl) ?_
 refine Run.call [] (l := [.tmp 34, .const (.int .i64 9)]) rfl rfl rfl (lt rfl) (held_c (l := Pr.l0) (now := 9) hv0 (by first | omega | decide)) (fun v2 V2 H2 hle hR => ?_)
 obtain ⟨hV, q3, ho4, rfl⟩ := hR; replace hV := hV.symm; subst hV; obtain ⟨p5, k6, rfl⟩ := ho4.form
 have hhlq3 := Pr.held_len Pr.l0 9
 refine Run.heapTo (H' := [q3]) rfl ?_
 refine Run.heapTo (H' := [q3]) rfl ?_
 refine Run.on rfl rfl rfl (by rw [Pr.peak0]; rfl) ?_
 refine Run.val (lt rfl) (Y.lenSl rfl Law28_es32) ?_
 refine Run.on rfl rfl rfl (by rw [Pr.peak0]; rfl) ?_
 refine Run.val (lt rfl) (Y.int rfl rfl rfl) ?_
 refine Run.val (lt rfl) (Y.pick_t rfl (by rw [Pr.peak0]; rfl) rfl) ?_
 refine Run.val (lt rfl) (Y.assign rfl) ?_
 refine Run.to_end ?_
 refine Ex.go ?_
 refine Tr.to_ret ?_
 refine Ex.keep [] ?_
 exact Ex.ret1 rfl rfl  ⟨hle9, rfl, congrArg Value.bool (by rw [Pr.held0]; rfl)⟩

theorem auditholds_c {V : Vw} {l : List Pr} {p : Option Addr} {c : Nat} (hv : Rd V [] 5 (.slice p l.length c) l.length (l.flatMap Pr.cells)) (hl9 : l.length ≤ 9223372036854775807) {now : Int}  : Does Try.prog 5 [.slice p l.length c, .int .i64 now] V [] (fun v _ _ => v = .bool true) := by
 refine Does.intro Try.func5 rfl rfl (le rfl) (fun B => ?_)
 refine Tr.seq ?_
 refine Tr.region ?_
 refine Run.val (lt rfl) (Y.assign rfl) ?_
 refine Run.to_end ?_
 refine Ex.go ?_
 refine Tr.seq ?_
 refine Tr.region ?_
 refine Run.call [] (l := []) rfl rfl rfl (lt rfl) awake28_c (fun v7 V7 H7 hle7 hR7 => ?_)
 obtain ⟨hle, rfl, rfl⟩ := hR7
 replace hv := hv.le hle
 refine Run.heapTo (H' := []) rfl ?_
 refine Run.heapTo (H' := []) rfl ?_
 refine Run.val (lt rfl) (Y.assign rfl) ?_
 refine Run.to_end ?_
 refine Ex.go ?_
 refine Tr.seq ?_
 refine Tr.region ?_
 refine Run.val (lt rfl) (Y.move rfl) ?_
 refine Run.call [] (l := [.tmp 12]) rfl rfl rfl (lt rfl) (few_c hv hl9) (fun v8 V8 H8 hle8 hR8 => ?_)
 obtain ⟨hV, rfl, bf, rfl, hbf⟩ := hR8; replace hV := hV.symm; subst hV
 refine Run.heapTo (H' := []) rfl ?_
 refine Run.heapTo (H' := []) rfl ?_
 refine Run.val (lt rfl) (Y.assign rfl) ?_
 refine Run.to_end ?_
 refine Ex.go ?_
 refine Tr.seq ?_
 refine Tr.seq ?_
 refine Tr.region ?_
 refine Run.val (lt rfl) (Y.move rfl) ?_
 refine Run.val (lt rfl) (Y.not rfl) ?_
 refine Run.val (lt rfl) (Y.move rfl) ?_
 refine Run.on rfl rfl rfl rfl ?_
 refine Run.val (lt rfl) (Y.move rfl) ?_
 refine Run.on rfl rfl rfl rfl ?_
 refine Run.val (lt rfl) (Y.not rfl) ?_
 refine Run.val (lt rfl) (Y.pick_f rfl rfl rfl) ?_
 refine Run.to_end ?_
 refine Ex.go ?_
 rcases Bool.eq_false_or_eq_true (bf) with h1 | h1
 ·have g1 := h1
  try simp only [kb] at g1
  have hl := hbf h1
  refine Tr.cond_f rfl (congrArg Bool.not h1) ?_
  refine Tr.to_end ?_
  refine Ex.go ?_
  refine Tr.seq ?_
  refine Tr.region ?_
  refine Run.val (lt rfl) (Y.move rfl) ?_
  refine Run.call0 (l := [.tmp 22]) rfl rfl rfl (lt rfl) (peak_c_h (l := l) hv (by first | omega | decide)) ?_
  refine Run.val (lt rfl) (Y.move rfl) ?_
  refine Run.val (lt rfl) (Y.extract rfl rfl) ?_
  refine Run.val (lt rfl) (Y.extract rfl rfl) ?_
  refine Run.val (lt rfl) (Y.assign rfl) ?_
  refine Run.val (lt rfl) (Y.assign rfl) ?_
  refine Run.to_end ?_
  refine Ex.go ?_
  refine Tr.seq ?_
  refine Tr.region ?_
  refine Run.val (lt rfl) (Y.move rfl) ?_
  refine Run.call0 (l := [.tmp 27]) rfl rfl rfl (lt rfl) (rpeak_c_h (l := l) hv (by first | omega | decide)) ?_
  refine Run.val (lt rfl) (Y.move rfl) ?_
  refine Run.val (lt rfl) (Y.extract rfl rfl) ?_
  refine Run.val (lt rfl) (Y.extract rfl rfl) ?_
  refine Run.val (lt rfl) (Y.assign rfl) ?_
  refine Run.val (lt rfl) (Y.assign rfl) ?_
  refine Run.to_end ?_
  refine Ex.go ?_
  refine Tr.seq ?_
  refine Tr.region ?_
  refine Run.val (lt rfl) (Y.move rfl) ?_
  refine Run.val (lt rfl) (Y.move rfl) ?_
  refine Run.call [] (l := [.tmp 31, .tmp 32]) rfl rfl rfl (lt rfl) (held_c (l := l) (now := now) hv (by first | omega | decide)) (fun v2 V2 H2 hle hR => ?_)
  obtain ⟨hV, q3, ho4, rfl⟩ := hR; replace hV := hV.symm; subst hV; obtain ⟨p5, k6, rfl⟩ := ho4.form
  have hhlq3 := Pr.held_len l now
  refine Run.heapTo (H' := [q3]) rfl ?_
  refine Run.heapTo (H' := [q3]) rfl ?_
  refine Run.val (lt rfl) (Y.move rfl) ?_
  refine Run.val (lt rfl) (Y.move rfl) ?_
  refine Run.call [] (l := [.tmp 34, .tmp 35]) rfl rfl rfl (lt rfl) (rheld_c (l := l) (now := now) hv (by first | omega | decide)) (fun v7 V2 H2 hle hR => ?_)
  obtain ⟨hV, q8, ho9, rfl⟩ := hR; replace hV := hV.symm; subst hV; obtain ⟨p10, k11, rfl⟩ := ho9.form
  have hhlq8 := Pr.held_len l now
  refine Run.heapTo (H' := [q3, q8]) rfl ?_
  refine Run.heapTo (H' := [q3, q8]) rfl ?_
  refine Run.call0 (l := [.tmp 33, .tmp 36]) rfl rfl rfl (lt rfl) (same28_h (ho4.rd 0 rfl) (ho9.rd 1 rfl) (by omega)) ?_
  refine Run.val (lt rfl) (Y.move rfl) ?_
  refine Run.on rfl rfl rfl (beq_self_eq_true _) ?_
  refine Run.val (lt rfl) (Y.move rfl) ?_
  refine Run.on rfl rfl rfl (beq_self_eq_true _) ?_
  refine Run.val (lt rfl) (Y.move rfl) ?_
  refine Run.on rfl rfl rfl (beq_self_eq_true _) ?_
  refine Run.val (lt rfl) (Y.eqI_t rfl rfl) ?_
  refine Run.val (lt rfl) (Y.pick_t rfl (beq_self_eq_true _) rfl) ?_
  refine Run.val (lt rfl) (Y.move rfl) ?_
  refine Run.on rfl rfl rfl rfl ?_
  refine Run.val (lt rfl) (Y.move rfl) ?_
  refine Run.on rfl rfl rfl rfl ?_
  refine Run.val (lt rfl) (Y.move rfl) ?_
  refine Run.on rfl rfl rfl rfl ?_
  refine Run.val (lt rfl) (Y.eqI_t rfl rfl) ?_
  refine Run.val (lt rfl) (Y.pick_t rfl rfl rfl) ?_
  refine Run.val (lt rfl) (Y.assign rfl) ?_
  refine Run.to_end ?_
  refine Ex.go ?_
  refine Tr.to_ret ?_
  refine Ex.keep [] ?_
  exact Ex.ret1 rfl rfl  rfl
 ·have g1 := h1
  try simp only [kb] at g1
  refine Tr.cond_t rfl (congrArg Bool.not h1) ?_
  refine Tr.seq ?_
  refine Tr.region ?_
  refine Run.val (lt rfl) (Y.move rfl) ?_
  refine Run.val (lt rfl) (Y.assign rfl) ?_
  refine Run.to_end ?_
  refine Ex.go ?_
  refine Tr.to_ret ?_
  refine Ex.ret_then ?_
  refine Ex.keep [] ?_
  exact Ex.ret1 rfl rfl  rfl

theorem auditholds_h {V : Vw} {l : List Pr} {v0 : Value} (hv : Rd V [] 5 v0 l.length (l.map Pr.cells).flatten) (hl9 : l.length ≤ 9223372036854775807) {now : Int} : Does Try.prog 5 [v0, .int .i64 now] V [] (fun v _ _ => v = .bool true) := by
  obtain ⟨p, c, rfl, _⟩ := hv.form
  rw [← List.flatMap_def] at hv
  exact auditholds_c hv hl9

theorem auditclashes_c {V : Vw} {l : List Pr} {p : Option Addr} {c : Nat} (hv : Rd V [] 5 (.slice p l.length c) l.length (l.flatMap Pr.cells)) (hl9 : l.length ≤ 9223372036854775807) {a now : Int}  : Does Try.prog 6 [.slice p l.length c, .int .u32 a, .int .i64 now] V [] (fun v _ _ => v = .bool true) := by
 refine Does.intro Try.func6 rfl rfl (le rfl) (fun B => ?_)
 refine Tr.seq ?_
 refine Tr.region ?_
 refine Run.val (lt rfl) (Y.assign rfl) ?_
 refine Run.to_end ?_
 refine Ex.go ?_
 refine Tr.seq ?_
 refine Tr.region ?_
 refine Run.call [] (l := []) rfl rfl rfl (lt rfl) awake28_c (fun v7 V7 H7 hle7 hR7 => ?_)
 obtain ⟨hle, rfl, rfl⟩ := hR7
 replace hv := hv.le hle
 refine Run.heapTo (H' := []) rfl ?_
 refine Run.heapTo (H' := []) rfl ?_
 refine Run.val (lt rfl) (Y.assign rfl) ?_
 refine Run.to_end ?_
 refine Ex.go ?_
 refine Tr.seq ?_
 refine Tr.region ?_
 refine Run.val (lt rfl) (Y.move rfl) ?_
 refine Run.call [] (l := [.tmp 16]) rfl rfl rfl (lt rfl) (few_c hv hl9) (fun v8 V8 H8 hle8 hR8 => ?_)
 obtain ⟨hV, rfl, bf, rfl, hbf⟩ := hR8; replace hV := hV.symm; subst hV
 refine Run.heapTo (H' := []) rfl ?_
 refine Run.heapTo (H' := []) rfl ?_
 refine Run.val (lt rfl) (Y.assign rfl) ?_
 refine Run.to_end ?_
 refine Ex.go ?_
 refine Tr.seq ?_
 refine Tr.seq ?_
 refine Tr.region ?_
 refine Run.val (lt rfl) (Y.move rfl) ?_
 refine Run.val (lt rfl) (Y.not rfl) ?_
 refine Run.val (lt rfl) (Y.move rfl) ?_
 refine Run.on rfl rfl rfl rfl ?_
 refine Run.val (lt rfl) (Y.move rfl) ?_
 refine Run.on rfl rfl rfl rfl ?_
 refine Run.val (lt rfl) (Y.not rfl) ?_
 refine Run.val (lt rfl) (Y.pick_f rfl rfl rfl) ?_
 refine Run.to_end ?_
 refine Ex.go ?_
 rcases Bool.eq_false_or_eq_true (bf) with h1 | h1
 ·have g1 := h1
  try simp only [kb] at g1
  have hl := hbf h1
  refine Tr.cond_f rfl (congrArg Bool.not h1) ?_
  refine Tr.to_end ?_
  refine Ex.go ?_
  refine Tr.seq ?_
  refine Tr.region ?_
  refine Run.val (lt rfl) (Y.move rfl) ?_
  refine Run.call [] (l := [.tmp 26]) rfl rfl rfl (lt rfl) (clashes_c (l := l) hv (by first | omega | decide)) (fun va V2 H2 hle hR => ?_)
  obtain ⟨hV, rfl, aa, ba, rfl, hfa⟩ := hR; replace hV := hV.symm; subst hV
  refine Run.heapTo (H' := []) rfl ?_
  refine Run.heapTo (H' := []) rfl ?_
  refine Run.val (lt rfl) (Y.move rfl) ?_
  refine Run.val (lt rfl) (Y.extract rfl rfl) ?_
  refine Run.val (lt rfl) (Y.extract rfl rfl) ?_
  refine Run.val (lt rfl) (Y.assign rfl) ?_
  refine Run.val (lt rfl) (Y.assign rfl) ?_
  refine Run.to_end ?_
  refine Ex.go ?_
  refine Tr.seq ?_
  refine Tr.region ?_
  refine Run.val (lt rfl) (Y.move rfl) ?_
  refine Run.call [] (l := [.tmp 31]) rfl rfl rfl (lt rfl) (rclashes_c (l := l) hv (by first | omega | decide)) (fun vb V2 H2 hle hR => ?_)
  obtain ⟨hV, rfl, ab, bb, rfl, hfb⟩ := hR; replace hV := hV.symm; subst hV
  refine Run.heapTo (H' := []) rfl ?_
  refine Run.heapTo (H' := []) rfl ?_
  refine Run.val (lt rfl) (Y.move rfl) ?_
  refine Run.val (lt rfl) (Y.extract rfl rfl) ?_
  refine Run.val (lt rfl) (Y.extract rfl rfl) ?_
  refine Run.val (lt rfl) (Y.assign rfl) ?_
  refine Run.val (lt rfl) (Y.assign rfl) ?_
  refine Run.to_end ?_
  refine Ex.go ?_
  refine Tr.seq ?_
  refine Tr.region ?_
  obtain ⟨rfl, rfl⟩ := Pr.first_one hfa hfb
  refine Run.val (lt rfl) (Y.assign rfl) ?_
  refine Run.to_end ?_
  refine Ex.go ?_
  refine Tr.seq ?_
  refine Tr.seq ?_
  refine Tr.region ?_
  refine Run.val (lt rfl) (Y.move rfl) ?_
  refine Run.val (lt rfl) (Y.lenSl rfl Law28_es40) ?_
  refine Run.val (lt rfl) (Y.int rfl rfl rfl) ?_
  refine Run.to_end ?_
  refine Ex.go ?_
  rcases Bool.eq_false_or_eq_true (decide (((l.length : Nat) : Int) > 0)) with h2 | h2
  ·have g2 := h2
   try simp only [kb] at g2
   refine Tr.cond_t rfl h2 ?_
   refine Tr.region ?_
   refine Run.val (lt rfl) (Y.move rfl) ?_
   refine Run.val (lt rfl) (Y.idxR 0 rfl rfl Law28_es40 hv.of_nil (by omega) (by omega)) ?_
   refine Run.val (lt rfl) (Y.fieldR rfl Law28_fo47_2 hv.of_nil (by omega)) ?_
   refine Run.val (lt rfl) (Y.ldR rfl Law28_ts9 hv.of_nil (flatm_at Pr.len (by omega) Pr.dflt (by decide) rfl)) ?_
   refine Run.val (lt rfl) (Y.assign rfl) ?_
   refine Run.to_end ?_
   refine Ex.go ?_
   refine Tr.seq ?_
   refine Tr.region ?_
   refine Run.val (lt rfl) (Y.move rfl) ?_
   refine Run.val (lt rfl) (Y.move rfl) ?_
   refine Run.val (lt rfl) (Y.move rfl) ?_
   refine Run.val (lt rfl) (Y.move rfl) ?_
   refine Run.call [] (l := [.tmp 42, .tmp 43, .tmp 44, .tmp 45]) rfl rfl rfl (lt rfl) (end_c (cl := (l.getD 0 Pr.dflt).client) (a := a) (now := now) hv (by omega)) (fun v3 V2 H2 hle hR => ?_)
   obtain ⟨hV, q4, ho5, rfl⟩ := hR; replace hV := hV.symm; subst hV; obtain ⟨p6, k7, rfl⟩ := ho5.form
   have helq4 := Pr.endd_len a ((l.getD 0 Pr.dflt).client) now l
   refine Run.heapTo (H' := [q4]) rfl ?_
   refine Run.heapTo (H' := [q4]) rfl ?_
   refine Run.val (lt rfl) (Y.move rfl) ?_
   refine Run.val (lt rfl) (Y.move rfl) ?_
   refine Run.val (lt rfl) (Y.move rfl) ?_
   refine Run.val (lt rfl) (Y.move rfl) ?_
   refine Run.call [] (l := [.tmp 47, .tmp 48, .tmp 49, .tmp 50]) rfl rfl rfl (lt rfl) (rend_c (cl := (l.getD 0 Pr.dflt).client) (a := a) (now := now) hv (by omega)) (fun v8 V2 H2 hle hR => ?_)
   obtain ⟨hV, q9, ho10, rfl⟩ := hR; replace hV := hV.symm; subst hV; obtain ⟨p11, k12, rfl⟩ := ho10.form
   have helq9 := Pr.endd_len a ((l.getD 0 Pr.dflt).client) now l
   refine Run.heapTo (H' := [q4, q9]) rfl ?_
   refine Run.heapTo (H' := [q4, q9]) rfl ?_
   refine Run.call0 (l := [.tmp 46, .tmp 51]) rfl rfl rfl (lt rfl) (same27_h (ho5.rd 0 rfl) (ho10.rd 1 rfl) (by omega)) ?_
   refine Run.val (lt rfl) (Y.assign rfl) ?_
   refine Run.to_end ?_
   refine Ex.go ?_
   refine Tr.seq ?_
   refine Tr.region ?_
   refine Run.val (lt rfl) (Y.move rfl) ?_
   refine Run.val (lt rfl) (Y.move rfl) ?_
   refine Run.val (lt rfl) (Y.eqI_t rfl rfl) ?_
   refine Run.val (lt rfl) (Y.move rfl) ?_
   refine Run.on rfl rfl rfl rfl ?_
   refine Run.val (lt rfl) (Y.move rfl) ?_
   refine Run.on rfl rfl rfl rfl ?_
   refine Run.val (lt rfl) (Y.move rfl) ?_
   refine Run.on rfl rfl rfl rfl ?_
   refine Run.val (lt rfl) (Y.eqI_t rfl rfl) ?_
   refine Run.val (lt rfl) (Y.pick_t rfl rfl rfl) ?_
   refine Run.val (lt rfl) (Y.move rfl) ?_
   refine Run.on rfl rfl rfl rfl ?_
   refine Run.val (lt rfl) (Y.move rfl) ?_
   refine Run.val (lt rfl) (Y.pick_t rfl rfl rfl) ?_
   refine Run.val (lt rfl) (Y.assign rfl) ?_
   refine Run.to_end ?_
   refine Ex.go ?_
   refine Tr.to_ret ?_
   refine Ex.keep [] ?_
   exact Ex.ret1 rfl rfl  rfl
  ·have g2 := h2
   try simp only [kb] at g2
   refine Tr.cond_f rfl h2 ?_
   refine Tr.to_end ?_
   refine Ex.go ?_
   refine Tr.seq ?_
   refine Tr.region ?_
   refine Run.val (lt rfl) (Y.move rfl) ?_
   refine Run.val (lt rfl) (Y.move rfl) ?_
   refine Run.val (lt rfl) (Y.move rfl) ?_
   refine Run.val (lt rfl) (Y.move rfl) ?_
   refine Run.call [] (l := [.tmp 42, .tmp 43, .tmp 44, .tmp 45]) rfl rfl rfl (lt rfl) (end_c (cl := ⟨#[97]⟩) (a := a) (now := now) hv (by omega)) (fun v13 V2 H2 hle hR => ?_)
   obtain ⟨hV, q14, ho15, rfl⟩ := hR; replace hV := hV.symm; subst hV; obtain ⟨p16, k17, rfl⟩ := ho15.form
   have helq14 := Pr.endd_len a ⟨#[97]⟩ now l
   refine Run.heapTo (H' := [q14]) rfl ?_
   refine Run.heapTo (H' := [q14]) rfl ?_
   refine Run.val (lt rfl) (Y.move rfl) ?_
   refine Run.val (lt rfl) (Y.move rfl) ?_
   refine Run.val (lt rfl) (Y.move rfl) ?_
   refine Run.val (lt rfl) (Y.move rfl) ?_
   refine Run.call [] (l := [.tmp 47, .tmp 48, .tmp 49, .tmp 50]) rfl rfl rfl (lt rfl) (rend_c (cl := ⟨#[97]⟩) (a := a) (now := now) hv (by omega)) (fun v18 V2 H2 hle hR => ?_)
   obtain ⟨hV, q19, ho20, rfl⟩ := hR; replace hV := hV.symm; subst hV; obtain ⟨p21, k22, rfl⟩ := ho20.form
   have helq19 := Pr.endd_len a ⟨#[97]⟩ now l
   refine Run.heapTo (H' := [q14, q19]) rfl ?_
   refine Run.heapTo (H' := [q14, q19]) rfl ?_
   refine Run.call0 (l := [.tmp 46, .tmp 51]) rfl rfl rfl (lt rfl) (same27_h (ho15.rd 0 rfl) (ho20.rd 1 rfl) (by omega)) ?_
   refine Run.val (lt rfl) (Y.assign rfl) ?_
   refine Run.to_end ?_
   refine Ex.go ?_
   refine Tr.seq ?_
   refine Tr.region ?_
   refine Run.val (lt rfl) (Y.move rfl) ?_
   refine Run.val (lt rfl) (Y.move rfl) ?_
   refine Run.val (lt rfl) (Y.eqI_t rfl rfl) ?_
   refine Run.val (lt rfl) (Y.move rfl) ?_
   refine Run.on rfl rfl rfl rfl ?_
   refine Run.val (lt rfl) (Y.move rfl) ?_
   refine Run.on rfl rfl rfl rfl ?_
   refine Run.val (lt rfl) (Y.move rfl) ?_
   refine Run.on rfl rfl rfl rfl ?_
   refine Run.val (lt rfl) (Y.eqI_t rfl rfl) ?_
   refine Run.val (lt rfl) (Y.pick_t rfl rfl rfl) ?_
   refine Run.val (lt rfl) (Y.move rfl) ?_
   refine Run.on rfl rfl rfl rfl ?_
   refine Run.val (lt rfl) (Y.move rfl) ?_
   refine Run.val (lt rfl) (Y.pick_t rfl rfl rfl) ?_
   refine Run.val (lt rfl) (Y.assign rfl) ?_
   refine Run.to_end ?_
   refine Ex.go ?_
   refine Tr.to_ret ?_
   refine Ex.keep [] ?_
   exact Ex.ret1 rfl rfl  rfl
 ·have g1 := h1
  try simp only [kb] at g1
  refine Tr.cond_t rfl (congrArg Bool.not h1) ?_
  refine Tr.seq ?_
  refine Tr.region ?_
  refine Run.val (lt rfl) (Y.move rfl) ?_
  refine Run.val (lt rfl) (Y.assign rfl) ?_
  refine Run.to_end ?_
  refine Ex.go ?_
  refine Tr.to_ret ?_
  refine Ex.ret_then ?_
  refine Ex.keep [] ?_
  exact Ex.ret1 rfl rfl  rfl

theorem auditclashes_h {V : Vw} {l : List Pr} {v0 : Value} (hv : Rd V [] 5 v0 l.length (l.map Pr.cells).flatten) (hl9 : l.length ≤ 9223372036854775807) {a now : Int} : Does Try.prog 6 [v0, .int .u32 a, .int .i64 now] V [] (fun v _ _ => v = .bool true) := by
  obtain ⟨p, c, rfl, _⟩ := hv.form
  rw [← List.flatMap_def] at hv
  exact auditclashes_c hv hl9
end Go.Proofs.Ytjfacdepgkdoeaa
