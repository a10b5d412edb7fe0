/- The laws AuditHolds and AuditClashes, walked.
Conditions: as each theorem names them. -/
import Derived.Test.YtdmelfpdillddaaProg
import Derived.Test.YtdmelfpdillddaaAudit2
import Derived.Test.YtdmelfpdillddaaZG
set_option linter.unusedSimpArgs false
set_option linter.unusedVariables false
set_option maxRecDepth 4000
namespace Go.Proofs.Ytdmelfpdillddaa
open Go Go.K
attribute [local irreducible] Code.wp wpList Calls wpQuiet
theorem Law28_zo34 : zeroOf Try.prog 34 = some (.agg #[.int .i64 0, .int .u32 0, .string ⟨#[]⟩, .int .i64 0, .int .i64 0]) := by kernel_rfl
theorem Law28_pl34 : placesS Try.prog 34 = some [(0, 1), (1, 1), (2, 1), (3, 1), (4, 1)] := by kernel_rfl
theorem Law28_es22 : elemS Try.prog 22 = some (34, 5) := by kernel_rfl
theorem Law28_es40 : elemS Try.prog 40 = some (24, 1) := by kernel_rfl

theorem peak_c_h {V : Vw} {H : Hp} {l : List Pr} {v : Value} (hv : Rd V [] 5 v l.length (l.flatMap Pr.cells)) (hl : l.length ≤ 60) : Does Try.prog 13 [v] V H (Pv (.tuple #[.int .i64 (Pr.peak l).1, .int .i64 (Pr.peak l).2]) V H) := by
  obtain ⟨p, c, rfl, _⟩ := hv.form
  exact (peak_c hv hl).frame

theorem awake28_c  {V : Vw} : Does Try.prog 7 [] V [] (fun v V' H' => V.le V' ∧ H' = [] ∧ v = .bool true) := by
 refine Does.intro Try.func7 rfl rfl (le rfl) (fun B => ?_)
 refine Zs<|Zr<|Za Z<|Ze<|Zg<|Zs<|Zr<|Zv (Y.buildS (l := [(1, .const (.int .u32 1)), (2, .const (.string ⟨#[97]⟩)), (3, .const (.int .i64 5)), (4, .const (.int .i64 9))]) Law28_zo34 Law28_pl34 Z Z)<|Zv (Y.buildS (l := [(1, .const (.int .u32 1)), (2, .const (.string ⟨#[98]⟩)), (3, .const (.int .i64 9)), (4, .const (.int .i64 12))]) Law28_zo34 Law28_pl34 Z Z)<|?_
 refine Run.buildSlice (l := [(0, .tmp 6), (1, .tmp 7)]) (r := [.int .i64 0, .int .u32 1, .string ⟨#[97]⟩, .int .i64 5, .int .i64 9, .int .i64 0, .int .u32 1, .string ⟨#[98]⟩, .int .i64 9, .int .i64 12]) Law28_es22 Law28_zo34 rfl WD rfl rfl WD (lt rfl) (fun b1 => ?_)
 refine Za Z<|Ze<|Zg<|Zs<|Zr<|?_
 have hsh := (Ow.lit (e := 34) (k := 5) (b := b1) (n := 2) (cur := #[.int .i64 0, .int .u32 1, .string ⟨#[97]⟩, .int .i64 5, .int .i64 9, .int .i64 0, .int .u32 1, .string ⟨#[98]⟩, .int .i64 9, .int .i64 12]) rfl WD).shows
 refine Run.keepTo (H' := [[(b1, .cells #[.int .i64 0, .int .u32 1, .string ⟨#[97]⟩, .int .i64 5, .int .i64 9, .int .i64 0, .int .u32 1, .string ⟨#[98]⟩, .int .i64 9, .int .i64 12] 34 (0, 0))]]) [0] Z ?_
 refine Run.show (fun V9 hle9 hsh9 => ?_)
 have hv0 : Rd V9 [] 5 (.slice (some ⟨b1, 0, none⟩) 2 2) Pr.l0.length (Pr.l0.flatMap Pr.cells) := hsh _ hsh9
 refine Zm Z ?_
 refine Run.call [] (l := [.tmp 10]) rfl rfl rfl (lt rfl) (clashes_c (l := Pr.l0) hv0 (by first | omega | decide)) (fun va V2 H2 hle hR => ?_)
 obtain ⟨hV, rfl, aa, ba, rfl, hfa⟩ := hR; replace hV := hV.symm; subst hV
 refine Run.heapTo (H' := []) Z<|Run.heapTo (H' := []) Z<|Zm Z<|Zv (Y.extract Z Z)<|Zv (Y.extract Z Z)<|Za Z<|Za Z<|Ze<|Zg<|Zs<|Zr<|?_
 obtain ⟨rfl, rfl⟩ := Pr.first0 hfa
 refine Zm Z<|Run.call0 (l := [.tmp 15]) rfl rfl rfl (lt rfl) (peak_c_h (l := Pr.l0) hv0 (by first | omega | decide))<|Zm Z<|Zv (Y.extract Z Z)<|Zv (Y.extract Z Z)<|Za Z<|Za Z<|Ze<|Zg<|Zs<|Zr<|Zm Z<|Zv (Y.int (r := .bool true) Z Z Z)<|Zm Z<|Zp Z<|Zm Z<|?_
 refine Zp Z<|Zv (Y.int (r := .bool true) Z Z Z)<|Zv (Y.pick_t Z Z Z)<|Zm Z<|Zp Z<|Zm Z<|Zp Z<|Zv (Y.int Z Z Z)<|Zv (Y.pick_t Z Z Z)<|Zm Z<|Run.on rfl rfl rfl (by rw [Pr.peak0]; rfl)<|Zm Z<|Run.on rfl rfl rfl (by rw [Pr.peak0]; rfl)<|Zv (Y.int Z Z Z)<|Zv (Y.pick_t Z (by rw [Pr.peak0]; rfl) rfl)<|Zm Z<|?_
 refine Run.on rfl rfl rfl (by rw [Pr.peak0]; rfl)<|Zm Z<|Run.on rfl rfl rfl (by rw [Pr.peak0]; rfl)<|?_
 refine Run.call [] (l := [.tmp 34, .const (.int .i64 9)]) rfl rfl rfl (lt rfl) (held_c (l := Pr.l0) (now := 9) hv0 (by first | omega | decide)) (fun v2 V2 H2 hle hR => ?_)
 obtain ⟨hV, q3, ho4, rfl⟩ := hR; replace hV := hV.symm; subst hV; obtain ⟨p5, k6, rfl⟩ := ho4.form
 have hhlq3 := Pr.held_len Pr.l0 9
 refine Run.heapTo (H' := [q3]) Z<|Run.heapTo (H' := [q3]) Z<|Run.on rfl rfl rfl (by rw [Pr.peak0]; rfl)<|Zv (Y.lenSl Z Law28_es40)<|Run.on rfl rfl rfl (by rw [Pr.peak0]; rfl)<|Zv (Y.int Z Z Z)<|Zv (Y.pick_t Z (by rw [Pr.peak0]; rfl) rfl)<|Za Z<|Ze<|Zg<|Zu<|Ex.keep []<|?_
 exact Ex.ret1 rfl rfl  ⟨hle9, rfl, congrArg Value.bool (by rw [Pr.held0]; rfl)⟩
end Go.Proofs.Ytdmelfpdillddaa
