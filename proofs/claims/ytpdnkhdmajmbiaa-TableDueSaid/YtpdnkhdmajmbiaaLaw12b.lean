/- TableScripts and TableDue, walked.
Conditions: as each theorem names them. -/
import Derived.Test.YtpdnkhdmajmbiaaProg
import Derived.Test.YtpdnkhdmajmbiaaLaw12
import Derived.Test.YtpdnkhdmajmbiaaZG
set_option linter.unusedSimpArgs false
set_option linter.unusedVariables false
set_option maxRecDepth 4000
namespace Go.Proofs.Ytpdnkhdmajmbiaa
open Go Go.K
attribute [local irreducible] Code.wp wpList Calls wpQuiet
theorem Law12b_pt71 : ptrT Try.prog 71 = true := by kernel_rfl
theorem Law12b_al90 : arrT Try.prog 90 = some (3, 1) := by kernel_rfl
theorem Law12b_ts3 : scal Try.prog 3 = true := by kernel_rfl
theorem Law12b_it3_30 : intT Try.prog 3 30 = some .u32 := by kernel_rfl
theorem Law12b_zo69 : zeroOf Try.prog 69 = some (.agg #[.int .u32 0, .int .i64 0, .string ⟨#[]⟩, .int .i64 0, .int .i64 0, .int .i64 0, .int .i64 0, .int .i64 0]) := by kernel_rfl
theorem Law12b_sz69 : sizeT Try.prog 69 = some 8 := by kernel_rfl
theorem Law12b_mo : Try.prog.follows .mixedOrders = true := by kernel_rfl
theorem Law12b_fo94_0 : fieldOff Try.prog 94 0 = some 0 := by kernel_rfl
theorem Law12b_ts67 : scal Try.prog 67 = true := by kernel_rfl
theorem Law12b_ag69 : aggsz Try.prog 69 = some 8 := by kernel_rfl
theorem Law12b_tgs69 : tags Try.prog 69 = some [(0, .u32), (0, .i64), (2, .i64), (0, .i64), (0, .i64), (0, .i64), (0, .i64), (0, .i64)] := by kernel_rfl
theorem Law12b_tg4 : tagOf Try.prog 4 = some (1, .i64) := by kernel_rfl
theorem Law12b_al31 : arrT Try.prog 31 = some (2, 1) := by kernel_rfl
theorem Law12b_es67 : elemS Try.prog 67 = some (69, 8) := by kernel_rfl
theorem Law12b_fo69_1 : fieldOff Try.prog 69 1 = some 1 := by kernel_rfl
theorem Law12b_fo69_3 : fieldOff Try.prog 69 3 = some 3 := by kernel_rfl
theorem Law12b_fo69_0 : fieldOff Try.prog 69 0 = some 0 := by kernel_rfl
theorem Law12b_ts30 : scal Try.prog 30 = true := by kernel_rfl

theorem same11_x {V : Vw} {H : Hp} {a b : List Le} {n1 : Nat} {p1 p2 : Option Addr} {k1 k2 : Nat} (ha : Rd V H 8 (.slice p1 n1 k1) n1 (a.flatMap Le.cells)) (hn : n1 = a.length) (hb : Rd V H 8 (.slice p2 b.length k2) b.length (b.flatMap Le.cells)) (hm : a.length ≤ 1000000000) (he : a = b) : Does Try.prog 43 [.slice p1 n1 k1, .slice p2 b.length k2] V H (Pv (.bool true) V H) := by
  subst hn; exact same11_c ha hb he hm

set_option maxHeartbeats 1000000 in
theorem tscripts_c {V : Vw} {rs : List Rg} {p : Option Addr} {c : Nat} (hv : Rd V [] 2 (.slice p rs.length c) rs.length (rs.flatMap Rg.cells)) (hok : Rg.Oks rs) {ls : List Le} {p2 : Option Addr} {c2 : Nat} (hv2 : Rd V [] 8 (.slice p2 ls.length c2) ls.length (ls.flatMap Le.cells)) (hcs : ∀ x, x ∈ ls → x.client.size ≤ 9223372036854775807) (hl9 : ls.length ≤ 9223372036854775807) {x0 x1 x2 : Int}  : Does Try.prog 12 [.slice p rs.length c, .slice p2 ls.length c2, .agg #[.int .i64 x0, .int .i64 x1, .int .i64 x2]] V [] (fun v _ _ => v = .bool true) := by
 refine Does.intro Try.func12 rfl rfl (le rfl) (fun B => ?_)
 refine Zs<|Zr<|?_
 refine Run.box rfl (lt rfl) (fun b1 => ?_)
 refine Za Z<|Ze<|Zg<|Zs<|Zr<|?_
 refine Run.call [] (l := []) rfl rfl rfl (lt rfl) (awake12_c) (fun v2 V2 H2 hle2 hR2 => ?_)
 obtain ⟨_, rfl, rfl⟩ := hR2
 replace hv := hv.le hle2
 replace hv2 := hv2.le hle2
 have hVle := hle2
 refine Run.heapTo (H' := [[(b1, .cells #[.int .i64 x0, .int .i64 x1, .int .i64 x2] 90 (0, 0))]]) Z<|Run.heapTo (H' := [[(b1, .cells #[.int .i64 x0, .int .i64 x1, .int .i64 x2] 90 (0, 0))]]) Z<|Za Z<|Ze<|Zg<|Zs<|Zr<|Zm Z<|Zm Z<|Run.call0 (l := [.tmp 23, .tmp 24]) rfl rfl rfl (lt rfl) (long_c (n0 := rs.length) hv2.of_nil W)<|Za Z<|Ze<|Zg<|Zs<|Zs<|Zr<|?_
 refine Zm Z<|Zv (Y.not Z)<|Zm Z<|Zp Z<|Zm Z<|Zv (Y.pick_f Z Z Z)<|Ze<|Zg<|?_
 rcases Zsplit (Le.long rs.length ls) with ⟨h3, g3⟩ | ⟨h3, g3⟩ <;> try simp only [kb] at g3
 ·refine Tr.cond_t Z h3<|Zs<|Zr<|Zm Z<|Za Z<|Ze<|Zg<|Zu<|Zn<|Ex.keep []<|?_
  exact Ex.ret1 rfl rfl  rfl
 ·obtain ⟨hlg4, hlg5⟩ := Le.long_f h3
  refine Tr.cond_f Z h3<|Zt<|Zg<|Zs<|Zr<|?_
  by_cases hp0 : (Rg.pool rs).2 = 0
  ·refine Zm Z<|Zm Z<|?_
   refine Run.call [] (l := [.tmp 33, .tmp 34]) rfl rfl rfl (lt rfl) (made_c hv hok hv2 hcs W W) (fun v6 V6 H6 hle6 hR6 => ?_)
   rcases hR6 with ⟨_, ⟨hpn, _⟩ | ⟨_, l, tx, rx, s1, pl, cl, ql, rfl, hin, hl, hnl, rfl⟩⟩
   · exact absurd hp0 hpn
   replace hv := hv.le hle6
   replace hv2 := hv2.le hle6
   replace hVle := Vw.le_trans hVle hle6
   obtain ⟨hr, hlm, _⟩ := id hin
   refine Run.heapTo (H' := [[(b1, .cells #[.int .i64 x0, .int .i64 x1, .int .i64 x2] 90 (0, 0))], s1, [(rx, .cells #[.slice pl l.length cl] 94 (0, 0))], ql]) Z<|Run.heapTo (H' := [[(b1, .cells #[.int .i64 x0, .int .i64 x1, .int .i64 x2] 90 (0, 0))], s1, [(rx, .cells #[.slice pl l.length cl] 94 (0, 0))], ql]) Z<|Zm Z<|Zv (Y.extract Z Z)<|Zv (Y.extract Z Z)<|Zv (Y.extract Z Z)<|Za Z<|Za Z<|Za Z<|Ze<|Zg<|Zs<|Zs<|Zr<|Zm Z<|Zv (Y.not Z)<|?_
   refine Zm Z<|Zp Z<|Zm Z<|Zp Z<|Zv (Y.eqNil Z Z Law12b_pt71)<|Zv (Y.pick_f Z Z Z)<|Ze<|Zg<|Tr.cond_f Z Z<|Zt<|Zg<|Zs<|Zr<|Zm Z<|Zv (Y.idxArr Z Z Law12b_al90 WD WD)<|Zv (Y.load Z Law12b_ts3 (Kn.at 0 Z) Z)<|?_
   refine Zv (Y.conv (IntKind.u32.wrap x0) Z Law12b_it3_30 (Z)) ?_
   refine Run.call [1] (l := [.tmp 47, .tmp 50]) rfl rfl rfl (lt rfl) (get_o (a := IntKind.u32.wrap x0) hin) (fun v7 V7 H7 hle7 hR7 => ?_)
   obtain ⟨rfl, hV, rfl⟩ := hR7; replace hV := hV.symm; subst hV
   refine Run.heapTo (H' := [[(b1, .cells #[.int .i64 x0, .int .i64 x1, .int .i64 x2] 90 (0, 0))], [(rx, .cells #[.slice pl l.length cl] 94 (0, 0))], ql, s1]) Z<|Run.heapTo (H' := [[(b1, .cells #[.int .i64 x0, .int .i64 x1, .int .i64 x2] 90 (0, 0))], [(rx, .cells #[.slice pl l.length cl] 94 (0, 0))], ql, s1]) Z<|Zm Z<|Zv (Y.extract Z Z)<|Zv (Y.extract Z Z)<|?_
   refine Run.alloc Law12b_zo69 (lt rfl) (fun b8 => ?_)
   refine Run.store (s := [(b8, .cells #[.int .u32 ((Le.getE l (IntKind.u32.wrap x0)).1.addr), .int .i64 ((Le.getE l (IntKind.u32.wrap x0)).1.bind), .string ((Le.getE l (IntKind.u32.wrap x0)).1.client), .int .i64 ((Le.getE l (IntKind.u32.wrap x0)).1.till), .int .i64 ((Le.getE l (IntKind.u32.wrap x0)).1.acked), .int .i64 ((Le.getE l (IntKind.u32.wrap x0)).1.told), .int .i64 ((Le.getE l (IntKind.u32.wrap x0)).1.at_), .int .i64 ((Le.getE l (IntKind.u32.wrap x0)).1.ver)] 69 (0, 0))]) Z Z Law12b_sz69 (i := 0) Z Z (le Z) Z Z ?_
   refine Za Z<|Ze<|Zg<|Zs<|Zr<|Zm Z<|Zv (Y.idxArr Z Z Law12b_al90 WD WD)<|Zv (Y.load Z Law12b_ts3 (Kn.at 1 Z) Z)<|Zv (Y.conv (IntKind.u32.wrap x0) Z Law12b_it3_30 (Z))<|Run.call0 (l := [.tmp 55, .tmp 58]) Z Z Z (lt Z) ((rget_c (a := IntKind.u32.wrap x0) hl hlm).frameP (pull_perm [2, 2] [[(b8, .cells #[.int .u32 ((Le.getE l (IntKind.u32.wrap x0)).1.addr), .int .i64 ((Le.getE l (IntKind.u32.wrap x0)).1.bind), .string ((Le.getE l (IntKind.u32.wrap x0)).1.client), .int .i64 ((Le.getE l (IntKind.u32.wrap x0)).1.till), .int .i64 ((Le.getE l (IntKind.u32.wrap x0)).1.acked), .int .i64 ((Le.getE l (IntKind.u32.wrap x0)).1.told), .int .i64 ((Le.getE l (IntKind.u32.wrap x0)).1.at_), .int .i64 ((Le.getE l (IntKind.u32.wrap x0)).1.ver)] 69 (0, 0))], [(b1, .cells #[.int .i64 x0, .int .i64 x1, .int .i64 x2] 90 (0, 0))], [(rx, .cells #[.slice pl l.length cl] 94 (0, 0))], ql, s1]))<|?_
   refine Zm Z<|Zv (Y.extract Z Z)<|Zv (Y.extract Z Z)<|?_
   refine Run.alloc Law12b_zo69 (lt rfl) (fun b9 => ?_)
   refine Run.store (s := [(b9, .cells #[.int .u32 ((Le.getE l (IntKind.u32.wrap x0)).1.addr), .int .i64 ((Le.getE l (IntKind.u32.wrap x0)).1.bind), .string ((Le.getE l (IntKind.u32.wrap x0)).1.client), .int .i64 ((Le.getE l (IntKind.u32.wrap x0)).1.till), .int .i64 ((Le.getE l (IntKind.u32.wrap x0)).1.acked), .int .i64 ((Le.getE l (IntKind.u32.wrap x0)).1.told), .int .i64 ((Le.getE l (IntKind.u32.wrap x0)).1.at_), .int .i64 ((Le.getE l (IntKind.u32.wrap x0)).1.ver)] 69 (0, 0))]) Z Z Law12b_sz69 (i := 0) Z Z (le Z) Z Z ?_
   refine Za Z<|Ze<|Zg<|Zs<|Zr<|Zm Z<|Zv (Y.idxArr Z Z Law12b_al90 WD WD)<|Zv (Y.load Z Law12b_ts3 (Kn.at 2 Z) Z)<|Run.call0 (l := [.tmp 63, .tmp 65]) Z Z Z (lt Z) (Does.frame1 5 Z (first_o (bd := x1) hin))<|Zm Z<|Zv (Y.extract Z Z)<|Zv (Y.extract Z Z)<|Za Z<|Za Z<|Ze<|Zg<|?_
   refine Zs<|Zr<|Zm Z<|Zv (Y.idxArr Z Z Law12b_al90 WD WD)<|Zv (Y.load Z Law12b_ts3 (Kn.at 2 Z) Z)<|Run.call0 (l := [.tmp 70, .tmp 72]) Z Z Z (lt Z) ((rfirst_c (b := x1) hl hlm).frameP (pull_perm [3, 3] [[(b9, .cells #[.int .u32 ((Le.getE l (IntKind.u32.wrap x0)).1.addr), .int .i64 ((Le.getE l (IntKind.u32.wrap x0)).1.bind), .string ((Le.getE l (IntKind.u32.wrap x0)).1.client), .int .i64 ((Le.getE l (IntKind.u32.wrap x0)).1.till), .int .i64 ((Le.getE l (IntKind.u32.wrap x0)).1.acked), .int .i64 ((Le.getE l (IntKind.u32.wrap x0)).1.told), .int .i64 ((Le.getE l (IntKind.u32.wrap x0)).1.at_), .int .i64 ((Le.getE l (IntKind.u32.wrap x0)).1.ver)] 69 (0, 0))], [(b8, .cells #[.int .u32 ((Le.getE l (IntKind.u32.wrap x0)).1.addr), .int .i64 ((Le.getE l (IntKind.u32.wrap x0)).1.bind), .string ((Le.getE l (IntKind.u32.wrap x0)).1.client), .int .i64 ((Le.getE l (IntKind.u32.wrap x0)).1.till), .int .i64 ((Le.getE l (IntKind.u32.wrap x0)).1.acked), .int .i64 ((Le.getE l (IntKind.u32.wrap x0)).1.told), .int .i64 ((Le.getE l (IntKind.u32.wrap x0)).1.at_), .int .i64 ((Le.getE l (IntKind.u32.wrap x0)).1.ver)] 69 (0, 0))], [(b1, .cells #[.int .i64 x0, .int .i64 x1, .int .i64 x2] 90 (0, 0))], [(rx, .cells #[.slice pl l.length cl] 94 (0, 0))], ql, s1]))<|?_
   refine Zm Z<|Zv (Y.extract Z Z)<|Zv (Y.extract Z Z)<|Za Z<|Za Z<|Ze<|Zg<|Zs<|Tr.anyD [(rx, .cells #[.slice pl l.length cl] 94 (0, 0))] Law12b_mo<|RunD.pure (i := 0) rfl WK WK WK (fun _ _ _ h => h) (lt rfl) (ZK 3 Z) (fun _ => (Y.move rfl))<|RunD.pure (i := 2) rfl WK WK WK (fun _ _ _ h => h) (lt rfl) (ZK 3 Z) (fun _ => (Y.move rfl))<|RunD.pure (i := 3) rfl WK WK WK (fun _ _ _ h => h) (lt rfl) (ZK 3 Z) (fun _ => (Y.nilCheck rfl))<|?_
   refine RunD.pure (i := 4) rfl WK WK WK (fun _ _ _ h => h) (lt rfl) (ZK 3 Z) (fun _ => (Y.fieldAddr rfl Law12b_fo94_0))<|RunD.take (i := 5) 0 rfl rfl WK WK WK (fun _ _ _ h => h) (lt rfl) (ZK 3 Z) (fun _ => (Y.load rfl Law12b_ts67 Kn.vk1 rfl))<|?_
   refine RunD.one (i := 1) WK rfl  ?_ 
   refine Run.call [5] (l := [.tmp 76]) rfl rfl rfl (lt rfl) (all_o hin) (fun v10 V10 H10 hle10 hR10 => ?_)
   obtain ⟨hV, q10, ho10, rfl⟩ := hR10; replace hV := hV.symm; subst hV
   obtain ⟨p10, c10, rfl⟩ := ho10.form
   refine Run.heapTo (H' := [[(b9, .cells #[.int .u32 ((Le.getE l (IntKind.u32.wrap x0)).1.addr), .int .i64 ((Le.getE l (IntKind.u32.wrap x0)).1.bind), .string ((Le.getE l (IntKind.u32.wrap x0)).1.client), .int .i64 ((Le.getE l (IntKind.u32.wrap x0)).1.till), .int .i64 ((Le.getE l (IntKind.u32.wrap x0)).1.acked), .int .i64 ((Le.getE l (IntKind.u32.wrap x0)).1.told), .int .i64 ((Le.getE l (IntKind.u32.wrap x0)).1.at_), .int .i64 ((Le.getE l (IntKind.u32.wrap x0)).1.ver)] 69 (0, 0))], [(b8, .cells #[.int .u32 ((Le.getE l (IntKind.u32.wrap x0)).1.addr), .int .i64 ((Le.getE l (IntKind.u32.wrap x0)).1.bind), .string ((Le.getE l (IntKind.u32.wrap x0)).1.client), .int .i64 ((Le.getE l (IntKind.u32.wrap x0)).1.till), .int .i64 ((Le.getE l (IntKind.u32.wrap x0)).1.acked), .int .i64 ((Le.getE l (IntKind.u32.wrap x0)).1.told), .int .i64 ((Le.getE l (IntKind.u32.wrap x0)).1.at_), .int .i64 ((Le.getE l (IntKind.u32.wrap x0)).1.ver)] 69 (0, 0))], [(b1, .cells #[.int .i64 x0, .int .i64 x1, .int .i64 x2] 90 (0, 0))], [(rx, .cells #[.slice pl l.length cl] 94 (0, 0))], ql, q10, s1]) Z ?_
   refine Run.heapTo (H' := [[(b9, .cells #[.int .u32 ((Le.getE l (IntKind.u32.wrap x0)).1.addr), .int .i64 ((Le.getE l (IntKind.u32.wrap x0)).1.bind), .string ((Le.getE l (IntKind.u32.wrap x0)).1.client), .int .i64 ((Le.getE l (IntKind.u32.wrap x0)).1.till), .int .i64 ((Le.getE l (IntKind.u32.wrap x0)).1.acked), .int .i64 ((Le.getE l (IntKind.u32.wrap x0)).1.told), .int .i64 ((Le.getE l (IntKind.u32.wrap x0)).1.at_), .int .i64 ((Le.getE l (IntKind.u32.wrap x0)).1.ver)] 69 (0, 0))], [(b8, .cells #[.int .u32 ((Le.getE l (IntKind.u32.wrap x0)).1.addr), .int .i64 ((Le.getE l (IntKind.u32.wrap x0)).1.bind), .string ((Le.getE l (IntKind.u32.wrap x0)).1.client), .int .i64 ((Le.getE l (IntKind.u32.wrap x0)).1.till), .int .i64 ((Le.getE l (IntKind.u32.wrap x0)).1.acked), .int .i64 ((Le.getE l (IntKind.u32.wrap x0)).1.told), .int .i64 ((Le.getE l (IntKind.u32.wrap x0)).1.at_), .int .i64 ((Le.getE l (IntKind.u32.wrap x0)).1.ver)] 69 (0, 0))], [(b1, .cells #[.int .i64 x0, .int .i64 x1, .int .i64 x2] 90 (0, 0))], [(rx, .cells #[.slice pl l.length cl] 94 (0, 0))], ql, q10, s1]) Z ?_
   refine Ze<|Ex.anyD (ZK 3 Z)<|?_
   refine RunD.one (i := 6) WK rfl  ?_ 
   refine Run.call0 (l := [.tmp 77, .tmp 81]) rfl rfl rfl (lt rfl) (same11_c (ho10.rd 5 rfl) (hl.rd 4 rfl) rfl (by first | omega | exact Nat.le_trans (Le.due_few _ l) W | exact Nat.le_trans (Le.fil_le _ l) W))<|Ze<|Ex.anyD (ZK 3 Z)<|RunD.pure (i := 7) rfl WK WK WK (fun _ _ _ h => h) (lt rfl) (ZK 3 Z) (fun _ => (Y.assign rfl))<|RunD.done WK<|Zg<|Zs<|Tr.anyD [(b1, .cells #[.int .i64 x0, .int .i64 x1, .int .i64 x2] 90 (0, 0))] Law12b_mo<|?_
   refine RunD.pure (i := 0) rfl WK WK WK (fun _ _ _ h => h) (lt rfl) (ZK 2 Z) (fun _ => (Y.move rfl))<|RunD.pure (i := 1) rfl WK WK WK (fun _ _ _ h => h) (lt rfl) (ZK 2 Z) (fun _ => (Y.idxArr rfl rfl Law12b_al90 WD WD))<|RunD.take (i := 2) 0 rfl rfl WK WK WK (fun _ _ _ h => h) (lt rfl) (ZK 2 Z) (fun _ => (Y.load rfl Law12b_ts3 Kn.vk1 rfl))<|?_
   refine RunD.pure (i := 4) rfl WK WK WK (fun _ _ _ h => h) (lt rfl) (ZK 2 Z) (fun _ => (Y.move rfl))<|RunD.pure (i := 5) rfl WK WK WK (fun _ _ _ h => h) (lt rfl) (ZK 2 Z) (fun _ => (Y.idxArr rfl rfl Law12b_al90 WD WD))<|RunD.take (i := 6) 0 rfl rfl WK WK WK (fun _ _ _ h => h) (lt rfl) (ZK 2 Z) (fun _ => (Y.load rfl Law12b_ts3 Kn.vk1 rfl))<|?_
   refine RunD.one (i := 3) WK rfl  ?_ 
   refine Run.call [6] (l := [.tmp 83, .tmp 85]) rfl rfl rfl (lt rfl) (due_o hin) (fun v11 V11 H11 hle11 hR11 => ?_)
   obtain ⟨hV, q11, ho11, rfl⟩ := hR11; replace hV := hV.symm; subst hV
   obtain ⟨p11, c11, rfl⟩ := ho11.form
   refine Run.heapTo (H' := [[(b9, .cells #[.int .u32 ((Le.getE l (IntKind.u32.wrap x0)).1.addr), .int .i64 ((Le.getE l (IntKind.u32.wrap x0)).1.bind), .string ((Le.getE l (IntKind.u32.wrap x0)).1.client), .int .i64 ((Le.getE l (IntKind.u32.wrap x0)).1.till), .int .i64 ((Le.getE l (IntKind.u32.wrap x0)).1.acked), .int .i64 ((Le.getE l (IntKind.u32.wrap x0)).1.told), .int .i64 ((Le.getE l (IntKind.u32.wrap x0)).1.at_), .int .i64 ((Le.getE l (IntKind.u32.wrap x0)).1.ver)] 69 (0, 0))], [(b8, .cells #[.int .u32 ((Le.getE l (IntKind.u32.wrap x0)).1.addr), .int .i64 ((Le.getE l (IntKind.u32.wrap x0)).1.bind), .string ((Le.getE l (IntKind.u32.wrap x0)).1.client), .int .i64 ((Le.getE l (IntKind.u32.wrap x0)).1.till), .int .i64 ((Le.getE l (IntKind.u32.wrap x0)).1.acked), .int .i64 ((Le.getE l (IntKind.u32.wrap x0)).1.told), .int .i64 ((Le.getE l (IntKind.u32.wrap x0)).1.at_), .int .i64 ((Le.getE l (IntKind.u32.wrap x0)).1.ver)] 69 (0, 0))], [(b1, .cells #[.int .i64 x0, .int .i64 x1, .int .i64 x2] 90 (0, 0))], [(rx, .cells #[.slice pl l.length cl] 94 (0, 0))], ql, q10, q11, s1]) Z ?_
   refine Run.heapTo (H' := [[(b9, .cells #[.int .u32 ((Le.getE l (IntKind.u32.wrap x0)).1.addr), .int .i64 ((Le.getE l (IntKind.u32.wrap x0)).1.bind), .string ((Le.getE l (IntKind.u32.wrap x0)).1.client), .int .i64 ((Le.getE l (IntKind.u32.wrap x0)).1.till), .int .i64 ((Le.getE l (IntKind.u32.wrap x0)).1.acked), .int .i64 ((Le.getE l (IntKind.u32.wrap x0)).1.told), .int .i64 ((Le.getE l (IntKind.u32.wrap x0)).1.at_), .int .i64 ((Le.getE l (IntKind.u32.wrap x0)).1.ver)] 69 (0, 0))], [(b8, .cells #[.int .u32 ((Le.getE l (IntKind.u32.wrap x0)).1.addr), .int .i64 ((Le.getE l (IntKind.u32.wrap x0)).1.bind), .string ((Le.getE l (IntKind.u32.wrap x0)).1.client), .int .i64 ((Le.getE l (IntKind.u32.wrap x0)).1.till), .int .i64 ((Le.getE l (IntKind.u32.wrap x0)).1.acked), .int .i64 ((Le.getE l (IntKind.u32.wrap x0)).1.told), .int .i64 ((Le.getE l (IntKind.u32.wrap x0)).1.at_), .int .i64 ((Le.getE l (IntKind.u32.wrap x0)).1.ver)] 69 (0, 0))], [(b1, .cells #[.int .i64 x0, .int .i64 x1, .int .i64 x2] 90 (0, 0))], [(rx, .cells #[.slice pl l.length cl] 94 (0, 0))], ql, q10, q11, s1]) Z ?_
   refine Ze<|Ex.anyD (ZK 2 Z)<|?_
   refine RunD.one (i := 7) WK rfl  ?_ 
   refine Run.call [3, 3] (l := [.tmp 87, .tmp 89]) rfl rfl rfl (lt rfl) (rdue_c (now := x2) hl hlm) (fun v12 V12 H12 hle12 hR12 => ?_)
   obtain ⟨hV, q12, ho12, rfl⟩ := hR12; replace hV := hV.symm; subst hV
   obtain ⟨p12, c12, rfl⟩ := ho12.form
   refine Run.heapTo (H' := [[(b9, .cells #[.int .u32 ((Le.getE l (IntKind.u32.wrap x0)).1.addr), .int .i64 ((Le.getE l (IntKind.u32.wrap x0)).1.bind), .string ((Le.getE l (IntKind.u32.wrap x0)).1.client), .int .i64 ((Le.getE l (IntKind.u32.wrap x0)).1.till), .int .i64 ((Le.getE l (IntKind.u32.wrap x0)).1.acked), .int .i64 ((Le.getE l (IntKind.u32.wrap x0)).1.told), .int .i64 ((Le.getE l (IntKind.u32.wrap x0)).1.at_), .int .i64 ((Le.getE l (IntKind.u32.wrap x0)).1.ver)] 69 (0, 0))], [(b8, .cells #[.int .u32 ((Le.getE l (IntKind.u32.wrap x0)).1.addr), .int .i64 ((Le.getE l (IntKind.u32.wrap x0)).1.bind), .string ((Le.getE l (IntKind.u32.wrap x0)).1.client), .int .i64 ((Le.getE l (IntKind.u32.wrap x0)).1.till), .int .i64 ((Le.getE l (IntKind.u32.wrap x0)).1.acked), .int .i64 ((Le.getE l (IntKind.u32.wrap x0)).1.told), .int .i64 ((Le.getE l (IntKind.u32.wrap x0)).1.at_), .int .i64 ((Le.getE l (IntKind.u32.wrap x0)).1.ver)] 69 (0, 0))], [(b1, .cells #[.int .i64 x0, .int .i64 x1, .int .i64 x2] 90 (0, 0))], q10, q11, s1, q12, [(rx, .cells #[.slice pl l.length cl] 94 (0, 0))], ql]) Z ?_
   refine Run.heapTo (H' := [[(b9, .cells #[.int .u32 ((Le.getE l (IntKind.u32.wrap x0)).1.addr), .int .i64 ((Le.getE l (IntKind.u32.wrap x0)).1.bind), .string ((Le.getE l (IntKind.u32.wrap x0)).1.client), .int .i64 ((Le.getE l (IntKind.u32.wrap x0)).1.till), .int .i64 ((Le.getE l (IntKind.u32.wrap x0)).1.acked), .int .i64 ((Le.getE l (IntKind.u32.wrap x0)).1.told), .int .i64 ((Le.getE l (IntKind.u32.wrap x0)).1.at_), .int .i64 ((Le.getE l (IntKind.u32.wrap x0)).1.ver)] 69 (0, 0))], [(b8, .cells #[.int .u32 ((Le.getE l (IntKind.u32.wrap x0)).1.addr), .int .i64 ((Le.getE l (IntKind.u32.wrap x0)).1.bind), .string ((Le.getE l (IntKind.u32.wrap x0)).1.client), .int .i64 ((Le.getE l (IntKind.u32.wrap x0)).1.till), .int .i64 ((Le.getE l (IntKind.u32.wrap x0)).1.acked), .int .i64 ((Le.getE l (IntKind.u32.wrap x0)).1.told), .int .i64 ((Le.getE l (IntKind.u32.wrap x0)).1.at_), .int .i64 ((Le.getE l (IntKind.u32.wrap x0)).1.ver)] 69 (0, 0))], [(b1, .cells #[.int .i64 x0, .int .i64 x1, .int .i64 x2] 90 (0, 0))], q10, q11, s1, q12, [(rx, .cells #[.slice pl l.length cl] 94 (0, 0))], ql]) Z ?_
   refine Ze<|Ex.anyD (ZK 2 Z)<|?_
   refine RunD.one (i := 8) WK rfl  ?_ 
   refine Run.call0 (l := [.tmp 86, .tmp 90]) rfl rfl rfl (lt rfl) (same11_c (ho11.rd 4 rfl) (ho12.rd 6 rfl) rfl (by first | omega | exact Nat.le_trans (Le.due_few _ l) W | exact Nat.le_trans (Le.fil_le _ l) W))<|Ze<|Ex.anyD (ZK 2 Z)<|RunD.pure (i := 9) rfl WK WK WK (fun _ _ _ h => h) (lt rfl) (ZK 2 Z) (fun _ => (Y.assign rfl))<|RunD.done WK<|Zg<|Zs<|Tr.quiet Law12b_mo WK<|?_
   refine ZV (Y.loadAgg Z Law12b_ag69 (Kn.at 1 Z) Z)<|ZV (Y.loadAgg Z Law12b_ag69 (Kn.at 0 Z) Z)<|ZV (Y.eqS Z Z Law12b_tgs69 Z Z)<|ZM Z<|ZP (Le.same_self _)<|ZM Z<|ZP (Le.same_self _)<|ZM Z<|ZP (Le.same_self _)<|ZV (Y.eqI_t Z Z)<|ZV (Y.pick_t Z (Le.same_self _) Z)<|ZM Z<|ZP Z<|ZM Z<|ZP Z<|ZM Z<|?_
   refine ZP Z<|ZV (Y.eqI_t Z Z)<|ZV (Y.pick_t Z Z Z)<|ZM Z<|ZP Z<|ZM Z<|ZP Z<|ZM Z<|ZP Z<|ZV (Y.eqB_t Z Z Law12b_tg4)<|ZV (Y.pick_t Z Z Z)<|ZM Z<|ZP Z<|ZM Z<|ZV (Y.pick_t Z Z Z)<|ZM Z<|?_
   refine ZP Z<|ZM Z<|ZV (Y.pick_t Z Z Z)<|ZM Z<|ZP Z<|ZM Z<|ZP Z<|ZV (Y.idxArr Z Z Law12b_al90 WD WD)<|ZP Z<|ZV (Y.load Z Law12b_ts3 (Kn.at 2 Z) Z)<|ZP Z<|RunQ.call0 (l := [.tmp 117, .tmp 119]) Z Z Z (lt Z) (Does.frame1 5 Z (count_o (bd := x1) hin))<|ZP Z<|ZM Z<|ZP Z<|ZV (Y.idxArr Z Z Law12b_al90 WD WD)<|?_
   refine ZP Z<|ZV (Y.load Z Law12b_ts3 (Kn.at 2 Z) Z)<|ZP Z<|RunQ.call0 (l := [.tmp 121, .tmp 123]) Z Z Z (lt Z) ((rcount12_c (b := x1) hl hlm).frameP (pull_perm [7, 7] [[(b9, .cells #[.int .u32 ((Le.getE l (IntKind.u32.wrap x0)).1.addr), .int .i64 ((Le.getE l (IntKind.u32.wrap x0)).1.bind), .string ((Le.getE l (IntKind.u32.wrap x0)).1.client), .int .i64 ((Le.getE l (IntKind.u32.wrap x0)).1.till), .int .i64 ((Le.getE l (IntKind.u32.wrap x0)).1.acked), .int .i64 ((Le.getE l (IntKind.u32.wrap x0)).1.told), .int .i64 ((Le.getE l (IntKind.u32.wrap x0)).1.at_), .int .i64 ((Le.getE l (IntKind.u32.wrap x0)).1.ver)] 69 (0, 0))], [(b8, .cells #[.int .u32 ((Le.getE l (IntKind.u32.wrap x0)).1.addr), .int .i64 ((Le.getE l (IntKind.u32.wrap x0)).1.bind), .string ((Le.getE l (IntKind.u32.wrap x0)).1.client), .int .i64 ((Le.getE l (IntKind.u32.wrap x0)).1.till), .int .i64 ((Le.getE l (IntKind.u32.wrap x0)).1.acked), .int .i64 ((Le.getE l (IntKind.u32.wrap x0)).1.told), .int .i64 ((Le.getE l (IntKind.u32.wrap x0)).1.at_), .int .i64 ((Le.getE l (IntKind.u32.wrap x0)).1.ver)] 69 (0, 0))], [(b1, .cells #[.int .i64 x0, .int .i64 x1, .int .i64 x2] 90 (0, 0))], q10, q11, s1, q12, [(rx, .cells #[.slice pl l.length cl] 94 (0, 0))], ql]))<|?_
   refine ZP Z<|ZV (Y.eqI_t Z Z)<|ZV (Y.pick_t Z Z Z)<|ZA Z<|ZE<|Zg<|Zu<|Ex.keep []<|?_
   exact Ex.ret1 rfl rfl  rfl
  ·refine Zm Z<|Zm Z<|?_
   refine Run.call [] (l := [.tmp 33, .tmp 34]) rfl rfl rfl (lt rfl) (made_c hv hok hv2 hcs W W) (fun v13 V13 H13 hle13 hR13 => ?_)
   obtain ⟨_, rfl, rfl⟩ := hR13.2.resolve_right fun h9 => hp0 h9.1
   replace hv := hv.le hle13
   replace hv2 := hv2.le hle13
   replace hVle := Vw.le_trans hVle hle13
   refine Run.heapTo (H' := [[(b1, .cells #[.int .i64 x0, .int .i64 x1, .int .i64 x2] 90 (0, 0))]]) Z<|Run.heapTo (H' := [[(b1, .cells #[.int .i64 x0, .int .i64 x1, .int .i64 x2] 90 (0, 0))]]) Z<|Zm Z<|Zv (Y.extract Z Z)<|Zv (Y.extract Z Z)<|Zv (Y.extract Z Z)<|Za Z<|Za Z<|Za Z<|Ze<|Zg<|Zs<|Zs<|Zr<|Zm Z<|Zv (Y.not Z)<|?_
   refine Zm Z<|Zp Z<|Zm Z<|Zp Z<|Zv (Y.eqNil Z Z Law12b_pt71)<|Zv (Y.pick_f Z Z Z)<|Ze<|Zg<|Tr.cond_t Z Z<|Zs<|Zr<|Zm Z<|Za Z<|Ze<|Zg<|Zu<|?_
   refine Zn<|Ex.keep []<|?_
   exact Ex.ret1 rfl rfl  rfl

set_option maxHeartbeats 1000000 in
theorem tdue_c {V : Vw} {rs : List Rg} {p : Option Addr} {c : Nat} (hv : Rd V [] 2 (.slice p rs.length c) rs.length (rs.flatMap Rg.cells)) (hok : Rg.Oks rs) {ls : List Le} {p2 : Option Addr} {c2 : Nat} (hv2 : Rd V [] 8 (.slice p2 ls.length c2) ls.length (ls.flatMap Le.cells)) (hcs : ∀ x, x ∈ ls → x.client.size ≤ 9223372036854775807) (hl9 : ls.length ≤ 9223372036854775807) {x0 x1 : Int}  : Does Try.prog 11 [.slice p rs.length c, .slice p2 ls.length c2, .agg #[.int .i64 x0, .int .i64 x1]] V [] (fun v _ _ => v = .bool true) := by
 refine Does.intro Try.func11 rfl rfl (le rfl) (fun B => ?_)
 refine Zs<|Zr<|?_
 refine Run.box rfl (lt rfl) (fun b1 => ?_)
 refine Za Z<|Ze<|Zg<|Zs<|Zr<|?_
 refine Run.call [] (l := []) rfl rfl rfl (lt rfl) (awake12_c) (fun v2 V2 H2 hle2 hR2 => ?_)
 obtain ⟨_, rfl, rfl⟩ := hR2
 replace hv := hv.le hle2
 replace hv2 := hv2.le hle2
 have hVle := hle2
 refine Run.heapTo (H' := [[(b1, .cells #[.int .i64 x0, .int .i64 x1] 31 (0, 0))]]) Z<|Run.heapTo (H' := [[(b1, .cells #[.int .i64 x0, .int .i64 x1] 31 (0, 0))]]) Z<|Za Z<|Ze<|Zg<|Zs<|Zr<|Zm Z<|Zm Z<|Run.call0 (l := [.tmp 19, .tmp 20]) rfl rfl rfl (lt rfl) (long_c (n0 := rs.length) hv2.of_nil W)<|Za Z<|Ze<|Zg<|Zs<|Zs<|Zr<|?_
 refine Zm Z<|Zv (Y.not Z)<|Zm Z<|Zp Z<|Zm Z<|Zv (Y.pick_f Z Z Z)<|Zm Z<|?_
 rcases Zsplit (Le.long rs.length ls) with ⟨h3, g3⟩ | ⟨h3, g3⟩ <;> try simp only [kb] at g3
 ·refine Zo h3 Z<|Zo h3 Z<|Zo h3 Z<|Zo h3 Z<|Zo h3 Z<|Zv (Y.pick_t Z h3 Z)<|Ze<|Zg<|Tr.cond_t Z Z<|Zs<|Zr<|Zm Z<|Za Z<|Ze<|Zg<|Zu<|?_
  refine Zn<|Ex.keep []<|?_
  exact Ex.ret1 rfl rfl  rfl
 ·obtain ⟨hlg4, hlg5⟩ := Le.long_f h3
  refine Zp h3<|Zv (Y.idxArr Z Z Law12b_al31 WD WD)<|Zp h3<|Zv (Y.load Z Law12b_ts3 (Kn.at 0 Z) Z)<|Zp h3<|Zv (Y.idxArr Z Z Law12b_al31 WD WD)<|Zp h3<|Zv (Y.load Z Law12b_ts3 (Kn.at 0 Z) Z)<|Zp h3<|Zv (Y.int Z Z Z)<|Zv (Y.pick_f Z h3 Z)<|Ze<|Zg<|?_
  rcases Zsplit (decide (x0 > x1)) with ⟨h6, g6⟩ | ⟨h6, g6⟩ <;> try simp only [kb] at g6
  ·refine Tr.cond_t Z h6<|Zs<|Zr<|Zm Z<|Za Z<|Ze<|Zg<|Zu<|Zn<|Ex.keep []<|?_
   exact Ex.ret1 rfl rfl  rfl
  ·refine Tr.cond_f Z h6<|Zt<|Zg<|Zs<|Zr<|?_
   by_cases hp0 : (Rg.pool rs).2 = 0
   ·refine Zm Z<|Zm Z<|?_
    refine Run.call [] (l := [.tmp 36, .tmp 37]) rfl rfl rfl (lt rfl) (made_c hv hok hv2 hcs W W) (fun v7 V7 H7 hle7 hR7 => ?_)
    rcases hR7 with ⟨_, ⟨hpn, _⟩ | ⟨_, l, tx, rx, s1, pl, cl, ql, rfl, hin, hl, hnl, rfl⟩⟩
    · exact absurd hp0 hpn
    replace hv := hv.le hle7
    replace hv2 := hv2.le hle7
    replace hVle := Vw.le_trans hVle hle7
    obtain ⟨hr, hlm, _⟩ := id hin
    refine Run.heapTo (H' := [[(b1, .cells #[.int .i64 x0, .int .i64 x1] 31 (0, 0))], s1, [(rx, .cells #[.slice pl l.length cl] 94 (0, 0))], ql]) Z<|Run.heapTo (H' := [[(b1, .cells #[.int .i64 x0, .int .i64 x1] 31 (0, 0))], s1, [(rx, .cells #[.slice pl l.length cl] 94 (0, 0))], ql]) Z<|Zm Z<|Zv (Y.extract Z Z)<|Zv (Y.extract Z Z)<|Zv (Y.extract Z Z)<|Za Z<|Za Z<|Za Z<|Ze<|Zg<|Zs<|Zs<|Zr<|Zm Z<|Zv (Y.not Z)<|?_
    refine Zm Z<|Zp Z<|Zm Z<|Zp Z<|Zv (Y.eqNil Z Z Law12b_pt71)<|Zv (Y.pick_f Z Z Z)<|Ze<|Zg<|Tr.cond_f Z Z<|Zt<|Zg<|Zs<|Zr<|Zm Z<|Zv (Y.idxArr Z Z Law12b_al31 WD WD)<|Zv (Y.load Z Law12b_ts3 (Kn.at 0 Z) Z)<|?_
    refine Run.call [1] (l := [.tmp 49, .tmp 51]) rfl rfl rfl (lt rfl) (due_o hin) (fun v8 V8 H8 hle8 hR8 => ?_)
    obtain ⟨hV, q8, ho8, rfl⟩ := hR8; replace hV := hV.symm; subst hV
    obtain ⟨p8, c8, rfl⟩ := ho8.form
    refine Run.heapTo (H' := [[(b1, .cells #[.int .i64 x0, .int .i64 x1] 31 (0, 0))], [(rx, .cells #[.slice pl l.length cl] 94 (0, 0))], ql, q8, s1]) Z<|Run.heapTo (H' := [[(b1, .cells #[.int .i64 x0, .int .i64 x1] 31 (0, 0))], [(rx, .cells #[.slice pl l.length cl] 94 (0, 0))], ql, q8, s1]) Z<|Za Z<|Ze<|Zg<|Zs<|Zr<|Zm Z<|Zv (Y.idxArr Z Z Law12b_al31 WD WD)<|Zv (Y.load Z Law12b_ts3 (Kn.at 0 Z) Z)<|?_
    refine Run.call [4] (l := [.tmp 53, .tmp 55]) rfl rfl rfl (lt rfl) (due_o hin) (fun v9 V9 H9 hle9 hR9 => ?_)
    obtain ⟨hV, q9, ho9, rfl⟩ := hR9; replace hV := hV.symm; subst hV
    obtain ⟨p9, c9, rfl⟩ := ho9.form
    refine Run.heapTo (H' := [[(b1, .cells #[.int .i64 x0, .int .i64 x1] 31 (0, 0))], [(rx, .cells #[.slice pl l.length cl] 94 (0, 0))], ql, q8, q9, s1]) Z<|Run.heapTo (H' := [[(b1, .cells #[.int .i64 x0, .int .i64 x1] 31 (0, 0))], [(rx, .cells #[.slice pl l.length cl] 94 (0, 0))], ql, q8, q9, s1]) Z<|Za Z<|Ze<|Zg<|Zs<|Zr<|Zm Z<|?_
    refine Run.call [5] (l := [.tmp 57]) rfl rfl rfl (lt rfl) (all_o hin) (fun v10 V10 H10 hle10 hR10 => ?_)
    obtain ⟨hV, q10, ho10, rfl⟩ := hR10; replace hV := hV.symm; subst hV
    obtain ⟨p10, c10, rfl⟩ := ho10.form
    refine Run.heapTo (H' := [[(b1, .cells #[.int .i64 x0, .int .i64 x1] 31 (0, 0))], [(rx, .cells #[.slice pl l.length cl] 94 (0, 0))], ql, q8, q9, q10, s1]) Z<|Run.heapTo (H' := [[(b1, .cells #[.int .i64 x0, .int .i64 x1] 31 (0, 0))], [(rx, .cells #[.slice pl l.length cl] 94 (0, 0))], ql, q8, q9, q10, s1]) Z<|Za Z<|Ze<|Zg<|Zs<|Zr<|Run.keepTo (H' := [[(b1, .cells #[.int .i64 x0, .int .i64 x1] 31 (0, 0))], q8, q9, q10]) [0, 2, 2, 2] Z<|?_
    have hdc := Le.due_cnt hr x0
    have hcp2 := ho9.cap
    have hdf := Le.due_few x0 l
    obtain ⟨hdp, hdl⟩ := Le.due_pre hr (a := x0) (b := x1) W
    refine Za Z<|Ze<|Zg<|Zs<|Zs<|Zr<|Za Z<|Ze<|Zg<|Zb<|?_
    refine ZL (X := Nat × Nat) (fun z0 => V7) (fun z0 => [[(b1, .cells #[.int .i64 x0, .int .i64 x1] 31 (0, 0))], q8, q9, q10]) (fun z0 => [(5, .pointer (some ⟨b1, 0, none⟩)), (12, .slice p8 (Le.dueR x0 l).length c8), (13, .slice p9 (Le.dueR x1 l).length c9), (14, .slice p10 (l).length c10), (15, .int .i64 (z0.2 : Int)), (16, .int .i64 (z0.1 : Int))]) (fun z0 => z0.2 = ((l.take z0.1).filter (Le.isdue x0)).length ∧ z0.1 ≤ l.length) (fun z0 => l.length - z0.1) (⟨0, 0⟩ : Nat × Nat) ⟨rfl, Nat.zero_le _⟩ ?_
    rintro ⟨i1, n1⟩ ⟨hn, hi⟩
    try dsimp only at hn hi ⊢
    have hfl := Le.fil_le (Le.isdue x0) (l.take i1)
    rw [← hn, List.length_take] at hfl
    refine Zs<|Zs<|Zr<|Zm Z<|Zm Z<|Zv (Y.lenSl Z Law12b_es67)<|Zv (Y.int Z Z Z)<|Ze<|Zg<|?_
    rcases Zsplit (decide ((i1 : Int) < (((l).length : Nat) : Int))) with ⟨h11, g11⟩ | ⟨h11, g11⟩ <;> try simp only [kb] at g11
    ·refine Tr.cond_t Z h11<|Zt<|Zg<|Zs<|Zb<|Zs<|Tr.quiet Law12b_mo WK<|ZM Z<|ZM Z<|ZV (Y.idxR i1 Z Z Law12b_es67 (ho10.rd 3 rfl) W W)<|ZV (Y.fieldR Z Law12b_fo69_1 (ho10.rd 3 rfl) W)<|ZV (Y.ldR Z Law12b_ts3 (ho10.rd 3 rfl) (flatm_at Le.len W Le.dflt WD rfl))<|ZV (Y.int Z Z Z)<|ZM Z<|?_
     rcases Zsplit (((l.getD i1 Le.dflt).bind) == 2) with ⟨h12, g12⟩ | ⟨h12, g12⟩ <;> try simp only [kb] at g12
     ·refine ZP h12<|ZM Z<|ZP h12<|ZM Z<|ZP h12<|ZV (Y.idxR i1 Z Z Law12b_es67 (ho10.rd 3 rfl) W W)<|ZP h12<|ZV (Y.fieldR Z Law12b_fo69_3 (ho10.rd 3 rfl) W)<|ZP h12<|ZV (Y.ldR Z Law12b_ts3 (ho10.rd 3 rfl) (flatm_at Le.len W Le.dflt WD rfl))<|ZP h12<|ZV (Y.idxArr Z Z Law12b_al31 WD WD)<|ZP h12<|ZV (Y.load Z Law12b_ts3 (Kn.at 0 Z) Z)<|ZP h12<|ZV (Y.int Z Z Z)<|?_
      refine ZV (Y.pick_t Z h12 Z)<|ZE<|Zg<|?_
      rcases Zsplit (decide (((l.getD i1 Le.dflt).till) ≤ x0)) with ⟨h13, g13⟩ | ⟨h13, g13⟩ <;> try simp only [kb] at g13
      ·refine Tr.cond_t Z h13<|Zr<|Zm Z<|Zv (Y.add Z Z W)<|Za Z<|Ze<|Zc<|Zg<|Zr<|Zm Z<|Zv (Y.add Z Z W)<|Za Z<|Ze<|Ex.keep [0, 0, 0, 0]<|?_
       exact ZR (⟨i1 + 1, n1 + 1⟩ : Nat × Nat) ⟨by rw [Le.cntdue_yes W W W]; omega, by omega⟩ (by dsimp only; omega)
      ·refine Tr.cond_f Z h13<|Zt<|Zc<|Zg<|Zr<|Zm Z<|Zv (Y.add Z Z W)<|Za Z<|Ze<|Ex.keep [0, 0, 0, 0]<|?_
       exact ZR (⟨i1 + 1, n1⟩ : Nat × Nat) ⟨by rw [Le.cntdue_no W W]; exact hn, by omega⟩ (by dsimp only; omega)
     ·refine ZO h12 Z<|ZO h12 Z<|ZO h12 Z<|ZO h12 Z<|ZO h12 Z<|ZO h12 Z<|ZO h12 Z<|ZO h12 Z<|ZV (Y.pick_f Z h12 Z)<|ZE<|Zg<|Tr.cond_f Z Z<|Zt<|Zc<|Zg<|Zr<|?_
      refine Zm Z<|Zv (Y.add Z Z W)<|Za Z<|Ze<|Ex.keep [0, 0, 0, 0]<|?_
      exact ZR (⟨i1 + 1, n1⟩ : Nat × Nat) ⟨by rw [Le.cntdue_no W W]; exact hn, by omega⟩ (by dsimp only; omega)
    ·refine Tr.cond_f Z h11<|Zx<|Zy<|Zy<|Zi<|Zg<|Zs<|Zs<|Zr<|?_
     obtain rfl : i1 = l.length := by omega
     rw [List.take_length, hdc] at hn
     refine Za Z<|Ze<|Zg<|Zb<|?_
     refine ZL (X := Nat) (fun z0 => V7) (fun z0 => [[(b1, .cells #[.int .i64 x0, .int .i64 x1] 31 (0, 0))], q8, q9, q10]) (fun z0 => [(5, .pointer (some ⟨b1, 0, none⟩)), (12, .slice p8 (Le.dueR x0 l).length c8), (13, .slice p9 (Le.dueR x1 l).length c9), (14, .slice p10 (l).length c10), (15, .int .i64 (n1 : Int)), (17, .int .i64 ((z0 + 1 : Nat) : Int))]) (fun z0 => z0 ≤ (Le.dueR x0 l).length) (fun z0 => (Le.dueR x0 l).length - z0) (0 : Nat) (Nat.zero_le _) ?_
     rintro k1 hk
     refine Zs<|Zs<|Zr<|Zm Z<|Zm Z<|Zv (Y.lenSl Z Law12b_es67)<|Zv (Y.int Z Z Z)<|Ze<|Zg<|?_
     rcases Zsplit (decide (((k1 + 1 : Nat) : Int) < (((Le.dueR x0 l).length : Nat) : Int))) with ⟨h14, g14⟩ | ⟨h14, g14⟩ <;> try simp only [kb] at g14
     ·refine Tr.cond_t Z h14<|Zt<|Zg<|Zs<|Zb<|Zs<|Tr.quiet Law12b_mo WK<|?_
      have hnx := Le.due_next hr (now := x0) (i := k1) W
      refine ZM Z<|ZM Z<|ZV (Y.sub Z Z W)<|ZV (Y.idxR k1 Z Z Law12b_es67 (ho8.rd 1 rfl) W W)<|ZV (Y.fieldR Z Law12b_fo69_3 (ho8.rd 1 rfl) W)<|ZV (Y.ldR Z Law12b_ts3 (ho8.rd 1 rfl) (flatm_at Le.len W Le.dflt WD rfl))<|ZM Z<|ZM Z<|ZV (Y.idxR (k1 + 1) rfl rfl Law12b_es67 (ho8.rd 1 rfl) W W)<|ZV (Y.fieldR Z Law12b_fo69_3 (ho8.rd 1 rfl) W)<|ZV (Y.ldR Z Law12b_ts3 (ho8.rd 1 rfl) (flatm_at Le.len W Le.dflt WD rfl))<|?_
      refine ZV (Y.int Z Z Z)<|ZM Z<|?_
      rcases Zsplit (decide ((((Le.dueR x0 l).getD k1 Le.dflt).till) > (((Le.dueR x0 l).getD (k1 + 1) Le.dflt).till))) with ⟨h15, g15⟩ | ⟨h15, g15⟩ <;> try simp only [kb] at g15
      ·refine ZO h15 Z<|ZO h15 Z<|ZO h15 Z<|ZO h15 Z<|ZO h15 Z<|ZO h15 Z<|ZO h15 Z<|ZO h15 Z<|ZO h15 Z<|ZO h15 Z<|ZO h15 Z<|ZO h15 Z<|ZO h15 Z<|RunQ.off_u Z Z Z Z (lt Z)<|RunQ.off_u Z Z Z Z (lt Z)<|RunQ.off_u Z Z Z Z (lt Z)<|?_
       refine RunQ.off_u Z Z Z Z (lt Z)<|RunQ.off_u Z Z Z Z (lt Z)<|RunQ.off_u Z Z Z Z (lt Z)<|RunQ.off_u Z Z Z Z (lt Z)<|RunQ.off_u Z Z Z Z (lt Z)<|RunQ.off_u Z Z Z Z (lt Z)<|RunQ.off_u Z Z Z Z (lt Z)<|RunQ.off_u Z Z Z Z (lt Z)<|RunQ.off_u Z Z Z Z (lt Z)<|ZO h15 Z<|ZV (Y.pick_t Z h15 Z)<|ZE<|Zg<|Tr.cond_t Z Z<|Zs<|Zr<|?_
       refine Za Z<|Ze<|Zg<|Zu<|Zk<|Zn<|Zn<|Zk<|Zn<|Ex.keep []<|?_
       exact Ex.ret1 rfl rfl  (by exfalso; omega)
      ·refine ZP h15<|ZM Z<|ZP h15<|ZM Z<|ZP h15<|ZV (Y.sub Z Z W)<|ZP h15<|ZV (Y.idxR k1 Z Z Law12b_es67 (ho8.rd 1 rfl) W W)<|ZP h15<|ZV (Y.fieldR Z Law12b_fo69_3 (ho8.rd 1 rfl) W)<|ZP h15<|ZV (Y.ldR Z Law12b_ts3 (ho8.rd 1 rfl) (flatm_at Le.len W Le.dflt WD rfl))<|ZP h15<|ZM Z<|ZP h15<|ZM Z<|?_
       refine ZP h15<|ZV (Y.idxR (k1 + 1) rfl rfl Law12b_es67 (ho8.rd 1 rfl) W W)<|ZP h15<|ZV (Y.fieldR Z Law12b_fo69_3 (ho8.rd 1 rfl) W)<|ZP h15<|ZV (Y.ldR Z Law12b_ts3 (ho8.rd 1 rfl) (flatm_at Le.len W Le.dflt WD rfl))<|ZP h15<|ZV (Y.int Z Z Z)<|ZP h15<|ZM Z<|?_
       rcases Zsplit ((((Le.dueR x0 l).getD k1 Le.dflt).till) == (((Le.dueR x0 l).getD (k1 + 1) Le.dflt).till)) with ⟨h16, g16⟩ | ⟨h16, g16⟩ <;> try simp only [kb] at g16
       ·refine ZP h16<|ZM Z<|ZP h16<|ZM Z<|ZP h16<|ZV (Y.sub Z Z W)<|ZP h16<|ZV (Y.idxR k1 Z Z Law12b_es67 (ho8.rd 1 rfl) W W)<|ZP h16<|ZV (Y.fieldR Z Law12b_fo69_0 (ho8.rd 1 rfl) W)<|ZP h16<|ZV (Y.ldR Z Law12b_ts30 (ho8.rd 1 rfl) (flatm_at Le.len W Le.dflt WD rfl))<|ZP h16<|ZM Z<|ZP h16<|ZM Z<|?_
        refine ZP h16<|ZV (Y.idxR (k1 + 1) rfl rfl Law12b_es67 (ho8.rd 1 rfl) W W)<|ZP h16<|ZV (Y.fieldR Z Law12b_fo69_0 (ho8.rd 1 rfl) W)<|ZP h16<|ZV (Y.ldR Z Law12b_ts30 (ho8.rd 1 rfl) (flatm_at Le.len W Le.dflt WD rfl))<|ZP h16<|ZV (Y.int Z Z Z)<|ZP h15<|ZV (Y.pick_t Z h16 Z)<|ZV (Y.pick_f Z h15 Z)<|ZE<|Zg<|?_
        rcases Zsplit (decide ((((Le.dueR x0 l).getD k1 Le.dflt).addr) ≥ (((Le.dueR x0 l).getD (k1 + 1) Le.dflt).addr))) with ⟨h17, g17⟩ | ⟨h17, g17⟩ <;> try simp only [kb] at g17
        ·refine Tr.cond_t Z h17<|Zs<|Zr<|Za Z<|Ze<|Zg<|Zu<|Zk<|Zn<|Zn<|Zk<|Zn<|Ex.keep []<|?_
         exact Ex.ret1 rfl rfl  (by exfalso; omega)
        ·refine Tr.cond_f Z h17<|Zt<|Zc<|Zg<|Zr<|Zm Z<|Zv (Y.add Z Z W)<|Za Z<|Ze<|Ex.keep [0, 0, 0, 0]<|?_
         exact ZR (k1 + 1 : Nat) W W
       ·refine ZO h16 Z<|ZO h16 Z<|ZO h16 Z<|ZO h16 Z<|ZO h16 Z<|ZO h16 Z<|ZO h16 Z<|ZO h16 Z<|ZO h16 Z<|ZO h16 Z<|ZO h16 Z<|ZO h16 Z<|ZP h15<|ZV (Y.pick_f Z h16 Z)<|ZV (Y.pick_f Z h15 Z)<|ZE<|?_
        refine Zg<|Tr.cond_f Z Z<|Zt<|Zc<|Zg<|Zr<|Zm Z<|Zv (Y.add Z Z W)<|Za Z<|Ze<|Ex.keep [0, 0, 0, 0]<|?_
        exact ZR (k1 + 1 : Nat) W W
     ·refine Tr.cond_f Z h14<|Zx<|Zy<|Zy<|Zi<|Zg<|Zs<|Zr<|Zm Z<|Zm Z<|Zv (Y.lenSl Z Law12b_es67)<|Zv (Y.int Z Z Z)<|Zm Z<|?_
      rcases Zsplit ((n1 : Int) == (((Le.dueR x0 l).length : Nat) : Int)) with ⟨h18, g18⟩ | ⟨h18, g18⟩ <;> try simp only [kb] at g18
      ·refine Zp h18<|Zm Z<|Zp h18<|Zv (Y.lenSl Z Law12b_es67)<|Zp h18<|Zm Z<|Zp h18<|Zv (Y.int Z Z Z)<|Zv (Y.pick_t Z h18 Z)<|Zm Z<|?_
       rcases Zsplit (decide ((((Le.dueR x1 l).length : Nat) : Int) ≥ (n1 : Int))) with ⟨h19, g19⟩ | ⟨h19, g19⟩ <;> try simp only [kb] at g19
       ·refine Zp h19<|Zm Z<|Zp h19<|Zm Z<|Zp h19<|Zv (Y.slice (l := 0) (m := n1) Z Law12b_es67 rfl rfl W W)<|Zp h19<|Zm Z<|Zp h19<|?_
        have hcut : ((Le.dueR x1 l).drop 0).take (n1 - 0) = Le.dueR x0 l := by rw [List.drop_zero, Nat.sub_zero, hn]; exact hdp
        refine Run.call0 (l := [.tmp 142, .tmp 143]) rfl rfl rfl (lt rfl) (same11_x (Rd.cut Le.len (ho9.rd 2 rfl) 0 n1 W W) (by rw [hcut]; omega) (ho8.rd 1 rfl) (by rw [hcut]; omega) hcut)<|Zv (Y.pick_t Z h19 Z)<|Za Z<|Ze<|Zg<|Zu<|Ex.keep []<|?_
        exact Ex.ret1 rfl rfl  rfl
       ·refine Zo h19 Z<|Zo h19 Z<|Zo h19 Z<|Zo h19 Z<|Zo h19 Z<|Zv (Y.pick_f Z h19 Z)<|Za Z<|Ze<|Zg<|Zu<|Ex.keep []<|?_
        exact Ex.ret1 rfl rfl  (by exfalso; omega)
      ·refine Zo h18 Z<|Zo h18 Z<|Zo h18 Z<|Zo h18 Z<|Zv (Y.pick_f Z h18 Z)<|Zm Z<|Zo Z Z<|Zo Z Z<|Zo Z Z<|Zo Z Z<|Zo Z Z<|Zv (Y.pick_f Z Z Z)<|Za Z<|Ze<|Zg<|Zu<|?_
       refine Ex.keep [] ?_
       exact Ex.ret1 rfl rfl  (by exfalso; omega)
   ·refine Zm Z<|Zm Z<|?_
    refine Run.call [] (l := [.tmp 36, .tmp 37]) rfl rfl rfl (lt rfl) (made_c hv hok hv2 hcs W W) (fun v20 V20 H20 hle20 hR20 => ?_)
    obtain ⟨_, rfl, rfl⟩ := hR20.2.resolve_right fun h9 => hp0 h9.1
    replace hv := hv.le hle20
    replace hv2 := hv2.le hle20
    replace hVle := Vw.le_trans hVle hle20
    refine Run.heapTo (H' := [[(b1, .cells #[.int .i64 x0, .int .i64 x1] 31 (0, 0))]]) Z<|Run.heapTo (H' := [[(b1, .cells #[.int .i64 x0, .int .i64 x1] 31 (0, 0))]]) Z<|Zm Z<|Zv (Y.extract Z Z)<|Zv (Y.extract Z Z)<|Zv (Y.extract Z Z)<|Za Z<|Za Z<|Za Z<|Ze<|Zg<|Zs<|Zs<|Zr<|Zm Z<|Zv (Y.not Z)<|?_
    refine Zm Z<|Zp Z<|Zm Z<|Zp Z<|Zv (Y.eqNil Z Z Law12b_pt71)<|Zv (Y.pick_f Z Z Z)<|Ze<|Zg<|Tr.cond_t Z Z<|Zs<|Zr<|Zm Z<|Za Z<|Ze<|Zg<|Zu<|?_
    refine Zn<|Ex.keep []<|?_
    exact Ex.ret1 rfl rfl  rfl

theorem tablescripts_h {V : Vw} {rs : List Rg} {v0 v1 : Value} (hv : Rd V [] 2 v0 rs.length (rs.map Rg.cells).flatten) (hok : ∀ r, r ∈ rs → Rg.Ok r) {ls : List Le} (hv2 : Rd V [] 8 v1 ls.length (ls.map Le.cells).flatten) (hcs : ∀ x, x ∈ ls → Le.Ok x) (hl9 : ls.length ≤ 9223372036854775807) {x0 x1 x2 : Int} : Does Try.prog 12 [v0, v1, .agg #[.int .i64 x0, .int .i64 x1, .int .i64 x2]] V [] (fun v _ _ => v = .bool true) := by
  obtain ⟨p, c, rfl, _⟩ := hv.form
  obtain ⟨p2, c2, rfl, _⟩ := hv2.form
  rw [← List.flatMap_def] at hv hv2
  exact tscripts_c hv hok hv2 (fun x hx => (hcs x hx).client) hl9

theorem tabledue_h {V : Vw} {rs : List Rg} {v0 v1 : Value} (hv : Rd V [] 2 v0 rs.length (rs.map Rg.cells).flatten) (hok : ∀ r, r ∈ rs → Rg.Ok r) {ls : List Le} (hv2 : Rd V [] 8 v1 ls.length (ls.map Le.cells).flatten) (hcs : ∀ x, x ∈ ls → Le.Ok x) (hl9 : ls.length ≤ 9223372036854775807) {x0 x1 : Int} : Does Try.prog 11 [v0, v1, .agg #[.int .i64 x0, .int .i64 x1]] V [] (fun v _ _ => v = .bool true) := by
  obtain ⟨p, c, rfl, _⟩ := hv.form
  obtain ⟨p2, c2, rfl, _⟩ := hv2.form
  rw [← List.flatMap_def] at hv hv2
  exact tdue_c hv hok hv2 (fun x hx => (hcs x hx).client) hl9
end Go.Proofs.Ytpdnkhdmajmbiaa
