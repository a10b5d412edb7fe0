/- StoreOpens and StoreScripts, walked.
Conditions: as each theorem names them. -/
import Derived.Test.YtinkencbkcciiaaGreatProg
import Derived.Test.YtinkencbkcciiaaGreatLaw13
import Derived.Test.YtinkencbkcciiaaGreatKJ
import Derived.Test.YtinkencbkcciiaaGreatZG
set_option linter.unusedSimpArgs false
set_option linter.unusedVariables false
set_option maxRecDepth 4000
namespace Go.Proofs.YtinkencbkcciiaaGreat
open Go Go.K
attribute [local irreducible] Code.wp wpList Calls wpQuiet
theorem Law13b_es22 : elemS Tryz.prog 22 = some (5, 1) := by kernel_rfl
theorem Law13b_es23 : elemS Tryz.prog 23 = some (101, 2) := by kernel_rfl
theorem Law13b_pt33 : ptrT Tryz.prog 33 = true := by kernel_rfl
theorem Law13b_pt36 : ptrT Tryz.prog 36 = true := by kernel_rfl
theorem Law13b_tg4 : tagOf Tryz.prog 4 = some (1, .i64) := by kernel_rfl

theorem opens13_c {V : Vw} {bs : Bts} {p : Option Addr} {c : Nat} (hv : Rd V [] 1 (.slice p bs.length c) bs.length (bs.map byteV)) {rs : List Rg} {p2 : Option Addr} {c2 : Nat} (hv2 : Rd V [] 2 (.slice p2 rs.length c2) rs.length (rs.flatMap Rg.cells)) (hok : Rg.Oks rs)  : Does Tryz.prog 3 [.slice p bs.length c, .slice p2 rs.length c2] V [] (fun v _ _ => v = .bool true) := by
 refine Does.intro Tryz.func3 rfl rfl (le rfl) (fun B => ?_)
 refine Zs<|Zr<|Za Z<|Ze<|Zg<|Zs<|Zr<|?_
 refine Run.call [] (l := []) rfl rfl rfl (lt rfl) awake13_c (fun v1 V1 H1 hle1 hR1 => ?_)
 obtain ⟨_, rfl, rfl⟩ := hR1
 replace hv := hv.le hle1
 replace hv2 := hv2.le hle1
 have hVle := hle1
 refine Run.heapTo (H' := []) Z<|Run.heapTo (H' := []) Z<|Za Z<|Ze<|Zg<|Zs<|Zs<|Zr<|Zm Z<|Zv (Y.not Z)<|Zm Z<|Zp Z<|Zm Z<|Zp Z<|Zv (Y.lenSl Z Law13b_es22)<|Zp Z<|?_
 refine Zv (Y.int Z Z Z)<|Zv (Y.pick_f Z Z Z)<|Zm Z<|?_
 rcases Zsplit (decide (((bs.length : Nat) : Int) > 3000)) with ⟨h2, g2⟩ | ⟨h2, g2⟩ <;> try simp only [kb] at g2
 ·refine Zo h2 Z<|Zo h2 Z<|Zo h2 Z<|Zv (Y.pick_t Z h2 Z)<|Ze<|Zg<|Tr.cond_t Z Z<|Zs<|Zr<|Zm Z<|Za Z<|Ze<|Zg<|Zu<|Zn<|Ex.keep []<|?_
  exact Ex.ret1 rfl rfl  rfl
 ·refine Zp h2<|Zm Z<|Zp h2<|Zv (Y.lenSl Z Law13b_es23)<|Zp h2<|Zv (Y.int Z Z Z)<|Zv (Y.pick_f Z h2 Z)<|Ze<|Zg<|?_
  rcases Zsplit (decide (((rs.length : Nat) : Int) > 50)) with ⟨h3, g3⟩ | ⟨h3, g3⟩ <;> try simp only [kb] at g3
  ·refine Tr.cond_t Z h3<|Zs<|Zr<|Zm Z<|Za Z<|Ze<|Zg<|Zu<|Zn<|Ex.keep []<|?_
   exact Ex.ret1 rfl rfl  rfl
  ·refine Tr.cond_f Z h3<|Zt<|Zg<|Zs<|Zr<|?_
   refine Run.call [] (l := [.const (.int .i64 5000)]) rfl rfl rfl (lt rfl) (dnew_c (room := 5000)) (fun v4 V4 H4 hle4 hR4 => ?_)
   obtain ⟨hV, ⟨hno, _⟩ | ⟨_, dx4, sd4, rfl, hin4, rfl⟩⟩ := hR4
   · exact absurd hno WD
   replace hV := hV.symm; subst hV
   refine Run.heapTo (H' := [sd4]) Z<|Run.heapTo (H' := [sd4]) Z<|Zm Z<|Zv (Y.extract Z Z)<|Zv (Y.extract Z Z)<|Za Z<|Za Z<|Ze<|Zg<|Zs<|Zr<|?_
   refine Run.call [] (l := [.const (.int .i64 5000)]) rfl rfl rfl (lt rfl) (rdnew_c (room := 5000)) (fun v5 V5 H5 hle5 hR5 => ?_)
   obtain ⟨hV, ⟨hno, _⟩ | ⟨_, dx5, sd5, rfl, hin5, rfl⟩⟩ := hR5
   · exact absurd hno WD
   replace hV := hV.symm; subst hV
   refine Run.heapTo (H' := [sd4, sd5]) Z<|Run.heapTo (H' := [sd4, sd5]) Z<|Zm Z<|Zv (Y.extract Z Z)<|Zv (Y.extract Z Z)<|Za Z<|Za Z<|Ze<|Zg<|Zs<|Zr<|Zm Z<|Zm Z<|?_
   refine Run.call [0] (l := [.tmp 36, .tmp 37]) rfl rfl rfl (lt rfl) (dappend_o hin4 (bs := bs) hv W) (fun v6 V6 H6 hle6 hR6 => ?_)
   obtain ⟨hV, rfl, sd6, hin6, rfl⟩ := hR6; replace hV := hV.symm; subst hV
   refine Run.heapTo (H' := [sd5, sd6]) Z<|Run.heapTo (H' := [sd5, sd6]) Z<|Ze<|Zg<|Zs<|Zr<|Zm Z<|Zm Z<|?_
   refine Run.call [0] (l := [.tmp 39, .tmp 40]) rfl rfl rfl (lt rfl) (rdappend_o hin5 (bs := bs) hv W) (fun v7 V7 H7 hle7 hR7 => ?_)
   obtain ⟨hV, rfl, sd7, hin7, rfl⟩ := hR7; replace hV := hV.symm; subst hV
   refine Run.heapTo (H' := [sd6, sd7]) Z<|Run.heapTo (H' := [sd6, sd7]) Z<|Ze<|Zg<|Zs<|Zr<|?_
   by_cases hp0 : (Rg.pool rs).2 = 0
   ·refine Zm Z<|Zm Z<|?_
    refine Run.call [0] (l := [.tmp 43, .tmp 44]) rfl rfl rfl (lt rfl) (open_o (rs := rs) hin6 hv2 W hok) (fun v8 V8 H8 hle8 hR8 => ?_)
    obtain ⟨hV, sd8, ⟨hno, _⟩ | ⟨_, hno, _⟩ | ⟨_, _, sx8, lx8, tx8, sb8, rfl, ht8, hin8, rfl⟩⟩ := hR8
    · exact absurd hp0 hno
    · exact absurd (Sk.cut_ok hin6.1 (by rw [Dk.app_inn rfl]; decide)) hno
    replace hV := hV.symm; subst hV
    refine Run.heapTo (H' := [sd7, [(sx8, .cells #[.pointer (some ⟨lx8, 0, none⟩), .pointer (some ⟨tx8, 0, none⟩), .int .i64 ((Sk.opened rs (Sk.cutD ((Dk.app (Dk.new 5000) bs).1)).1.bs).state), .int .i64 ((Sk.opened rs (Sk.cutD ((Dk.app (Dk.new 5000) bs).1)).1.bs).life)] 123 (0, 0))], [(lx8, .cells #[.pointer (some ⟨dx4, 0, none⟩)] 187 (0, 0))], sb8, sd8]) Z<|Run.heapTo (H' := [sd7, [(sx8, .cells #[.pointer (some ⟨lx8, 0, none⟩), .pointer (some ⟨tx8, 0, none⟩), .int .i64 ((Sk.opened rs (Sk.cutD ((Dk.app (Dk.new 5000) bs).1)).1.bs).state), .int .i64 ((Sk.opened rs (Sk.cutD ((Dk.app (Dk.new 5000) bs).1)).1.bs).life)] 123 (0, 0))], [(lx8, .cells #[.pointer (some ⟨dx4, 0, none⟩)] 187 (0, 0))], sb8, sd8]) Z<|?_
    refine Zm Z<|Zv (Y.extract Z Z)<|Zv (Y.extract Z Z)<|Za Z<|Za Z<|Ze<|Zg<|Zs<|Zr<|Zm Z<|Zm Z<|?_
    refine Run.call [0] (l := [.tmp 49, .tmp 50]) rfl rfl rfl (lt rfl) (ropen_o (rs := rs) hin7 hv2 W hok) (fun v9 V9 H9 hle9 hR9 => ?_)
    obtain ⟨hV, sd9, ⟨hno, _⟩ | ⟨_, hno, _⟩ | ⟨_, _, sx9, lx9, tx9, sb9, rfl, ht9, hin9, rfl⟩⟩ := hR9
    · exact absurd hp0 hno
    · exact absurd (Sk.cut_ok hin7.1 (by rw [Dk.app_inn rfl]; decide)) hno
    replace hV := hV.symm; subst hV
    refine Run.heapTo (H' := [[(sx8, .cells #[.pointer (some ⟨lx8, 0, none⟩), .pointer (some ⟨tx8, 0, none⟩), .int .i64 ((Sk.opened rs (Sk.cutD ((Dk.app (Dk.new 5000) bs).1)).1.bs).state), .int .i64 ((Sk.opened rs (Sk.cutD ((Dk.app (Dk.new 5000) bs).1)).1.bs).life)] 123 (0, 0))], [(lx8, .cells #[.pointer (some ⟨dx4, 0, none⟩)] 187 (0, 0))], sb8, sd8, [(sx9, .cells #[.pointer (some ⟨lx9, 0, none⟩), .pointer (some ⟨tx9, 0, none⟩), .int .i64 ((Sk.opened rs (Sk.cutD ((Dk.app (Dk.new 5000) bs).1)).1.bs).state), .int .i64 ((Sk.opened rs (Sk.cutD ((Dk.app (Dk.new 5000) bs).1)).1.bs).life)] 133 (0, 0))], [(lx9, .cells #[.pointer (some ⟨dx5, 0, none⟩)] 193 (0, 0))], sb9, sd9]) Z ?_
    refine Run.heapTo (H' := [[(sx8, .cells #[.pointer (some ⟨lx8, 0, none⟩), .pointer (some ⟨tx8, 0, none⟩), .int .i64 ((Sk.opened rs (Sk.cutD ((Dk.app (Dk.new 5000) bs).1)).1.bs).state), .int .i64 ((Sk.opened rs (Sk.cutD ((Dk.app (Dk.new 5000) bs).1)).1.bs).life)] 123 (0, 0))], [(lx8, .cells #[.pointer (some ⟨dx4, 0, none⟩)] 187 (0, 0))], sb8, sd8, [(sx9, .cells #[.pointer (some ⟨lx9, 0, none⟩), .pointer (some ⟨tx9, 0, none⟩), .int .i64 ((Sk.opened rs (Sk.cutD ((Dk.app (Dk.new 5000) bs).1)).1.bs).state), .int .i64 ((Sk.opened rs (Sk.cutD ((Dk.app (Dk.new 5000) bs).1)).1.bs).life)] 133 (0, 0))], [(lx9, .cells #[.pointer (some ⟨dx5, 0, none⟩)] 193 (0, 0))], sb9, sd9]) Z ?_
    refine Zm Z<|Zv (Y.extract Z Z)<|Zv (Y.extract Z Z)<|Za Z<|Za Z<|Ze<|Zg<|Zs<|Zs<|Zr<|Zm Z<|Zm Z<|Zv (Y.int (r := .bool false) Z Z Z)<|Zm Z<|Zp Z<|Zm Z<|?_
    refine Zp Z<|Zv (Y.eqNil Z Z Law13b_pt33)<|Zp Z<|Zm Z<|Zp Z<|Zv (Y.eqNil Z Z Law13b_pt36)<|Zp Z<|Zv (Y.neB_f Z Z Law13b_tg4)<|Zv (Y.pick_f Z Z Z)<|Ze<|Zg<|Tr.cond_f Z Z<|Zt<|Zg<|Zs<|Zr<|?_
    refine Zm Z<|Zv (Y.eqNil Z Z Law13b_pt33)<|Zm Z<|Zp Z<|Zm Z<|Zp Z<|Zm Z<|Zp Z<|?_
    refine Run.call [0, 0, 0, 0, 0, 0, 0, 0] (l := [.tmp 67, .tmp 68]) rfl rfl rfl (lt rfl) (alike13_o hin8 ht8 hin9 ht9 (Sk.opened_ok hp0 _)) (fun v10 V10 H10 hle10 hR10 => ?_)
    rw [Sk.alk_self rfl] at hR10
    obtain ⟨hV, rfl, sd10, rd10, hin10, hjn10, rfl⟩ := hR10; replace hV := hV.symm; subst hV
    refine Run.heapTo (H' := [[(sx8, .cells #[.pointer (some ⟨lx8, 0, none⟩), .pointer (some ⟨tx8, 0, none⟩), .int .i64 ((Sk.opened rs (Sk.cutD ((Dk.app (Dk.new 5000) bs).1)).1.bs).state), .int .i64 ((Sk.opened rs (Sk.cutD ((Dk.app (Dk.new 5000) bs).1)).1.bs).life)] 123 (0, 0))], [(lx8, .cells #[.pointer (some ⟨dx4, 0, none⟩)] 187 (0, 0))], sb8, sd10, [(sx9, .cells #[.pointer (some ⟨lx9, 0, none⟩), .pointer (some ⟨tx9, 0, none⟩), .int .i64 ((Sk.opened rs (Sk.cutD ((Dk.app (Dk.new 5000) bs).1)).1.bs).state), .int .i64 ((Sk.opened rs (Sk.cutD ((Dk.app (Dk.new 5000) bs).1)).1.bs).life)] 133 (0, 0))], [(lx9, .cells #[.pointer (some ⟨dx5, 0, none⟩)] 193 (0, 0))], sb9, rd10]) Z ?_
    refine Run.heapTo (H' := [[(sx8, .cells #[.pointer (some ⟨lx8, 0, none⟩), .pointer (some ⟨tx8, 0, none⟩), .int .i64 ((Sk.opened rs (Sk.cutD ((Dk.app (Dk.new 5000) bs).1)).1.bs).state), .int .i64 ((Sk.opened rs (Sk.cutD ((Dk.app (Dk.new 5000) bs).1)).1.bs).life)] 123 (0, 0))], [(lx8, .cells #[.pointer (some ⟨dx4, 0, none⟩)] 187 (0, 0))], sb8, sd10, [(sx9, .cells #[.pointer (some ⟨lx9, 0, none⟩), .pointer (some ⟨tx9, 0, none⟩), .int .i64 ((Sk.opened rs (Sk.cutD ((Dk.app (Dk.new 5000) bs).1)).1.bs).state), .int .i64 ((Sk.opened rs (Sk.cutD ((Dk.app (Dk.new 5000) bs).1)).1.bs).life)] 133 (0, 0))], [(lx9, .cells #[.pointer (some ⟨dx5, 0, none⟩)] 193 (0, 0))], sb9, rd10]) Z ?_
    refine Zv (Y.pick_f Z Z Z)<|Za Z<|Ze<|Zg<|Zu<|Ex.keep []<|?_
    exact Ex.ret1 rfl rfl  rfl
   ·refine Zm Z<|Zm Z<|?_
    refine Run.call [0] (l := [.tmp 43, .tmp 44]) rfl rfl rfl (lt rfl) (open_o (rs := rs) hin6 hv2 W hok) (fun v11 V11 H11 hle11 hR11 => ?_)
    obtain ⟨hV, sd11, ⟨_, rfl, hin11, rfl⟩ | ⟨hno, _⟩ | ⟨hno, _⟩⟩ := hR11
    rotate_left; · exact absurd hno hp0
    · exact absurd hno hp0
    replace hV := hV.symm; subst hV
    refine Run.heapTo (H' := [sd7, sd11]) Z<|Run.heapTo (H' := [sd7, sd11]) Z<|Zm Z<|Zv (Y.extract Z Z)<|Zv (Y.extract Z Z)<|Za Z<|Za Z<|Ze<|Zg<|Zs<|Zr<|Zm Z<|Zm Z<|?_
    refine Run.call [0] (l := [.tmp 49, .tmp 50]) rfl rfl rfl (lt rfl) (ropen_o (rs := rs) hin7 hv2 W hok) (fun v12 V12 H12 hle12 hR12 => ?_)
    obtain ⟨hV, sd12, ⟨_, rfl, hin12, rfl⟩ | ⟨hno, _⟩ | ⟨hno, _⟩⟩ := hR12
    rotate_left; · exact absurd hno hp0
    · exact absurd hno hp0
    replace hV := hV.symm; subst hV
    refine Run.heapTo (H' := [sd11, sd12]) Z<|Run.heapTo (H' := [sd11, sd12]) Z<|Zm Z<|Zv (Y.extract Z Z)<|Zv (Y.extract Z Z)<|Za Z<|Za Z<|Ze<|Zg<|Zs<|Zs<|Zr<|Zm Z<|Zm Z<|Zv (Y.neI_f Z Z)<|Zm Z<|?_
    refine Zp Z<|Zm Z<|Zp Z<|Zv (Y.eqNil Z Z Law13b_pt33)<|Zp Z<|Zm Z<|Zp Z<|Zv (Y.eqNil Z Z Law13b_pt36)<|Zp Z<|Zv (Y.neB_f Z Z Law13b_tg4)<|Zv (Y.pick_f Z Z Z)<|Ze<|Zg<|Tr.cond_f Z Z<|Zt<|Zg<|?_
    refine Zs<|Zr<|Zm Z<|Zv (Y.eqNil Z Z Law13b_pt33)<|Zm Z<|Zo Z Z<|Zo Z Z<|Zo Z Z<|Zv (Y.pick_t Z Z Z)<|Za Z<|Ze<|Zg<|Zu<|Ex.keep []<|?_
    exact Ex.ret1 rfl rfl  rfl

theorem opens13_h {V : Vw} {bs : Bts} {v0 v1 : Value} (hv : Rd V [] 1 v0 bs.length (bs.map byteV)) {rs : List Rg} (hv2 : Rd V [] 2 v1 rs.length (rs.map Rg.cells).flatten) (hok : ∀ r, r ∈ rs → Rg.Ok r) : Does Tryz.prog 3 [v0, v1] V [] (fun v _ _ => v = .bool true) := by
  obtain ⟨p, c, rfl, _⟩ := hv.form
  obtain ⟨p2, c2, rfl, _⟩ := hv2.form
  rw [← List.flatMap_def] at hv2
  exact opens13_c hv hv2 hok
end Go.Proofs.YtinkencbkcciiaaGreat
