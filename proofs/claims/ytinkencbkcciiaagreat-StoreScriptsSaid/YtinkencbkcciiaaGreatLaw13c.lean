/- StoreScripts, walked.
Conditions: as each theorem names them. -/
import Derived.Test.YtinkencbkcciiaaGreatProg
import Derived.Test.YtinkencbkcciiaaGreatLaw13b
import Derived.Test.YtinkencbkcciiaaGreatKJ
import Derived.Test.YtinkencbkcciiaaGreatZG
set_option linter.unusedSimpArgs false
set_option linter.unusedVariables false
set_option maxRecDepth 4000
namespace Go.Proofs.YtinkencbkcciiaaGreat
open Go Go.K
attribute [local irreducible] Code.wp wpList Calls wpQuiet
theorem Law13c_pt33 : ptrT Tryz.prog 33 = true := by kernel_rfl
theorem Law13c_pt36 : ptrT Tryz.prog 36 = true := by kernel_rfl
theorem Law13c_es41 : elemS Tryz.prog 41 = some (51, 10) := by kernel_rfl
theorem Law13c_ag51 : aggsz Tryz.prog 51 = some 10 := by kernel_rfl
theorem Law13c_mo : Tryz.prog.follows .mixedOrders = true := by kernel_rfl
theorem Law13c_fo54_1 : fieldOff Tryz.prog 54 1 = some 1 := by kernel_rfl
theorem Law13c_ts22 : scal Tryz.prog 22 = true := by kernel_rfl
theorem Law13c_es22 : elemS Tryz.prog 22 = some (5, 1) := by kernel_rfl
theorem Law13c_tg5 : tagOf Tryz.prog 5 = some (0, .u8) := by kernel_rfl
theorem Law13c_st9 : strT Tryz.prog 9 = true := by kernel_rfl

set_option maxHeartbeats 1000000 in
theorem scripts13_c {V : Vw} {room : Int} {l : List S13} {p : Option Addr} {c : Nat} (hv : Rd V [] 10 (.slice p l.length c) l.length (l.flatMap S13.cells)) (hl9 : l.length ≤ 9223372036854775807) (hok : ∀ x, x ∈ l → S13.Ok x)  : Does Tryz.prog 4 [.int .i64 room, .slice p l.length c] V [] (fun v _ _ => v = .bool true) := by
 refine Does.intro Tryz.func4 rfl rfl (le rfl) (fun B => ?_)
 refine Zs<|Zr<|Za Z<|Ze<|Zg<|Zs<|Zr<|?_
 refine Run.call [] (l := []) rfl rfl rfl (lt rfl) awake13_c (fun v1 V1 H1 hle1 hR1 => ?_)
 obtain ⟨_, rfl, rfl⟩ := hR1
 replace hv := hv.le hle1
 have hVle := hle1
 refine Run.heapTo (H' := []) Z<|Run.heapTo (H' := []) Z<|Za Z<|Ze<|Zg<|Zs<|Zr<|Zm Z<|?_
 refine Run.callW (l := [.tmp 21]) rfl rfl rfl (lt rfl) (long13_c hv.of_nil hl9) (fun v2 V2 H2 hle2 hR2 => ?_)
 obtain ⟨hV, rfl, b2, rfl, hb2⟩ := hR2; replace hV := hV.symm; subst hV
 refine Run.heapTo (H' := []) Z<|Run.heapTo (H' := []) Z<|Za Z<|Ze<|Zg<|Zs<|Zr<|?_
 by_cases hrm : room < 1 ∨ room > 1048576
 ·refine Zm Z ?_
  refine Run.call [] (l := [.tmp 24]) rfl rfl rfl (lt rfl) (dnew_c (room := room)) (fun v3 V3 H3 hle3 hR3 => ?_)
  obtain ⟨hV, ⟨_, rfl, rfl⟩ | ⟨hno, _⟩⟩ := hR3
  rotate_left; · exact absurd hrm hno
  replace hV := hV.symm; subst hV
  refine Run.heapTo (H' := []) Z<|Run.heapTo (H' := []) Z<|Zm Z<|Zv (Y.extract Z Z)<|Zv (Y.extract Z Z)<|Za Z<|Za Z<|Ze<|Zg<|Zs<|Zr<|Zm Z<|?_
  refine Run.call [] (l := [.tmp 29]) rfl rfl rfl (lt rfl) (rdnew_c (room := room)) (fun v4 V4 H4 hle4 hR4 => ?_)
  obtain ⟨hV, ⟨_, rfl, rfl⟩ | ⟨hno, _⟩⟩ := hR4
  rotate_left; · exact absurd hrm hno
  replace hV := hV.symm; subst hV
  refine Run.heapTo (H' := []) Z<|Run.heapTo (H' := []) Z<|Zm Z<|Zv (Y.extract Z Z)<|Zv (Y.extract Z Z)<|Za Z<|Za Z<|Ze<|Zg<|Zs<|Zs<|Zr<|Zm Z<|Zv (Y.not Z)<|Zm Z<|Zp Z<|?_
  refine Zm Z<|Zp Z<|Zv (Y.int (r := .bool true) Z Z Z)<|Zv (Y.pick_f Z Z Z)<|Zm Z<|Zo Z Z<|Zo Z Z<|Zv (Y.pick_t Z Z Z)<|Zm Z<|Zo Z Z<|Zv (Y.pick_t Z Z Z)<|Ze<|Zg<|Tr.cond_t Z Z<|Zs<|Zr<|?_
  refine Zm Z<|Zm Z<|Zp Z<|Zm Z<|Zp Z<|Zm Z<|?_
  rcases Zsplit (b2) with ⟨h5, g5⟩ | ⟨h5, g5⟩ <;> try simp only [kb] at g5
  ·refine Zo h5 Z<|Zo h5 Z<|Zo h5 Z<|Zp Z<|Zv (Y.pick_t Z h5 Z)<|Zv (Y.pick_t Z Z Z)<|Za Z<|Ze<|Zg<|Zu<|Zn<|Ex.keep []<|?_
   exact Ex.ret1 rfl rfl  rfl
  ·refine Zp h5<|Zm Z<|Zp h5<|Zm Z<|Zp h5<|Zv (Y.int (r := .bool true) Z Z Z)<|Zp Z<|Zv (Y.pick_f Z h5 Z)<|Zv (Y.pick_t Z Z Z)<|Za Z<|Ze<|Zg<|Zu<|Zn<|Ex.keep []<|?_
   exact Ex.ret1 rfl rfl  rfl
 ·refine Zm Z ?_
  refine Run.call [] (l := [.tmp 24]) rfl rfl rfl (lt rfl) (dnew_c (room := room)) (fun v6 V6 H6 hle6 hR6 => ?_)
  obtain ⟨hV, ⟨hno, _⟩ | ⟨_, dx6, sd6, rfl, hin6, rfl⟩⟩ := hR6
  · exact absurd hno hrm
  replace hV := hV.symm; subst hV
  refine Run.heapTo (H' := [sd6]) Z<|Run.heapTo (H' := [sd6]) Z<|Zm Z<|Zv (Y.extract Z Z)<|Zv (Y.extract Z Z)<|Za Z<|Za Z<|Ze<|Zg<|Zs<|Zr<|Zm Z<|?_
  refine Run.call [] (l := [.tmp 29]) rfl rfl rfl (lt rfl) (rdnew_c (room := room)) (fun v7 V7 H7 hle7 hR7 => ?_)
  obtain ⟨hV, ⟨hno, _⟩ | ⟨_, dx7, sd7, rfl, hin7, rfl⟩⟩ := hR7
  · exact absurd hno hrm
  replace hV := hV.symm; subst hV
  refine Run.heapTo (H' := [sd6, sd7]) Z<|Run.heapTo (H' := [sd6, sd7]) Z<|Zm Z<|Zv (Y.extract Z Z)<|Zv (Y.extract Z Z)<|Za Z<|Za Z<|Ze<|Zg<|Zs<|Zs<|Zr<|Zm Z<|Zv (Y.not Z)<|Zm Z<|Zp Z<|?_
  refine Zm Z<|Zp Z<|Zv (Y.int (r := .bool false) Z Z Z)<|Zv (Y.pick_f Z Z Z)<|Zm Z<|Zp Z<|Zm Z<|Zp Z<|Zv (Y.int (r := .bool false) Z Z Z)<|Zv (Y.pick_f Z Z Z)<|Zm Z<|Zp Z<|Zm Z<|Zv (Y.pick_f Z Z Z)<|Ze<|Zg<|?_
  rcases Zsplit (b2) with ⟨h8, g8⟩ | ⟨h8, g8⟩ <;> try simp only [kb] at g8
  ·refine Tr.cond_t Z h8<|Zs<|Zr<|Zm Z<|Zm Z<|Zp Z<|Zm Z<|Zp Z<|Zm Z<|Zo h8 Z<|Zo h8 Z<|Zo h8 Z<|Zp Z<|Zv (Y.pick_t Z h8 Z)<|Zv (Y.pick_t Z Z Z)<|Za Z<|?_
   refine Ze<|Zg<|Zu<|Zn<|Ex.keep []<|?_
   exact Ex.ret1 rfl rfl  rfl
  ·refine Tr.cond_f Z h8<|Zt<|Zg<|Zs<|Zr<|Zm Z<|?_
   refine Run.call [] (l := []) rfl rfl rfl (lt rfl) pool13_c (fun v9 V9 H9 hle9 hR9 => ?_)
   obtain ⟨_, hv9, rfl⟩ := hR9
   replace hv := hv.le hle9
   replace hVle := Vw.le_trans hVle hle9
   refine Run.heapTo (H' := [sd6, sd7]) Z<|Run.heapTo (H' := [sd6, sd7]) Z<|?_
   refine Run.call [0] (l := [.tmp 56, .tmp 57]) rfl rfl rfl (lt rfl) (open_o (rs := Rg.p16) hin6 hv9 WD Rg.p16_ok) (fun v10 V10 H10 hle10 hR10 => ?_)
   obtain ⟨hV, sd10, ⟨hno, _⟩ | ⟨_, hno, _⟩ | ⟨_, _, sx10, lx10, tx10, sb10, rfl, ht10, hin10, rfl⟩⟩ := hR10
   · exact absurd Rg.pool16 hno
   · exact absurd (Sk.cut_ok hin6.1 (show (-1 : Int) ≠ 0 by decide)) hno
   replace hV := hV.symm; subst hV
   refine Run.heapTo (H' := [sd7, (cS 123 sx10 lx10 tx10 (Sk.opened Rg.p16 (Sk.cutD (Dk.new room)).1.bs)), (cL 187 lx10 dx6), sb10, sd10]) Z<|Run.heapTo (H' := [sd7, (cS 123 sx10 lx10 tx10 (Sk.opened Rg.p16 (Sk.cutD (Dk.new room)).1.bs)), (cL 187 lx10 dx6), sb10, sd10]) Z<|?_
   refine Zm Z<|Zv (Y.extract Z Z)<|Zv (Y.extract Z Z)<|Za Z<|Za Z<|Ze<|Zg<|Zs<|Zr<|Zm Z<|?_
   refine Run.call [] (l := []) rfl rfl rfl (lt rfl) pool13_c (fun v11 V11 H11 hle11 hR11 => ?_)
   obtain ⟨_, hv11, rfl⟩ := hR11
   replace hv := hv.le hle11
   replace hv9 := hv9.le hle11
   replace hVle := Vw.le_trans hVle hle11
   refine Run.heapTo (H' := [sd7, (cS 123 sx10 lx10 tx10 (Sk.opened Rg.p16 (Sk.cutD (Dk.new room)).1.bs)), (cL 187 lx10 dx6), sb10, sd10]) Z<|Run.heapTo (H' := [sd7, (cS 123 sx10 lx10 tx10 (Sk.opened Rg.p16 (Sk.cutD (Dk.new room)).1.bs)), (cL 187 lx10 dx6), sb10, sd10]) Z<|?_
   refine Run.call [0] (l := [.tmp 62, .tmp 63]) rfl rfl rfl (lt rfl) (ropen_o (rs := Rg.p16) hin7 hv11 WD Rg.p16_ok) (fun v12 V12 H12 hle12 hR12 => ?_)
   obtain ⟨hV, sd12, ⟨hno, _⟩ | ⟨_, hno, _⟩ | ⟨_, _, sx12, lx12, tx12, sb12, rfl, ht12, hin12, rfl⟩⟩ := hR12
   · exact absurd Rg.pool16 hno
   · exact absurd (Sk.cut_ok hin7.1 (show (-1 : Int) ≠ 0 by decide)) hno
   replace hV := hV.symm; subst hV
   refine Run.heapTo (H' := [(cS 123 sx10 lx10 tx10 (Sk.opened Rg.p16 (Sk.cutD (Dk.new room)).1.bs)), (cL 187 lx10 dx6), sb10, sd10, (cS 133 sx12 lx12 tx12 (Sk.opened Rg.p16 (Sk.cutD (Dk.new room)).1.bs)), (cL 193 lx12 dx7), sb12, sd12]) Z ?_
   refine Zm Z<|Zv (Y.extract Z Z)<|Zv (Y.extract Z Z)<|Za Z<|Za Z<|Ze<|Zg<|Zs<|Zs<|Zr<|Zm Z<|Zm Z<|Zv (Y.int (r := .bool false) Z Z Z)<|Zm Z<|Zp Z<|Zm Z<|?_
   refine Zp Z<|Zv (Y.eqNil Z Z Law13c_pt33)<|Zv (Y.pick_f Z Z Z)<|Zm Z<|Zp Z<|Zm Z<|Zp Z<|Zv (Y.eqNil Z Z Law13c_pt36)<|Zv (Y.pick_f Z Z Z)<|Ze<|Zg<|Tr.cond_f Z Z<|Zt<|Zg<|Zs<|Zs<|?_
   refine Zr<|Run.keepTo (H' := [(cS 123 sx10 lx10 tx10 (Sk.opened Rg.p16 (Sk.cutD (Dk.new room)).1.bs)), (cL 187 lx10 dx6), sb10, sd10, (cS 133 sx12 lx12 tx12 (Sk.opened Rg.p16 (Sk.cutD (Dk.new room)).1.bs)), (cL 193 lx12 dx7), sb12, sd12]) [0, 0, 0, 0, 0, 0, 0, 0] Z<|?_
   refine Za Z<|Ze<|Zg<|Zb<|?_
   refine ZL (X := Nat × Dk × Sk × Nat × Nat × Nat × Sg × Sg × Nat × Nat × Nat × Sg × Sg) (fun z0 => V11) (fun z0 => [[(z0.2.2.2.1, .cells #[.pointer (some ⟨z0.2.2.2.2.1, 0, none⟩), .pointer (some ⟨z0.2.2.2.2.2.1, 0, none⟩), .int .i64 z0.2.2.1.state, .int .i64 z0.2.2.1.life] 123 (0, 0))], [(z0.2.2.2.2.1, .cells #[(pZ dx6)] 187 (0, 0))], z0.2.2.2.2.2.2.1, z0.2.2.2.2.2.2.2.1, [(z0.2.2.2.2.2.2.2.2.1, .cells #[.pointer (some ⟨z0.2.2.2.2.2.2.2.2.2.1, 0, none⟩), .pointer (some ⟨z0.2.2.2.2.2.2.2.2.2.2.1, 0, none⟩), .int .i64 z0.2.2.1.state, .int .i64 z0.2.2.1.life] 133 (0, 0))], [(z0.2.2.2.2.2.2.2.2.2.1, .cells #[(pZ dx7)] 193 (0, 0))], z0.2.2.2.2.2.2.2.2.2.2.2.1, z0.2.2.2.2.2.2.2.2.2.2.2.2]) (fun z0 => [(0, .int .i64 room), (1, .slice p l.length c), (7, (pZ dx6)), (9, (pZ dx7)), (11, .pointer (some ⟨z0.2.2.2.1, 0, none⟩)), (13, .pointer (some ⟨z0.2.2.2.2.2.2.2.2.1, 0, none⟩)), (15, .int .i64 (z0.1 : Int))]) (fun z0 => Dk.In 116 z0.2.1 dx6 z0.2.2.2.2.2.2.2.1 ∧ Le.In 149 z0.2.2.1.t z0.2.2.2.2.2.1 z0.2.2.2.2.2.2.1 ∧ Dk.In 54 z0.2.1 dx7 z0.2.2.2.2.2.2.2.2.2.2.2.2 ∧ Le.Rin z0.2.2.1.t z0.2.2.2.2.2.2.2.2.2.2.1 z0.2.2.2.2.2.2.2.2.2.2.2.1 ∧ z0.2.2.1.Ok ∧ z0.2.2.1.Os ∧ z0.1 ≤ l.length) (fun z0 => l.length - z0.1) (⟨0, ((Sk.cutD (Dk.new room)).1), (Sk.opened Rg.p16 (Sk.cutD (Dk.new room)).1.bs), sx10, lx10, tx10, sb10, sd10, sx12, lx12, tx12, sb12, sd12⟩ : Nat × Dk × Sk × Nat × Nat × Nat × Sg × Sg × Nat × Nat × Nat × Sg × Sg) ⟨hin10, ht10, hin12, ht12, (Sk.opened_ok Rg.pool16 _), (Sk.opened_os Rg.p16_ok _), Nat.zero_le _⟩ ?_
   rintro ⟨i1, d, s, sx, lx, tx, st, sd, rx, mx, wx, rt, rd⟩ ⟨hin, ht, hin2, ht2, hs, hos, hi⟩
   try dsimp only at hin ht hin2 ht2 hs hos hi ⊢
   refine Zs<|Zs<|Zr<|Zm Z<|Zm Z<|Zv (Y.lenSl Z Law13c_es41)<|Zv (Y.int Z Z Z)<|Ze<|Zg<|?_
   rcases Zsplit (decide ((i1 : Int) < ((l.length : Nat) : Int))) with ⟨h13, g13⟩ | ⟨h13, g13⟩ <;> try simp only [kb] at g13
   ·refine Tr.cond_t Z h13<|Zt<|Zg<|Zs<|Zb<|Zs<|Zr<|Zm Z<|Zm Z<|Zm Z<|Zm Z<|Zm Z<|Zm Z<|Zv (Y.idxR i1 Z Z Law13c_es41 hv.of_nil W W)<|Zv (Y.ldRA (vs := [.int .i64 ((l.getD i1 S13.dflt).k), .int .i64 ((l.getD i1 S13.dflt).n), .int .u32 ((l.getD i1 S13.dflt).l.addr), .int .i64 ((l.getD i1 S13.dflt).l.bind), .string ((l.getD i1 S13.dflt).l.client), .int .i64 ((l.getD i1 S13.dflt).l.till), .int .i64 ((l.getD i1 S13.dflt).l.acked), .int .i64 ((l.getD i1 S13.dflt).l.told), .int .i64 ((l.getD i1 S13.dflt).l.at_), .int .i64 ((l.getD i1 S13.dflt).l.ver)]) rfl Law13c_ag51 hv.of_nil rfl WD (fun o ho => flatm_atA S13.enc.len W S13.dflt o ho))<|?_
    refine Run.call [0, 0, 0, 0, 0, 0, 0, 0] (l := [.tmp 85, .tmp 86, .tmp 87, .tmp 88, .tmp 92]) rfl rfl rfl (lt rfl) (step13_o hin ht hin2 ht2 hs hos (x := (l.getD i1 S13.dflt)) (hok _ (S13.mem W))) (fun v14 V14 H14 hle14 hR14 => ?_)
    obtain ⟨hV, sx14, lx14, tx14, st14, sd14, rx14, mx14, wx14, rt14, rd14, rfl, ht14, hin14, hu14, hjn14, rfl⟩ := hR14; replace hV := hV.symm; subst hV
    have hsk14 := (Sk.stp_ok (x := (l.getD i1 S13.dflt)) hin.1 hs (hok _ (S13.mem W))).2
    have hso14 : (Sk.stp d s (l.getD i1 S13.dflt)).2.Os := Sk.stp_os hos
    refine Run.heapTo (H' := [(cS 123 sx14 lx14 tx14 ((Sk.stp d s (l.getD i1 S13.dflt)).2)), (cL 187 lx14 dx6), st14, sd14, (cS 133 rx14 mx14 wx14 ((Sk.stp d s (l.getD i1 S13.dflt)).2)), (cL 193 mx14 dx7), rt14, rd14]) Z ?_
    refine Zm Z<|Zv (Y.extract Z Z)<|Zv (Y.extract Z Z)<|Zv (Y.extract Z Z)<|Za Z<|Za Z<|Za Z<|Ze<|Zg<|Zs<|Zs<|Zr<|Zm Z<|Zv (Y.not Z)<|Zm Z<|Zp Z<|?_
    refine Zm Z<|Zp Z<|Zv (Y.eqNil Z Z Law13c_pt33)<|Zv (Y.pick_f Z Z Z)<|Zm Z<|Zp Z<|Zm Z<|Zp Z<|Zv (Y.eqNil Z Z Law13c_pt36)<|Zv (Y.pick_f Z Z Z)<|Ze<|Zg<|Tr.cond_f Z Z<|Zt<|Zg<|Zs<|?_
    refine Zr<|Zm Z<|Za Z<|Ze<|Zg<|Zs<|Zr<|Zm Z<|Za Z<|Ze<|Zg<|Zs<|Zr<|Zm Z<|Zm Z<|?_
    refine Run.call [0, 0, 0, 0, 0, 0, 0, 0] (l := [.tmp 110, .tmp 111]) rfl rfl rfl (lt rfl) (alike13_o hin14 ht14 hjn14 hu14 hsk14) (fun v15 V15 H15 hle15 hR15 => ?_)
    rw [Sk.alk_self rfl] at hR15
    obtain ⟨hV, rfl, sd15, rd15, hin15, hjn15, rfl⟩ := hR15; replace hV := hV.symm; subst hV
    refine Run.heapTo (H' := [(cS 123 sx14 lx14 tx14 ((Sk.stp d s (l.getD i1 S13.dflt)).2)), (cL 187 lx14 dx6), st14, sd15, (cS 133 rx14 mx14 wx14 ((Sk.stp d s (l.getD i1 S13.dflt)).2)), (cL 193 mx14 dx7), rt14, rd15]) Z ?_
    obtain ⟨hd9, pd9, cd9, qd9, ho9, rfl⟩ := hjn15
    refine Run.keepTo (H' := [(cS 123 sx14 lx14 tx14 ((Sk.stp d s (l.getD i1 S13.dflt)).2)), (cL 187 lx14 dx6), st14, sd15, (cS 133 rx14 mx14 wx14 ((Sk.stp d s (l.getD i1 S13.dflt)).2)), (cL 193 mx14 dx7), rt14, ([[(dx7, .cells #[.int .i64 (((Sk.stp d s (l.getD i1 S13.dflt)).1).room), .slice pd9 ((Sk.stp d s (l.getD i1 S13.dflt)).1).bs.length cd9, .int .i64 ((((Sk.stp d s (l.getD i1 S13.dflt)).1).lasts : Nat) : Int), .int .i64 (((Sk.stp d s (l.getD i1 S13.dflt)).1).inn)] 54 (0, 0))], qd9] : Hp).flatten]) [0, 0, 0, 0, 0, 0, 0, 0] Z ?_
    refine Run.recut (H' := [(cS 123 sx14 lx14 tx14 ((Sk.stp d s (l.getD i1 S13.dflt)).2)), (cL 187 lx14 dx6), st14, sd15, (cS 133 rx14 mx14 wx14 ((Sk.stp d s (l.getD i1 S13.dflt)).2)), (cL 193 mx14 dx7), rt14, [(dx7, .cells #[.int .i64 (((Sk.stp d s (l.getD i1 S13.dflt)).1).room), .slice pd9 ((Sk.stp d s (l.getD i1 S13.dflt)).1).bs.length cd9, .int .i64 ((((Sk.stp d s (l.getD i1 S13.dflt)).1).lasts : Nat) : Int), .int .i64 (((Sk.stp d s (l.getD i1 S13.dflt)).1).inn)] 54 (0, 0))], qd9]) (List.Perm.of_eq (by simp)) ?_
    refine Run.heapTo (H' := [(cS 123 sx14 lx14 tx14 ((Sk.stp d s (l.getD i1 S13.dflt)).2)), (cL 187 lx14 dx6), st14, sd15, (cS 133 rx14 mx14 wx14 ((Sk.stp d s (l.getD i1 S13.dflt)).2)), (cL 193 mx14 dx7), rt14, [(dx7, .cells #[.int .i64 (((Sk.stp d s (l.getD i1 S13.dflt)).1).room), .slice pd9 ((Sk.stp d s (l.getD i1 S13.dflt)).1).bs.length cd9, .int .i64 ((((Sk.stp d s (l.getD i1 S13.dflt)).1).lasts : Nat) : Int), .int .i64 (((Sk.stp d s (l.getD i1 S13.dflt)).1).inn)] 54 (0, 0))], qd9]) Z ?_
    refine Za Z<|Ze<|Zg<|Zs<|Tr.anyD [(dx7, .cells #[.int .i64 (((Sk.stp d s (l.getD i1 S13.dflt)).1).room), .slice pd9 ((Sk.stp d s (l.getD i1 S13.dflt)).1).bs.length cd9, .int .i64 ((((Sk.stp d s (l.getD i1 S13.dflt)).1).lasts : Nat) : Int), .int .i64 (((Sk.stp d s (l.getD i1 S13.dflt)).1).inn)] 54 (0, 0))] Law13c_mo<|RunD.pure (i := 0) rfl WK WK WK (fun _ _ _ h => h) (lt rfl) (ZK 7 Z) (fun _ => (Y.move rfl))<|?_
    refine RunD.pure (i := 1) rfl WK WK WK (fun _ _ _ h => h) (lt rfl) (ZK 7 Z) (fun _ => (Y.not rfl))<|RunD.pure (i := 2) rfl WK WK WK (fun _ _ _ h => h) (lt rfl) (ZK 7 Z) (fun _ => (Y.move rfl))<|RunD.pureG (i := 3) rfl rfl rfl rfl WK WK WK (fun _ _ _ h => h) (lt rfl) (ZK 7 Z) (fun _ => (Y.move rfl))<|?_
    refine RunD.pureG (i := 6) rfl rfl rfl rfl WK WK WK (fun _ _ _ h => h) (lt rfl) (ZK 7 Z) (fun _ => (Y.move rfl))<|RunD.pureG (i := 7) rfl rfl rfl rfl WK WK WK (fun _ _ _ h => h) (lt rfl) (ZK 7 Z) (fun _ => (Y.nilCheck rfl))<|RunD.pureG (i := 8) rfl rfl rfl rfl WK WK WK (fun _ _ _ h => h) (lt rfl) (ZK 7 Z) (fun _ => (Y.fieldAddr rfl Law13c_fo54_1))<|?_
    refine RunD.takeG (i := 9) 0 rfl rfl rfl rfl rfl WK WK WK (fun _ _ _ h => h) (lt rfl) (ZK 7 Z) (fun _ => (Y.load rfl Law13c_ts22 Kn.vk1 rfl)) ?_
    refine RunD.two (i := 4) (j := 10) WK rfl rfl  ?_ ?_ 
    ·refine Zp Z ?_
     refine Run.call [3] (l := [.tmp 116]) rfl rfl rfl (lt rfl) (dread_o hin15) (fun v16 V16 H16 hle16 hR16 => ?_)
     obtain ⟨hV, q16, ho16, rfl⟩ := hR16; replace hV := hV.symm; subst hV; obtain ⟨p16, c16, rfl⟩ := ho16.form
     refine Run.heapTo (H' := [(cS 123 sx14 lx14 tx14 ((Sk.stp d s (l.getD i1 S13.dflt)).2)), (cL 187 lx14 dx6), st14, (cS 133 rx14 mx14 wx14 ((Sk.stp d s (l.getD i1 S13.dflt)).2)), (cL 193 mx14 dx7), rt14, [(dx7, .cells #[.int .i64 (((Sk.stp d s (l.getD i1 S13.dflt)).1).room), .slice pd9 ((Sk.stp d s (l.getD i1 S13.dflt)).1).bs.length cd9, .int .i64 ((((Sk.stp d s (l.getD i1 S13.dflt)).1).lasts : Nat) : Int), .int .i64 (((Sk.stp d s (l.getD i1 S13.dflt)).1).inn)] 54 (0, 0))], qd9, q16, sd15]) Z ?_
     refine Ze<|Ex.anyD (ZK 6 Z)<|?_
     refine RunD.two (i := 5) (j := 10) WK rfl rfl  ?_ ?_ 
     ·refine Zp Z<|Zv (Y.bytesStr (bs := ((Sk.stp d s (l.getD i1 S13.dflt)).1).bs) Z Law13c_es22 Law13c_tg5 Law13c_st9 (ho16.rd 8 Z))<|Ze<|Ex.anyD (ZK 6 Z)<|?_
      refine RunD.one (i := 10) WK rfl  ?_ 
      refine Zp Z<|Zv (Y.bytesStr (bs := ((Sk.stp d s (l.getD i1 S13.dflt)).1).bs) Z Law13c_es22 Law13c_tg5 Law13c_st9 (ho9.rd 7 Z))<|Ze<|Ex.anyD (ZK 6 Z)<|RunD.pureG (i := 11) rfl rfl rfl rfl WK WK WK (fun _ _ _ h => h) (lt rfl) (ZK 6 Z) (fun _ => (Y.neStr rfl rfl))<|RunD.pure (i := 12) rfl WK WK WK (fun _ _ _ h => h) (lt rfl) (ZK 6 Z) (fun _ => (Y.pick_f rfl rfl rfl))<|?_
      refine RunD.done WK<|Zg<|Tr.cond_f Z (congrArg Bool.not (beq_self_eq_true ((⟨(((Sk.stp d s (l.getD i1 S13.dflt)).1).bs : List UInt8).toArray⟩ : ByteArray)).toList))<|Zt<|Zc<|Zg<|Zr<|Zm Z<|Zv (Y.add Z Z W)<|Za Z<|Ze<|Ex.keepTo (H' := [(cS 123 sx14 lx14 tx14 ((Sk.stp d s (l.getD i1 S13.dflt)).2)), (cL 187 lx14 dx6), st14, sd15, (cS 133 rx14 mx14 wx14 ((Sk.stp d s (l.getD i1 S13.dflt)).2)), (cL 193 mx14 dx7), rt14, [(dx7, .cells #[.int .i64 (((Sk.stp d s (l.getD i1 S13.dflt)).1).room), .slice pd9 ((Sk.stp d s (l.getD i1 S13.dflt)).1).bs.length cd9, .int .i64 ((((Sk.stp d s (l.getD i1 S13.dflt)).1).lasts : Nat) : Int), .int .i64 (((Sk.stp d s (l.getD i1 S13.dflt)).1).inn)] 54 (0, 0))], qd9]) [0, 0, 0, 6, 0, 0, 0, 0, 0] Z<|?_
      refine Ex.recut (H' := [(cS 123 sx14 lx14 tx14 ((Sk.stp d s (l.getD i1 S13.dflt)).2)), (cL 187 lx14 dx6), st14, sd15, (cS 133 rx14 mx14 wx14 ((Sk.stp d s (l.getD i1 S13.dflt)).2)), (cL 193 mx14 dx7), rt14, ([[(dx7, .cells #[.int .i64 (((Sk.stp d s (l.getD i1 S13.dflt)).1).room), .slice pd9 ((Sk.stp d s (l.getD i1 S13.dflt)).1).bs.length cd9, .int .i64 ((((Sk.stp d s (l.getD i1 S13.dflt)).1).lasts : Nat) : Int), .int .i64 (((Sk.stp d s (l.getD i1 S13.dflt)).1).inn)] 54 (0, 0))], qd9] : Hp).flatten]) (List.Perm.of_eq (by simp)) ?_
      exact ZR (⟨i1 + 1, ((Sk.stp d s (l.getD i1 S13.dflt)).1), ((Sk.stp d s (l.getD i1 S13.dflt)).2), sx14, lx14, tx14, st14, sd15, rx14, mx14, wx14, rt14, ([[(dx7, .cells #[.int .i64 (((Sk.stp d s (l.getD i1 S13.dflt)).1).room), .slice pd9 ((Sk.stp d s (l.getD i1 S13.dflt)).1).bs.length cd9, .int .i64 ((((Sk.stp d s (l.getD i1 S13.dflt)).1).lasts : Nat) : Int), .int .i64 (((Sk.stp d s (l.getD i1 S13.dflt)).1).inn)] 54 (0, 0))], qd9] : Hp).flatten⟩ : Nat × Dk × Sk × Nat × Nat × Nat × Sg × Sg × Nat × Nat × Nat × Sg × Sg) ⟨hin15, ht14, ⟨hd9, pd9, cd9, qd9, ho9, rfl⟩, hu14, hsk14, hso14, by omega⟩ (by dsimp only; omega)
     ·refine Zp Z<|Zv (Y.bytesStr (bs := ((Sk.stp d s (l.getD i1 S13.dflt)).1).bs) Z Law13c_es22 Law13c_tg5 Law13c_st9 (ho9.rd 7 Z))<|Ze<|Ex.anyD (ZK 6 Z)<|?_
      refine RunD.one (i := 5) WK rfl  ?_ 
      refine Zp Z<|Zv (Y.bytesStr (bs := ((Sk.stp d s (l.getD i1 S13.dflt)).1).bs) Z Law13c_es22 Law13c_tg5 Law13c_st9 (ho16.rd 8 Z))<|Ze<|Ex.anyD (ZK 6 Z)<|RunD.pureG (i := 11) rfl rfl rfl rfl WK WK WK (fun _ _ _ h => h) (lt rfl) (ZK 6 Z) (fun _ => (Y.neStr rfl rfl))<|RunD.pure (i := 12) rfl WK WK WK (fun _ _ _ h => h) (lt rfl) (ZK 6 Z) (fun _ => (Y.pick_f rfl rfl rfl))<|?_
      refine RunD.done WK<|Zg<|Tr.cond_f Z (congrArg Bool.not (beq_self_eq_true ((⟨(((Sk.stp d s (l.getD i1 S13.dflt)).1).bs : List UInt8).toArray⟩ : ByteArray)).toList))<|Zt<|Zc<|Zg<|Zr<|Zm Z<|Zv (Y.add Z Z W)<|Za Z<|Ze<|Ex.keepTo (H' := [(cS 123 sx14 lx14 tx14 ((Sk.stp d s (l.getD i1 S13.dflt)).2)), (cL 187 lx14 dx6), st14, sd15, (cS 133 rx14 mx14 wx14 ((Sk.stp d s (l.getD i1 S13.dflt)).2)), (cL 193 mx14 dx7), rt14, [(dx7, .cells #[.int .i64 (((Sk.stp d s (l.getD i1 S13.dflt)).1).room), .slice pd9 ((Sk.stp d s (l.getD i1 S13.dflt)).1).bs.length cd9, .int .i64 ((((Sk.stp d s (l.getD i1 S13.dflt)).1).lasts : Nat) : Int), .int .i64 (((Sk.stp d s (l.getD i1 S13.dflt)).1).inn)] 54 (0, 0))], qd9]) [0, 0, 0, 6, 0, 0, 0, 0, 0] Z<|?_
      refine Ex.recut (H' := [(cS 123 sx14 lx14 tx14 ((Sk.stp d s (l.getD i1 S13.dflt)).2)), (cL 187 lx14 dx6), st14, sd15, (cS 133 rx14 mx14 wx14 ((Sk.stp d s (l.getD i1 S13.dflt)).2)), (cL 193 mx14 dx7), rt14, ([[(dx7, .cells #[.int .i64 (((Sk.stp d s (l.getD i1 S13.dflt)).1).room), .slice pd9 ((Sk.stp d s (l.getD i1 S13.dflt)).1).bs.length cd9, .int .i64 ((((Sk.stp d s (l.getD i1 S13.dflt)).1).lasts : Nat) : Int), .int .i64 (((Sk.stp d s (l.getD i1 S13.dflt)).1).inn)] 54 (0, 0))], qd9] : Hp).flatten]) (List.Perm.of_eq (by simp)) ?_
      exact ZR (⟨i1 + 1, ((Sk.stp d s (l.getD i1 S13.dflt)).1), ((Sk.stp d s (l.getD i1 S13.dflt)).2), sx14, lx14, tx14, st14, sd15, rx14, mx14, wx14, rt14, ([[(dx7, .cells #[.int .i64 (((Sk.stp d s (l.getD i1 S13.dflt)).1).room), .slice pd9 ((Sk.stp d s (l.getD i1 S13.dflt)).1).bs.length cd9, .int .i64 ((((Sk.stp d s (l.getD i1 S13.dflt)).1).lasts : Nat) : Int), .int .i64 (((Sk.stp d s (l.getD i1 S13.dflt)).1).inn)] 54 (0, 0))], qd9] : Hp).flatten⟩ : Nat × Dk × Sk × Nat × Nat × Nat × Sg × Sg × Nat × Nat × Nat × Sg × Sg) ⟨hin15, ht14, ⟨hd9, pd9, cd9, qd9, ho9, rfl⟩, hu14, hsk14, hso14, by omega⟩ (by dsimp only; omega)
    ·refine Zp Z<|Zv (Y.bytesStr (bs := ((Sk.stp d s (l.getD i1 S13.dflt)).1).bs) Z Law13c_es22 Law13c_tg5 Law13c_st9 (ho9.rd 8 Z))<|Ze<|Ex.anyD (ZK 7 Z)<|?_
     refine RunD.one (i := 4) WK rfl  ?_ 
     refine Zp Z ?_
     refine Run.call [3] (l := [.tmp 116]) rfl rfl rfl (lt rfl) (dread_o hin15) (fun v17 V17 H17 hle17 hR17 => ?_)
     obtain ⟨hV, q17, ho17, rfl⟩ := hR17; replace hV := hV.symm; subst hV; obtain ⟨p17, c17, rfl⟩ := ho17.form
     refine Run.heapTo (H' := [(cS 123 sx14 lx14 tx14 ((Sk.stp d s (l.getD i1 S13.dflt)).2)), (cL 187 lx14 dx6), st14, (cS 133 rx14 mx14 wx14 ((Sk.stp d s (l.getD i1 S13.dflt)).2)), (cL 193 mx14 dx7), rt14, [(dx7, .cells #[.int .i64 (((Sk.stp d s (l.getD i1 S13.dflt)).1).room), .slice pd9 ((Sk.stp d s (l.getD i1 S13.dflt)).1).bs.length cd9, .int .i64 ((((Sk.stp d s (l.getD i1 S13.dflt)).1).lasts : Nat) : Int), .int .i64 (((Sk.stp d s (l.getD i1 S13.dflt)).1).inn)] 54 (0, 0))], qd9, q17, sd15]) Z ?_
     refine Ze<|Ex.anyD (ZK 6 Z)<|?_
     refine RunD.one (i := 5) WK rfl  ?_ 
     refine Zp Z<|Zv (Y.bytesStr (bs := ((Sk.stp d s (l.getD i1 S13.dflt)).1).bs) Z Law13c_es22 Law13c_tg5 Law13c_st9 (ho17.rd 8 Z))<|Ze<|Ex.anyD (ZK 6 Z)<|RunD.pureG (i := 11) rfl rfl rfl rfl WK WK WK (fun _ _ _ h => h) (lt rfl) (ZK 6 Z) (fun _ => (Y.neStr rfl rfl))<|RunD.pure (i := 12) rfl WK WK WK (fun _ _ _ h => h) (lt rfl) (ZK 6 Z) (fun _ => (Y.pick_f rfl rfl rfl))<|?_
     refine RunD.done WK<|Zg<|Tr.cond_f Z (congrArg Bool.not (beq_self_eq_true ((⟨(((Sk.stp d s (l.getD i1 S13.dflt)).1).bs : List UInt8).toArray⟩ : ByteArray)).toList))<|Zt<|Zc<|Zg<|Zr<|Zm Z<|Zv (Y.add Z Z W)<|Za Z<|Ze<|Ex.keepTo (H' := [(cS 123 sx14 lx14 tx14 ((Sk.stp d s (l.getD i1 S13.dflt)).2)), (cL 187 lx14 dx6), st14, sd15, (cS 133 rx14 mx14 wx14 ((Sk.stp d s (l.getD i1 S13.dflt)).2)), (cL 193 mx14 dx7), rt14, [(dx7, .cells #[.int .i64 (((Sk.stp d s (l.getD i1 S13.dflt)).1).room), .slice pd9 ((Sk.stp d s (l.getD i1 S13.dflt)).1).bs.length cd9, .int .i64 ((((Sk.stp d s (l.getD i1 S13.dflt)).1).lasts : Nat) : Int), .int .i64 (((Sk.stp d s (l.getD i1 S13.dflt)).1).inn)] 54 (0, 0))], qd9]) [0, 0, 0, 6, 0, 0, 0, 0, 0] Z<|?_
     refine Ex.recut (H' := [(cS 123 sx14 lx14 tx14 ((Sk.stp d s (l.getD i1 S13.dflt)).2)), (cL 187 lx14 dx6), st14, sd15, (cS 133 rx14 mx14 wx14 ((Sk.stp d s (l.getD i1 S13.dflt)).2)), (cL 193 mx14 dx7), rt14, ([[(dx7, .cells #[.int .i64 (((Sk.stp d s (l.getD i1 S13.dflt)).1).room), .slice pd9 ((Sk.stp d s (l.getD i1 S13.dflt)).1).bs.length cd9, .int .i64 ((((Sk.stp d s (l.getD i1 S13.dflt)).1).lasts : Nat) : Int), .int .i64 (((Sk.stp d s (l.getD i1 S13.dflt)).1).inn)] 54 (0, 0))], qd9] : Hp).flatten]) (List.Perm.of_eq (by simp)) ?_
     exact ZR (⟨i1 + 1, ((Sk.stp d s (l.getD i1 S13.dflt)).1), ((Sk.stp d s (l.getD i1 S13.dflt)).2), sx14, lx14, tx14, st14, sd15, rx14, mx14, wx14, rt14, ([[(dx7, .cells #[.int .i64 (((Sk.stp d s (l.getD i1 S13.dflt)).1).room), .slice pd9 ((Sk.stp d s (l.getD i1 S13.dflt)).1).bs.length cd9, .int .i64 ((((Sk.stp d s (l.getD i1 S13.dflt)).1).lasts : Nat) : Int), .int .i64 (((Sk.stp d s (l.getD i1 S13.dflt)).1).inn)] 54 (0, 0))], qd9] : Hp).flatten⟩ : Nat × Dk × Sk × Nat × Nat × Nat × Sg × Sg × Nat × Nat × Nat × Sg × Sg) ⟨hin15, ht14, ⟨hd9, pd9, cd9, qd9, ho9, rfl⟩, hu14, hsk14, hso14, by omega⟩ (by dsimp only; omega)
   ·refine Tr.cond_f Z h13<|Zx<|Zy<|Zy<|Zi<|Zg<|Zs<|Zr<|Za Z<|Ze<|Zg<|Zu<|Ex.keep []<|?_
    exact Ex.ret1 rfl rfl  rfl

theorem scripts13_h {V : Vw} {room : Int} {l : List S13} {v1 : Value} (hv : Rd V [] 10 v1 l.length (l.map S13.cells).flatten) (hl9 : l.length ≤ 9223372036854775807) (hok : ∀ x, x ∈ l → S13.Ok x) : Does Tryz.prog 4 [.int .i64 room, v1] V [] (fun v _ _ => v = .bool true) := by
  obtain ⟨p, c, rfl, _⟩ := hv.form
  rw [← List.flatMap_def] at hv
  exact scripts13_c hv hl9 hok
end Go.Proofs.YtinkencbkcciiaaGreat
