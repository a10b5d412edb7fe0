/- Steps of stores, walked.
Conditions: as each theorem names them. -/
import Derived.Test.YtinkencbkcciiaaGreatProg
import Derived.Test.YtinkencbkcciiaaGreatStoresb
import Derived.Test.YtinkencbkcciiaaGreatDE
import Derived.Test.YtinkencbkcciiaaGreatTC
import Derived.Test.YtinkencbkcciiaaGreatKF
import Derived.Test.YtinkencbkcciiaaGreatZG
set_option linter.unusedSimpArgs false
set_option linter.unusedVariables false
set_option maxRecDepth 4000
namespace Go.Proofs.YtinkencbkcciiaaGreat
open Go Go.K
attribute [local irreducible] Code.wp wpList Calls wpQuiet
theorem Law13_zo101 : zeroOf Tryz.prog 101 = some (.agg #[.int .u32 0,.int .u32 0]) := by kernel_rfl
theorem Law13_pl101 : placesS Tryz.prog 101 = some [(0,1),(1,1)] := by kernel_rfl
theorem Law13_es23 : elemS Tryz.prog 23 = some (101,2) := by kernel_rfl
theorem Law13_pt33 : ptrT Tryz.prog 33 = true := by kernel_rfl
theorem Law13_zo49 : zeroOf Tryz.prog 49 = some (.agg #[.int .u32 0,.int .i64 0,.string ⟨#[]⟩,.int .i64 0,.int .i64 0,.int .i64 0,.int .i64 0,.int .i64 0]) := by kernel_rfl
theorem Law13_pl49 : placesS Tryz.prog 49 = some [(0,1),(1,1),(2,1),(3,1),(4,1),(5,1),(6,1),(7,1)] := by kernel_rfl
theorem Law13_pt60 : ptrT Tryz.prog 60 = true := by kernel_rfl
theorem Law13_sz49 : sizeT Tryz.prog 49 = some 8 := by kernel_rfl
theorem Law13_fo49_1 : fieldOff Tryz.prog 49 1 = some 1 := by kernel_rfl
theorem Law13_ts3 : scal Tryz.prog 3 = true := by kernel_rfl
theorem Law13_es41 : elemS Tryz.prog 41 = some (51,10) := by kernel_rfl
theorem Law13_fo51_2 : fieldOff Tryz.prog 51 2 = some 2 := by kernel_rfl
theorem Law13_fo49_2 : fieldOff Tryz.prog 49 2 = some 2 := by kernel_rfl
theorem Law13_ts9 : scal Tryz.prog 9 = true := by kernel_rfl
theorem Law13_st9 : strT Tryz.prog 9 = true := by kernel_rfl
theorem Law13_fo51_0 : fieldOff Tryz.prog 51 0 = some 0 := by kernel_rfl
theorem Law13_ag49 : aggsz Tryz.prog 49 = some 8 := by kernel_rfl
theorem Law13_fo51_1 : fieldOff Tryz.prog 51 1 = some 1 := by kernel_rfl
theorem Law13_pt36 : ptrT Tryz.prog 36 = true := by kernel_rfl
theorem Law13_tg4 : tagOf Tryz.prog 4 = some (1,.i64) := by kernel_rfl
theorem Law13_es59 : elemS Tryz.prog 59 = some (49,8) := by kernel_rfl
theorem Law13_mo : Tryz.prog.follows .mixedOrders = true := by kernel_rfl
theorem Law13_tgs49 : tags Tryz.prog 49 = some [(0,.u32),(0,.i64),(2,.i64),(0,.i64),(0,.i64),(0,.i64),(0,.i64),(0,.i64)] := by kernel_rfl
theorem Law13_fo133_1 : fieldOff Tryz.prog 133 1 = some 1 := by kernel_rfl
theorem Law13_ts79 : scal Tryz.prog 79 = true := by kernel_rfl
theorem Law13_fo135_0 : fieldOff Tryz.prog 135 0 = some 0 := by kernel_rfl
theorem Law13_ts59 : scal Tryz.prog 59 = true := by kernel_rfl
theorem Law13_fo133_2 : fieldOff Tryz.prog 133 2 = some 2 := by kernel_rfl
theorem Law13_fo133_3 : fieldOff Tryz.prog 133 3 = some 3 := by kernel_rfl
theorem Law13_fo133_0 : fieldOff Tryz.prog 133 0 = some 0 := by kernel_rfl
theorem Law13_ts129 : scal Tryz.prog 129 = true := by kernel_rfl
theorem Law13_es56 : elemS Tryz.prog 56 = some (22,1) := by kernel_rfl
theorem pool13_c  {V : Vw} : Does Tryz.prog 23 [] V [] (fun v V' H' => V.le V' ∧ Rd V' [] 2 v 1 (Rg.p16.flatMap Rg.cells) ∧ H' = []) := by
 refine Does.intro Tryz.func23 rfl rfl (le rfl) (fun B => ?_)
 refine Zs<|Zr<|Za Z<|Ze<|Zg<|Zs<|Zr<|Zv (Y.buildS (l := [(0,.const (.int .u32 1)),(1,.const (.int .u32 6))]) Law13_zo101 Law13_pl101 Z Z)<|?_
 refine Run.buildSlice (l := [(0,.tmp 1)]) Law13_es23 Law13_zo101 rfl WD rfl rfl WD (lt rfl) (fun b1 => ?_)
 have hsh := (Ow.lit (e := 101) (k := 2) (b := b1) (n := 1) (cur := #[.int .u32 1,.int .u32 6]) rfl WD).shows
 refine Run.keepTo (H' := [[(b1,.cells #[.int .u32 1,.int .u32 6] 101 (0,0))]]) [0] Z ?_
 refine Run.show (fun V9 hle9 hsh9 => ?_)
 have hv0 : Rd V9 [] 2 (.slice (some ⟨b1,0,none⟩) 1 1) Rg.p16.length (Rg.p16.flatMap Rg.cells) := hsh _ hsh9
 refine Za Z<|Ze<|Zg<|Zu<|Ex.keep []<|?_
 exact Ex.ret1 rfl rfl  ⟨hle9,hv0,rfl⟩
theorem awake13_c  {V : Vw} : Does Tryz.prog 14 [] V [] (fun v V' H' => V.le V' ∧ H' = [] ∧ v = .bool true) := by
 refine Does.intro Tryz.func14 rfl rfl (le rfl) (fun B => ?_)
 refine Zs<|Zr<|Za Z<|Ze<|Zg<|Zs<|Zr<|?_
 refine Run.call [] (l := [.const (.int .i64 1000)]) rfl rfl rfl (lt rfl) (dnew_c (room := 1000)) (fun v1 V1 H1 hle1 hR1 => ?_)
 obtain ⟨hV,⟨hno,_⟩ | ⟨_,dx1,sd1,rfl,hin1,rfl⟩⟩ := hR1
 · exact absurd hno WD
 replace hV := hV.symm; subst hV
 refine Run.heapTo (H' := [sd1]) Z<|Zm Z<|Zv (Y.extract Z Z)<|Zv (Y.extract Z Z)<|Za Z<|Za Z<|Ze<|Zg<|Zs<|Zr<|Zm Z<|?_
 refine Run.call [] (l := []) rfl rfl rfl (lt rfl) pool13_c (fun v2 V2 H2 hle2 hR2 => ?_)
 obtain ⟨_,hv2,rfl⟩ := hR2
 have hVle := hle2
 refine Run.heapTo (H' := [sd1]) Z ?_
 refine Run.call [0] (l := [.tmp 12,.tmp 13]) rfl rfl rfl (lt rfl) (open_o (rs := Rg.p16) hin1 hv2 WD Rg.p16_ok) (fun v3 V3 H3 hle3 hR3 => ?_)
 obtain ⟨hV,sd3,⟨hno,_⟩ | ⟨_,hno,_⟩ | ⟨_,_,sx3,lx3,tx3,sb3,rfl,ht3,hin3,rfl⟩⟩ := hR3
 · exact absurd Rg.pool16 hno
 · exact absurd (Sk.cut_ok hin1.1 (show (-1 : Int) ≠ 0 by decide)) hno
 replace hV := hV.symm; subst hV
 refine Run.heapTo (H' := [(cS 123 sx3 lx3 tx3 (Sk.opened Rg.p16 (Sk.cutD (Dk.new 1000)).1.bs)),(cL 187 lx3 dx1),sb3,sd3]) Z<|Zm Z<|Zv (Y.extract Z Z)<|Zv (Y.extract Z Z)<|Za Z<|Za Z<|Ze<|Zg<|Zs<|Zs<|Zr<|Zm Z<|Zv (Y.int (r := .bool false) Z Z Z)<|?_
 refine Zm Z<|Zp Z<|Zm Z<|Zp Z<|Zv (Y.int (r := .bool false) Z Z Z)<|Zv (Y.pick_f Z Z Z)<|Zm Z<|Zp Z<|Zm Z<|Zp Z<|Zv (Y.eqNil Z Z Law13_pt33)<|Zv (Y.pick_f Z Z Z)<|Ze<|Zg<|Tr.cond_f Z Z<|Zt<|?_
 refine Zg<|Zs<|Zr<|Zm Z<|Zv (Y.buildS (l := [(0,.const (.int .u32 1)),(1,.const (.int .i64 1))]) Law13_zo49 Law13_pl49 Z Z)<|?_
 refine Run.call [0,0,0,0] (l := [.tmp 27,.tmp 28]) rfl rfl rfl (lt rfl) (put_o hin3 (Sk.opened_ok Rg.pool16 _) ht3 (q := (⟨1,1,⟨#[]⟩,0,0,0,0,0⟩ : Le)) (by first | decide | exact ⟨by decide,by decide,by decide,by decide,by decide,by decide,by decide,by decide⟩)) (fun v4 V4 H4 hle4 hR4 => ?_)
 obtain ⟨hV,rfl,sb4,sd4,ht4,hin4,rfl⟩ := hR4; replace hV := hV.symm; subst hV
 refine Run.heapTo (H' := [(cS 123 sx3 lx3 tx3 ((Sk.put ((Sk.cutD (Dk.new 1000)).1) (Sk.opened Rg.p16 (Sk.cutD (Dk.new 1000)).1.bs) (⟨1,1,⟨#[]⟩,0,0,0,0,0⟩ : Le)).2.1)),(cL 187 lx3 dx1),sb4,sd4]) Z ?_
 refine Ze<|Zg<|Zs<|Zr<|Zm Z<|?_
 refine Run.call [0,0,0,0] (l := [.tmp 30,.const (.int .i64 3)]) rfl rfl rfl (lt rfl) (setli_o hin4 (Sk.put_ok hin3.1 (Sk.opened_ok Rg.pool16 _) _).2 ht4 (n := 3)) (fun v5 V5 H5 hle5 hR5 => ?_)
 obtain ⟨hV,rfl,sb5,sd5,ht5,hin5,rfl⟩ := hR5; replace hV := hV.symm; subst hV
 refine Run.heapTo (H' := [(cS 123 sx3 lx3 tx3 ((Sk.setLife ((Sk.put ((Sk.cutD (Dk.new 1000)).1) (Sk.opened Rg.p16 (Sk.cutD (Dk.new 1000)).1.bs) (⟨1,1,⟨#[]⟩,0,0,0,0,0⟩ : Le)).1) ((Sk.put ((Sk.cutD (Dk.new 1000)).1) (Sk.opened Rg.p16 (Sk.cutD (Dk.new 1000)).1.bs) (⟨1,1,⟨#[]⟩,0,0,0,0,0⟩ : Le)).2.1) 3).2.1)),(cL 187 lx3 dx1),sb5,sd5]) Z ?_
 refine Ze<|Zg<|Zs<|Zr<|Zm Z<|?_
 refine Run.call [0,0,0,0] (l := [.tmp 32]) rfl rfl rfl (lt rfl) (sync_c hin5 (Sk.setLife_ok hin4.1 (Sk.put_ok hin3.1 (Sk.opened_ok Rg.pool16 _) _).2 _).2 ht5) (fun v6 V6 H6 hle6 hR6 => ?_)
 obtain ⟨hV,rfl,sd6,hin6,rfl⟩ := hR6; replace hV := hV.symm; subst hV
 refine Run.heapTo (H' := [(cS 123 sx3 lx3 tx3 ((Sk.setLife ((Sk.put ((Sk.cutD (Dk.new 1000)).1) (Sk.opened Rg.p16 (Sk.cutD (Dk.new 1000)).1.bs) (⟨1,1,⟨#[]⟩,0,0,0,0,0⟩ : Le)).1) ((Sk.put ((Sk.cutD (Dk.new 1000)).1) (Sk.opened Rg.p16 (Sk.cutD (Dk.new 1000)).1.bs) (⟨1,1,⟨#[]⟩,0,0,0,0,0⟩ : Le)).2.1) 3).2.1)),(cL 187 lx3 dx1),sb5,sd6]) Z ?_
 refine Ze<|Zg<|Zs<|Zr<|Zm Z<|?_
 refine Run.call [0,0,0,0] (l := [.tmp 34,.const (.int .i64 2)]) rfl rfl rfl (lt rfl) (setst_o hin6 (Sk.setLife_ok hin4.1 (Sk.put_ok hin3.1 (Sk.opened_ok Rg.pool16 _) _).2 _).2 ht5 (n := 2)) (fun v7 V7 H7 hle7 hR7 => ?_)
 obtain ⟨hV,rfl,sb7,sd7,ht7,hin7,rfl⟩ := hR7; replace hV := hV.symm; subst hV
 refine Run.heapTo (H' := [[(sx3,.cells #[(pZ lx3),(pZ tx3),.int .i64 (((Sk.setState ((Dk.sync ((Sk.setLife ((Sk.put ((Sk.cutD (Dk.new 1000)).1) (Sk.opened Rg.p16 (Sk.cutD (Dk.new 1000)).1.bs) (⟨1,1,⟨#[]⟩,0,0,0,0,0⟩ : Le)).1) ((Sk.put ((Sk.cutD (Dk.new 1000)).1) (Sk.opened Rg.p16 (Sk.cutD (Dk.new 1000)).1.bs) (⟨1,1,⟨#[]⟩,0,0,0,0,0⟩ : Le)).2.1) 3).1)).1) ((Sk.setLife ((Sk.put ((Sk.cutD (Dk.new 1000)).1) (Sk.opened Rg.p16 (Sk.cutD (Dk.new 1000)).1.bs) (⟨1,1,⟨#[]⟩,0,0,0,0,0⟩ : Le)).1) ((Sk.put ((Sk.cutD (Dk.new 1000)).1) (Sk.opened Rg.p16 (Sk.cutD (Dk.new 1000)).1.bs) (⟨1,1,⟨#[]⟩,0,0,0,0,0⟩ : Le)).2.1) 3).2.1) 2).2.1).state),.int .i64 (((Sk.setState ((Dk.sync ((Sk.setLife ((Sk.put ((Sk.cutD (Dk.new 1000)).1) (Sk.opened Rg.p16 (Sk.cutD (Dk.new 1000)).1.bs) (⟨1,1,⟨#[]⟩,0,0,0,0,0⟩ : Le)).1) ((Sk.put ((Sk.cutD (Dk.new 1000)).1) (Sk.opened Rg.p16 (Sk.cutD (Dk.new 1000)).1.bs) (⟨1,1,⟨#[]⟩,0,0,0,0,0⟩ : Le)).2.1) 3).1)).1) ((Sk.setLife ((Sk.put ((Sk.cutD (Dk.new 1000)).1) (Sk.opened Rg.p16 (Sk.cutD (Dk.new 1000)).1.bs) (⟨1,1,⟨#[]⟩,0,0,0,0,0⟩ : Le)).1) ((Sk.put ((Sk.cutD (Dk.new 1000)).1) (Sk.opened Rg.p16 (Sk.cutD (Dk.new 1000)).1.bs) (⟨1,1,⟨#[]⟩,0,0,0,0,0⟩ : Le)).2.1) 3).2.1) 2).2.1).life)] 123 (0,0))],(cL 187 lx3 dx1),sb7,sd7]) Z ?_
 refine Ze<|Zg<|Zs<|Zr<|Zm Z<|?_
 refine Run.call [3] (l := [.tmp 36,.const (.int .i64 0)]) rfl rfl rfl (lt rfl) (dcrash_o hin7) (fun v8 V8 H8 hle8 hR8 => ?_)
 obtain ⟨hV,sd8,hin8,rfl⟩ := hR8; replace hV := hV.symm; subst hV
 refine Run.heapTo (H' := [[(sx3,.cells #[(pZ lx3),(pZ tx3),.int .i64 (((Sk.setState ((Dk.sync ((Sk.setLife ((Sk.put ((Sk.cutD (Dk.new 1000)).1) (Sk.opened Rg.p16 (Sk.cutD (Dk.new 1000)).1.bs) (⟨1,1,⟨#[]⟩,0,0,0,0,0⟩ : Le)).1) ((Sk.put ((Sk.cutD (Dk.new 1000)).1) (Sk.opened Rg.p16 (Sk.cutD (Dk.new 1000)).1.bs) (⟨1,1,⟨#[]⟩,0,0,0,0,0⟩ : Le)).2.1) 3).1)).1) ((Sk.setLife ((Sk.put ((Sk.cutD (Dk.new 1000)).1) (Sk.opened Rg.p16 (Sk.cutD (Dk.new 1000)).1.bs) (⟨1,1,⟨#[]⟩,0,0,0,0,0⟩ : Le)).1) ((Sk.put ((Sk.cutD (Dk.new 1000)).1) (Sk.opened Rg.p16 (Sk.cutD (Dk.new 1000)).1.bs) (⟨1,1,⟨#[]⟩,0,0,0,0,0⟩ : Le)).2.1) 3).2.1) 2).2.1).state),.int .i64 (((Sk.setState ((Dk.sync ((Sk.setLife ((Sk.put ((Sk.cutD (Dk.new 1000)).1) (Sk.opened Rg.p16 (Sk.cutD (Dk.new 1000)).1.bs) (⟨1,1,⟨#[]⟩,0,0,0,0,0⟩ : Le)).1) ((Sk.put ((Sk.cutD (Dk.new 1000)).1) (Sk.opened Rg.p16 (Sk.cutD (Dk.new 1000)).1.bs) (⟨1,1,⟨#[]⟩,0,0,0,0,0⟩ : Le)).2.1) 3).1)).1) ((Sk.setLife ((Sk.put ((Sk.cutD (Dk.new 1000)).1) (Sk.opened Rg.p16 (Sk.cutD (Dk.new 1000)).1.bs) (⟨1,1,⟨#[]⟩,0,0,0,0,0⟩ : Le)).1) ((Sk.put ((Sk.cutD (Dk.new 1000)).1) (Sk.opened Rg.p16 (Sk.cutD (Dk.new 1000)).1.bs) (⟨1,1,⟨#[]⟩,0,0,0,0,0⟩ : Le)).2.1) 3).2.1) 2).2.1).life)] 123 (0,0))],(cL 187 lx3 dx1),sb7,sd8]) Z ?_
 refine Ze<|Zg<|Zs<|Zr<|Zm Z<|?_
 refine Run.call [] (l := []) rfl rfl rfl (lt rfl) pool13_c (fun v9 V9 H9 hle9 hR9 => ?_)
 obtain ⟨_,hv9,rfl⟩ := hR9
 replace hv2 := hv2.le hle9
 replace hVle := Vw.le_trans hVle hle9
 refine Run.heapTo (H' := [[(sx3,.cells #[(pZ lx3),(pZ tx3),.int .i64 (((Sk.setState ((Dk.sync ((Sk.setLife ((Sk.put ((Sk.cutD (Dk.new 1000)).1) (Sk.opened Rg.p16 (Sk.cutD (Dk.new 1000)).1.bs) (⟨1,1,⟨#[]⟩,0,0,0,0,0⟩ : Le)).1) ((Sk.put ((Sk.cutD (Dk.new 1000)).1) (Sk.opened Rg.p16 (Sk.cutD (Dk.new 1000)).1.bs) (⟨1,1,⟨#[]⟩,0,0,0,0,0⟩ : Le)).2.1) 3).1)).1) ((Sk.setLife ((Sk.put ((Sk.cutD (Dk.new 1000)).1) (Sk.opened Rg.p16 (Sk.cutD (Dk.new 1000)).1.bs) (⟨1,1,⟨#[]⟩,0,0,0,0,0⟩ : Le)).1) ((Sk.put ((Sk.cutD (Dk.new 1000)).1) (Sk.opened Rg.p16 (Sk.cutD (Dk.new 1000)).1.bs) (⟨1,1,⟨#[]⟩,0,0,0,0,0⟩ : Le)).2.1) 3).2.1) 2).2.1).state),.int .i64 (((Sk.setState ((Dk.sync ((Sk.setLife ((Sk.put ((Sk.cutD (Dk.new 1000)).1) (Sk.opened Rg.p16 (Sk.cutD (Dk.new 1000)).1.bs) (⟨1,1,⟨#[]⟩,0,0,0,0,0⟩ : Le)).1) ((Sk.put ((Sk.cutD (Dk.new 1000)).1) (Sk.opened Rg.p16 (Sk.cutD (Dk.new 1000)).1.bs) (⟨1,1,⟨#[]⟩,0,0,0,0,0⟩ : Le)).2.1) 3).1)).1) ((Sk.setLife ((Sk.put ((Sk.cutD (Dk.new 1000)).1) (Sk.opened Rg.p16 (Sk.cutD (Dk.new 1000)).1.bs) (⟨1,1,⟨#[]⟩,0,0,0,0,0⟩ : Le)).1) ((Sk.put ((Sk.cutD (Dk.new 1000)).1) (Sk.opened Rg.p16 (Sk.cutD (Dk.new 1000)).1.bs) (⟨1,1,⟨#[]⟩,0,0,0,0,0⟩ : Le)).2.1) 3).2.1) 2).2.1).life)] 123 (0,0))],(cL 187 lx3 dx1),sb7,sd8]) Z ?_
 refine Run.call [3] (l := [.tmp 39,.tmp 40]) rfl rfl rfl (lt rfl) (open_o (rs := Rg.p16) hin8 hv9 WD Rg.p16_ok) (fun v10 V10 H10 hle10 hR10 => ?_)
 obtain ⟨hV,sd10,⟨hno,_⟩ | ⟨_,hno,_⟩ | ⟨_,_,sx10,lx10,tx10,sb10,rfl,ht10,hin10,rfl⟩⟩ := hR10
 · exact absurd Rg.pool16 hno
 · exact absurd (Sk.cut_ok hin8.1 (show (-1 : Int) ≠ 0 by decide)) hno
 replace hV := hV.symm; subst hV
 refine Run.heapTo (H' := [[(sx3,.cells #[(pZ lx3),(pZ tx3),.int .i64 (((Sk.setState ((Dk.sync ((Sk.setLife ((Sk.put ((Sk.cutD (Dk.new 1000)).1) (Sk.opened Rg.p16 (Sk.cutD (Dk.new 1000)).1.bs) (⟨1,1,⟨#[]⟩,0,0,0,0,0⟩ : Le)).1) ((Sk.put ((Sk.cutD (Dk.new 1000)).1) (Sk.opened Rg.p16 (Sk.cutD (Dk.new 1000)).1.bs) (⟨1,1,⟨#[]⟩,0,0,0,0,0⟩ : Le)).2.1) 3).1)).1) ((Sk.setLife ((Sk.put ((Sk.cutD (Dk.new 1000)).1) (Sk.opened Rg.p16 (Sk.cutD (Dk.new 1000)).1.bs) (⟨1,1,⟨#[]⟩,0,0,0,0,0⟩ : Le)).1) ((Sk.put ((Sk.cutD (Dk.new 1000)).1) (Sk.opened Rg.p16 (Sk.cutD (Dk.new 1000)).1.bs) (⟨1,1,⟨#[]⟩,0,0,0,0,0⟩ : Le)).2.1) 3).2.1) 2).2.1).state),.int .i64 (((Sk.setState ((Dk.sync ((Sk.setLife ((Sk.put ((Sk.cutD (Dk.new 1000)).1) (Sk.opened Rg.p16 (Sk.cutD (Dk.new 1000)).1.bs) (⟨1,1,⟨#[]⟩,0,0,0,0,0⟩ : Le)).1) ((Sk.put ((Sk.cutD (Dk.new 1000)).1) (Sk.opened Rg.p16 (Sk.cutD (Dk.new 1000)).1.bs) (⟨1,1,⟨#[]⟩,0,0,0,0,0⟩ : Le)).2.1) 3).1)).1) ((Sk.setLife ((Sk.put ((Sk.cutD (Dk.new 1000)).1) (Sk.opened Rg.p16 (Sk.cutD (Dk.new 1000)).1.bs) (⟨1,1,⟨#[]⟩,0,0,0,0,0⟩ : Le)).1) ((Sk.put ((Sk.cutD (Dk.new 1000)).1) (Sk.opened Rg.p16 (Sk.cutD (Dk.new 1000)).1.bs) (⟨1,1,⟨#[]⟩,0,0,0,0,0⟩ : Le)).2.1) 3).2.1) 2).2.1).life)] 123 (0,0))],(cL 187 lx3 dx1),sb7,[(sx10,.cells #[(pZ lx10),(pZ tx10),.int .i64 ((Sk.opened Rg.p16 (Sk.cutD (Dk.crash ((Sk.setState ((Dk.sync ((Sk.setLife ((Sk.put ((Sk.cutD (Dk.new 1000)).1) (Sk.opened Rg.p16 (Sk.cutD (Dk.new 1000)).1.bs) (⟨1,1,⟨#[]⟩,0,0,0,0,0⟩ : Le)).1) ((Sk.put ((Sk.cutD (Dk.new 1000)).1) (Sk.opened Rg.p16 (Sk.cutD (Dk.new 1000)).1.bs) (⟨1,1,⟨#[]⟩,0,0,0,0,0⟩ : Le)).2.1) 3).1)).1) ((Sk.setLife ((Sk.put ((Sk.cutD (Dk.new 1000)).1) (Sk.opened Rg.p16 (Sk.cutD (Dk.new 1000)).1.bs) (⟨1,1,⟨#[]⟩,0,0,0,0,0⟩ : Le)).1) ((Sk.put ((Sk.cutD (Dk.new 1000)).1) (Sk.opened Rg.p16 (Sk.cutD (Dk.new 1000)).1.bs) (⟨1,1,⟨#[]⟩,0,0,0,0,0⟩ : Le)).2.1) 3).2.1) 2).1) 0)).1.bs).state),.int .i64 ((Sk.opened Rg.p16 (Sk.cutD (Dk.crash ((Sk.setState ((Dk.sync ((Sk.setLife ((Sk.put ((Sk.cutD (Dk.new 1000)).1) (Sk.opened Rg.p16 (Sk.cutD (Dk.new 1000)).1.bs) (⟨1,1,⟨#[]⟩,0,0,0,0,0⟩ : Le)).1) ((Sk.put ((Sk.cutD (Dk.new 1000)).1) (Sk.opened Rg.p16 (Sk.cutD (Dk.new 1000)).1.bs) (⟨1,1,⟨#[]⟩,0,0,0,0,0⟩ : Le)).2.1) 3).1)).1) ((Sk.setLife ((Sk.put ((Sk.cutD (Dk.new 1000)).1) (Sk.opened Rg.p16 (Sk.cutD (Dk.new 1000)).1.bs) (⟨1,1,⟨#[]⟩,0,0,0,0,0⟩ : Le)).1) ((Sk.put ((Sk.cutD (Dk.new 1000)).1) (Sk.opened Rg.p16 (Sk.cutD (Dk.new 1000)).1.bs) (⟨1,1,⟨#[]⟩,0,0,0,0,0⟩ : Le)).2.1) 3).2.1) 2).1) 0)).1.bs).life)] 123 (0,0))],(cL 187 lx10 dx1),sb10,sd10]) Z ?_
 refine Zm Z<|Zv (Y.extract Z Z)<|Zv (Y.extract Z Z)<|Za Z<|Za Z<|Ze<|Zg<|Zs<|Zs<|Zr<|Zm Z<|Zv (Y.int (r := .bool false) Z Z Z)<|Zm Z<|Zp Z<|Zm Z<|Zp Z<|?_
 refine Zv (Y.eqNil Z Z Law13_pt33)<|Zv (Y.pick_f Z Z Z)<|Zm Z<|Zp Z<|Zm Z<|Zp Z<|Run.call0 (l := [.tmp 51]) Z Z Z (lt Z) (Does.frame1 3 Z (table_c (s := (Sk.opened Rg.p16 (Sk.cutD (Dk.crash ((Sk.setState ((Dk.sync ((Sk.setLife ((Sk.put ((Sk.cutD (Dk.new 1000)).1) (Sk.opened Rg.p16 (Sk.cutD (Dk.new 1000)).1.bs) (⟨1,1,⟨#[]⟩,0,0,0,0,0⟩ : Le)).1) ((Sk.put ((Sk.cutD (Dk.new 1000)).1) (Sk.opened Rg.p16 (Sk.cutD (Dk.new 1000)).1.bs) (⟨1,1,⟨#[]⟩,0,0,0,0,0⟩ : Le)).2.1) 3).1)).1) ((Sk.setLife ((Sk.put ((Sk.cutD (Dk.new 1000)).1) (Sk.opened Rg.p16 (Sk.cutD (Dk.new 1000)).1.bs) (⟨1,1,⟨#[]⟩,0,0,0,0,0⟩ : Le)).1) ((Sk.put ((Sk.cutD (Dk.new 1000)).1) (Sk.opened Rg.p16 (Sk.cutD (Dk.new 1000)).1.bs) (⟨1,1,⟨#[]⟩,0,0,0,0,0⟩ : Le)).2.1) 3).2.1) 2).1) 0)).1.bs)) (lx := lx10) (tx := tx10)))<|?_
 refine Zp Z<|Zv (Y.eqNil Z Z Law13_pt60)<|Zv (Y.pick_f Z Z Z)<|Ze<|Zg<|Tr.cond_f Z Z<|Zt<|Zg<|Zs<|Zr<|Zm Z<|Run.call0 (l := [.tmp 56]) Z Z Z (lt Z) (Does.frame1 3 Z (table_c (s := (Sk.opened Rg.p16 (Sk.cutD (Dk.crash ((Sk.setState ((Dk.sync ((Sk.setLife ((Sk.put ((Sk.cutD (Dk.new 1000)).1) (Sk.opened Rg.p16 (Sk.cutD (Dk.new 1000)).1.bs) (⟨1,1,⟨#[]⟩,0,0,0,0,0⟩ : Le)).1) ((Sk.put ((Sk.cutD (Dk.new 1000)).1) (Sk.opened Rg.p16 (Sk.cutD (Dk.new 1000)).1.bs) (⟨1,1,⟨#[]⟩,0,0,0,0,0⟩ : Le)).2.1) 3).1)).1) ((Sk.setLife ((Sk.put ((Sk.cutD (Dk.new 1000)).1) (Sk.opened Rg.p16 (Sk.cutD (Dk.new 1000)).1.bs) (⟨1,1,⟨#[]⟩,0,0,0,0,0⟩ : Le)).1) ((Sk.put ((Sk.cutD (Dk.new 1000)).1) (Sk.opened Rg.p16 (Sk.cutD (Dk.new 1000)).1.bs) (⟨1,1,⟨#[]⟩,0,0,0,0,0⟩ : Le)).2.1) 3).2.1) 2).1) 0)).1.bs)) (lx := lx10) (tx := tx10)))<|?_
 refine Run.call0 (l := [.tmp 57,.const (.int .u32 1)]) Z Z Z (lt Z) (Does.frame1 5 Z (get_o (a := 1) ht10))<|Zm Z<|Zv (Y.extract Z Z)<|Zv (Y.extract Z Z)<|?_
 refine Run.alloc Law13_zo49 (lt rfl) (fun b11 => ?_)
 refine Run.store (s := [(b11,.cells #[.int .u32 ((Le.getE ((Sk.opened Rg.p16 (Sk.cutD (Dk.crash ((Sk.setState ((Dk.sync ((Sk.setLife ((Sk.put ((Sk.cutD (Dk.new 1000)).1) (Sk.opened Rg.p16 (Sk.cutD (Dk.new 1000)).1.bs) (⟨1,1,⟨#[]⟩,0,0,0,0,0⟩ : Le)).1) ((Sk.put ((Sk.cutD (Dk.new 1000)).1) (Sk.opened Rg.p16 (Sk.cutD (Dk.new 1000)).1.bs) (⟨1,1,⟨#[]⟩,0,0,0,0,0⟩ : Le)).2.1) 3).1)).1) ((Sk.setLife ((Sk.put ((Sk.cutD (Dk.new 1000)).1) (Sk.opened Rg.p16 (Sk.cutD (Dk.new 1000)).1.bs) (⟨1,1,⟨#[]⟩,0,0,0,0,0⟩ : Le)).1) ((Sk.put ((Sk.cutD (Dk.new 1000)).1) (Sk.opened Rg.p16 (Sk.cutD (Dk.new 1000)).1.bs) (⟨1,1,⟨#[]⟩,0,0,0,0,0⟩ : Le)).2.1) 3).2.1) 2).1) 0)).1.bs)).t 1).1.addr),.int .i64 ((Le.getE ((Sk.opened Rg.p16 (Sk.cutD (Dk.crash ((Sk.setState ((Dk.sync ((Sk.setLife ((Sk.put ((Sk.cutD (Dk.new 1000)).1) (Sk.opened Rg.p16 (Sk.cutD (Dk.new 1000)).1.bs) (⟨1,1,⟨#[]⟩,0,0,0,0,0⟩ : Le)).1) ((Sk.put ((Sk.cutD (Dk.new 1000)).1) (Sk.opened Rg.p16 (Sk.cutD (Dk.new 1000)).1.bs) (⟨1,1,⟨#[]⟩,0,0,0,0,0⟩ : Le)).2.1) 3).1)).1) ((Sk.setLife ((Sk.put ((Sk.cutD (Dk.new 1000)).1) (Sk.opened Rg.p16 (Sk.cutD (Dk.new 1000)).1.bs) (⟨1,1,⟨#[]⟩,0,0,0,0,0⟩ : Le)).1) ((Sk.put ((Sk.cutD (Dk.new 1000)).1) (Sk.opened Rg.p16 (Sk.cutD (Dk.new 1000)).1.bs) (⟨1,1,⟨#[]⟩,0,0,0,0,0⟩ : Le)).2.1) 3).2.1) 2).1) 0)).1.bs)).t 1).1.bind),.string ((Le.getE ((Sk.opened Rg.p16 (Sk.cutD (Dk.crash ((Sk.setState ((Dk.sync ((Sk.setLife ((Sk.put ((Sk.cutD (Dk.new 1000)).1) (Sk.opened Rg.p16 (Sk.cutD (Dk.new 1000)).1.bs) (⟨1,1,⟨#[]⟩,0,0,0,0,0⟩ : Le)).1) ((Sk.put ((Sk.cutD (Dk.new 1000)).1) (Sk.opened Rg.p16 (Sk.cutD (Dk.new 1000)).1.bs) (⟨1,1,⟨#[]⟩,0,0,0,0,0⟩ : Le)).2.1) 3).1)).1) ((Sk.setLife ((Sk.put ((Sk.cutD (Dk.new 1000)).1) (Sk.opened Rg.p16 (Sk.cutD (Dk.new 1000)).1.bs) (⟨1,1,⟨#[]⟩,0,0,0,0,0⟩ : Le)).1) ((Sk.put ((Sk.cutD (Dk.new 1000)).1) (Sk.opened Rg.p16 (Sk.cutD (Dk.new 1000)).1.bs) (⟨1,1,⟨#[]⟩,0,0,0,0,0⟩ : Le)).2.1) 3).2.1) 2).1) 0)).1.bs)).t 1).1.client),.int .i64 ((Le.getE ((Sk.opened Rg.p16 (Sk.cutD (Dk.crash ((Sk.setState ((Dk.sync ((Sk.setLife ((Sk.put ((Sk.cutD (Dk.new 1000)).1) (Sk.opened Rg.p16 (Sk.cutD (Dk.new 1000)).1.bs) (⟨1,1,⟨#[]⟩,0,0,0,0,0⟩ : Le)).1) ((Sk.put ((Sk.cutD (Dk.new 1000)).1) (Sk.opened Rg.p16 (Sk.cutD (Dk.new 1000)).1.bs) (⟨1,1,⟨#[]⟩,0,0,0,0,0⟩ : Le)).2.1) 3).1)).1) ((Sk.setLife ((Sk.put ((Sk.cutD (Dk.new 1000)).1) (Sk.opened Rg.p16 (Sk.cutD (Dk.new 1000)).1.bs) (⟨1,1,⟨#[]⟩,0,0,0,0,0⟩ : Le)).1) ((Sk.put ((Sk.cutD (Dk.new 1000)).1) (Sk.opened Rg.p16 (Sk.cutD (Dk.new 1000)).1.bs) (⟨1,1,⟨#[]⟩,0,0,0,0,0⟩ : Le)).2.1) 3).2.1) 2).1) 0)).1.bs)).t 1).1.till),.int .i64 ((Le.getE ((Sk.opened Rg.p16 (Sk.cutD (Dk.crash ((Sk.setState ((Dk.sync ((Sk.setLife ((Sk.put ((Sk.cutD (Dk.new 1000)).1) (Sk.opened Rg.p16 (Sk.cutD (Dk.new 1000)).1.bs) (⟨1,1,⟨#[]⟩,0,0,0,0,0⟩ : Le)).1) ((Sk.put ((Sk.cutD (Dk.new 1000)).1) (Sk.opened Rg.p16 (Sk.cutD (Dk.new 1000)).1.bs) (⟨1,1,⟨#[]⟩,0,0,0,0,0⟩ : Le)).2.1) 3).1)).1) ((Sk.setLife ((Sk.put ((Sk.cutD (Dk.new 1000)).1) (Sk.opened Rg.p16 (Sk.cutD (Dk.new 1000)).1.bs) (⟨1,1,⟨#[]⟩,0,0,0,0,0⟩ : Le)).1) ((Sk.put ((Sk.cutD (Dk.new 1000)).1) (Sk.opened Rg.p16 (Sk.cutD (Dk.new 1000)).1.bs) (⟨1,1,⟨#[]⟩,0,0,0,0,0⟩ : Le)).2.1) 3).2.1) 2).1) 0)).1.bs)).t 1).1.acked),.int .i64 ((Le.getE ((Sk.opened Rg.p16 (Sk.cutD (Dk.crash ((Sk.setState ((Dk.sync ((Sk.setLife ((Sk.put ((Sk.cutD (Dk.new 1000)).1) (Sk.opened Rg.p16 (Sk.cutD (Dk.new 1000)).1.bs) (⟨1,1,⟨#[]⟩,0,0,0,0,0⟩ : Le)).1) ((Sk.put ((Sk.cutD (Dk.new 1000)).1) (Sk.opened Rg.p16 (Sk.cutD (Dk.new 1000)).1.bs) (⟨1,1,⟨#[]⟩,0,0,0,0,0⟩ : Le)).2.1) 3).1)).1) ((Sk.setLife ((Sk.put ((Sk.cutD (Dk.new 1000)).1) (Sk.opened Rg.p16 (Sk.cutD (Dk.new 1000)).1.bs) (⟨1,1,⟨#[]⟩,0,0,0,0,0⟩ : Le)).1) ((Sk.put ((Sk.cutD (Dk.new 1000)).1) (Sk.opened Rg.p16 (Sk.cutD (Dk.new 1000)).1.bs) (⟨1,1,⟨#[]⟩,0,0,0,0,0⟩ : Le)).2.1) 3).2.1) 2).1) 0)).1.bs)).t 1).1.told),.int .i64 ((Le.getE ((Sk.opened Rg.p16 (Sk.cutD (Dk.crash ((Sk.setState ((Dk.sync ((Sk.setLife ((Sk.put ((Sk.cutD (Dk.new 1000)).1) (Sk.opened Rg.p16 (Sk.cutD (Dk.new 1000)).1.bs) (⟨1,1,⟨#[]⟩,0,0,0,0,0⟩ : Le)).1) ((Sk.put ((Sk.cutD (Dk.new 1000)).1) (Sk.opened Rg.p16 (Sk.cutD (Dk.new 1000)).1.bs) (⟨1,1,⟨#[]⟩,0,0,0,0,0⟩ : Le)).2.1) 3).1)).1) ((Sk.setLife ((Sk.put ((Sk.cutD (Dk.new 1000)).1) (Sk.opened Rg.p16 (Sk.cutD (Dk.new 1000)).1.bs) (⟨1,1,⟨#[]⟩,0,0,0,0,0⟩ : Le)).1) ((Sk.put ((Sk.cutD (Dk.new 1000)).1) (Sk.opened Rg.p16 (Sk.cutD (Dk.new 1000)).1.bs) (⟨1,1,⟨#[]⟩,0,0,0,0,0⟩ : Le)).2.1) 3).2.1) 2).1) 0)).1.bs)).t 1).1.at_),.int .i64 ((Le.getE ((Sk.opened Rg.p16 (Sk.cutD (Dk.crash ((Sk.setState ((Dk.sync ((Sk.setLife ((Sk.put ((Sk.cutD (Dk.new 1000)).1) (Sk.opened Rg.p16 (Sk.cutD (Dk.new 1000)).1.bs) (⟨1,1,⟨#[]⟩,0,0,0,0,0⟩ : Le)).1) ((Sk.put ((Sk.cutD (Dk.new 1000)).1) (Sk.opened Rg.p16 (Sk.cutD (Dk.new 1000)).1.bs) (⟨1,1,⟨#[]⟩,0,0,0,0,0⟩ : Le)).2.1) 3).1)).1) ((Sk.setLife ((Sk.put ((Sk.cutD (Dk.new 1000)).1) (Sk.opened Rg.p16 (Sk.cutD (Dk.new 1000)).1.bs) (⟨1,1,⟨#[]⟩,0,0,0,0,0⟩ : Le)).1) ((Sk.put ((Sk.cutD (Dk.new 1000)).1) (Sk.opened Rg.p16 (Sk.cutD (Dk.new 1000)).1.bs) (⟨1,1,⟨#[]⟩,0,0,0,0,0⟩ : Le)).2.1) 3).2.1) 2).1) 0)).1.bs)).t 1).1.ver)] 49 (0,0))]) Z Z Law13_sz49 (i := 0) Z Z (le Z) Z Z ?_
 refine Za Z<|Ze<|Zg<|Zs<|Zr<|Zm Z<|Zv (Y.int Z Z Z)<|Zm Z<|Run.on rfl rfl rfl (show (((Le.getE ((Sk.opened Rg.p16 (Sk.cutD (Dk.crash ((Sk.setState ((Dk.sync ((Sk.setLife ((Sk.put ((Sk.cutD (Dk.new 1000)).1) (Sk.opened Rg.p16 (Sk.cutD (Dk.new 1000)).1.bs) (⟨1,1,⟨#[]⟩,0,0,0,0,0⟩ : Le)).1) ((Sk.put ((Sk.cutD (Dk.new 1000)).1) (Sk.opened Rg.p16 (Sk.cutD (Dk.new 1000)).1.bs) (⟨1,1,⟨#[]⟩,0,0,0,0,0⟩ : Le)).2.1) 3).1)).1) ((Sk.setLife ((Sk.put ((Sk.cutD (Dk.new 1000)).1) (Sk.opened Rg.p16 (Sk.cutD (Dk.new 1000)).1.bs) (⟨1,1,⟨#[]⟩,0,0,0,0,0⟩ : Le)).1) ((Sk.put ((Sk.cutD (Dk.new 1000)).1) (Sk.opened Rg.p16 (Sk.cutD (Dk.new 1000)).1.bs) (⟨1,1,⟨#[]⟩,0,0,0,0,0⟩ : Le)).2.1) 3).2.1) 2).1) 0)).1.bs)).t 1).2) == 0) = true from by decide +kernel)<|?_
 refine Zv (Y.fieldAddr Z Law13_fo49_1)<|Run.on rfl rfl rfl (show (((Le.getE ((Sk.opened Rg.p16 (Sk.cutD (Dk.crash ((Sk.setState ((Dk.sync ((Sk.setLife ((Sk.put ((Sk.cutD (Dk.new 1000)).1) (Sk.opened Rg.p16 (Sk.cutD (Dk.new 1000)).1.bs) (⟨1,1,⟨#[]⟩,0,0,0,0,0⟩ : Le)).1) ((Sk.put ((Sk.cutD (Dk.new 1000)).1) (Sk.opened Rg.p16 (Sk.cutD (Dk.new 1000)).1.bs) (⟨1,1,⟨#[]⟩,0,0,0,0,0⟩ : Le)).2.1) 3).1)).1) ((Sk.setLife ((Sk.put ((Sk.cutD (Dk.new 1000)).1) (Sk.opened Rg.p16 (Sk.cutD (Dk.new 1000)).1.bs) (⟨1,1,⟨#[]⟩,0,0,0,0,0⟩ : Le)).1) ((Sk.put ((Sk.cutD (Dk.new 1000)).1) (Sk.opened Rg.p16 (Sk.cutD (Dk.new 1000)).1.bs) (⟨1,1,⟨#[]⟩,0,0,0,0,0⟩ : Le)).2.1) 3).2.1) 2).1) 0)).1.bs)).t 1).2) == 0) = true from by decide +kernel)<|?_
 refine Zv (Y.load Z Law13_ts3 (Kn.at 0 Z) Z)<|Run.on rfl rfl rfl (show (((Le.getE ((Sk.opened Rg.p16 (Sk.cutD (Dk.crash ((Sk.setState ((Dk.sync ((Sk.setLife ((Sk.put ((Sk.cutD (Dk.new 1000)).1) (Sk.opened Rg.p16 (Sk.cutD (Dk.new 1000)).1.bs) (⟨1,1,⟨#[]⟩,0,0,0,0,0⟩ : Le)).1) ((Sk.put ((Sk.cutD (Dk.new 1000)).1) (Sk.opened Rg.p16 (Sk.cutD (Dk.new 1000)).1.bs) (⟨1,1,⟨#[]⟩,0,0,0,0,0⟩ : Le)).2.1) 3).1)).1) ((Sk.setLife ((Sk.put ((Sk.cutD (Dk.new 1000)).1) (Sk.opened Rg.p16 (Sk.cutD (Dk.new 1000)).1.bs) (⟨1,1,⟨#[]⟩,0,0,0,0,0⟩ : Le)).1) ((Sk.put ((Sk.cutD (Dk.new 1000)).1) (Sk.opened Rg.p16 (Sk.cutD (Dk.new 1000)).1.bs) (⟨1,1,⟨#[]⟩,0,0,0,0,0⟩ : Le)).2.1) 3).2.1) 2).1) 0)).1.bs)).t 1).2) == 0) = true from by decide +kernel)<|?_
 refine Zv (Y.int Z Z Z)<|Zv (Y.pick_t Z (show (((Le.getE ((Sk.opened Rg.p16 (Sk.cutD (Dk.crash ((Sk.setState ((Dk.sync ((Sk.setLife ((Sk.put ((Sk.cutD (Dk.new 1000)).1) (Sk.opened Rg.p16 (Sk.cutD (Dk.new 1000)).1.bs) (⟨1,1,⟨#[]⟩,0,0,0,0,0⟩ : Le)).1) ((Sk.put ((Sk.cutD (Dk.new 1000)).1) (Sk.opened Rg.p16 (Sk.cutD (Dk.new 1000)).1.bs) (⟨1,1,⟨#[]⟩,0,0,0,0,0⟩ : Le)).2.1) 3).1)).1) ((Sk.setLife ((Sk.put ((Sk.cutD (Dk.new 1000)).1) (Sk.opened Rg.p16 (Sk.cutD (Dk.new 1000)).1.bs) (⟨1,1,⟨#[]⟩,0,0,0,0,0⟩ : Le)).1) ((Sk.put ((Sk.cutD (Dk.new 1000)).1) (Sk.opened Rg.p16 (Sk.cutD (Dk.new 1000)).1.bs) (⟨1,1,⟨#[]⟩,0,0,0,0,0⟩ : Le)).2.1) 3).2.1) 2).1) 0)).1.bs)).t 1).2) == 0) = true from by decide +kernel) rfl)<|?_
 refine Zm Z<|Run.on rfl rfl rfl (show (((Le.getE ((Sk.opened Rg.p16 (Sk.cutD (Dk.crash ((Sk.setState ((Dk.sync ((Sk.setLife ((Sk.put ((Sk.cutD (Dk.new 1000)).1) (Sk.opened Rg.p16 (Sk.cutD (Dk.new 1000)).1.bs) (⟨1,1,⟨#[]⟩,0,0,0,0,0⟩ : Le)).1) ((Sk.put ((Sk.cutD (Dk.new 1000)).1) (Sk.opened Rg.p16 (Sk.cutD (Dk.new 1000)).1.bs) (⟨1,1,⟨#[]⟩,0,0,0,0,0⟩ : Le)).2.1) 3).1)).1) ((Sk.setLife ((Sk.put ((Sk.cutD (Dk.new 1000)).1) (Sk.opened Rg.p16 (Sk.cutD (Dk.new 1000)).1.bs) (⟨1,1,⟨#[]⟩,0,0,0,0,0⟩ : Le)).1) ((Sk.put ((Sk.cutD (Dk.new 1000)).1) (Sk.opened Rg.p16 (Sk.cutD (Dk.new 1000)).1.bs) (⟨1,1,⟨#[]⟩,0,0,0,0,0⟩ : Le)).2.1) 3).2.1) 2).1) 0)).1.bs)).t 1).1.bind) == 1) = true from by decide +kernel)<|?_
 refine Zm Z<|Run.on rfl rfl rfl (show (((Le.getE ((Sk.opened Rg.p16 (Sk.cutD (Dk.crash ((Sk.setState ((Dk.sync ((Sk.setLife ((Sk.put ((Sk.cutD (Dk.new 1000)).1) (Sk.opened Rg.p16 (Sk.cutD (Dk.new 1000)).1.bs) (⟨1,1,⟨#[]⟩,0,0,0,0,0⟩ : Le)).1) ((Sk.put ((Sk.cutD (Dk.new 1000)).1) (Sk.opened Rg.p16 (Sk.cutD (Dk.new 1000)).1.bs) (⟨1,1,⟨#[]⟩,0,0,0,0,0⟩ : Le)).2.1) 3).1)).1) ((Sk.setLife ((Sk.put ((Sk.cutD (Dk.new 1000)).1) (Sk.opened Rg.p16 (Sk.cutD (Dk.new 1000)).1.bs) (⟨1,1,⟨#[]⟩,0,0,0,0,0⟩ : Le)).1) ((Sk.put ((Sk.cutD (Dk.new 1000)).1) (Sk.opened Rg.p16 (Sk.cutD (Dk.new 1000)).1.bs) (⟨1,1,⟨#[]⟩,0,0,0,0,0⟩ : Le)).2.1) 3).2.1) 2).1) 0)).1.bs)).t 1).1.bind) == 1) = true from by decide +kernel)<|?_
 refine Run.call0 (l := [.tmp 69]) Z Z Z (lt Z) (Does.frame1 4 Z (life_c (s := (Sk.opened Rg.p16 (Sk.cutD (Dk.crash ((Sk.setState ((Dk.sync ((Sk.setLife ((Sk.put ((Sk.cutD (Dk.new 1000)).1) (Sk.opened Rg.p16 (Sk.cutD (Dk.new 1000)).1.bs) (⟨1,1,⟨#[]⟩,0,0,0,0,0⟩ : Le)).1) ((Sk.put ((Sk.cutD (Dk.new 1000)).1) (Sk.opened Rg.p16 (Sk.cutD (Dk.new 1000)).1.bs) (⟨1,1,⟨#[]⟩,0,0,0,0,0⟩ : Le)).2.1) 3).1)).1) ((Sk.setLife ((Sk.put ((Sk.cutD (Dk.new 1000)).1) (Sk.opened Rg.p16 (Sk.cutD (Dk.new 1000)).1.bs) (⟨1,1,⟨#[]⟩,0,0,0,0,0⟩ : Le)).1) ((Sk.put ((Sk.cutD (Dk.new 1000)).1) (Sk.opened Rg.p16 (Sk.cutD (Dk.new 1000)).1.bs) (⟨1,1,⟨#[]⟩,0,0,0,0,0⟩ : Le)).2.1) 3).2.1) 2).1) 0)).1.bs)) (lx := lx10) (tx := tx10))) ?_
 refine Run.on rfl rfl rfl (show (((Le.getE ((Sk.opened Rg.p16 (Sk.cutD (Dk.crash ((Sk.setState ((Dk.sync ((Sk.setLife ((Sk.put ((Sk.cutD (Dk.new 1000)).1) (Sk.opened Rg.p16 (Sk.cutD (Dk.new 1000)).1.bs) (⟨1,1,⟨#[]⟩,0,0,0,0,0⟩ : Le)).1) ((Sk.put ((Sk.cutD (Dk.new 1000)).1) (Sk.opened Rg.p16 (Sk.cutD (Dk.new 1000)).1.bs) (⟨1,1,⟨#[]⟩,0,0,0,0,0⟩ : Le)).2.1) 3).1)).1) ((Sk.setLife ((Sk.put ((Sk.cutD (Dk.new 1000)).1) (Sk.opened Rg.p16 (Sk.cutD (Dk.new 1000)).1.bs) (⟨1,1,⟨#[]⟩,0,0,0,0,0⟩ : Le)).1) ((Sk.put ((Sk.cutD (Dk.new 1000)).1) (Sk.opened Rg.p16 (Sk.cutD (Dk.new 1000)).1.bs) (⟨1,1,⟨#[]⟩,0,0,0,0,0⟩ : Le)).2.1) 3).2.1) 2).1) 0)).1.bs)).t 1).1.bind) == 1) = true from by decide +kernel) ?_
 refine Zv (Y.int Z Z Z)<|Zv (Y.pick_t Z (show (((Le.getE ((Sk.opened Rg.p16 (Sk.cutD (Dk.crash ((Sk.setState ((Dk.sync ((Sk.setLife ((Sk.put ((Sk.cutD (Dk.new 1000)).1) (Sk.opened Rg.p16 (Sk.cutD (Dk.new 1000)).1.bs) (⟨1,1,⟨#[]⟩,0,0,0,0,0⟩ : Le)).1) ((Sk.put ((Sk.cutD (Dk.new 1000)).1) (Sk.opened Rg.p16 (Sk.cutD (Dk.new 1000)).1.bs) (⟨1,1,⟨#[]⟩,0,0,0,0,0⟩ : Le)).2.1) 3).1)).1) ((Sk.setLife ((Sk.put ((Sk.cutD (Dk.new 1000)).1) (Sk.opened Rg.p16 (Sk.cutD (Dk.new 1000)).1.bs) (⟨1,1,⟨#[]⟩,0,0,0,0,0⟩ : Le)).1) ((Sk.put ((Sk.cutD (Dk.new 1000)).1) (Sk.opened Rg.p16 (Sk.cutD (Dk.new 1000)).1.bs) (⟨1,1,⟨#[]⟩,0,0,0,0,0⟩ : Le)).2.1) 3).2.1) 2).1) 0)).1.bs)).t 1).1.bind) == 1) = true from by decide +kernel) rfl)<|?_
 refine Zm Z<|Run.on rfl rfl rfl (show (((Sk.opened Rg.p16 (Sk.cutD (Dk.crash ((Sk.setState ((Dk.sync ((Sk.setLife ((Sk.put ((Sk.cutD (Dk.new 1000)).1) (Sk.opened Rg.p16 (Sk.cutD (Dk.new 1000)).1.bs) (⟨1,1,⟨#[]⟩,0,0,0,0,0⟩ : Le)).1) ((Sk.put ((Sk.cutD (Dk.new 1000)).1) (Sk.opened Rg.p16 (Sk.cutD (Dk.new 1000)).1.bs) (⟨1,1,⟨#[]⟩,0,0,0,0,0⟩ : Le)).2.1) 3).1)).1) ((Sk.setLife ((Sk.put ((Sk.cutD (Dk.new 1000)).1) (Sk.opened Rg.p16 (Sk.cutD (Dk.new 1000)).1.bs) (⟨1,1,⟨#[]⟩,0,0,0,0,0⟩ : Le)).1) ((Sk.put ((Sk.cutD (Dk.new 1000)).1) (Sk.opened Rg.p16 (Sk.cutD (Dk.new 1000)).1.bs) (⟨1,1,⟨#[]⟩,0,0,0,0,0⟩ : Le)).2.1) 3).2.1) 2).1) 0)).1.bs).life) == 3) = true from by decide +kernel)<|?_
 refine Zm Z<|Run.on rfl rfl rfl (show (((Sk.opened Rg.p16 (Sk.cutD (Dk.crash ((Sk.setState ((Dk.sync ((Sk.setLife ((Sk.put ((Sk.cutD (Dk.new 1000)).1) (Sk.opened Rg.p16 (Sk.cutD (Dk.new 1000)).1.bs) (⟨1,1,⟨#[]⟩,0,0,0,0,0⟩ : Le)).1) ((Sk.put ((Sk.cutD (Dk.new 1000)).1) (Sk.opened Rg.p16 (Sk.cutD (Dk.new 1000)).1.bs) (⟨1,1,⟨#[]⟩,0,0,0,0,0⟩ : Le)).2.1) 3).1)).1) ((Sk.setLife ((Sk.put ((Sk.cutD (Dk.new 1000)).1) (Sk.opened Rg.p16 (Sk.cutD (Dk.new 1000)).1.bs) (⟨1,1,⟨#[]⟩,0,0,0,0,0⟩ : Le)).1) ((Sk.put ((Sk.cutD (Dk.new 1000)).1) (Sk.opened Rg.p16 (Sk.cutD (Dk.new 1000)).1.bs) (⟨1,1,⟨#[]⟩,0,0,0,0,0⟩ : Le)).2.1) 3).2.1) 2).1) 0)).1.bs).life) == 3) = true from by decide +kernel)<|?_
 refine Run.call0 (l := [.tmp 74]) Z Z Z (lt Z) (Does.frame1 4 Z (state_c (s := (Sk.opened Rg.p16 (Sk.cutD (Dk.crash ((Sk.setState ((Dk.sync ((Sk.setLife ((Sk.put ((Sk.cutD (Dk.new 1000)).1) (Sk.opened Rg.p16 (Sk.cutD (Dk.new 1000)).1.bs) (⟨1,1,⟨#[]⟩,0,0,0,0,0⟩ : Le)).1) ((Sk.put ((Sk.cutD (Dk.new 1000)).1) (Sk.opened Rg.p16 (Sk.cutD (Dk.new 1000)).1.bs) (⟨1,1,⟨#[]⟩,0,0,0,0,0⟩ : Le)).2.1) 3).1)).1) ((Sk.setLife ((Sk.put ((Sk.cutD (Dk.new 1000)).1) (Sk.opened Rg.p16 (Sk.cutD (Dk.new 1000)).1.bs) (⟨1,1,⟨#[]⟩,0,0,0,0,0⟩ : Le)).1) ((Sk.put ((Sk.cutD (Dk.new 1000)).1) (Sk.opened Rg.p16 (Sk.cutD (Dk.new 1000)).1.bs) (⟨1,1,⟨#[]⟩,0,0,0,0,0⟩ : Le)).2.1) 3).2.1) 2).1) 0)).1.bs)) (lx := lx10) (tx := tx10))) ?_
 refine Run.on rfl rfl rfl (show (((Sk.opened Rg.p16 (Sk.cutD (Dk.crash ((Sk.setState ((Dk.sync ((Sk.setLife ((Sk.put ((Sk.cutD (Dk.new 1000)).1) (Sk.opened Rg.p16 (Sk.cutD (Dk.new 1000)).1.bs) (⟨1,1,⟨#[]⟩,0,0,0,0,0⟩ : Le)).1) ((Sk.put ((Sk.cutD (Dk.new 1000)).1) (Sk.opened Rg.p16 (Sk.cutD (Dk.new 1000)).1.bs) (⟨1,1,⟨#[]⟩,0,0,0,0,0⟩ : Le)).2.1) 3).1)).1) ((Sk.setLife ((Sk.put ((Sk.cutD (Dk.new 1000)).1) (Sk.opened Rg.p16 (Sk.cutD (Dk.new 1000)).1.bs) (⟨1,1,⟨#[]⟩,0,0,0,0,0⟩ : Le)).1) ((Sk.put ((Sk.cutD (Dk.new 1000)).1) (Sk.opened Rg.p16 (Sk.cutD (Dk.new 1000)).1.bs) (⟨1,1,⟨#[]⟩,0,0,0,0,0⟩ : Le)).2.1) 3).2.1) 2).1) 0)).1.bs).life) == 3) = true from by decide +kernel) ?_
 refine Zv (Y.int Z Z Z)<|Zv (Y.pick_t Z (show (((Sk.opened Rg.p16 (Sk.cutD (Dk.crash ((Sk.setState ((Dk.sync ((Sk.setLife ((Sk.put ((Sk.cutD (Dk.new 1000)).1) (Sk.opened Rg.p16 (Sk.cutD (Dk.new 1000)).1.bs) (⟨1,1,⟨#[]⟩,0,0,0,0,0⟩ : Le)).1) ((Sk.put ((Sk.cutD (Dk.new 1000)).1) (Sk.opened Rg.p16 (Sk.cutD (Dk.new 1000)).1.bs) (⟨1,1,⟨#[]⟩,0,0,0,0,0⟩ : Le)).2.1) 3).1)).1) ((Sk.setLife ((Sk.put ((Sk.cutD (Dk.new 1000)).1) (Sk.opened Rg.p16 (Sk.cutD (Dk.new 1000)).1.bs) (⟨1,1,⟨#[]⟩,0,0,0,0,0⟩ : Le)).1) ((Sk.put ((Sk.cutD (Dk.new 1000)).1) (Sk.opened Rg.p16 (Sk.cutD (Dk.new 1000)).1.bs) (⟨1,1,⟨#[]⟩,0,0,0,0,0⟩ : Le)).2.1) 3).2.1) 2).1) 0)).1.bs).life) == 3) = true from by decide +kernel) rfl)<|?_
 refine Za Z<|Ze<|Zg<|Zu<|Ex.keep []<|?_
 exact Ex.ret1 rfl rfl  ⟨hVle,rfl,congrArg Value.bool (by decide +kernel)⟩
theorem long13_c {V : Vw} {H : Hp} {l : List S13} {p : Option Addr} {c : Nat} (hv : Rd V H 10 (.slice p l.length c) l.length (l.flatMap S13.cells)) (hl9 : l.length ≤ 9223372036854775807)  : Does Tryz.prog 22 [.slice p l.length c] V H (fun v V' H' => V' = V ∧ H' = H ∧ ∃ b,v = .bool b ∧ (b = false → l.length ≤ 80)) := by
 refine Does.intro Tryz.func22 rfl rfl (le rfl) (fun B => ?_)
 refine Zs<|Zr<|Za Z<|Ze<|Zg<|Zs<|Zs<|Zr<|Za Z<|Ze<|Zg<|Zb<|?_
 refine ZL (X := Nat) (fun z0 => V) (fun z0 => H) (fun z0 => [(0,.slice p l.length c),(3,.int .i64 (z0 : Int))]) (fun z0 => z0 ≤ l.length) (fun z0 => l.length - z0) (0 : Nat) (Nat.zero_le _) ?_
 rintro i1 hi
 refine Zs<|Zs<|Zr<|Zm Z<|Zm Z<|Zv (Y.lenSl Z Law13_es41)<|Zv (Y.int Z Z Z)<|Ze<|Zg<|?_
 rcases Zsplit (decide ((i1 : Int) < ((l.length : Nat) : Int))) with ⟨h1,g1⟩ | ⟨h1,g1⟩ <;> try simp only [kb] at g1
 ·refine Tr.cond_t Z h1<|Zt<|Zg<|Zs<|Zb<|Zs<|Zr<|Zm Z<|Zm Z<|Zv (Y.idxR i1 Z Z Law13_es41 hv W W)<|Zv (Y.fieldR Z Law13_fo51_2 hv W)<|Zv (Y.fieldR Z Law13_fo49_2 hv W)<|Zv (Y.ldR Z Law13_ts9 hv (flatm_at (i := i1) (o := 4) S13.enc.len W S13.dflt WD rfl))<|Zv (Y.lenStr Z Law13_st9)<|Zv (Y.int Z Z Z)<|Ze<|?_
  refine Zg ?_
  rcases Zsplit (decide ((((l.getD i1 S13.dflt).l.client).size : Int) > 200)) with ⟨h2,g2⟩ | ⟨h2,g2⟩ <;> try simp only [kb] at g2
  ·refine Tr.cond_t Z h2<|Zs<|Zr<|Za Z<|Ze<|Zg<|Zu<|Zk<|Zn<|Zn<|Zk<|Zn<|?_
   exact Ex.ret1 rfl rfl  ⟨rfl,rfl,_,rfl,fun h => by cases h⟩
  ·refine Tr.cond_f Z h2<|Zt<|Zc<|Zg<|Zr<|Zm Z<|Zv (Y.add Z Z W)<|Za Z<|Ze<|?_
   exact ZR (i1 + 1 : Nat) W W
 ·refine Tr.cond_f Z h1<|Zx<|Zy<|Zy<|Zi<|Zg<|Zs<|Zr<|Zm Z<|Zv (Y.lenSl Z Law13_es41)<|Zv (Y.int Z Z Z)<|Za Z<|Ze<|Zg<|Zu<|?_
  exact Ex.ret1 rfl rfl  ⟨rfl,rfl,_,rfl,fun h => by have h9 := of_decide_eq_false h; omega⟩
set_option maxHeartbeats 1000000 in
theorem step13_c {V : Vw} {d : Dk} {s : Sk} {dx sx lx tx : Nat} {st sd : Sg} (hin : Dk.In 116 d dx sd) (ht : Le.In 149 s.t tx st) {ux rx mx wx : Nat} {rt rd : Sg} (hin2 : Dk.In 54 d ux rd) (ht2 : Le.Rin s.t wx rt) (hs : s.Ok) (hos : s.Os) {x : S13} (hx : x.Ok)  : Does Tryz.prog 24 [(pZ dx),(pZ ux),(pZ sx),(pZ rx),.agg #[.int .i64 x.k,.int .i64 x.n,.int .u32 x.l.addr,.int .i64 x.l.bind,.string x.l.client,.int .i64 x.l.till,.int .i64 x.l.acked,.int .i64 x.l.told,.int .i64 x.l.at_,.int .i64 x.l.ver]] V [(cS 123 sx lx tx s),(cL 187 lx dx),st,sd,(cS 133 rx mx wx s),(cL 193 mx ux),rt,rd] (fun v V' H' => V.le V' ∧ ∃ sy ly ty st sd ry my wy rt rd,v = .tuple #[(pZ sy),(pZ ry),.bool true] ∧ (0 ≤ x.k ∧ x.k ≤ 4 → sx = sy ∧ lx = ly ∧ tx = ty ∧ rx = ry ∧ mx = my ∧ wx = wy) ∧ Le.In 149 (Sk.stp d s x).2.t ty st ∧ Dk.In 116 (Sk.stp d s x).1 dx sd ∧ Le.Rin (Sk.stp d s x).2.t wy rt ∧ Dk.In 54 (Sk.stp d s x).1 ux rd ∧ H' = [(cS 123 sy ly ty ((Sk.stp d s x).2)),(cL 187 ly dx),st,sd,(cS 133 ry my wy ((Sk.stp d s x).2)),(cL 193 my ux),rt,rd]) := by
 have hxn := hx.n
 refine Does.intro Tryz.func24 rfl rfl (le rfl) (fun B => ?_)
 refine Zs<|Zr<|?_
 refine Run.box rfl (lt rfl) (fun b1 => ?_)
 refine Za Z<|Za Z<|Za Z<|Ze<|Zg<|Zs<|Zs<|Zr<|Zv (Y.fieldAddr Z Law13_fo51_0)<|Zv (Y.load Z Law13_ts3 (Kn.at 0 Z) Z)<|Ze<|Zg<|Zb<|Zs<|Zr<|Zv (Y.int Z Z Z)<|?_
 refine Za Z<|Ze<|Zg<|?_
 rcases Zsplit (x.k == 0) with ⟨h2,g2⟩ | ⟨h2,g2⟩ <;> try simp only [kb] at g2
 ·refine Tr.cond_t Z h2<|Zs<|Zr<|Zm Z<|Zv (Y.fieldAddr Z Law13_fo51_2)<|Zv (Y.loadAgg Z Law13_ag49 (Kn.at 0 Z) Z)<|?_
  refine Run.call [1,1,1,1] (l := [.tmp 26,.tmp 28]) rfl rfl rfl (lt rfl) (put_o hin hs ht (q := x.l) hx.l) (fun v3 V3 H3 hle3 hR3 => ?_)
  obtain ⟨hV,rfl,sb3,sd3,ht3,hin3,rfl⟩ := hR3; replace hV := hV.symm; subst hV
  refine Run.heapTo (H' := [[(b1,.cells #[.int .i64 x.k,.int .i64 x.n,.int .u32 x.l.addr,.int .i64 x.l.bind,.string x.l.client,.int .i64 x.l.till,.int .i64 x.l.acked,.int .i64 x.l.told,.int .i64 x.l.at_,.int .i64 x.l.ver] 51 (0,0))],(cS 133 rx mx wx s),(cL 193 mx ux),rt,rd,(cS 123 sx lx tx ((Sk.put d s x.l).2.1)),(cL 187 lx dx),sb3,sd3]) Z ?_
  refine Za Z<|Ze<|Zg<|Zs<|Zr<|Zm Z<|Zm Z<|Zm Z<|Zm Z<|Zv (Y.fieldAddr Z Law13_fo51_2)<|Zv (Y.loadAgg Z Law13_ag49 (Kn.at 0 Z) Z)<|?_
  refine Run.call [1,1,1,1] (l := [.tmp 33,.tmp 35]) rfl rfl rfl (lt rfl) (rput_o hin2 hs ht2 (q := x.l) hx.l) (fun v4 V4 H4 hle4 hR4 => ?_)
  obtain ⟨hV,rfl,sb4,sd4,ht4,hin4,rfl⟩ := hR4; replace hV := hV.symm; subst hV
  refine Run.heapTo (H' := [[(b1,.cells #[.int .i64 x.k,.int .i64 x.n,.int .u32 x.l.addr,.int .i64 x.l.bind,.string x.l.client,.int .i64 x.l.till,.int .i64 x.l.acked,.int .i64 x.l.told,.int .i64 x.l.at_,.int .i64 x.l.ver] 51 (0,0))],(cS 123 sx lx tx ((Sk.put d s x.l).2.1)),(cL 187 lx dx),sb3,sd3,(cS 133 rx mx wx ((Sk.put d s x.l).2.1)),(cL 193 mx ux),sb4,sd4]) Z ?_
  refine Zv (Y.eqI_t Z Z)<|Za Z<|Za Z<|Za Z<|Ze<|Zg<|Zu<|Zk<|Zn<|Ex.keepTo (H' := [(cS 123 sx lx tx ((Sk.put d s x.l).2.1)),(cL 187 lx dx),sb3,sd3,(cS 133 rx mx wx ((Sk.put d s x.l).2.1)),(cL 193 mx ux),sb4,sd4]) [1,1,1,1,1,1,1,1] Z<|?_
  have e9 : Sk.stp d s x = _ := Sk.stp0 W
  rw [e9]
  exact Ex.ret3 rfl rfl rfl rfl  ⟨Vw.le_refl _,sx,lx,tx,_,_,rx,mx,wx,_,_,rfl,fun _ => ⟨rfl,rfl,rfl,rfl,rfl,rfl⟩,ht3,hin3,ht4,hin4,rfl⟩
 ·refine Tr.cond_f Z h2<|Zs<|Zr<|Zv (Y.int Z Z Z)<|Za Z<|Ze<|Zg<|?_
  rcases Zsplit (x.k == 1) with ⟨h5,g5⟩ | ⟨h5,g5⟩ <;> try simp only [kb] at g5
  ·refine Tr.cond_t Z h5<|Zs<|Zr<|Zm Z<|Zv (Y.fieldAddr Z Law13_fo51_1)<|Zv (Y.load Z Law13_ts3 (Kn.at 0 Z) Z)<|?_
   refine Run.call [1,1,1,1] (l := [.tmp 40,.tmp 42]) rfl rfl rfl (lt rfl) (setst_o hin hs ht (n := x.n)) (fun v6 V6 H6 hle6 hR6 => ?_)
   obtain ⟨hV,rfl,sb6,sd6,ht6,hin6,rfl⟩ := hR6; replace hV := hV.symm; subst hV
   refine Run.heapTo (H' := [[(b1,.cells #[.int .i64 x.k,.int .i64 x.n,.int .u32 x.l.addr,.int .i64 x.l.bind,.string x.l.client,.int .i64 x.l.till,.int .i64 x.l.acked,.int .i64 x.l.told,.int .i64 x.l.at_,.int .i64 x.l.ver] 51 (0,0))],(cS 133 rx mx wx s),(cL 193 mx ux),rt,rd,(cS 123 sx lx tx ((Sk.setState d s x.n).2.1)),(cL 187 lx dx),sb6,sd6]) Z ?_
   refine Za Z<|Ze<|Zg<|Zs<|Zr<|Zm Z<|Zm Z<|Zm Z<|Zm Z<|Zv (Y.fieldAddr Z Law13_fo51_1)<|Zv (Y.load Z Law13_ts3 (Kn.at 0 Z) Z)<|?_
   refine Run.call [1,1,1,1] (l := [.tmp 47,.tmp 49]) rfl rfl rfl (lt rfl) (rsetst_o hin2 hs ht2 (n := x.n)) (fun v7 V7 H7 hle7 hR7 => ?_)
   obtain ⟨hV,rfl,sb7,sd7,ht7,hin7,rfl⟩ := hR7; replace hV := hV.symm; subst hV
   refine Run.heapTo (H' := [[(b1,.cells #[.int .i64 x.k,.int .i64 x.n,.int .u32 x.l.addr,.int .i64 x.l.bind,.string x.l.client,.int .i64 x.l.till,.int .i64 x.l.acked,.int .i64 x.l.told,.int .i64 x.l.at_,.int .i64 x.l.ver] 51 (0,0))],(cS 123 sx lx tx ((Sk.setState d s x.n).2.1)),(cL 187 lx dx),sb6,sd6,(cS 133 rx mx wx ((Sk.setState d s x.n).2.1)),(cL 193 mx ux),sb7,sd7]) Z ?_
   refine Zv (Y.eqI_t Z Z)<|Za Z<|Za Z<|Za Z<|Ze<|Zg<|Zu<|Zk<|Zn<|Ex.keepTo (H' := [(cS 123 sx lx tx ((Sk.setState d s x.n).2.1)),(cL 187 lx dx),sb6,sd6,(cS 133 rx mx wx ((Sk.setState d s x.n).2.1)),(cL 193 mx ux),sb7,sd7]) [1,1,1,1,1,1,1,1] Z<|?_
   have e9 : Sk.stp d s x = _ := Sk.stp1 W
   rw [e9]
   exact Ex.ret3 rfl rfl rfl rfl  ⟨Vw.le_refl _,sx,lx,tx,_,_,rx,mx,wx,_,_,rfl,fun _ => ⟨rfl,rfl,rfl,rfl,rfl,rfl⟩,ht6,hin6,ht7,hin7,rfl⟩
  ·refine Tr.cond_f Z h5<|Zs<|Zr<|Zv (Y.int Z Z Z)<|Za Z<|Ze<|Zg<|?_
   rcases Zsplit (x.k == 2) with ⟨h8,g8⟩ | ⟨h8,g8⟩ <;> try simp only [kb] at g8
   ·refine Tr.cond_t Z h8<|Zs<|Zr<|Zm Z<|Zv (Y.fieldAddr Z Law13_fo51_1)<|Zv (Y.load Z Law13_ts3 (Kn.at 0 Z) Z)<|?_
    refine Run.call [1,1,1,1] (l := [.tmp 54,.tmp 56]) rfl rfl rfl (lt rfl) (setli_o hin hs ht (n := x.n)) (fun v9 V9 H9 hle9 hR9 => ?_)
    obtain ⟨hV,rfl,sb9,sd9,ht9,hin9,rfl⟩ := hR9; replace hV := hV.symm; subst hV
    refine Run.heapTo (H' := [[(b1,.cells #[.int .i64 x.k,.int .i64 x.n,.int .u32 x.l.addr,.int .i64 x.l.bind,.string x.l.client,.int .i64 x.l.till,.int .i64 x.l.acked,.int .i64 x.l.told,.int .i64 x.l.at_,.int .i64 x.l.ver] 51 (0,0))],(cS 133 rx mx wx s),(cL 193 mx ux),rt,rd,(cS 123 sx lx tx ((Sk.setLife d s x.n).2.1)),(cL 187 lx dx),sb9,sd9]) Z ?_
    refine Za Z<|Ze<|Zg<|Zs<|Zr<|Zm Z<|Zm Z<|Zm Z<|Zm Z<|Zv (Y.fieldAddr Z Law13_fo51_1)<|Zv (Y.load Z Law13_ts3 (Kn.at 0 Z) Z)<|?_
    refine Run.call [1,1,1,1] (l := [.tmp 61,.tmp 63]) rfl rfl rfl (lt rfl) (rsetli_o hin2 hs ht2 (n := x.n)) (fun v10 V10 H10 hle10 hR10 => ?_)
    obtain ⟨hV,rfl,sb10,sd10,ht10,hin10,rfl⟩ := hR10; replace hV := hV.symm; subst hV
    refine Run.heapTo (H' := [[(b1,.cells #[.int .i64 x.k,.int .i64 x.n,.int .u32 x.l.addr,.int .i64 x.l.bind,.string x.l.client,.int .i64 x.l.till,.int .i64 x.l.acked,.int .i64 x.l.told,.int .i64 x.l.at_,.int .i64 x.l.ver] 51 (0,0))],(cS 123 sx lx tx ((Sk.setLife d s x.n).2.1)),(cL 187 lx dx),sb9,sd9,(cS 133 rx mx wx ((Sk.setLife d s x.n).2.1)),(cL 193 mx ux),sb10,sd10]) Z ?_
    refine Zv (Y.eqI_t Z Z)<|Za Z<|Za Z<|Za Z<|Ze<|Zg<|Zu<|Zk<|Zn<|Ex.keepTo (H' := [(cS 123 sx lx tx ((Sk.setLife d s x.n).2.1)),(cL 187 lx dx),sb9,sd9,(cS 133 rx mx wx ((Sk.setLife d s x.n).2.1)),(cL 193 mx ux),sb10,sd10]) [1,1,1,1,1,1,1,1] Z<|?_
    have e9 : Sk.stp d s x = _ := Sk.stp2 W
    rw [e9]
    exact Ex.ret3 rfl rfl rfl rfl  ⟨Vw.le_refl _,sx,lx,tx,_,_,rx,mx,wx,_,_,rfl,fun _ => ⟨rfl,rfl,rfl,rfl,rfl,rfl⟩,ht9,hin9,ht10,hin10,rfl⟩
   ·refine Tr.cond_f Z h8<|Zs<|Zr<|Zv (Y.int Z Z Z)<|Za Z<|Ze<|Zg<|?_
    rcases Zsplit (x.k == 3) with ⟨h11,g11⟩ | ⟨h11,g11⟩ <;> try simp only [kb] at g11
    ·refine Tr.cond_t Z h11<|Zs<|Zr<|Zm Z<|?_
     refine Run.call [1,1,1,1] (l := [.tmp 68]) rfl rfl rfl (lt rfl) (sync_c hin hs ht) (fun v12 V12 H12 hle12 hR12 => ?_)
     obtain ⟨hV,rfl,sd12,hin12,rfl⟩ := hR12; replace hV := hV.symm; subst hV
     refine Run.heapTo (H' := [[(b1,.cells #[.int .i64 x.k,.int .i64 x.n,.int .u32 x.l.addr,.int .i64 x.l.bind,.string x.l.client,.int .i64 x.l.till,.int .i64 x.l.acked,.int .i64 x.l.told,.int .i64 x.l.at_,.int .i64 x.l.ver] 51 (0,0))],(cS 133 rx mx wx s),(cL 193 mx ux),rt,rd,(cS 123 sx lx tx s),(cL 187 lx dx),st,sd12]) Z ?_
     refine Za Z<|Ze<|Zg<|Zs<|Zr<|Zm Z<|Zm Z<|Zm Z<|Zm Z<|?_
     refine Run.call [1,1,1,1] (l := [.tmp 73]) rfl rfl rfl (lt rfl) (rsync_c hin2 hs ht2) (fun v13 V13 H13 hle13 hR13 => ?_)
     obtain ⟨hV,rfl,sd13,hin13,rfl⟩ := hR13; replace hV := hV.symm; subst hV
     refine Run.heapTo (H' := [[(b1,.cells #[.int .i64 x.k,.int .i64 x.n,.int .u32 x.l.addr,.int .i64 x.l.bind,.string x.l.client,.int .i64 x.l.till,.int .i64 x.l.acked,.int .i64 x.l.told,.int .i64 x.l.at_,.int .i64 x.l.ver] 51 (0,0))],(cS 123 sx lx tx s),(cL 187 lx dx),st,sd12,(cS 133 rx mx wx s),(cL 193 mx ux),rt,sd13]) Z ?_
     refine Zv (Y.eqI_t Z Z)<|Za Z<|Za Z<|Za Z<|Ze<|Zg<|Zu<|Zk<|Zn<|Ex.keepTo (H' := [(cS 123 sx lx tx s),(cL 187 lx dx),st,sd12,(cS 133 rx mx wx s),(cL 193 mx ux),rt,sd13]) [1,1,1,1,1,1,1,1] Z<|?_
     have e9 : Sk.stp d s x = _ := Sk.stp3 W
     rw [e9]
     exact Ex.ret3 rfl rfl rfl rfl  ⟨Vw.le_refl _,sx,lx,tx,_,_,rx,mx,wx,_,_,rfl,fun _ => ⟨rfl,rfl,rfl,rfl,rfl,rfl⟩,ht,hin12,ht2,hin13,rfl⟩
    ·refine Tr.cond_f Z h11<|Zs<|Zr<|Zv (Y.int Z Z Z)<|Za Z<|Ze<|Zg<|?_
     rcases Zsplit (x.k == 4) with ⟨h14,g14⟩ | ⟨h14,g14⟩ <;> try simp only [kb] at g14
     ·refine Tr.cond_t Z h14<|Zs<|Zr<|Zm Z<|?_
      refine Run.call [1,1,1,1] (l := [.tmp 78]) rfl rfl rfl (lt rfl) (comp_o hin hs ht hos) (fun v15 V15 H15 hle15 hR15 => ?_)
      obtain ⟨hV,rfl,sb15,sd15,ht15,hin15,rfl⟩ := hR15; replace hV := hV.symm; subst hV
      refine Run.heapTo (H' := [[(b1,.cells #[.int .i64 x.k,.int .i64 x.n,.int .u32 x.l.addr,.int .i64 x.l.bind,.string x.l.client,.int .i64 x.l.till,.int .i64 x.l.acked,.int .i64 x.l.told,.int .i64 x.l.at_,.int .i64 x.l.ver] 51 (0,0))],(cS 133 rx mx wx s),(cL 193 mx ux),rt,rd,(cS 123 sx lx tx s),(cL 187 lx dx),sb15,sd15]) Z ?_
      refine Za Z<|Ze<|Zg<|Zs<|Zr<|Zm Z<|Zm Z<|Zm Z<|Zm Z<|?_
      refine Run.call [1,1,1,1] (l := [.tmp 83]) rfl rfl rfl (lt rfl) (rcomp_o hin2 hs ht2 hos) (fun v16 V16 H16 hle16 hR16 => ?_)
      obtain ⟨hV,rfl,sb16,sd16,ht16,hin16,rfl⟩ := hR16; replace hV := hV.symm; subst hV
      refine Run.heapTo (H' := [[(b1,.cells #[.int .i64 x.k,.int .i64 x.n,.int .u32 x.l.addr,.int .i64 x.l.bind,.string x.l.client,.int .i64 x.l.till,.int .i64 x.l.acked,.int .i64 x.l.told,.int .i64 x.l.at_,.int .i64 x.l.ver] 51 (0,0))],(cS 123 sx lx tx s),(cL 187 lx dx),sb15,sd15,(cS 133 rx mx wx s),(cL 193 mx ux),sb16,sd16]) Z ?_
      refine Zv (Y.eqI_t Z Z)<|Za Z<|Za Z<|Za Z<|Ze<|Zg<|Zu<|Zk<|Zn<|Ex.keepTo (H' := [(cS 123 sx lx tx s),(cL 187 lx dx),sb15,sd15,(cS 133 rx mx wx s),(cL 193 mx ux),sb16,sd16]) [1,1,1,1,1,1,1,1] Z<|?_
      have e9 : Sk.stp d s x = _ := Sk.stp4 W
      rw [e9]
      exact Ex.ret3 rfl rfl rfl rfl  ⟨Vw.le_refl _,sx,lx,tx,_,_,rx,mx,wx,_,_,rfl,fun _ => ⟨rfl,rfl,rfl,rfl,rfl,rfl⟩,ht15,hin15,ht16,hin16,rfl⟩
     ·refine Tr.cond_f Z h14<|Zs<|Zr<|Zv (Y.int Z Z Z)<|Za Z<|Ze<|Zg<|?_
      rcases Zsplit (x.k == 5) with ⟨h17,g17⟩ | ⟨h17,g17⟩ <;> try simp only [kb] at g17
      ·refine Tr.cond_t Z h17<|Zs<|Zr<|Zm Z<|Zv (Y.fieldAddr Z Law13_fo51_1)<|Zv (Y.load Z Law13_ts3 (Kn.at 0 Z) Z)<|?_
       refine Run.call [4] (l := [.tmp 88,.tmp 90]) rfl rfl rfl (lt rfl) (dfail_o hin W) (fun v18 V18 H18 hle18 hR18 => ?_)
       obtain ⟨hV,sd18,hin18,rfl⟩ := hR18; replace hV := hV.symm; subst hV
       refine Run.heapTo (H' := [[(b1,.cells #[.int .i64 x.k,.int .i64 x.n,.int .u32 x.l.addr,.int .i64 x.l.bind,.string x.l.client,.int .i64 x.l.till,.int .i64 x.l.acked,.int .i64 x.l.told,.int .i64 x.l.at_,.int .i64 x.l.ver] 51 (0,0))],(cS 123 sx lx tx s),(cL 187 lx dx),st,(cS 133 rx mx wx s),(cL 193 mx ux),rt,rd,sd18]) Z ?_
       refine Ze<|Zg<|Zs<|Zr<|Zm Z<|Zv (Y.fieldAddr Z Law13_fo51_1)<|Zv (Y.load Z Law13_ts3 (Kn.at 0 Z) Z)<|?_
       refine Run.call [7] (l := [.tmp 92,.tmp 94]) rfl rfl rfl (lt rfl) (rdfail_o hin2 W) (fun v19 V19 H19 hle19 hR19 => ?_)
       obtain ⟨hV,sd19,hin19,rfl⟩ := hR19; replace hV := hV.symm; subst hV
       refine Run.heapTo (H' := [[(b1,.cells #[.int .i64 x.k,.int .i64 x.n,.int .u32 x.l.addr,.int .i64 x.l.bind,.string x.l.client,.int .i64 x.l.till,.int .i64 x.l.acked,.int .i64 x.l.told,.int .i64 x.l.at_,.int .i64 x.l.ver] 51 (0,0))],(cS 123 sx lx tx s),(cL 187 lx dx),st,(cS 133 rx mx wx s),(cL 193 mx ux),rt,sd18,sd19]) Z ?_
       refine Ze<|Zg<|Zs<|Zr<|Zm Z<|Zm Z<|Za Z<|Za Z<|Za Z<|Ze<|Zg<|Zu<|Zk<|Zn<|Ex.keepTo (H' := [(cS 123 sx lx tx s),(cL 187 lx dx),st,sd18,(cS 133 rx mx wx s),(cL 193 mx ux),rt,sd19]) [1,1,1,4,1,1,1,1] Z<|?_
       have e9 : Sk.stp d s x = _ := Sk.stp5 W
       rw [e9]
       exact Ex.ret3 rfl rfl rfl rfl  ⟨Vw.le_refl _,sx,lx,tx,_,_,rx,mx,wx,_,_,rfl,fun _ => ⟨rfl,rfl,rfl,rfl,rfl,rfl⟩,ht,hin18,ht2,hin19,rfl⟩
      ·refine Tr.cond_f Z h17<|Zt<|Zc<|Zg<|Zs<|Zr<|Zm Z<|Zv (Y.fieldAddr Z Law13_fo51_1)<|Zv (Y.load Z Law13_ts3 (Kn.at 0 Z) Z)<|?_
       refine Run.call [4] (l := [.tmp 98,.tmp 100]) rfl rfl rfl (lt rfl) (dcrash_o hin) (fun v20 V20 H20 hle20 hR20 => ?_)
       obtain ⟨hV,sd20,hin20,rfl⟩ := hR20; replace hV := hV.symm; subst hV
       refine Run.heapTo (H' := [[(b1,.cells #[.int .i64 x.k,.int .i64 x.n,.int .u32 x.l.addr,.int .i64 x.l.bind,.string x.l.client,.int .i64 x.l.till,.int .i64 x.l.acked,.int .i64 x.l.told,.int .i64 x.l.at_,.int .i64 x.l.ver] 51 (0,0))],(cS 123 sx lx tx s),(cL 187 lx dx),st,(cS 133 rx mx wx s),(cL 193 mx ux),rt,rd,sd20]) Z ?_
       refine Ze<|Zg<|Zs<|Zr<|Zm Z<|Zv (Y.fieldAddr Z Law13_fo51_1)<|Zv (Y.load Z Law13_ts3 (Kn.at 0 Z) Z)<|?_
       refine Run.call [7] (l := [.tmp 102,.tmp 104]) rfl rfl rfl (lt rfl) (rdcrash_o hin2) (fun v21 V21 H21 hle21 hR21 => ?_)
       obtain ⟨hV,sd21,hin21,rfl⟩ := hR21; replace hV := hV.symm; subst hV
       refine Run.heapTo (H' := [[(b1,.cells #[.int .i64 x.k,.int .i64 x.n,.int .u32 x.l.addr,.int .i64 x.l.bind,.string x.l.client,.int .i64 x.l.till,.int .i64 x.l.acked,.int .i64 x.l.told,.int .i64 x.l.at_,.int .i64 x.l.ver] 51 (0,0))],(cS 123 sx lx tx s),(cL 187 lx dx),st,(cS 133 rx mx wx s),(cL 193 mx ux),rt,sd20,sd21]) Z ?_
       refine Ze<|Zg<|Zs<|Zr<|Zm Z<|?_
       refine Run.call [] (l := []) rfl rfl rfl (lt rfl) pool13_c (fun v22 V22 H22 hle22 hR22 => ?_)
       obtain ⟨_,hv22,rfl⟩ := hR22
       have hVle := hle22
       refine Run.heapTo (H' := [[(b1,.cells #[.int .i64 x.k,.int .i64 x.n,.int .u32 x.l.addr,.int .i64 x.l.bind,.string x.l.client,.int .i64 x.l.till,.int .i64 x.l.acked,.int .i64 x.l.told,.int .i64 x.l.at_,.int .i64 x.l.ver] 51 (0,0))],(cS 123 sx lx tx s),(cL 187 lx dx),st,(cS 133 rx mx wx s),(cL 193 mx ux),rt,sd20,sd21]) Z ?_
       refine Run.call [7] (l := [.tmp 107,.tmp 108]) rfl rfl rfl (lt rfl) (open_o (rs := Rg.p16) hin20 hv22 WD Rg.p16_ok) (fun v23 V23 H23 hle23 hR23 => ?_)
       obtain ⟨hV,sd23,⟨hno,_⟩ | ⟨_,hno,_⟩ | ⟨_,_,sx23,lx23,tx23,sb23,rfl,ht23,hin23,rfl⟩⟩ := hR23
       · exact absurd Rg.pool16 hno
       · exact absurd (Sk.cut_ok hin20.1 (show (-1 : Int) ≠ 0 by decide)) hno
       replace hV := hV.symm; subst hV
       refine Run.heapTo (H' := [[(b1,.cells #[.int .i64 x.k,.int .i64 x.n,.int .u32 x.l.addr,.int .i64 x.l.bind,.string x.l.client,.int .i64 x.l.till,.int .i64 x.l.acked,.int .i64 x.l.told,.int .i64 x.l.at_,.int .i64 x.l.ver] 51 (0,0))],(cS 123 sx lx tx s),(cL 187 lx dx),st,(cS 133 rx mx wx s),(cL 193 mx ux),rt,sd21,(cS 123 sx23 lx23 tx23 (Sk.opened Rg.p16 (Sk.cutD (Dk.crash d x.n)).1.bs)),(cL 187 lx23 dx),sb23,sd23]) Z ?_
       refine Zm Z<|Zv (Y.extract Z Z)<|Zv (Y.extract Z Z)<|Za Z<|Za Z<|Ze<|Zg<|Zs<|Zr<|Zm Z<|?_
       refine Run.call [] (l := []) rfl rfl rfl (lt rfl) pool13_c (fun v24 V24 H24 hle24 hR24 => ?_)
       obtain ⟨_,hv24,rfl⟩ := hR24
       replace hv22 := hv22.le hle24
       replace hVle := Vw.le_trans hVle hle24
       refine Run.heapTo (H' := [[(b1,.cells #[.int .i64 x.k,.int .i64 x.n,.int .u32 x.l.addr,.int .i64 x.l.bind,.string x.l.client,.int .i64 x.l.till,.int .i64 x.l.acked,.int .i64 x.l.told,.int .i64 x.l.at_,.int .i64 x.l.ver] 51 (0,0))],(cS 123 sx lx tx s),(cL 187 lx dx),st,(cS 133 rx mx wx s),(cL 193 mx ux),rt,sd21,(cS 123 sx23 lx23 tx23 (Sk.opened Rg.p16 (Sk.cutD (Dk.crash d x.n)).1.bs)),(cL 187 lx23 dx),sb23,sd23]) Z ?_
       refine Run.call [7] (l := [.tmp 113,.tmp 114]) rfl rfl rfl (lt rfl) (ropen_o (rs := Rg.p16) hin21 hv24 WD Rg.p16_ok) (fun v25 V25 H25 hle25 hR25 => ?_)
       obtain ⟨hV,sd25,⟨hno,_⟩ | ⟨_,hno,_⟩ | ⟨_,_,sx25,lx25,tx25,sb25,rfl,ht25,hin25,rfl⟩⟩ := hR25
       · exact absurd Rg.pool16 hno
       · exact absurd (Sk.cut_ok hin21.1 (show (-1 : Int) ≠ 0 by decide)) hno
       replace hV := hV.symm; subst hV
       refine Run.heapTo (H' := [[(b1,.cells #[.int .i64 x.k,.int .i64 x.n,.int .u32 x.l.addr,.int .i64 x.l.bind,.string x.l.client,.int .i64 x.l.till,.int .i64 x.l.acked,.int .i64 x.l.told,.int .i64 x.l.at_,.int .i64 x.l.ver] 51 (0,0))],(cS 123 sx lx tx s),(cL 187 lx dx),st,(cS 133 rx mx wx s),(cL 193 mx ux),rt,(cS 123 sx23 lx23 tx23 (Sk.opened Rg.p16 (Sk.cutD (Dk.crash d x.n)).1.bs)),(cL 187 lx23 dx),sb23,sd23,(cS 133 sx25 lx25 tx25 (Sk.opened Rg.p16 (Sk.cutD (Dk.crash d x.n)).1.bs)),(cL 193 lx25 ux),sb25,sd25]) Z ?_
       refine Zm Z<|Zv (Y.extract Z Z)<|Zv (Y.extract Z Z)<|Za Z<|Za Z<|Ze<|Zg<|Zs<|Zr<|Zm Z<|Zm Z<|Zm Z<|Zm Z<|Zv (Y.int (r := .bool true) Z Z Z)<|Zm Z<|Zp Z<|?_
       refine Zm Z<|Zp Z<|Zv (Y.eqNil Z Z Law13_pt33)<|Zp Z<|Zm Z<|Zp Z<|Zv (Y.eqNil Z Z Law13_pt36)<|Zp Z<|Zv (Y.eqB_t Z Z Law13_tg4)<|Zv (Y.pick_t Z Z Z)<|Za Z<|Za Z<|Za Z<|Ze<|Zg<|Zu<|?_
       refine Ex.keepTo (H' := [(cS 123 sx23 lx23 tx23 (Sk.opened Rg.p16 (Sk.cutD (Dk.crash d x.n)).1.bs)),(cL 187 lx23 dx),sb23,sd23,(cS 133 sx25 lx25 tx25 (Sk.opened Rg.p16 (Sk.cutD (Dk.crash d x.n)).1.bs)),(cL 193 lx25 ux),sb25,sd25]) [7,7,7,7,7,7,7,7] Z ?_
       have e9 : Sk.stp d s x = _ := Sk.stp6 W
       rw [e9]
       exact Ex.ret3 rfl rfl rfl rfl  ⟨hVle,sx23,lx23,tx23,_,_,sx25,lx25,tx25,_,_,rfl,fun h => absurd h W,ht23,hin23,ht25,hin25,rfl⟩
theorem same11b_c {V : Vw} {H : Hp} {a b : List Le} {p1 p2 : Option Addr} {k1 k2 : Nat} (ha : Rd V H 8 (.slice p1 a.length k1) a.length (a.flatMap Le.cells)) (hb : Rd V H 8 (.slice p2 b.length k2) b.length (b.flatMap Le.cells)) (hn : a.length ≤ 1000000000)  : Does Tryz.prog 32 [.slice p1 a.length k1,.slice p2 b.length k2] V H (Pv (.bool (Le.samel a b)) V H) := by
 refine Does.intro Tryz.func32 rfl rfl (le rfl) (fun B => ?_)
 refine Zs<|Zr<|Za Z<|Ze<|Zg<|Zs<|Zs<|Zr<|Zm Z<|Zv (Y.lenSl Z Law13_es59)<|Zm Z<|Zv (Y.lenSl Z Law13_es59)<|Zv (Y.int Z Z Z)<|Ze<|Zg<|?_
 rcases Zsplit (((a.length : Nat) : Int) != ((b.length : Nat) : Int)) with ⟨h1,g1⟩ | ⟨h1,g1⟩ <;> try simp only [kb] at g1
 ·refine Tr.cond_t Z h1<|Zs<|Zr<|Za Z<|Ze<|Zg<|Zu<|Zn<|?_
  exact Ex.ret1 rfl rfl  ⟨congrArg Value.bool (show _ = Le.samel a b from (decide_eq_false fun h9 => by have := h9.1; omega).symm),rfl,rfl⟩
 ·refine Tr.cond_f Z h1<|Zt<|Zg<|Zs<|Zs<|Zr<|Za Z<|Ze<|Zg<|Zb<|?_
  refine ZL (X := Nat) (fun z0 => V) (fun z0 => H) (fun z0 => [(0,.slice p1 a.length k1),(1,.slice p2 b.length k2),(5,.int .i64 (z0 : Int))]) (fun z0 => z0 ≤ a.length ∧ a.length = b.length ∧ ∀ j,j < z0 → Le.same (a.getD j Le.dflt) (b.getD j Le.dflt) = true) (fun z0 => a.length - z0) (0 : Nat) ⟨Nat.zero_le _,by omega,fun j hj => absurd hj (Nat.not_lt_zero j)⟩ ?_
  rintro i1 ⟨hi,hab,hsj⟩
  refine Zs<|Zs<|Zr<|Zm Z<|Zm Z<|Zv (Y.lenSl Z Law13_es59)<|Zv (Y.int Z Z Z)<|Ze<|Zg<|?_
  rcases Zsplit (decide ((i1 : Int) < ((a.length : Nat) : Int))) with ⟨h2,g2⟩ | ⟨h2,g2⟩ <;> try simp only [kb] at g2
  ·refine Tr.cond_t Z h2<|Zt<|Zg<|Zs<|Zb<|Zs<|Tr.quiet Law13_mo WK<|ZM Z<|ZM Z<|ZV (Y.idxR i1 Z Z Law13_es59 ha W W)<|ZV (Y.ldRA (vs := [.int .u32 ((a.getD i1 Le.dflt).addr),.int .i64 ((a.getD i1 Le.dflt).bind),.string ((a.getD i1 Le.dflt).client),.int .i64 ((a.getD i1 Le.dflt).till),.int .i64 ((a.getD i1 Le.dflt).acked),.int .i64 ((a.getD i1 Le.dflt).told),.int .i64 ((a.getD i1 Le.dflt).at_),.int .i64 ((a.getD i1 Le.dflt).ver)]) rfl Law13_ag49 ha rfl WD (fun o ho => flatm_atA Le.len W Le.dflt o ho))<|?_
   refine ZM Z<|ZM Z<|ZV (Y.idxR i1 Z Z Law13_es59 hb W W)<|ZV (Y.ldRA (vs := [.int .u32 ((b.getD i1 Le.dflt).addr),.int .i64 ((b.getD i1 Le.dflt).bind),.string ((b.getD i1 Le.dflt).client),.int .i64 ((b.getD i1 Le.dflt).till),.int .i64 ((b.getD i1 Le.dflt).acked),.int .i64 ((b.getD i1 Le.dflt).told),.int .i64 ((b.getD i1 Le.dflt).at_),.int .i64 ((b.getD i1 Le.dflt).ver)]) rfl Law13_ag49 hb rfl WD (fun o ho => flatm_atA Le.len W Le.dflt o ho))<|?_
   refine ZV (Y.neS Z Z Law13_tgs49 Z Z)<|ZE<|Zg<|?_
   rcases Zsplit (Le.same (a.getD i1 Le.dflt) (b.getD i1 Le.dflt)) with ⟨h3,g3⟩ | ⟨h3,g3⟩ <;> try simp only [kb] at g3
   ·refine Tr.cond_f Z (congrArg Bool.not h3)<|Zt<|Zc<|Zg<|Zr<|Zm Z<|Zv (Y.add Z Z W)<|Za Z<|Ze<|?_
    exact ZR (i1 + 1 : Nat) ⟨by omega,hab,upto_succ hsj h3⟩ W
   ·refine Tr.cond_t Z (congrArg Bool.not h3)<|Zs<|Zr<|Za Z<|Ze<|Zg<|Zu<|Zk<|Zn<|Zn<|Zk<|Zn<|?_
    exact Ex.ret1 rfl rfl  ⟨congrArg Value.bool (show _ = Le.samel a b from (decide_eq_false fun h9 => by have h8 := h9.2 i1 W; rw [h3] at h8; cases h8).symm),rfl,rfl⟩
  ·refine Tr.cond_f Z h2<|Zx<|Zy<|Zy<|Zi<|Zg<|Zs<|Zr<|Za Z<|Ze<|Zg<|Zu<|?_
   exact Ex.ret1 rfl rfl  ⟨congrArg Value.bool (show _ = Le.samel a b from (decide_eq_true ⟨hab,fun j hj => hsj j W⟩).symm),rfl,rfl⟩
theorem alike13_c {V : Vw} {d : Dk} {s : Sk} {dx sx lx tx : Nat} {st sd : Sg} (hin : Dk.In 116 d dx sd) (ht : Le.In 149 s.t tx st) {e : Dk} {u : Sk} {ux rx mx wx : Nat} {rd : Sg} {pl : Option Addr} {cl : Nat} {ql : Sg} (hl : Ow 49 8 (.slice pl u.t.length cl) u.t.length (u.t.flatMap Le.cells) ql) (hin2 : Dk.In 54 e ux rd) (hs : s.Ok)  : Does Tryz.prog 21 [(pZ sx),(pZ rx)] V [(cS 123 sx lx tx s),(cL 187 lx dx),st,sd,(cS 133 rx mx wx u),(cL 193 mx ux),[(wx,.cells #[.slice pl u.t.length cl] 135 (0,0))],ql,rd] (fun v V' H' => V.le V' ∧ v = .bool (Sk.alk d s e u) ∧ ∃ sd2 rd2,Dk.In 116 d dx sd2 ∧ Dk.In 54 e ux rd2 ∧ H' = [(cS 123 sx lx tx s),(cL 187 lx dx),st,sd2,(cS 133 rx mx wx u),(cL 193 mx ux),([[(wx,.cells #[.slice pl u.t.length cl] 135 (0,0))],ql] : Hp).flatten,rd2]) := by
 have hsn := hs.n
 refine Does.intro Tryz.func21 rfl rfl (le rfl) (fun B => ?_)
 refine Zs<|Zr<|Za Z<|Ze<|Zg<|Zs<|Tr.anyD [(rx,.cells #[(pZ mx),(pZ wx),.int .i64 u.state,.int .i64 u.life] 133 (0,0)),(wx,.cells #[.slice pl u.t.length cl] 135 (0,0))] Law13_mo<|RunD.pure (i := 0) rfl WK WK WK (fun _ _ _ h => h) (lt rfl) (KnAll.cons (Kn.at 4 rfl) (ZK 6 Z)) (fun _ => (Y.move rfl))<|RunD.pure (i := 3) rfl WK WK WK (fun _ _ _ h => h) (lt rfl) (KnAll.cons (Kn.at 4 rfl) (ZK 6 Z)) (fun _ => (Y.move rfl))<|?_
 refine RunD.pure (i := 4) rfl WK WK WK (fun _ _ _ h => h) (lt rfl) (KnAll.cons (Kn.at 4 rfl) (ZK 6 Z)) (fun _ => (Y.nilCheck rfl))<|RunD.pure (i := 5) rfl WK WK WK (fun _ _ _ h => h) (lt rfl) (KnAll.cons (Kn.at 4 rfl) (ZK 6 Z)) (fun _ => (Y.fieldAddr rfl Law13_fo133_1))<|RunD.take (i := 6) 0 rfl rfl WK WK WK (fun _ _ _ h => h) (lt rfl) (KnAll.cons (Kn.at 4 rfl) (ZK 6 Z)) (fun _ => (Y.load rfl Law13_ts79 Kn.vk1 rfl))<|?_
 refine RunD.pure (i := 7) rfl WK WK WK (fun _ _ _ h => h) (lt rfl) (KnAll.cons (Kn.at 4 rfl) (ZK 6 Z)) (fun _ => (Y.nilCheck rfl))<|RunD.pure (i := 8) rfl WK WK WK (fun _ _ _ h => h) (lt rfl) (KnAll.cons (Kn.at 4 rfl) (ZK 6 Z)) (fun _ => (Y.fieldAddr rfl Law13_fo135_0))<|RunD.take (i := 9) 1 rfl rfl WK WK WK (fun _ _ _ h => h) (lt rfl) (KnAll.cons (Kn.at 4 rfl) (ZK 6 Z)) (fun _ => (Y.load rfl Law13_ts59 Kn.vk1 rfl))<|?_
 refine RunD.one (i := 1) WK rfl  ?_
 refine Run.call0 (l := [.tmp 6]) Z Z Z (lt Z) (Does.frame1 0 Z (table_c (s := s) (lx := lx) (tx := tx)))<|Ze<|Ex.anyD (KnAll.cons (Kn.at 4 Z) (ZK 6 Z))<|?_
 refine RunD.one (i := 2) WK rfl  ?_
 refine Run.call [2] (l := [.tmp 7]) rfl rfl rfl (lt rfl) (all_o ht) (fun v1 V1 H1 hle1 hR1 => ?_)
 obtain ⟨hV,q1,ho1,rfl⟩ := hR1; replace hV := hV.symm; subst hV; obtain ⟨p1,c1,rfl⟩ := ho1.form
 refine Run.heapTo (H' := [(cS 123 sx lx tx s),(cL 187 lx dx),sd,(cS 133 rx mx wx u),(cL 193 mx ux),[(wx,.cells #[.slice pl u.t.length cl] 135 (0,0))],ql,rd,q1,st]) Z ?_
 refine Ze<|Ex.anyD (KnAll.cons (Kn.at 3 Z) (ZK 5 Z))<|?_
 refine RunD.one (i := 10) WK rfl  ?_
 refine Run.call0 (l := [.tmp 8,.tmp 15]) rfl rfl rfl (lt rfl) (same11b_c (ho1.rd 8 rfl) (hl.rd 6 rfl) W)<|Ze<|Ex.anyD (KnAll.cons (Kn.at 3 Z) (ZK 5 Z))<|RunD.pure (i := 11) rfl WK WK WK (fun _ _ _ h => h) (lt rfl) (KnAll.cons (Kn.at 3 rfl) (ZK 5 Z)) (fun _ => (Y.assign rfl))<|RunD.done WK<|Zg<|Zs<|Tr.tail 26 Law13_mo WK<|ZM Z<|ZM Z<|?_
 rcases Zsplit (Le.samel s.t u.t) with ⟨h2,g2⟩ | ⟨h2,g2⟩ <;> try simp only [kb] at g2
 ·refine ZP h2<|ZM Z<|ZP h2<|RunQ.call0 (l := [.tmp 19]) Z Z Z (lt Z) (Does.frame1 0 Z (state_c (s := s) (lx := lx) (tx := tx)))<|ZP h2<|ZM Z<|ZP h2<|ZV (Y.nilCheck Z)<|ZP h2<|ZV (Y.fieldAddr Z Law13_fo133_2)<|ZP h2<|ZV (Y.load Z Law13_ts3 (Kn.at 3 Z) Z)<|ZP h2<|ZV (Y.int Z Z Z)<|ZV (Y.pick_t Z h2 Z)<|ZM Z<|?_
  rcases Zsplit (s.state == u.state) with ⟨h3,g3⟩ | ⟨h3,g3⟩ <;> try simp only [kb] at g3
  ·refine ZP h3<|ZM Z<|ZP h3<|RunQ.call0 (l := [.tmp 28]) Z Z Z (lt Z) (Does.frame1 0 Z (life_c (s := s) (lx := lx) (tx := tx)))<|ZP h3<|ZM Z<|ZP h3<|ZV (Y.nilCheck Z)<|ZP h3<|ZV (Y.fieldAddr Z Law13_fo133_3)<|ZP h3<|ZV (Y.load Z Law13_ts3 (Kn.at 3 Z) Z)<|ZP h3<|ZV (Y.int Z Z Z)<|ZV (Y.pick_t Z h3 Z)<|ZM Z<|?_
   rcases Zsplit (s.life == u.life) with ⟨h4,g4⟩ | ⟨h4,g4⟩ <;> try simp only [kb] at g4
   ·refine ZP h4<|ZM Z<|ZP h4<|RunQ.call0 (l := [.tmp 37]) Z Z Z (lt Z) ((slen_c (s := s) (tx := tx) hin).frameP (pull_perm [0,0,0] [(cS 123 sx lx tx s),(cL 187 lx dx),sd,(cS 133 rx mx wx u),(cL 193 mx ux),[(wx,.cells #[.slice pl u.t.length cl] 135 (0,0))],ql,rd,q1,st]))<|?_
    refine ZP h4<|ZM Z<|ZP h4<|ZV (Y.nilCheck Z)<|ZP h4<|ZV (Y.fieldAddr Z Law13_fo133_0)<|ZP h4<|ZV (Y.load Z Law13_ts129 (Kn.at 3 Z) Z)<|RunQ.nil_run<|Zp h4<|?_
    refine Run.call [4,6] (l := [.tmp 42]) rfl rfl rfl (lt rfl) (rwrecs_o hin2) (fun v5 V5 H5 hle5 hR5 => ?_)
    obtain ⟨_,xs,px,cx,qx,rfl,hxs,_,hox,rfl⟩ := hR5
    have hVle := hle5
    have hxl : xs.length = (Fr.scan e.bs).1.length := by rw [← hxs,List.length_map]
    refine Run.heapTo (H' := [(cS 123 sx lx tx s),(cL 187 lx dx),sd,(cS 133 rx mx wx u),[(wx,.cells #[.slice pl u.t.length cl] 135 (0,0))],ql,q1,st,qx,(cL 193 mx ux),rd]) Z ?_
    refine Zp h4<|Zv (Y.lenSl Z Law13_es56)<|Zp h4<|Zv (Y.int Z Z Z)<|Zv (Y.pick_t Z h4 Z)<|Za Z<|Ze<|Zg<|Zu<|Ex.keepTo (H' := [(cS 123 sx lx tx s),(cL 187 lx dx),st,sd,(cS 133 rx mx wx u),(cL 193 mx ux),[(wx,.cells #[.slice pl u.t.length cl] 135 (0,0))],ql,rd]) [0,0,5,0,0,4,0,0,2] Z<|?_
    refine Ex.recut (H' := [(cS 123 sx lx tx s),(cL 187 lx dx),st,sd,(cS 133 rx mx wx u),(cL 193 mx ux),([[(wx,.cells #[.slice pl u.t.length cl] 135 (0,0))],ql] : Hp).flatten,rd]) (List.Perm.of_eq (by simp)) ?_
    exact Ex.ret1 rfl rfl  ⟨hVle,congrArg Value.bool (by unfold Sk.alk; simp only [h2,h3,h4,Bool.false_and,Bool.true_and,Bool.and_true]; (try rw [hxl]); (try simp)),_,_,hin,hin2,rfl⟩
   ·refine ZO h4 Z<|ZO h4 Z<|ZO h4 Z<|ZO h4 Z<|ZO h4 Z<|ZO h4 Z<|RunQ.nil_run<|Zo h4 Z<|Zo h4 Z<|Zo h4 Z<|Zv (Y.pick_f Z h4 Z)<|Za Z<|Ze<|Zg<|Zu<|Ex.keepTo (H' := [(cS 123 sx lx tx s),(cL 187 lx dx),st,sd,(cS 133 rx mx wx u),(cL 193 mx ux),[(wx,.cells #[.slice pl u.t.length cl] 135 (0,0))],ql,rd]) [0,0,7,0,0,0,0,0,0] Z<|?_
    refine Ex.recut (H' := [(cS 123 sx lx tx s),(cL 187 lx dx),st,sd,(cS 133 rx mx wx u),(cL 193 mx ux),([[(wx,.cells #[.slice pl u.t.length cl] 135 (0,0))],ql] : Hp).flatten,rd]) (List.Perm.of_eq (by simp)) ?_
    exact Ex.ret1 rfl rfl  ⟨Vw.le_refl _,congrArg Value.bool (by unfold Sk.alk; simp only [h2,h3,h4,Bool.false_and,Bool.true_and,Bool.and_true]; (try rw [hxl]); (try simp)),_,_,hin,hin2,rfl⟩
  ·refine ZO h3 Z<|ZO h3 Z<|ZO h3 Z<|ZO h3 Z<|ZO h3 Z<|ZO h3 Z<|ZO h3 Z<|ZV (Y.pick_f Z h3 Z)<|ZM Z<|ZO Z Z<|ZO Z Z<|ZO Z Z<|ZO Z Z<|ZO Z Z<|ZO Z Z<|RunQ.nil_run<|?_
   refine Zo Z Z<|Zo Z Z<|Zo Z Z<|Zv (Y.pick_f Z Z Z)<|Za Z<|Ze<|Zg<|Zu<|Ex.keepTo (H' := [(cS 123 sx lx tx s),(cL 187 lx dx),st,sd,(cS 133 rx mx wx u),(cL 193 mx ux),[(wx,.cells #[.slice pl u.t.length cl] 135 (0,0))],ql,rd]) [0,0,7,0,0,0,0,0,0] Z<|?_
   refine Ex.recut (H' := [(cS 123 sx lx tx s),(cL 187 lx dx),st,sd,(cS 133 rx mx wx u),(cL 193 mx ux),([[(wx,.cells #[.slice pl u.t.length cl] 135 (0,0))],ql] : Hp).flatten,rd]) (List.Perm.of_eq (by simp)) ?_
   exact Ex.ret1 rfl rfl  ⟨Vw.le_refl _,congrArg Value.bool (by unfold Sk.alk; simp only [h2,h3,Bool.false_and,Bool.true_and,Bool.and_true]; (try rw [hxl]); (try simp)),_,_,hin,hin2,rfl⟩
 ·refine ZO h2 Z<|ZO h2 Z<|ZO h2 Z<|ZO h2 Z<|ZO h2 Z<|ZO h2 Z<|ZO h2 Z<|ZV (Y.pick_f Z h2 Z)<|ZM Z<|ZO Z Z<|ZO Z Z<|ZO Z Z<|ZO Z Z<|ZO Z Z<|ZO Z Z<|ZO Z Z<|?_
  refine ZV (Y.pick_f Z Z Z)<|ZM Z<|ZO Z Z<|ZO Z Z<|ZO Z Z<|ZO Z Z<|ZO Z Z<|ZO Z Z<|RunQ.nil_run<|Zo Z Z<|Zo Z Z<|Zo Z Z<|Zv (Y.pick_f Z Z Z)<|Za Z<|Ze<|Zg<|?_
  refine Zu<|Ex.keepTo (H' := [(cS 123 sx lx tx s),(cL 187 lx dx),st,sd,(cS 133 rx mx wx u),(cL 193 mx ux),[(wx,.cells #[.slice pl u.t.length cl] 135 (0,0))],ql,rd]) [0,0,7,0,0,0,0,0,0] Z<|?_
  refine Ex.recut (H' := [(cS 123 sx lx tx s),(cL 187 lx dx),st,sd,(cS 133 rx mx wx u),(cL 193 mx ux),([[(wx,.cells #[.slice pl u.t.length cl] 135 (0,0))],ql] : Hp).flatten,rd]) (List.Perm.of_eq (by simp)) ?_
  exact Ex.ret1 rfl rfl  ⟨Vw.le_refl _,congrArg Value.bool (by unfold Sk.alk; simp only [h2,Bool.false_and,Bool.true_and,Bool.and_true]; (try rw [hxl]); (try simp)),_,_,hin,hin2,rfl⟩
theorem alike13_o {V : Vw} {d : Dk} {s : Sk} {dx sx lx tx : Nat} {st sd : Sg} (hin : Dk.In 116 d dx sd) (ht : Le.In 149 s.t tx st) {e : Dk} {u : Sk} {ux rx mx wx : Nat} {rt rd : Sg} (hin2 : Dk.In 54 e ux rd) (ht2 : Le.Rin u.t wx rt) (hs : s.Ok) : Does Tryz.prog 21 [(pZ sx),(pZ rx)] V [(cS 123 sx lx tx s),(cL 187 lx dx),st,sd,(cS 133 rx mx wx u),(cL 193 mx ux),rt,rd] (fun v V' H' => V' = V ∧ v = .bool (Sk.alk d s e u) ∧ ∃ sd2 rd2,Dk.In 116 d dx sd2 ∧ Dk.In 54 e ux rd2 ∧ H' = [(cS 123 sx lx tx s),(cL 187 lx dx),st,sd2,(cS 133 rx mx wx u),(cL 193 mx ux),rt,rd2]) := by
  obtain ⟨hr,hlm,pl,cl,ql,hl,rfl⟩ := ht2
  exact ((alike13_c hin ht hl hin2 hs).recut (List.Perm.of_eq (by simp))).forget fun v V' H' _ h => ⟨rfl,h.2⟩
theorem step13_o {V : Vw} {d : Dk} {s : Sk} {dx sx lx tx : Nat} {st sd : Sg} (hin : Dk.In 116 d dx sd) (ht : Le.In 149 s.t tx st) {ux rx mx wx : Nat} {rt rd : Sg} (hin2 : Dk.In 54 d ux rd) (ht2 : Le.Rin s.t wx rt) (hs : s.Ok) (hos : s.Os) {x : S13} (hx : x.Ok) : Does Tryz.prog 24 [(pZ dx),(pZ ux),(pZ sx),(pZ rx),.agg x.cells.toArray] V [(cS 123 sx lx tx s),(cL 187 lx dx),st,sd,(cS 133 rx mx wx s),(cL 193 mx ux),rt,rd] (fun v V' H' => V' = V ∧ ∃ sy ly ty st sd ry my wy rt rd,v = .tuple #[(pZ sy),(pZ ry),.bool true] ∧ (0 ≤ x.k ∧ x.k ≤ 4 → sx = sy ∧ lx = ly ∧ tx = ty ∧ rx = ry ∧ mx = my ∧ wx = wy) ∧ Le.In 149 (Sk.stp d s x).2.t ty st ∧ Dk.In 116 (Sk.stp d s x).1 dx sd ∧ Le.Rin (Sk.stp d s x).2.t wy rt ∧ Dk.In 54 (Sk.stp d s x).1 ux rd ∧ H' = [(cS 123 sy ly ty ((Sk.stp d s x).2)),(cL 187 ly dx),st,sd,(cS 133 ry my wy ((Sk.stp d s x).2)),(cL 193 my ux),rt,rd]) := (step13_c hin ht hin2 ht2 hs hos hx).forget fun v V' H' _ h => ⟨rfl,h.2⟩
end Go.Proofs.YtinkencbkcciiaaGreat
