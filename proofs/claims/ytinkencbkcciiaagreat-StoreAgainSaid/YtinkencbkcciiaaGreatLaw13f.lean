/- StoreAgain, walked.
Conditions: as each theorem names them. -/
import Derived.Test.YtinkencbkcciiaaGreatProg
import Derived.Test.YtinkencbkcciiaaGreatLaw13b
import Derived.Test.YtinkencbkcciiaaGreatKJ
import Derived.Test.YtinkencbkcciiaaGreatDF
import Derived.Test.YtinkencbkcciiaaGreatZG
set_option linter.unusedSimpArgs false
set_option linter.unusedVariables false
set_option maxRecDepth 4000
namespace Go.Proofs.YtinkencbkcciiaaGreat
open Go Go.K
attribute [local irreducible] Code.wp wpList Calls wpQuiet
theorem Law13f_pt33 : ptrT Tryz.prog 33 = true := by kernel_rfl
theorem Law13f_es23 : elemS Tryz.prog 23 = some (101,2) := by kernel_rfl
theorem Law13f_es41 : elemS Tryz.prog 41 = some (51,10) := by kernel_rfl
theorem Law13f_fo51_0 : fieldOff Tryz.prog 51 0 = some 0 := by kernel_rfl
theorem Law13f_ts3 : scal Tryz.prog 3 = true := by kernel_rfl
theorem Law13f_ag51 : aggsz Tryz.prog 51 = some 10 := by kernel_rfl
theorem Law13f_es59 : elemS Tryz.prog 59 = some (49,8) := by kernel_rfl
theorem Law13f_mo : Tryz.prog.follows .mixedOrders = true := by kernel_rfl
theorem Law13f_fo49_0 : fieldOff Tryz.prog 49 0 = some 0 := by kernel_rfl
theorem Law13f_ts47 : scal Tryz.prog 47 = true := by kernel_rfl
theorem Law13f_zo49 : zeroOf Tryz.prog 49 = some (.agg #[.int .u32 0,.int .i64 0,.string ⟨#[]⟩,.int .i64 0,.int .i64 0,.int .i64 0,.int .i64 0,.int .i64 0]) := by kernel_rfl
theorem Law13f_sz49 : sizeT Tryz.prog 49 = some 8 := by kernel_rfl
theorem Law13f_ag49 : aggsz Tryz.prog 49 = some 8 := by kernel_rfl
theorem Law13f_tgs49 : tags Tryz.prog 49 = some [(0,.u32),(0,.i64),(2,.i64),(0,.i64),(0,.i64),(0,.i64),(0,.i64),(0,.i64)] := by kernel_rfl
set_option maxHeartbeats 1000000 in
theorem again13_c {V : Vw} {l : List S13} {p : Option Addr} {c : Nat} (hv : Rd V [] 10 (.slice p l.length c) l.length (l.flatMap S13.cells)) (hl9 : l.length ≤ 9223372036854775807) (hok : ∀ x,x ∈ l → S13.Ok x) {rs : List Rg} {p2 : Option Addr} {c2 : Nat} (hv2 : Rd V [] 2 (.slice p2 rs.length c2) rs.length (rs.flatMap Rg.cells)) (hrk : Rg.Oks rs)  : Does Tryz.prog 7 [.slice p l.length c,.slice p2 rs.length c2] V [] (fun v _ _ => v = .bool true) := by
 refine Does.intro Tryz.func7 rfl rfl (le rfl) (fun B => ?_)
 refine Zs<|Zr<|Za Z<|Ze<|Zg<|Zs<|Zr<|?_
 refine Run.call [] (l := []) rfl rfl rfl (lt rfl) awake13_c (fun v1 V1 H1 hle1 hR1 => ?_)
 obtain ⟨_,rfl,rfl⟩ := hR1
 replace hv := hv.le hle1
 replace hv2 := hv2.le hle1
 have hVle := hle1
 refine Run.heapTo (H' := []) Z<|Run.heapTo (H' := []) Z<|Za Z<|Ze<|Zg<|Zs<|Zr<|Zm Z<|?_
 refine Run.callW (l := [.tmp 25]) rfl rfl rfl (lt rfl) (long13_c hv.of_nil hl9) (fun v2 V2 H2 hle2 hR2 => ?_)
 obtain ⟨hV,rfl,b2,rfl,hb2⟩ := hR2; replace hV := hV.symm; subst hV
 refine Run.heapTo (H' := []) Z<|Run.heapTo (H' := []) Z<|Za Z<|Ze<|Zg<|Zs<|Zr<|?_
 refine Run.call [] (l := [.const (.int .i64 100000)]) rfl rfl rfl (lt rfl) (dnew_c (room := 100000)) (fun v3 V3 H3 hle3 hR3 => ?_)
 obtain ⟨hV,⟨hno,_⟩ | ⟨_,dx3,sd3,rfl,hin3,rfl⟩⟩ := hR3
 · exact absurd hno WD
 replace hV := hV.symm; subst hV
 refine Run.heapTo (H' := [sd3]) Z<|Run.heapTo (H' := [sd3]) Z<|Zm Z<|Zv (Y.extract Z Z)<|Zv (Y.extract Z Z)<|Za Z<|Za Z<|Ze<|Zg<|Zs<|Zr<|Zm Z<|?_
 refine Run.call [] (l := []) rfl rfl rfl (lt rfl) pool13_c (fun v4 V4 H4 hle4 hR4 => ?_)
 obtain ⟨_,hv4,rfl⟩ := hR4
 replace hv := hv.le hle4
 replace hv2 := hv2.le hle4
 replace hVle := Vw.le_trans hVle hle4
 refine Run.heapTo (H' := [sd3]) Z<|Run.heapTo (H' := [sd3]) Z<|?_
 refine Run.call [0] (l := [.tmp 32,.tmp 33]) rfl rfl rfl (lt rfl) (open_o (rs := Rg.p16) hin3 hv4 WD Rg.p16_ok) (fun v5 V5 H5 hle5 hR5 => ?_)
 obtain ⟨hV,sd5,⟨hno,_⟩ | ⟨_,hno,_⟩ | ⟨_,_,sx5,lx5,tx5,sb5,rfl,ht5,hin5,rfl⟩⟩ := hR5
 · exact absurd Rg.pool16 hno
 · exact absurd (Sk.cut_ok hin3.1 (show (-1 : Int) ≠ 0 by decide)) hno
 replace hV := hV.symm; subst hV
 refine Run.heapTo (H' := [(cS 123 sx5 lx5 tx5 (Sk.opened Rg.p16 (Sk.cutD (Dk.new 100000)).1.bs)),(cL 187 lx5 dx3),sb5,sd5]) Z<|Run.heapTo (H' := [(cS 123 sx5 lx5 tx5 (Sk.opened Rg.p16 (Sk.cutD (Dk.new 100000)).1.bs)),(cL 187 lx5 dx3),sb5,sd5]) Z<|?_
 refine Zm Z<|Zv (Y.extract Z Z)<|Zv (Y.extract Z Z)<|Za Z<|Za Z<|Ze<|Zg<|Zs<|Zs<|Zr<|Zm Z<|Zv (Y.not Z)<|Zm Z<|Zp Z<|Zm Z<|Zp Z<|?_
 refine Zv (Y.int (r := .bool false) Z Z Z)<|Zv (Y.pick_f Z Z Z)<|Zm Z<|Zp Z<|Zm Z<|Zp Z<|Zv (Y.int (r := .bool false) Z Z Z)<|Zv (Y.pick_f Z Z Z)<|Zm Z<|Zp Z<|Zm Z<|Zp Z<|Zv (Y.eqNil Z Z Law13f_pt33)<|Zv (Y.pick_f Z Z Z)<|Zm Z<|Zp Z<|?_
 refine Zm Z<|Zv (Y.pick_f Z Z Z)<|Zm Z<|?_
 rcases Zsplit (b2) with ⟨h6,g6⟩ | ⟨h6,g6⟩ <;> try simp only [kb] at g6
 ·refine Zo h6 Z<|Zo h6 Z<|Zo h6 Z<|Zv (Y.pick_t Z h6 Z)<|Ze<|Zg<|Tr.cond_t Z Z<|Zs<|Zr<|Zm Z<|Za Z<|Ze<|Zg<|Zu<|Zn<|Ex.keep []<|?_
  exact Ex.ret1 rfl rfl  rfl
 ·refine Zp h6<|Zm Z<|Zp h6<|Zv (Y.lenSl Z Law13f_es23)<|Zp h6<|Zv (Y.int Z Z Z)<|Zv (Y.pick_f Z h6 Z)<|Ze<|Zg<|?_
  rcases Zsplit (decide (((rs.length : Nat) : Int) > 50)) with ⟨h7,g7⟩ | ⟨h7,g7⟩ <;> try simp only [kb] at g7
  ·refine Tr.cond_t Z h7<|Zs<|Zr<|Zm Z<|Za Z<|Ze<|Zg<|Zu<|Zn<|Ex.keep []<|?_
   exact Ex.ret1 rfl rfl  rfl
  ·refine Tr.cond_f Z h7<|Zt<|Zg<|Zs<|Zr<|?_
   refine Run.call [] (l := [.const (.int .i64 100000)]) rfl rfl rfl (lt rfl) (rdnew_c (room := 100000)) (fun v8 V8 H8 hle8 hR8 => ?_)
   obtain ⟨hV,⟨hno,_⟩ | ⟨_,dx8,sd8,rfl,hin8,rfl⟩⟩ := hR8
   · exact absurd hno WD
   replace hV := hV.symm; subst hV
   refine Run.heapTo (H' := [(cS 123 sx5 lx5 tx5 (Sk.opened Rg.p16 (Sk.cutD (Dk.new 100000)).1.bs)),(cL 187 lx5 dx3),sb5,sd5,sd8]) Z<|Run.heapTo (H' := [(cS 123 sx5 lx5 tx5 (Sk.opened Rg.p16 (Sk.cutD (Dk.new 100000)).1.bs)),(cL 187 lx5 dx3),sb5,sd5,sd8]) Z<|?_
   refine Zm Z<|Zv (Y.extract Z Z)<|Zv (Y.extract Z Z)<|Za Z<|Za Z<|Ze<|Zg<|Zs<|Zr<|Zm Z<|?_
   refine Run.call [] (l := []) rfl rfl rfl (lt rfl) pool13_c (fun v9 V9 H9 hle9 hR9 => ?_)
   obtain ⟨_,hv9,rfl⟩ := hR9
   replace hv := hv.le hle9
   replace hv2 := hv2.le hle9
   replace hv4 := hv4.le hle9
   replace hVle := Vw.le_trans hVle hle9
   refine Run.heapTo (H' := [(cS 123 sx5 lx5 tx5 (Sk.opened Rg.p16 (Sk.cutD (Dk.new 100000)).1.bs)),(cL 187 lx5 dx3),sb5,sd5,sd8]) Z<|Run.heapTo (H' := [(cS 123 sx5 lx5 tx5 (Sk.opened Rg.p16 (Sk.cutD (Dk.new 100000)).1.bs)),(cL 187 lx5 dx3),sb5,sd5,sd8]) Z<|?_
   refine Run.call [4] (l := [.tmp 65,.tmp 66]) rfl rfl rfl (lt rfl) (ropen_o (rs := Rg.p16) hin8 hv9 WD Rg.p16_ok) (fun v10 V10 H10 hle10 hR10 => ?_)
   obtain ⟨hV,sd10,⟨hno,_⟩ | ⟨_,hno,_⟩ | ⟨_,_,sx10,lx10,tx10,sb10,rfl,ht10,hin10,rfl⟩⟩ := hR10
   · exact absurd Rg.pool16 hno
   · exact absurd (Sk.cut_ok hin8.1 (show (-1 : Int) ≠ 0 by decide)) hno
   replace hV := hV.symm; subst hV
   refine Run.heapTo (H' := [(cS 123 sx5 lx5 tx5 (Sk.opened Rg.p16 (Sk.cutD (Dk.new 100000)).1.bs)),(cL 187 lx5 dx3),sb5,sd5,(cS 133 sx10 lx10 tx10 (Sk.opened Rg.p16 (Sk.cutD (Dk.new 100000)).1.bs)),(cL 193 lx10 dx8),sb10,sd10]) Z ?_
   refine Zm Z<|Zv (Y.extract Z Z)<|Zv (Y.extract Z Z)<|Za Z<|Za Z<|Ze<|Zg<|Zs<|Zs<|Zr<|Run.keepTo (H' := [(cS 123 sx5 lx5 tx5 (Sk.opened Rg.p16 (Sk.cutD (Dk.new 100000)).1.bs)),(cL 187 lx5 dx3),sb5,sd5,(cS 133 sx10 lx10 tx10 (Sk.opened Rg.p16 (Sk.cutD (Dk.new 100000)).1.bs)),(cL 193 lx10 dx8),sb10,sd10]) [0,0,0,0,0,0,0,0] Z<|?_
   refine Za Z<|Ze<|Zg<|Zb<|?_
   refine ZL (X := Nat × Dk × Sk × Sg × Sg × Sg × Sg) (fun z0 => V9) (fun z0 => [(cS 123 sx5 lx5 tx5 z0.2.2.1),(cL 187 lx5 dx3),z0.2.2.2.1,z0.2.2.2.2.1,(cS 133 sx10 lx10 tx10 z0.2.2.1),(cL 193 lx10 dx8),z0.2.2.2.2.2.1,z0.2.2.2.2.2.2]) (fun z0 => [(0,.slice p l.length c),(1,.slice p2 rs.length c2),(7,(pZ dx3)),(9,(pZ sx5)),(11,(pZ dx8)),(13,(pZ sx10)),(15,.int .i64 (z0.1 : Int))]) (fun z0 => Dk.In 116 z0.2.1 dx3 z0.2.2.2.2.1 ∧ Le.In 149 z0.2.2.1.t tx5 z0.2.2.2.1 ∧ Dk.In 54 z0.2.1 dx8 z0.2.2.2.2.2.2 ∧ Le.Rin z0.2.2.1.t tx10 z0.2.2.2.2.2.1 ∧ z0.2.2.1.Ok ∧ z0.2.2.1.Os ∧ (∃ K,Sk.Inv Sk.A16 z0.2.1 z0.2.2.1 K) ∧ z0.1 ≤ l.length) (fun z0 => l.length - z0.1) (⟨0,((Sk.cutD (Dk.new 100000)).1),(Sk.opened Rg.p16 (Sk.cutD (Dk.new 100000)).1.bs),sb5,sd5,sb10,sd10⟩ : Nat × Dk × Sk × Sg × Sg × Sg × Sg) ⟨hin5,ht5,hin10,ht10,(Sk.opened_ok Rg.pool16 _),(Sk.opened_os Rg.p16_ok _),⟨_,Sk.start_inv WD WD⟩,Nat.zero_le _⟩ ?_
   rintro ⟨i1,d,s,st,sd,rt,rd⟩ ⟨hin,ht,hin2,ht2,hs,hos,hex,hi⟩
   try dsimp only at hin ht hin2 ht2 hs hos hex hi ⊢
   refine Zs<|Zs<|Zr<|Zm Z<|Zm Z<|Zv (Y.lenSl Z Law13f_es41)<|Zv (Y.int Z Z Z)<|Ze<|Zg<|?_
   rcases Zsplit (decide ((i1 : Int) < ((l.length : Nat) : Int))) with ⟨h11,g11⟩ | ⟨h11,g11⟩ <;> try simp only [kb] at g11
   ·refine Tr.cond_t Z h11<|Zt<|Zg<|Zs<|Zb<|Zs<|Zr<|Zm Z<|Zm Z<|Zv (Y.idxR i1 Z Z Law13f_es41 hv.of_nil W W)<|Zv (Y.fieldR Z Law13f_fo51_0 hv.of_nil W)<|Zv (Y.ldR Z Law13f_ts3 hv.of_nil (flatm_at S13.enc.len W S13.dflt WD rfl))<|Zv (Y.int Z Z Z)<|Zm Z<|?_
    rcases Zsplit (decide (((l.getD i1 S13.dflt).k) ≥ 0)) with ⟨h12,g12⟩ | ⟨h12,g12⟩ <;> try simp only [kb] at g12
    ·refine Zp h12<|Zm Z<|Zp h12<|Zm Z<|Zp h12<|Zv (Y.idxR i1 Z Z Law13f_es41 hv.of_nil W W)<|Zp h12<|Zv (Y.fieldR Z Law13f_fo51_0 hv.of_nil W)<|Zp h12<|Zv (Y.ldR Z Law13f_ts3 hv.of_nil (flatm_at S13.enc.len W S13.dflt WD rfl))<|Zp h12<|Zv (Y.int Z Z Z)<|Zv (Y.pick_t Z h12 Z)<|Ze<|Zg<|?_
     rcases Zsplit (decide (((l.getD i1 S13.dflt).k) < 5)) with ⟨h13,g13⟩ | ⟨h13,g13⟩ <;> try simp only [kb] at g13
     ·refine Tr.cond_t Z h13<|Zr<|Zm Z<|Zm Z<|Zm Z<|Zm Z<|Zm Z<|Zm Z<|Zv (Y.idxR i1 Z Z Law13f_es41 hv.of_nil W W)<|Zv (Y.ldRA (vs := [.int .i64 ((l.getD i1 S13.dflt).k),.int .i64 ((l.getD i1 S13.dflt).n),.int .u32 ((l.getD i1 S13.dflt).l.addr),.int .i64 ((l.getD i1 S13.dflt).l.bind),.string ((l.getD i1 S13.dflt).l.client),.int .i64 ((l.getD i1 S13.dflt).l.till),.int .i64 ((l.getD i1 S13.dflt).l.acked),.int .i64 ((l.getD i1 S13.dflt).l.told),.int .i64 ((l.getD i1 S13.dflt).l.at_),.int .i64 ((l.getD i1 S13.dflt).l.ver)]) rfl Law13f_ag51 hv.of_nil rfl WD (fun o ho => flatm_atA S13.enc.len W S13.dflt o ho))<|?_
      have hkk : 0 ≤ (l.getD i1 S13.dflt).k ∧ (l.getD i1 S13.dflt).k ≤ 4 := by omega
      have hxx := hok _ (S13.mem (l := l) (i := i1) W)
      refine Run.call [0,0,0,0,0,0,0,0] (l := [.tmp 90,.tmp 91,.tmp 92,.tmp 93,.tmp 97]) rfl rfl rfl (lt rfl) (step13_o hin ht hin2 ht2 hs hos (x := (l.getD i1 S13.dflt)) hxx) (fun v14 V14 H14 hle14 hR14 => ?_)
      obtain ⟨hV,sy,ly,ty,st14,sd14,ry,my,wy,rt14,rd14,rfl,hsm,ht14,hin14,hu14,hjn14,rfl⟩ := hR14; replace hV := hV.symm; subst hV; obtain ⟨rfl,rfl,rfl,rfl,rfl,rfl⟩ := hsm hkk
      have hsk14 := (Sk.stp_ok (x := (l.getD i1 S13.dflt)) hin.1 hs hxx).2
      have hso14 : (Sk.stp d s (l.getD i1 S13.dflt)).2.Os := Sk.stp_os hos
      refine Run.heapTo (H' := [(cS 123 sx5 lx5 tx5 ((Sk.stp d s (l.getD i1 S13.dflt)).2)),(cL 187 lx5 dx3),st14,sd14,(cS 133 sx10 lx10 tx10 ((Sk.stp d s (l.getD i1 S13.dflt)).2)),(cL 193 lx10 dx8),rt14,rd14]) Z ?_
      refine Ze<|Zc<|Zg<|Zr<|Zm Z<|Zv (Y.add Z Z W)<|Za Z<|Ze<|Ex.keep [0,0,0,0,0,0,0,0]<|?_
      exact ZR (⟨i1 + 1,((Sk.stp d s (l.getD i1 S13.dflt)).1),((Sk.stp d s (l.getD i1 S13.dflt)).2),st14,sd14,rt14,rd14⟩ : Nat × Dk × Sk × Sg × Sg × Sg × Sg) ⟨hin14,ht14,hjn14,hu14,hsk14,hso14,(hex.elim fun K hK => hK.steps Sk.a16 hkk),by omega⟩ (by dsimp only; omega)
     ·refine Tr.cond_f Z h13<|Zt<|Zc<|Zg<|Zr<|Zm Z<|Zv (Y.add Z Z W)<|Za Z<|Ze<|Ex.keep [0,0,0,0,0,0,0,0]<|?_
      exact ZR (⟨i1 + 1,d,s,st,sd,rt,rd⟩ : Nat × Dk × Sk × Sg × Sg × Sg × Sg) ⟨hin,ht,hin2,ht2,hs,hos,hex,by omega⟩ (by dsimp only; omega)
    ·refine Zo h12 Z<|Zo h12 Z<|Zo h12 Z<|Zo h12 Z<|Zo h12 Z<|Zo h12 Z<|Zv (Y.pick_f Z h12 Z)<|Ze<|Zg<|Tr.cond_f Z Z<|Zt<|Zc<|Zg<|Zr<|Zm Z<|Zv (Y.add Z Z W)<|?_
     refine Za Z<|Ze<|Ex.keep [0,0,0,0,0,0,0,0]<|?_
     exact ZR (⟨i1 + 1,d,s,st,sd,rt,rd⟩ : Nat × Dk × Sk × Sg × Sg × Sg × Sg) ⟨hin,ht,hin2,ht2,hs,hos,hex,by omega⟩ (by dsimp only; omega)
   ·refine Tr.cond_f Z h11<|Zx<|Zy<|Zy<|Zi<|Zg<|Zs<|Zr<|?_
    obtain ⟨K,hK⟩ := hex
    have hsn := hs.n
    have hcb := hK.cut_bs
    refine Zm Z ?_
    refine Run.call [] (l := []) rfl rfl rfl (lt rfl) pool13_c (fun v15 V15 H15 hle15 hR15 => ?_)
    obtain ⟨_,hv15,rfl⟩ := hR15
    replace hv := hv.le hle15
    replace hv2 := hv2.le hle15
    replace hv4 := hv4.le hle15
    replace hv9 := hv9.le hle15
    replace hVle := Vw.le_trans hVle hle15
    refine Run.heapTo (H' := [(cS 123 sx5 lx5 tx5 s),(cL 187 lx5 dx3),st,sd,(cS 133 sx10 lx10 tx10 s),(cL 193 lx10 dx8),rt,rd]) Z ?_
    have hop16 := open_o (rs := Rg.p16) hin hv15 WD Rg.p16_ok
    rw [hK.again] at hop16
    refine Run.call [3] (l := [.tmp 100,.tmp 101]) rfl rfl rfl (lt rfl) hop16 (fun v16 V16 H16 hle16 hR16 => ?_)
    obtain ⟨hV,sd16,⟨hno,_⟩ | ⟨_,hno,_⟩ | ⟨_,_,sx16,lx16,tx16,sb16,rfl,ht16,hin16,rfl⟩⟩ := hR16
    · exact absurd Rg.pool16 hno
    · exact absurd hK.cut0 hno
    replace hV := hV.symm; subst hV
    refine Run.heapTo (H' := [(cS 123 sx5 lx5 tx5 s),(cL 187 lx5 dx3),st,(cS 133 sx10 lx10 tx10 s),(cL 193 lx10 dx8),rt,rd,(cS 123 sx16 lx16 tx16 s),(cL 187 lx16 dx3),sb16,sd16]) Z ?_
    refine Zm Z<|Zv (Y.extract Z Z)<|Zv (Y.extract Z Z)<|Za Z<|Za Z<|Ze<|Zg<|Zs<|Zs<|Zr<|Zm Z<|Zv (Y.int (r := .bool false) Z Z Z)<|Zm Z<|Zp Z<|Zm Z<|Zp Z<|?_
    refine Zv (Y.eqNil Z Z Law13f_pt33)<|Zv (Y.pick_f Z Z Z)<|Zm Z<|Zp Z<|Zm Z<|Zp Z<|Zm Z<|Zp Z<|?_
    refine Run.call [7,7,7,7,3,3,3,3] (l := [.tmp 112,.tmp 113]) rfl rfl rfl (lt rfl) (alike13_o hin16 ht16 hin2 ht2 hs) (fun v17 V17 H17 hle17 hR17 => ?_)
    rw [Sk.alk_self hcb] at hR17
    obtain ⟨hV,rfl,sd17,rd17,hin17,hjn17,rfl⟩ := hR17; replace hV := hV.symm; subst hV
    refine Run.heapTo (H' := [(cS 123 sx5 lx5 tx5 s),(cL 187 lx5 dx3),st,(cS 123 sx16 lx16 tx16 s),(cL 187 lx16 dx3),sb16,sd17,(cS 133 sx10 lx10 tx10 s),(cL 193 lx10 dx8),rt,rd17]) Z ?_
    refine Zp Z<|Zv (Y.not Z)<|Zv (Y.pick_f Z Z Z)<|Ze<|Zg<|Tr.cond_f Z Z<|Zt<|Zg<|Zs<|Zr<|?_
    by_cases hp0 : (Rg.pool rs).2 = 0
    ·refine Zm Z<|Zm Z<|?_
     obtain ⟨hq1,hq2,hq3⟩ := hK.other (Sk.pool_pl hp0 hrk)
     have hop18 := open_o (rs := rs) hin17 hv2 W hrk
     refine Run.call [6] (l := [.tmp 118,.tmp 119]) rfl rfl rfl (lt rfl) hop18 (fun v18 V18 H18 hle18 hR18 => ?_)
     obtain ⟨hV,sd18,⟨hno,_⟩ | ⟨_,hno,_⟩ | ⟨_,_,sx18,lx18,tx18,sb18,rfl,ht18,hin18,rfl⟩⟩ := hR18
     · exact absurd hp0 hno
     · exact absurd hK.cut_inv.cut0 hno
     replace hV := hV.symm; subst hV
     refine Run.heapTo (H' := [(cS 123 sx5 lx5 tx5 s),(cL 187 lx5 dx3),st,(cS 123 sx16 lx16 tx16 s),(cL 187 lx16 dx3),sb16,(cS 133 sx10 lx10 tx10 s),(cL 193 lx10 dx8),rt,rd17,(cS 123 sx18 lx18 tx18 (Sk.opened rs (Sk.cutD ((Sk.cutD d).1)).1.bs)),(cL 187 lx18 dx3),sb18,sd18]) Z ?_
     have hzn : (Sk.opened rs (Sk.cutD ((Sk.cutD d).1)).1.bs).t.length ≤ 256 := (Sk.opened_ok hp0 _).n
     refine Run.heapTo (H' := [(cS 123 sx5 lx5 tx5 s),(cL 187 lx5 dx3),st,(cS 123 sx16 lx16 tx16 s),(cL 187 lx16 dx3),sb16,(cS 133 sx10 lx10 tx10 s),(cL 193 lx10 dx8),rt,rd17,(cS 123 sx18 lx18 tx18 (Sk.opened rs (Sk.cutD ((Sk.cutD d).1)).1.bs)),(cL 187 lx18 dx3),sb18,sd18]) Z ?_
     refine Zm Z<|Zv (Y.extract Z Z)<|Zv (Y.extract Z Z)<|Za Z<|Za Z<|Ze<|Zg<|Zs<|Zs<|Zr<|Zm Z<|Zv (Y.int (r := .bool false) Z Z Z)<|Zm Z<|Zp Z<|Zm Z<|Zp Z<|?_
     refine Zv (Y.eqNil Z Z Law13f_pt33)<|Zv (Y.pick_f Z Z Z)<|Ze<|Zg<|Tr.cond_f Z Z<|Zt<|Zg<|Zs<|Zr<|Zm Z<|Run.call0 (l := [.tmp 135]) Z Z Z (lt Z) (Does.frame1 10 Z (table_c (s := (Sk.opened rs (Sk.cutD ((Sk.cutD d).1)).1.bs)) (lx := lx18) (tx := tx18)))<|?_
     refine Run.call [12] (l := [.tmp 136]) rfl rfl rfl (lt rfl) (all_o ht18) (fun v19 V19 H19 hle19 hR19 => ?_)
     obtain ⟨hV,q19,ho19,rfl⟩ := hR19; replace hV := hV.symm; subst hV; obtain ⟨p19,c19,rfl⟩ := ho19.form
     refine Run.heapTo (H' := [(cS 123 sx5 lx5 tx5 s),(cL 187 lx5 dx3),st,(cS 123 sx16 lx16 tx16 s),(cL 187 lx16 dx3),sb16,(cS 133 sx10 lx10 tx10 s),(cL 193 lx10 dx8),rt,rd17,(cS 123 sx18 lx18 tx18 (Sk.opened rs (Sk.cutD ((Sk.cutD d).1)).1.bs)),(cL 187 lx18 dx3),sd18,q19,sb18]) Z ?_
     refine Za Z<|Ze<|Zg<|Zs<|Zs<|Zr<|Run.keepTo (H' := [q19,(cS 123 sx5 lx5 tx5 s),st,(cS 123 sx18 lx18 tx18 (Sk.opened rs (Sk.cutD ((Sk.cutD d).1)).1.bs))]) [13,0,1,8] Z<|?_
     refine Run.show (fun V20 hle20 hsh20 => ?_)
     have hva : Rd V20 [] 8 (.slice p19 (Sk.opened rs (Sk.cutD ((Sk.cutD d).1)).1.bs).t.length c19) ((Sk.opened rs (Sk.cutD ((Sk.cutD d).1)).1.bs).t.length) (((Sk.opened rs (Sk.cutD ((Sk.cutD d).1)).1.bs).t).flatMap Le.cells) := ho19.show hsh20
     replace hv := hv.le hle20
     replace hv2 := hv2.le hle20
     replace hv4 := hv4.le hle20
     replace hv9 := hv9.le hle20
     replace hv15 := hv15.le hle20
     replace hVle := Vw.le_trans hVle hle20
     refine Za Z<|Ze<|Zg<|Zb<|?_
     refine ZL (X := Nat) (fun z0 => V20) (fun z0 => [(cS 123 sx5 lx5 tx5 s),st,(cS 123 sx18 lx18 tx18 (Sk.opened rs (Sk.cutD ((Sk.cutD d).1)).1.bs))]) (fun z0 => [(9,(pZ sx5)),(18,(pZ sx18)),(20,.slice p19 (Sk.opened rs (Sk.cutD ((Sk.cutD d).1)).1.bs).t.length c19),(21,.int .i64 (z0 : Int))]) (fun z0 => z0 ≤ (Sk.opened rs (Sk.cutD (Sk.cutD d).1).1.bs).t.length) (fun z0 => (Sk.opened rs (Sk.cutD (Sk.cutD d).1).1.bs).t.length - z0) (0 : Nat) (Nat.zero_le _) ?_
     rintro k1 hk1
     refine Zs<|Zs<|Zr<|Zm Z<|Zm Z<|Zv (Y.lenSl Z Law13f_es59)<|Zv (Y.int Z Z Z)<|Ze<|Zg<|?_
     rcases Zsplit (decide ((k1 : Int) < (((Sk.opened rs (Sk.cutD ((Sk.cutD d).1)).1.bs).t.length : Nat) : Int))) with ⟨h21,g21⟩ | ⟨h21,g21⟩ <;> try simp only [kb] at g21
     ·obtain ⟨b5,o5,hk5,hvk⟩ := hva.vk W
      refine Tr.cond_t Z h21<|Zt<|Zg<|Zs<|Zb<|Zs<|Tr.anyD [(b5,o5)] Law13f_mo<|RunD.pure (i := 0) rfl WK WK WK (fun _ _ _ h => h) (lt rfl) (KnAll.cons hk5.of_nil KnAll.nil) (fun _ => (Y.move rfl))<|RunD.pure (i := 2) rfl WK WK WK (fun _ _ _ h => h) (lt rfl) (KnAll.cons hk5.of_nil KnAll.nil) (fun _ => (Y.move rfl))<|RunD.pure (i := 3) rfl WK WK WK (fun _ _ _ h => h) (lt rfl) (KnAll.cons hk5.of_nil KnAll.nil) (fun _ => (Y.move rfl))<|?_
      refine RunD.take (i := 4) 0 rfl rfl WK WK WK (fun _ _ _ h => h) (lt rfl) (KnAll.cons hk5.of_nil KnAll.nil) (fun _ => (Y.idxR k1 rfl rfl Law13f_es59 hvk W W))<|RunD.take (i := 5) 0 rfl rfl WK WK WK (fun _ _ _ h => h) (lt rfl) (KnAll.cons hk5.of_nil KnAll.nil) (fun _ => (Y.fieldR rfl Law13f_fo49_0 hvk W))<|?_
      refine RunD.take (i := 6) 0 rfl rfl WK WK WK (fun _ _ _ h => h) (lt rfl) (KnAll.cons hk5.of_nil KnAll.nil) (fun _ => (Y.ldR rfl Law13f_ts47 hvk (flatm_at Le.len W Le.dflt WD rfl))) ?_
      refine RunD.two (i := 1) (j := 11) WK rfl rfl  ?_ ?_
      ·refine Run.call0 (l := [.tmp 145]) Z Z Z (lt Z) (Does.frame1 0 Z (table_c (s := s) (lx := lx5) (tx := tx5)))<|Ze<|Ex.anyD (KnAll.cons hk5.of_nil KnAll.nil)<|?_
       refine RunD.two (i := 7) (j := 11) WK rfl rfl  ?_ ?_
       ·refine Run.call0 (l := [.tmp 146,.tmp 151]) Z Z Z (lt Z) (Does.frame1 1 Z (get_o (a := (((Sk.opened rs (Sk.cutD ((Sk.cutD d).1)).1.bs).t).getD k1 Le.dflt).addr) ht))<|Ze<|Ex.anyD (KnAll.cons hk5.of_nil KnAll.nil)<|RunD.pure (i := 8) rfl WK WK WK (fun _ _ _ h => h) (lt rfl) (KnAll.cons hk5.of_nil KnAll.nil) (fun _ => (Y.move rfl))<|RunD.pure (i := 9) rfl WK WK WK (fun _ _ _ h => h) (lt rfl) (KnAll.cons hk5.of_nil KnAll.nil) (fun _ => (Y.extract rfl rfl))<|?_
        refine RunD.pure (i := 10) rfl WK WK WK (fun _ _ _ h => h) (lt rfl) (KnAll.cons hk5.of_nil KnAll.nil) (fun _ => (Y.extract rfl rfl)) ?_
        refine RunD.one (i := 11) WK rfl  ?_
        refine Run.alloc Law13f_zo49 (lt rfl) (fun b22 => ?_)
        refine Ze<|Ex.anyD (KnAll.cons hk5.of_nil KnAll.nil)<|?_
        refine RunD.one (i := 12) WK rfl  ?_
        refine Run.store (s := [(b22,.cells #[.int .u32 ((Le.getE s.t ((((Sk.opened rs (Sk.cutD ((Sk.cutD d).1)).1.bs).t).getD k1 Le.dflt).addr)).1.addr),.int .i64 ((Le.getE s.t ((((Sk.opened rs (Sk.cutD ((Sk.cutD d).1)).1.bs).t).getD k1 Le.dflt).addr)).1.bind),.string ((Le.getE s.t ((((Sk.opened rs (Sk.cutD ((Sk.cutD d).1)).1.bs).t).getD k1 Le.dflt).addr)).1.client),.int .i64 ((Le.getE s.t ((((Sk.opened rs (Sk.cutD ((Sk.cutD d).1)).1.bs).t).getD k1 Le.dflt).addr)).1.till),.int .i64 ((Le.getE s.t ((((Sk.opened rs (Sk.cutD ((Sk.cutD d).1)).1.bs).t).getD k1 Le.dflt).addr)).1.acked),.int .i64 ((Le.getE s.t ((((Sk.opened rs (Sk.cutD ((Sk.cutD d).1)).1.bs).t).getD k1 Le.dflt).addr)).1.told),.int .i64 ((Le.getE s.t ((((Sk.opened rs (Sk.cutD ((Sk.cutD d).1)).1.bs).t).getD k1 Le.dflt).addr)).1.at_),.int .i64 ((Le.getE s.t ((((Sk.opened rs (Sk.cutD ((Sk.cutD d).1)).1.bs).t).getD k1 Le.dflt).addr)).1.ver)] 49 (0,0))]) Z Z Law13f_sz49 (i := 0) Z Z (le Z) Z Z ?_
        refine Ze<|Ex.anyD (KnAll.cons hk5.of_nil KnAll.nil)<|RunD.pure (i := 13) rfl WK WK WK (fun _ _ _ h => h) (lt rfl) (KnAll.cons hk5.of_nil KnAll.nil) (fun _ => (Y.assign rfl))<|RunD.done WK<|Zg<|Zs<|Tr.quiet Law13f_mo WK<|ZM Z<|ZV (Y.int Z Z Z)<|ZM Z<|?_
        rcases Zsplit (((Le.getE s.t ((((Sk.opened rs (Sk.cutD ((Sk.cutD d).1)).1.bs).t).getD k1 Le.dflt).addr)).2) == 0) with ⟨h23,g23⟩ | ⟨h23,g23⟩ <;> try simp only [kb] at g23
        ·refine ZP h23<|ZV (Y.loadAgg Z Law13f_ag49 (Kn.at 0 Z) Z)<|ZP h23<|ZM Z<|ZP h23<|ZM Z<|ZP h23<|ZV (Y.idxR k1 Z Z Law13f_es59 hva.of_nil W W)<|ZP h23<|ZV (Y.ldRA (vs := [.int .u32 ((((Sk.opened rs (Sk.cutD ((Sk.cutD d).1)).1.bs).t).getD k1 Le.dflt).addr),.int .i64 ((((Sk.opened rs (Sk.cutD ((Sk.cutD d).1)).1.bs).t).getD k1 Le.dflt).bind),.string ((((Sk.opened rs (Sk.cutD ((Sk.cutD d).1)).1.bs).t).getD k1 Le.dflt).client),.int .i64 ((((Sk.opened rs (Sk.cutD ((Sk.cutD d).1)).1.bs).t).getD k1 Le.dflt).till),.int .i64 ((((Sk.opened rs (Sk.cutD ((Sk.cutD d).1)).1.bs).t).getD k1 Le.dflt).acked),.int .i64 ((((Sk.opened rs (Sk.cutD ((Sk.cutD d).1)).1.bs).t).getD k1 Le.dflt).told),.int .i64 ((((Sk.opened rs (Sk.cutD ((Sk.cutD d).1)).1.bs).t).getD k1 Le.dflt).at_),.int .i64 ((((Sk.opened rs (Sk.cutD ((Sk.cutD d).1)).1.bs).t).getD k1 Le.dflt).ver)]) rfl Law13f_ag49 hva.of_nil rfl WD (fun o ho => flatm_atA Le.len W Le.dflt o ho))<|?_
         refine ZP h23<|ZV (Y.neS Z Z Law13f_tgs49 Z Z)<|ZV (Y.pick_t Z h23 Z)<|ZE<|Zg<|?_
         rcases Zsplit (Le.same ((Le.getE s.t ((((Sk.opened rs (Sk.cutD ((Sk.cutD d).1)).1.bs).t).getD k1 Le.dflt).addr)).1) (((Sk.opened rs (Sk.cutD ((Sk.cutD d).1)).1.bs).t).getD k1 Le.dflt)) with ⟨h24,g24⟩ | ⟨h24,g24⟩ <;> try simp only [kb] at g24
         ·refine Tr.cond_f Z (congrArg Bool.not h24)<|Zt<|Zc<|Zg<|Zr<|Zm Z<|Zv (Y.add Z Z W)<|Za Z<|Ze<|Ex.keep [1,1,1]<|?_
          exact ZR (k1 + 1 : Nat) W W
         ·refine Tr.cond_t Z (congrArg Bool.not h24)<|Zs<|Zr<|Za Z<|Ze<|Zg<|Zu<|Zk<|Zn<|Zn<|Zk<|Zn<|Ex.keep []<|?_
          exact Ex.ret1 rfl rfl  (by exfalso; have h9 := hq3 k1 W W; simp_all [Le.same_of])
        ·refine ZO h23 Z<|ZO h23 Z<|ZO h23 Z<|ZO h23 Z<|ZO h23 Z<|ZO h23 Z<|ZV (Y.pick_f Z h23 Z)<|ZE<|Zg<|Tr.cond_f Z Z<|Zt<|Zc<|Zg<|Zr<|Zm Z<|Zv (Y.add Z Z W)<|?_
         refine Za Z<|Ze<|Ex.keep [1,1,1]<|?_
         exact ZR (k1 + 1 : Nat) W W
       ·refine Run.alloc Law13f_zo49 (lt rfl) (fun b25 => ?_)
        refine Ze<|Ex.anyD (KnAll.cons hk5.of_nil KnAll.nil)<|?_
        refine RunD.one (i := 7) WK rfl  ?_
        refine Run.call0 (l := [.tmp 146,.tmp 151]) Z Z Z (lt Z) (Does.frame1 2 Z (get_o (a := (((Sk.opened rs (Sk.cutD ((Sk.cutD d).1)).1.bs).t).getD k1 Le.dflt).addr) ht))<|Ze<|Ex.anyD (KnAll.cons hk5.of_nil KnAll.nil)<|RunD.pure (i := 8) rfl WK WK WK (fun _ _ _ h => h) (lt rfl) (KnAll.cons hk5.of_nil KnAll.nil) (fun _ => (Y.move rfl))<|RunD.pure (i := 9) rfl WK WK WK (fun _ _ _ h => h) (lt rfl) (KnAll.cons hk5.of_nil KnAll.nil) (fun _ => (Y.extract rfl rfl))<|?_
        refine RunD.pure (i := 10) rfl WK WK WK (fun _ _ _ h => h) (lt rfl) (KnAll.cons hk5.of_nil KnAll.nil) (fun _ => (Y.extract rfl rfl)) ?_
        refine RunD.one (i := 12) WK rfl  ?_
        refine Run.store (s := [(b25,.cells #[.int .u32 ((Le.getE s.t ((((Sk.opened rs (Sk.cutD ((Sk.cutD d).1)).1.bs).t).getD k1 Le.dflt).addr)).1.addr),.int .i64 ((Le.getE s.t ((((Sk.opened rs (Sk.cutD ((Sk.cutD d).1)).1.bs).t).getD k1 Le.dflt).addr)).1.bind),.string ((Le.getE s.t ((((Sk.opened rs (Sk.cutD ((Sk.cutD d).1)).1.bs).t).getD k1 Le.dflt).addr)).1.client),.int .i64 ((Le.getE s.t ((((Sk.opened rs (Sk.cutD ((Sk.cutD d).1)).1.bs).t).getD k1 Le.dflt).addr)).1.till),.int .i64 ((Le.getE s.t ((((Sk.opened rs (Sk.cutD ((Sk.cutD d).1)).1.bs).t).getD k1 Le.dflt).addr)).1.acked),.int .i64 ((Le.getE s.t ((((Sk.opened rs (Sk.cutD ((Sk.cutD d).1)).1.bs).t).getD k1 Le.dflt).addr)).1.told),.int .i64 ((Le.getE s.t ((((Sk.opened rs (Sk.cutD ((Sk.cutD d).1)).1.bs).t).getD k1 Le.dflt).addr)).1.at_),.int .i64 ((Le.getE s.t ((((Sk.opened rs (Sk.cutD ((Sk.cutD d).1)).1.bs).t).getD k1 Le.dflt).addr)).1.ver)] 49 (0,0))]) Z Z Law13f_sz49 (i := 0) Z Z (le Z) Z Z ?_
        refine Ze<|Ex.anyD (KnAll.cons hk5.of_nil KnAll.nil)<|RunD.pure (i := 13) rfl WK WK WK (fun _ _ _ h => h) (lt rfl) (KnAll.cons hk5.of_nil KnAll.nil) (fun _ => (Y.assign rfl))<|RunD.done WK<|Zg<|Zs<|Tr.quiet Law13f_mo WK<|ZM Z<|ZV (Y.int Z Z Z)<|ZM Z<|?_
        rcases Zsplit (((Le.getE s.t ((((Sk.opened rs (Sk.cutD ((Sk.cutD d).1)).1.bs).t).getD k1 Le.dflt).addr)).2) == 0) with ⟨h26,g26⟩ | ⟨h26,g26⟩ <;> try simp only [kb] at g26
        ·refine ZP h26<|ZV (Y.loadAgg Z Law13f_ag49 (Kn.at 0 Z) Z)<|ZP h26<|ZM Z<|ZP h26<|ZM Z<|ZP h26<|ZV (Y.idxR k1 Z Z Law13f_es59 hva.of_nil W W)<|ZP h26<|ZV (Y.ldRA (vs := [.int .u32 ((((Sk.opened rs (Sk.cutD ((Sk.cutD d).1)).1.bs).t).getD k1 Le.dflt).addr),.int .i64 ((((Sk.opened rs (Sk.cutD ((Sk.cutD d).1)).1.bs).t).getD k1 Le.dflt).bind),.string ((((Sk.opened rs (Sk.cutD ((Sk.cutD d).1)).1.bs).t).getD k1 Le.dflt).client),.int .i64 ((((Sk.opened rs (Sk.cutD ((Sk.cutD d).1)).1.bs).t).getD k1 Le.dflt).till),.int .i64 ((((Sk.opened rs (Sk.cutD ((Sk.cutD d).1)).1.bs).t).getD k1 Le.dflt).acked),.int .i64 ((((Sk.opened rs (Sk.cutD ((Sk.cutD d).1)).1.bs).t).getD k1 Le.dflt).told),.int .i64 ((((Sk.opened rs (Sk.cutD ((Sk.cutD d).1)).1.bs).t).getD k1 Le.dflt).at_),.int .i64 ((((Sk.opened rs (Sk.cutD ((Sk.cutD d).1)).1.bs).t).getD k1 Le.dflt).ver)]) rfl Law13f_ag49 hva.of_nil rfl WD (fun o ho => flatm_atA Le.len W Le.dflt o ho))<|?_
         refine ZP h26<|ZV (Y.neS Z Z Law13f_tgs49 Z Z)<|ZV (Y.pick_t Z h26 Z)<|ZE<|Zg<|?_
         rcases Zsplit (Le.same ((Le.getE s.t ((((Sk.opened rs (Sk.cutD ((Sk.cutD d).1)).1.bs).t).getD k1 Le.dflt).addr)).1) (((Sk.opened rs (Sk.cutD ((Sk.cutD d).1)).1.bs).t).getD k1 Le.dflt)) with ⟨h27,g27⟩ | ⟨h27,g27⟩ <;> try simp only [kb] at g27
         ·refine Tr.cond_f Z (congrArg Bool.not h27)<|Zt<|Zc<|Zg<|Zr<|Zm Z<|Zv (Y.add Z Z W)<|Za Z<|Ze<|Ex.keep [1,1,1]<|?_
          exact ZR (k1 + 1 : Nat) W W
         ·refine Tr.cond_t Z (congrArg Bool.not h27)<|Zs<|Zr<|Za Z<|Ze<|Zg<|Zu<|Zk<|Zn<|Zn<|Zk<|Zn<|Ex.keep []<|?_
          exact Ex.ret1 rfl rfl  (by exfalso; have h9 := hq3 k1 W W; simp_all [Le.same_of])
        ·refine ZO h26 Z<|ZO h26 Z<|ZO h26 Z<|ZO h26 Z<|ZO h26 Z<|ZO h26 Z<|ZV (Y.pick_f Z h26 Z)<|ZE<|Zg<|Tr.cond_f Z Z<|Zt<|Zc<|Zg<|Zr<|Zm Z<|Zv (Y.add Z Z W)<|?_
         refine Za Z<|Ze<|Ex.keep [1,1,1]<|?_
         exact ZR (k1 + 1 : Nat) W W
      ·refine Run.alloc Law13f_zo49 (lt rfl) (fun b28 => ?_)
       refine Ze<|Ex.anyD (KnAll.cons hk5.of_nil KnAll.nil)<|?_
       refine RunD.one (i := 1) WK rfl  ?_
       refine Run.call0 (l := [.tmp 145]) Z Z Z (lt Z) (Does.frame1 1 Z (table_c (s := s) (lx := lx5) (tx := tx5)))<|Ze<|Ex.anyD (KnAll.cons hk5.of_nil KnAll.nil)<|?_
       refine RunD.one (i := 7) WK rfl  ?_
       refine Run.call0 (l := [.tmp 146,.tmp 151]) Z Z Z (lt Z) (Does.frame1 2 Z (get_o (a := (((Sk.opened rs (Sk.cutD ((Sk.cutD d).1)).1.bs).t).getD k1 Le.dflt).addr) ht))<|Ze<|Ex.anyD (KnAll.cons hk5.of_nil KnAll.nil)<|RunD.pure (i := 8) rfl WK WK WK (fun _ _ _ h => h) (lt rfl) (KnAll.cons hk5.of_nil KnAll.nil) (fun _ => (Y.move rfl))<|RunD.pure (i := 9) rfl WK WK WK (fun _ _ _ h => h) (lt rfl) (KnAll.cons hk5.of_nil KnAll.nil) (fun _ => (Y.extract rfl rfl))<|?_
       refine RunD.pure (i := 10) rfl WK WK WK (fun _ _ _ h => h) (lt rfl) (KnAll.cons hk5.of_nil KnAll.nil) (fun _ => (Y.extract rfl rfl)) ?_
       refine RunD.one (i := 12) WK rfl  ?_
       refine Run.store (s := [(b28,.cells #[.int .u32 ((Le.getE s.t ((((Sk.opened rs (Sk.cutD ((Sk.cutD d).1)).1.bs).t).getD k1 Le.dflt).addr)).1.addr),.int .i64 ((Le.getE s.t ((((Sk.opened rs (Sk.cutD ((Sk.cutD d).1)).1.bs).t).getD k1 Le.dflt).addr)).1.bind),.string ((Le.getE s.t ((((Sk.opened rs (Sk.cutD ((Sk.cutD d).1)).1.bs).t).getD k1 Le.dflt).addr)).1.client),.int .i64 ((Le.getE s.t ((((Sk.opened rs (Sk.cutD ((Sk.cutD d).1)).1.bs).t).getD k1 Le.dflt).addr)).1.till),.int .i64 ((Le.getE s.t ((((Sk.opened rs (Sk.cutD ((Sk.cutD d).1)).1.bs).t).getD k1 Le.dflt).addr)).1.acked),.int .i64 ((Le.getE s.t ((((Sk.opened rs (Sk.cutD ((Sk.cutD d).1)).1.bs).t).getD k1 Le.dflt).addr)).1.told),.int .i64 ((Le.getE s.t ((((Sk.opened rs (Sk.cutD ((Sk.cutD d).1)).1.bs).t).getD k1 Le.dflt).addr)).1.at_),.int .i64 ((Le.getE s.t ((((Sk.opened rs (Sk.cutD ((Sk.cutD d).1)).1.bs).t).getD k1 Le.dflt).addr)).1.ver)] 49 (0,0))]) Z Z Law13f_sz49 (i := 0) Z Z (le Z) Z Z ?_
       refine Ze<|Ex.anyD (KnAll.cons hk5.of_nil KnAll.nil)<|RunD.pure (i := 13) rfl WK WK WK (fun _ _ _ h => h) (lt rfl) (KnAll.cons hk5.of_nil KnAll.nil) (fun _ => (Y.assign rfl))<|RunD.done WK<|Zg<|Zs<|Tr.quiet Law13f_mo WK<|ZM Z<|ZV (Y.int Z Z Z)<|ZM Z<|?_
       rcases Zsplit (((Le.getE s.t ((((Sk.opened rs (Sk.cutD ((Sk.cutD d).1)).1.bs).t).getD k1 Le.dflt).addr)).2) == 0) with ⟨h29,g29⟩ | ⟨h29,g29⟩ <;> try simp only [kb] at g29
       ·refine ZP h29<|ZV (Y.loadAgg Z Law13f_ag49 (Kn.at 0 Z) Z)<|ZP h29<|ZM Z<|ZP h29<|ZM Z<|ZP h29<|ZV (Y.idxR k1 Z Z Law13f_es59 hva.of_nil W W)<|ZP h29<|ZV (Y.ldRA (vs := [.int .u32 ((((Sk.opened rs (Sk.cutD ((Sk.cutD d).1)).1.bs).t).getD k1 Le.dflt).addr),.int .i64 ((((Sk.opened rs (Sk.cutD ((Sk.cutD d).1)).1.bs).t).getD k1 Le.dflt).bind),.string ((((Sk.opened rs (Sk.cutD ((Sk.cutD d).1)).1.bs).t).getD k1 Le.dflt).client),.int .i64 ((((Sk.opened rs (Sk.cutD ((Sk.cutD d).1)).1.bs).t).getD k1 Le.dflt).till),.int .i64 ((((Sk.opened rs (Sk.cutD ((Sk.cutD d).1)).1.bs).t).getD k1 Le.dflt).acked),.int .i64 ((((Sk.opened rs (Sk.cutD ((Sk.cutD d).1)).1.bs).t).getD k1 Le.dflt).told),.int .i64 ((((Sk.opened rs (Sk.cutD ((Sk.cutD d).1)).1.bs).t).getD k1 Le.dflt).at_),.int .i64 ((((Sk.opened rs (Sk.cutD ((Sk.cutD d).1)).1.bs).t).getD k1 Le.dflt).ver)]) rfl Law13f_ag49 hva.of_nil rfl WD (fun o ho => flatm_atA Le.len W Le.dflt o ho))<|?_
        refine ZP h29<|ZV (Y.neS Z Z Law13f_tgs49 Z Z)<|ZV (Y.pick_t Z h29 Z)<|ZE<|Zg<|?_
        rcases Zsplit (Le.same ((Le.getE s.t ((((Sk.opened rs (Sk.cutD ((Sk.cutD d).1)).1.bs).t).getD k1 Le.dflt).addr)).1) (((Sk.opened rs (Sk.cutD ((Sk.cutD d).1)).1.bs).t).getD k1 Le.dflt)) with ⟨h30,g30⟩ | ⟨h30,g30⟩ <;> try simp only [kb] at g30
        ·refine Tr.cond_f Z (congrArg Bool.not h30)<|Zt<|Zc<|Zg<|Zr<|Zm Z<|Zv (Y.add Z Z W)<|Za Z<|Ze<|Ex.keep [1,1,1]<|?_
         exact ZR (k1 + 1 : Nat) W W
        ·refine Tr.cond_t Z (congrArg Bool.not h30)<|Zs<|Zr<|Za Z<|Ze<|Zg<|Zu<|Zk<|Zn<|Zn<|Zk<|Zn<|Ex.keep []<|?_
         exact Ex.ret1 rfl rfl  (by exfalso; have h9 := hq3 k1 W W; simp_all [Le.same_of])
       ·refine ZO h29 Z<|ZO h29 Z<|ZO h29 Z<|ZO h29 Z<|ZO h29 Z<|ZO h29 Z<|ZV (Y.pick_f Z h29 Z)<|ZE<|Zg<|Tr.cond_f Z Z<|Zt<|Zc<|Zg<|Zr<|Zm Z<|Zv (Y.add Z Z W)<|?_
        refine Za Z<|Ze<|Ex.keep [1,1,1]<|?_
        exact ZR (k1 + 1 : Nat) W W
     ·refine Tr.cond_f Z h21<|Zx<|Zy<|Zy<|Zi<|Zg<|Zs<|Zr<|Zm Z<|Run.call0 (l := [.tmp 165]) Z Z Z (lt Z) (Does.frame1 2 Z (state_c (s := (Sk.opened rs (Sk.cutD ((Sk.cutD d).1)).1.bs)) (lx := lx18) (tx := tx18)))<|Zm Z<|Run.call0 (l := [.tmp 167]) Z Z Z (lt Z) (Does.frame1 0 Z (state_c (s := s) (lx := lx5) (tx := tx5)))<|Zv (Y.int Z Z Z)<|Zm Z<|?_
      rcases Zsplit (((Sk.opened rs (Sk.cutD ((Sk.cutD d).1)).1.bs).state) == s.state) with ⟨h31,g31⟩ | ⟨h31,g31⟩ <;> try simp only [kb] at g31
      ·refine Zp h31<|Zm Z<|Zp h31<|Run.call0 (l := [.tmp 171]) Z Z Z (lt Z) (Does.frame1 2 Z (life_c (s := (Sk.opened rs (Sk.cutD ((Sk.cutD d).1)).1.bs)) (lx := lx18) (tx := tx18)))<|Zp h31<|Zm Z<|Zp h31<|Run.call0 (l := [.tmp 173]) Z Z Z (lt Z) (Does.frame1 0 Z (life_c (s := s) (lx := lx5) (tx := tx5)))<|Zp h31<|Zv (Y.int Z Z Z)<|Zv (Y.pick_t Z h31 Z)<|Za Z<|Ze<|Zg<|Zu<|Ex.keep []<|?_
       exact Ex.ret1 rfl rfl  (congrArg Value.bool (by simp [hq1,hq2]))
      ·refine Zo h31 Z<|Zo h31 Z<|Zo h31 Z<|Zo h31 Z<|Zo h31 Z<|Zv (Y.pick_f Z h31 Z)<|Za Z<|Ze<|Zg<|Zu<|Ex.keep []<|?_
       exact Ex.ret1 rfl rfl  (by exfalso; have h9 := hq3 k1 W W; simp_all [Le.same_of])
    ·refine Zm Z<|Zm Z<|?_
     refine Run.call [6] (l := [.tmp 118,.tmp 119]) rfl rfl rfl (lt rfl) (open_o (rs := rs) hin17 hv2 W hrk) (fun v32 V32 H32 hle32 hR32 => ?_)
     obtain ⟨hV,sd32,⟨_,rfl,hin32,rfl⟩ | ⟨hno,_⟩ | ⟨hno,_⟩⟩ := hR32
     rotate_left; · exact absurd hno hp0
     · exact absurd hno hp0
     replace hV := hV.symm; subst hV
     have hcd := Rg.pool_codes rs
     refine Run.heapTo (H' := [(cS 123 sx5 lx5 tx5 s),(cL 187 lx5 dx3),st,(cS 123 sx16 lx16 tx16 s),(cL 187 lx16 dx3),sb16,(cS 133 sx10 lx10 tx10 s),(cL 193 lx10 dx8),rt,rd17,sd32]) Z ?_
     refine Zm Z<|Zv (Y.extract Z Z)<|Zv (Y.extract Z Z)<|Za Z<|Za Z<|Ze<|Zg<|Zs<|Zs<|Zr<|Zm Z<|Zv (Y.int Z Z Z)<|Zm Z<|Zo (bne_iff_ne.2 hp0) Z<|Zo (bne_iff_ne.2 hp0) Z<|Zv (Y.pick_t Z (bne_iff_ne.2 hp0) Z)<|?_
     refine Ze<|Zg<|Tr.cond_t Z Z<|Zs<|Zr<|Zm Z<|Zv (Y.int Z Z Z)<|Zm Z<|?_
     rcases Zsplit (((Rg.pool rs).2) == 1) with ⟨h33,g33⟩ | ⟨h33,g33⟩ <;> try simp only [kb] at g33
     ·refine Zo h33 Z<|Zo h33 Z<|Zv (Y.pick_t Z h33 Z)<|Za Z<|Ze<|Zg<|Zu<|Zn<|Ex.keep []<|?_
      exact Ex.ret1 rfl rfl  rfl
     ·refine Zp h33<|Zm Z<|Zp h33<|Zv (Y.int Z Z Z)<|Zv (Y.pick_f Z h33 Z)<|Za Z<|Ze<|Zg<|Zu<|Zn<|Ex.keep []<|?_
      exact Ex.ret1 rfl rfl  (congrArg Value.bool (beq_iff_eq.2 W))
theorem again13_h {V : Vw} {l : List S13} {v0 v1 : Value} (hv : Rd V [] 10 v0 l.length (l.map S13.cells).flatten) (hl9 : l.length ≤ 9223372036854775807) (hok : ∀ x,x ∈ l → S13.Ok x) {rs : List Rg} (hv2 : Rd V [] 2 v1 rs.length (rs.map Rg.cells).flatten) (hrk : ∀ r,r ∈ rs → Rg.Ok r) : Does Tryz.prog 7 [v0,v1] V [] (fun v _ _ => v = .bool true) := by
  obtain ⟨p,c,rfl,_⟩ := hv.form
  obtain ⟨p2,c2,rfl,_⟩ := hv2.form
  rw [← List.flatMap_def] at hv hv2
  exact again13_c hv hl9 hok hv2 hrk
end Go.Proofs.YtinkencbkcciiaaGreat
