/- StoreCompacts, walked.
Conditions: as each theorem names them. -/
import Derived.Test.YtinkencbkcciiaaGreatProg
import Derived.Test.YtinkencbkcciiaaGreatLaw13b
import Derived.Test.YtinkencbkcciiaaGreatKJ
import Derived.Test.YtinkencbkcciiaaGreatDF
import Derived.Test.YtinkencbkcciiaaGreatZG
set_option linter.unusedSimpArgs false
set_option linter.unusedVariables false
set_option maxRecDepth 4000
namespace Go.Proofs.YtinkencbkcciiaaGreat
open Go Go.K
attribute [local irreducible] Code.wp wpList Calls wpQuiet
theorem Law13d_pt33 : ptrT Tryz.prog 33 = true := by kernel_rfl
theorem Law13d_es41 : elemS Tryz.prog 41 = some (51,10) := by kernel_rfl
theorem Law13d_fo51_0 : fieldOff Tryz.prog 51 0 = some 0 := by kernel_rfl
theorem Law13d_ts3 : scal Tryz.prog 3 = true := by kernel_rfl
theorem Law13d_ag51 : aggsz Tryz.prog 51 = some 10 := by kernel_rfl
set_option maxHeartbeats 1000000 in
theorem compacts13_c {V : Vw} {l : List S13} {p : Option Addr} {c : Nat} (hv : Rd V [] 10 (.slice p l.length c) l.length (l.flatMap S13.cells)) (hl9 : l.length ≤ 9223372036854775807) (hok : ∀ x,x ∈ l → S13.Ok x)  : Does Tryz.prog 6 [.slice p l.length c] V [] (fun v _ _ => v = .bool true) := by
 refine Does.intro Tryz.func6 rfl rfl (le rfl) (fun B => ?_)
 refine Zs<|Zr<|Za Z<|Ze<|Zg<|Zs<|Zr<|?_
 refine Run.call [] (l := []) rfl rfl rfl (lt rfl) awake13_c (fun v1 V1 H1 hle1 hR1 => ?_)
 obtain ⟨_,rfl,rfl⟩ := hR1
 replace hv := hv.le hle1
 have hVle := hle1
 refine Run.heapTo (H' := []) Z<|Run.heapTo (H' := []) Z<|Za Z<|Ze<|Zg<|Zs<|Zr<|Zm Z<|?_
 refine Run.callW (l := [.tmp 22]) rfl rfl rfl (lt rfl) (long13_c hv.of_nil hl9) (fun v2 V2 H2 hle2 hR2 => ?_)
 obtain ⟨hV,rfl,b2,rfl,hb2⟩ := hR2; replace hV := hV.symm; subst hV
 refine Run.heapTo (H' := []) Z<|Run.heapTo (H' := []) Z<|Za Z<|Ze<|Zg<|Zs<|Zr<|?_
 refine Run.call [] (l := [.const (.int .i64 100000)]) rfl rfl rfl (lt rfl) (dnew_c (room := 100000)) (fun v3 V3 H3 hle3 hR3 => ?_)
 obtain ⟨hV,⟨hno,_⟩ | ⟨_,dx3,sd3,rfl,hin3,rfl⟩⟩ := hR3
 · exact absurd hno WD
 replace hV := hV.symm; subst hV
 refine Run.heapTo (H' := [sd3]) Z<|Run.heapTo (H' := [sd3]) Z<|Zm Z<|Zv (Y.extract Z Z)<|Zv (Y.extract Z Z)<|Za Z<|Za Z<|Ze<|Zg<|Zs<|Zr<|Zm Z<|?_
 refine Run.call [] (l := []) rfl rfl rfl (lt rfl) pool13_c (fun v4 V4 H4 hle4 hR4 => ?_)
 obtain ⟨_,hv4,rfl⟩ := hR4
 replace hv := hv.le hle4
 replace hVle := Vw.le_trans hVle hle4
 refine Run.heapTo (H' := [sd3]) Z<|Run.heapTo (H' := [sd3]) Z<|?_
 refine Run.call [0] (l := [.tmp 29,.tmp 30]) rfl rfl rfl (lt rfl) (open_o (rs := Rg.p16) hin3 hv4 WD Rg.p16_ok) (fun v5 V5 H5 hle5 hR5 => ?_)
 obtain ⟨hV,sd5,⟨hno,_⟩ | ⟨_,hno,_⟩ | ⟨_,_,sx5,lx5,tx5,sb5,rfl,ht5,hin5,rfl⟩⟩ := hR5
 · exact absurd Rg.pool16 hno
 · exact absurd (Sk.cut_ok hin3.1 (show (-1 : Int) ≠ 0 by decide)) hno
 replace hV := hV.symm; subst hV
 refine Run.heapTo (H' := [(cS 123 sx5 lx5 tx5 (Sk.opened Rg.p16 (Sk.cutD (Dk.new 100000)).1.bs)),(cL 187 lx5 dx3),sb5,sd5]) Z<|Run.heapTo (H' := [(cS 123 sx5 lx5 tx5 (Sk.opened Rg.p16 (Sk.cutD (Dk.new 100000)).1.bs)),(cL 187 lx5 dx3),sb5,sd5]) Z<|?_
 refine Zm Z<|Zv (Y.extract Z Z)<|Zv (Y.extract Z Z)<|Za Z<|Za Z<|Ze<|Zg<|Zs<|Zs<|Zr<|Zm Z<|Zv (Y.not Z)<|Zm Z<|Zp Z<|Zm Z<|Zp Z<|?_
 refine Zv (Y.int (r := .bool false) Z Z Z)<|Zv (Y.pick_f Z Z Z)<|Zm Z<|Zp Z<|Zm Z<|Zp Z<|Zv (Y.int (r := .bool false) Z Z Z)<|Zv (Y.pick_f Z Z Z)<|Zm Z<|Zp Z<|Zm Z<|Zp Z<|Zv (Y.eqNil Z Z Law13d_pt33)<|Zv (Y.pick_f Z Z Z)<|Zm Z<|Zp Z<|?_
 refine Zm Z<|Zv (Y.pick_f Z Z Z)<|Ze<|Zg<|?_
 rcases Zsplit (b2) with ⟨h6,g6⟩ | ⟨h6,g6⟩ <;> try simp only [kb] at g6
 ·refine Tr.cond_t Z h6<|Zs<|Zr<|Zm Z<|Za Z<|Ze<|Zg<|Zu<|Zn<|Ex.keep []<|?_
  exact Ex.ret1 rfl rfl  rfl
 ·refine Tr.cond_f Z h6<|Zt<|Zg<|Zs<|Zr<|?_
  refine Run.call [] (l := [.const (.int .i64 100000)]) rfl rfl rfl (lt rfl) (rdnew_c (room := 100000)) (fun v7 V7 H7 hle7 hR7 => ?_)
  obtain ⟨hV,⟨hno,_⟩ | ⟨_,dx7,sd7,rfl,hin7,rfl⟩⟩ := hR7
  · exact absurd hno WD
  replace hV := hV.symm; subst hV
  refine Run.heapTo (H' := [(cS 123 sx5 lx5 tx5 (Sk.opened Rg.p16 (Sk.cutD (Dk.new 100000)).1.bs)),(cL 187 lx5 dx3),sb5,sd5,sd7]) Z<|Run.heapTo (H' := [(cS 123 sx5 lx5 tx5 (Sk.opened Rg.p16 (Sk.cutD (Dk.new 100000)).1.bs)),(cL 187 lx5 dx3),sb5,sd5,sd7]) Z<|?_
  refine Zm Z<|Zv (Y.extract Z Z)<|Zv (Y.extract Z Z)<|Za Z<|Za Z<|Ze<|Zg<|Zs<|Zr<|Zm Z<|?_
  refine Run.call [] (l := []) rfl rfl rfl (lt rfl) pool13_c (fun v8 V8 H8 hle8 hR8 => ?_)
  obtain ⟨_,hv8,rfl⟩ := hR8
  replace hv := hv.le hle8
  replace hv4 := hv4.le hle8
  replace hVle := Vw.le_trans hVle hle8
  refine Run.heapTo (H' := [(cS 123 sx5 lx5 tx5 (Sk.opened Rg.p16 (Sk.cutD (Dk.new 100000)).1.bs)),(cL 187 lx5 dx3),sb5,sd5,sd7]) Z<|Run.heapTo (H' := [(cS 123 sx5 lx5 tx5 (Sk.opened Rg.p16 (Sk.cutD (Dk.new 100000)).1.bs)),(cL 187 lx5 dx3),sb5,sd5,sd7]) Z<|?_
  refine Run.call [4] (l := [.tmp 57,.tmp 58]) rfl rfl rfl (lt rfl) (ropen_o (rs := Rg.p16) hin7 hv8 WD Rg.p16_ok) (fun v9 V9 H9 hle9 hR9 => ?_)
  obtain ⟨hV,sd9,⟨hno,_⟩ | ⟨_,hno,_⟩ | ⟨_,_,sx9,lx9,tx9,sb9,rfl,ht9,hin9,rfl⟩⟩ := hR9
  · exact absurd Rg.pool16 hno
  · exact absurd (Sk.cut_ok hin7.1 (show (-1 : Int) ≠ 0 by decide)) hno
  replace hV := hV.symm; subst hV
  refine Run.heapTo (H' := [(cS 123 sx5 lx5 tx5 (Sk.opened Rg.p16 (Sk.cutD (Dk.new 100000)).1.bs)),(cL 187 lx5 dx3),sb5,sd5,(cS 133 sx9 lx9 tx9 (Sk.opened Rg.p16 (Sk.cutD (Dk.new 100000)).1.bs)),(cL 193 lx9 dx7),sb9,sd9]) Z ?_
  refine Zm Z<|Zv (Y.extract Z Z)<|Zv (Y.extract Z Z)<|Za Z<|Za Z<|Ze<|Zg<|Zs<|Zs<|Zr<|Run.keepTo (H' := [(cS 123 sx5 lx5 tx5 (Sk.opened Rg.p16 (Sk.cutD (Dk.new 100000)).1.bs)),(cL 187 lx5 dx3),sb5,sd5,(cS 133 sx9 lx9 tx9 (Sk.opened Rg.p16 (Sk.cutD (Dk.new 100000)).1.bs)),(cL 193 lx9 dx7),sb9,sd9]) [0,0,0,0,0,0,0,0] Z<|?_
  refine Za Z<|Ze<|Zg<|Zb<|?_
  refine ZL (X := Nat × Dk × Sk × Sg × Sg × Sg × Sg) (fun z0 => V8) (fun z0 => [(cS 123 sx5 lx5 tx5 z0.2.2.1),(cL 187 lx5 dx3),z0.2.2.2.1,z0.2.2.2.2.1,(cS 133 sx9 lx9 tx9 z0.2.2.1),(cL 193 lx9 dx7),z0.2.2.2.2.2.1,z0.2.2.2.2.2.2]) (fun z0 => [(0,.slice p l.length c),(5,(pZ dx3)),(7,(pZ sx5)),(9,(pZ dx7)),(11,(pZ sx9)),(13,.int .i64 (z0.1 : Int))]) (fun z0 => Dk.In 116 z0.2.1 dx3 z0.2.2.2.2.1 ∧ Le.In 149 z0.2.2.1.t tx5 z0.2.2.2.1 ∧ Dk.In 54 z0.2.1 dx7 z0.2.2.2.2.2.2 ∧ Le.Rin z0.2.2.1.t tx9 z0.2.2.2.2.2.1 ∧ z0.2.2.1.Ok ∧ z0.2.2.1.Os ∧ (∃ K,Sk.Inv Sk.A16 z0.2.1 z0.2.2.1 K) ∧ z0.1 ≤ l.length) (fun z0 => l.length - z0.1) (⟨0,((Sk.cutD (Dk.new 100000)).1),(Sk.opened Rg.p16 (Sk.cutD (Dk.new 100000)).1.bs),sb5,sd5,sb9,sd9⟩ : Nat × Dk × Sk × Sg × Sg × Sg × Sg) ⟨hin5,ht5,hin9,ht9,(Sk.opened_ok Rg.pool16 _),(Sk.opened_os Rg.p16_ok _),⟨_,Sk.start_inv WD WD⟩,Nat.zero_le _⟩ ?_
  rintro ⟨i1,d,s,st,sd,rt,rd⟩ ⟨hin,ht,hin2,ht2,hs,hos,hex,hi⟩
  try dsimp only at hin ht hin2 ht2 hs hos hex hi ⊢
  refine Zs<|Zs<|Zr<|Zm Z<|Zm Z<|Zv (Y.lenSl Z Law13d_es41)<|Zv (Y.int Z Z Z)<|Ze<|Zg<|?_
  rcases Zsplit (decide ((i1 : Int) < ((l.length : Nat) : Int))) with ⟨h10,g10⟩ | ⟨h10,g10⟩ <;> try simp only [kb] at g10
  ·refine Tr.cond_t Z h10<|Zt<|Zg<|Zs<|Zb<|Zs<|Zr<|Zm Z<|Zm Z<|Zv (Y.idxR i1 Z Z Law13d_es41 hv.of_nil W W)<|Zv (Y.fieldR Z Law13d_fo51_0 hv.of_nil W)<|Zv (Y.ldR Z Law13d_ts3 hv.of_nil (flatm_at S13.enc.len W S13.dflt WD rfl))<|Zv (Y.int Z Z Z)<|Zm Z<|?_
   rcases Zsplit (decide (((l.getD i1 S13.dflt).k) ≥ 0)) with ⟨h11,g11⟩ | ⟨h11,g11⟩ <;> try simp only [kb] at g11
   ·refine Zp h11<|Zm Z<|Zp h11<|Zm Z<|Zp h11<|Zv (Y.idxR i1 Z Z Law13d_es41 hv.of_nil W W)<|Zp h11<|Zv (Y.fieldR Z Law13d_fo51_0 hv.of_nil W)<|Zp h11<|Zv (Y.ldR Z Law13d_ts3 hv.of_nil (flatm_at S13.enc.len W S13.dflt WD rfl))<|Zp h11<|Zv (Y.int Z Z Z)<|Zv (Y.pick_t Z h11 Z)<|Ze<|Zg<|?_
    rcases Zsplit (decide (((l.getD i1 S13.dflt).k) < 5)) with ⟨h12,g12⟩ | ⟨h12,g12⟩ <;> try simp only [kb] at g12
    ·refine Tr.cond_t Z h12<|Zr<|Zm Z<|Zm Z<|Zm Z<|Zm Z<|Zm Z<|Zm Z<|Zv (Y.idxR i1 Z Z Law13d_es41 hv.of_nil W W)<|Zv (Y.ldRA (vs := [.int .i64 ((l.getD i1 S13.dflt).k),.int .i64 ((l.getD i1 S13.dflt).n),.int .u32 ((l.getD i1 S13.dflt).l.addr),.int .i64 ((l.getD i1 S13.dflt).l.bind),.string ((l.getD i1 S13.dflt).l.client),.int .i64 ((l.getD i1 S13.dflt).l.till),.int .i64 ((l.getD i1 S13.dflt).l.acked),.int .i64 ((l.getD i1 S13.dflt).l.told),.int .i64 ((l.getD i1 S13.dflt).l.at_),.int .i64 ((l.getD i1 S13.dflt).l.ver)]) rfl Law13d_ag51 hv.of_nil rfl WD (fun o ho => flatm_atA S13.enc.len W S13.dflt o ho))<|?_
     have hkk : 0 ≤ (l.getD i1 S13.dflt).k ∧ (l.getD i1 S13.dflt).k ≤ 4 := by omega
     have hxx := hok _ (S13.mem (l := l) (i := i1) W)
     refine Run.call [0,0,0,0,0,0,0,0] (l := [.tmp 82,.tmp 83,.tmp 84,.tmp 85,.tmp 89]) rfl rfl rfl (lt rfl) (step13_o hin ht hin2 ht2 hs hos (x := (l.getD i1 S13.dflt)) hxx) (fun v13 V13 H13 hle13 hR13 => ?_)
     obtain ⟨hV,sy,ly,ty,st13,sd13,ry,my,wy,rt13,rd13,rfl,hsm,ht13,hin13,hu13,hjn13,rfl⟩ := hR13; replace hV := hV.symm; subst hV; obtain ⟨rfl,rfl,rfl,rfl,rfl,rfl⟩ := hsm hkk
     have hsk13 := (Sk.stp_ok (x := (l.getD i1 S13.dflt)) hin.1 hs hxx).2
     have hso13 : (Sk.stp d s (l.getD i1 S13.dflt)).2.Os := Sk.stp_os hos
     refine Run.heapTo (H' := [(cS 123 sx5 lx5 tx5 ((Sk.stp d s (l.getD i1 S13.dflt)).2)),(cL 187 lx5 dx3),st13,sd13,(cS 133 sx9 lx9 tx9 ((Sk.stp d s (l.getD i1 S13.dflt)).2)),(cL 193 lx9 dx7),rt13,rd13]) Z ?_
     refine Ze<|Zc<|Zg<|Zr<|Zm Z<|Zv (Y.add Z Z W)<|Za Z<|Ze<|Ex.keep [0,0,0,0,0,0,0,0]<|?_
     exact ZR (⟨i1 + 1,((Sk.stp d s (l.getD i1 S13.dflt)).1),((Sk.stp d s (l.getD i1 S13.dflt)).2),st13,sd13,rt13,rd13⟩ : Nat × Dk × Sk × Sg × Sg × Sg × Sg) ⟨hin13,ht13,hjn13,hu13,hsk13,hso13,(hex.elim fun K hK => hK.steps Sk.a16 hkk),by omega⟩ (by dsimp only; omega)
    ·refine Tr.cond_f Z h12<|Zt<|Zc<|Zg<|Zr<|Zm Z<|Zv (Y.add Z Z W)<|Za Z<|Ze<|Ex.keep [0,0,0,0,0,0,0,0]<|?_
     exact ZR (⟨i1 + 1,d,s,st,sd,rt,rd⟩ : Nat × Dk × Sk × Sg × Sg × Sg × Sg) ⟨hin,ht,hin2,ht2,hs,hos,hex,by omega⟩ (by dsimp only; omega)
   ·refine Zo h11 Z<|Zo h11 Z<|Zo h11 Z<|Zo h11 Z<|Zo h11 Z<|Zo h11 Z<|Zv (Y.pick_f Z h11 Z)<|Ze<|Zg<|Tr.cond_f Z Z<|Zt<|Zc<|Zg<|Zr<|Zm Z<|Zv (Y.add Z Z W)<|?_
    refine Za Z<|Ze<|Ex.keep [0,0,0,0,0,0,0,0]<|?_
    exact ZR (⟨i1 + 1,d,s,st,sd,rt,rd⟩ : Nat × Dk × Sk × Sg × Sg × Sg × Sg) ⟨hin,ht,hin2,ht2,hs,hos,hex,by omega⟩ (by dsimp only; omega)
  ·refine Tr.cond_f Z h10<|Zx<|Zy<|Zy<|Zi<|Zg<|Zs<|Zr<|?_
   obtain ⟨K,hK⟩ := hex
   have hc2 := (hK.comp Sk.a16).2.2
   obtain ⟨hK2,hln⟩ := Sk.short hK
   have hsn := hs.n
   refine Zm Z<|Run.call0 (l := [.tmp 91]) Z Z Z (lt Z) (Does.frame1 0 Z (table_c (s := s) (lx := lx5) (tx := tx5)))<|?_
   refine Run.call [2] (l := [.tmp 92]) rfl rfl rfl (lt rfl) (all_o ht) (fun v14 V14 H14 hle14 hR14 => ?_)
   obtain ⟨hV,q14,ho14,rfl⟩ := hR14; replace hV := hV.symm; subst hV; obtain ⟨p14,c14,rfl⟩ := ho14.form
   refine Run.heapTo (H' := [(cS 123 sx5 lx5 tx5 s),(cL 187 lx5 dx3),sd,(cS 133 sx9 lx9 tx9 s),(cL 193 lx9 dx7),rt,rd,q14,st]) Z ?_
   refine Za Z<|Ze<|Zg<|Zs<|Zr<|Zm Z<|Run.call0 (l := [.tmp 94]) Z Z Z (lt Z) (Does.frame1 0 Z (state_c (s := s) (lx := lx5) (tx := tx5)))<|Za Z<|Ze<|Zg<|Zs<|Zr<|Zm Z<|Run.call0 (l := [.tmp 96]) Z Z Z (lt Z) (Does.frame1 0 Z (life_c (s := s) (lx := lx5) (tx := tx5)))<|Za Z<|Ze<|?_
   refine Zg<|Zs<|Zr<|Zm Z<|?_
   refine Run.call [0,0,6,0] (l := [.tmp 98]) rfl rfl rfl (lt rfl) (comp_o hin hs ht hos) (fun v15 V15 H15 hle15 hR15 => ?_)
   obtain ⟨hV,rfl,sb15,sd15,ht15,hin15,rfl⟩ := hR15; replace hV := hV.symm; subst hV
   refine Run.heapTo (H' := [(cS 133 sx9 lx9 tx9 s),(cL 193 lx9 dx7),rt,rd,q14,(cS 123 sx5 lx5 tx5 s),(cL 187 lx5 dx3),sb15,sd15]) Z ?_
   refine Za Z<|Ze<|Zg<|Zs<|Zr<|Zm Z<|Run.call0 (l := [.tmp 100]) Z Z Z (lt Z) (Does.frame1 5 Z (table_c (s := s) (lx := lx5) (tx := tx5)))<|?_
   refine Run.call [7] (l := [.tmp 101]) rfl rfl rfl (lt rfl) (all_o ht15) (fun v16 V16 H16 hle16 hR16 => ?_)
   obtain ⟨hV,q16,ho16,rfl⟩ := hR16; replace hV := hV.symm; subst hV; obtain ⟨p16,c16,rfl⟩ := ho16.form
   refine Run.heapTo (H' := [(cS 133 sx9 lx9 tx9 s),(cL 193 lx9 dx7),rt,rd,q14,(cS 123 sx5 lx5 tx5 s),(cL 187 lx5 dx3),sd15,q16,sb15]) Z ?_
   refine Zm Z<|Run.call0 (l := [.tmp 102,.tmp 103]) rfl rfl rfl (lt rfl) (same11_c (ho16.rd 8 rfl) (ho14.rd 4 rfl) rfl W)<|Za Z<|Ze<|Zg<|Zs<|Zr<|Zm Z<|?_
   refine Run.call [7] (l := [.tmp 105,.const (.int .i64 0)]) rfl rfl rfl (lt rfl) (dcrash_o hin15) (fun v17 V17 H17 hle17 hR17 => ?_)
   obtain ⟨hV,sd17,hin17,rfl⟩ := hR17; replace hV := hV.symm; subst hV
   refine Run.heapTo (H' := [(cS 133 sx9 lx9 tx9 s),(cL 193 lx9 dx7),rt,rd,q14,(cS 123 sx5 lx5 tx5 s),(cL 187 lx5 dx3),q16,sb15,sd17]) Z ?_
   refine Ze<|Zg<|Zs<|Zr<|Zm Z<|?_
   refine Run.call [] (l := []) rfl rfl rfl (lt rfl) pool13_c (fun v18 V18 H18 hle18 hR18 => ?_)
   obtain ⟨_,hv18,rfl⟩ := hR18
   replace hv := hv.le hle18
   replace hv4 := hv4.le hle18
   replace hv8 := hv8.le hle18
   replace hVle := Vw.le_trans hVle hle18
   refine Run.heapTo (H' := [(cS 133 sx9 lx9 tx9 s),(cL 193 lx9 dx7),rt,rd,q14,(cS 123 sx5 lx5 tx5 s),(cL 187 lx5 dx3),q16,sb15,sd17]) Z ?_
   have hop19 := open_o (rs := Rg.p16) hin17 hv18 WD Rg.p16_ok
   rw [hK2.again] at hop19
   refine Run.call [9] (l := [.tmp 108,.tmp 109]) rfl rfl rfl (lt rfl) hop19 (fun v19 V19 H19 hle19 hR19 => ?_)
   obtain ⟨hV,sd19,⟨hno,_⟩ | ⟨_,hno,_⟩ | ⟨_,_,sx19,lx19,tx19,sb19,rfl,ht19,hin19,rfl⟩⟩ := hR19
   · exact absurd Rg.pool16 hno
   · exact absurd hK2.cut0 hno
   replace hV := hV.symm; subst hV
   refine Run.heapTo (H' := [(cS 133 sx9 lx9 tx9 s),(cL 193 lx9 dx7),rt,rd,q14,(cS 123 sx5 lx5 tx5 s),(cL 187 lx5 dx3),q16,sb15,(cS 123 sx19 lx19 tx19 s),(cL 187 lx19 dx3),sb19,sd19]) Z ?_
   refine Zm Z<|Zv (Y.extract Z Z)<|Zv (Y.extract Z Z)<|Za Z<|Za Z<|Ze<|Zg<|Zs<|Zs<|Zr<|Zm Z<|Zv (Y.int Z Z Z)<|Zm Z<|Run.on rfl rfl rfl (by rw [hc2]; rfl)<|Zm Z<|Run.on rfl rfl rfl (by rw [hc2]; rfl)<|?_
   refine Zv (Y.int (r := .bool false) Z Z Z)<|Zv (Y.pick_f Z (by rw [hc2]; rfl) rfl)<|Zm Z<|Zp Z<|Zm Z<|Zp Z<|Zv (Y.eqNil Z Z Law13d_pt33)<|Zv (Y.pick_f Z Z Z)<|Zm Z<|Zp Z<|Zm Z<|Zp Z<|Zv (Y.not Z)<|Zv (Y.pick_f Z Z Z)<|Ze<|Zg<|?_
   refine Tr.cond_f Z Z<|Zt<|Zg<|Zs<|Zr<|Zm Z<|Run.call0 (l := [.tmp 127]) Z Z Z (lt Z) (Does.frame1 9 Z (table_c (s := s) (lx := lx19) (tx := tx19)))<|?_
   refine Run.call [11] (l := [.tmp 128]) rfl rfl rfl (lt rfl) (all_o ht19) (fun v20 V20 H20 hle20 hR20 => ?_)
   obtain ⟨hV,q20,ho20,rfl⟩ := hR20; replace hV := hV.symm; subst hV; obtain ⟨p20,c20,rfl⟩ := ho20.form
   refine Run.heapTo (H' := [(cS 133 sx9 lx9 tx9 s),(cL 193 lx9 dx7),rt,rd,q14,(cS 123 sx5 lx5 tx5 s),(cL 187 lx5 dx3),q16,sb15,(cS 123 sx19 lx19 tx19 s),(cL 187 lx19 dx3),sd19,q20,sb19]) Z ?_
   refine Zm Z<|Run.call0 (l := [.tmp 129,.tmp 130]) rfl rfl rfl (lt rfl) (same11_c (ho20.rd 12 rfl) (ho14.rd 4 rfl) rfl W)<|Zm Z<|Zp Z<|Zm Z<|Zp Z<|Run.call0 (l := [.tmp 133]) Z Z Z (lt Z) (Does.frame1 9 Z (state_c (s := s) (lx := lx19) (tx := tx19)))<|Zp Z<|Zm Z<|Zp Z<|Zv (Y.eqI_t Z Z)<|Zv (Y.pick_t Z Z Z)<|Zm Z<|Zp Z<|Zm Z<|Zp Z<|?_
   refine Run.call0 (l := [.tmp 139]) Z Z Z (lt Z) (Does.frame1 9 Z (life_c (s := s) (lx := lx19) (tx := tx19)))<|Zp Z<|Zm Z<|Zp Z<|Zv (Y.eqI_t Z Z)<|Zv (Y.pick_t Z Z Z)<|Zm Z<|Zp Z<|Zm Z<|Zp Z<|Run.call0 (l := [.tmp 145]) Z Z Z (lt Z) ((slen_c (s := s) (tx := tx19) hin19).frameP (pull_perm [9,9,9] [(cS 133 sx9 lx9 tx9 s),(cL 193 lx9 dx7),rt,rd,q14,(cS 123 sx5 lx5 tx5 s),(cL 187 lx5 dx3),q16,sb15,(cS 123 sx19 lx19 tx19 s),(cL 187 lx19 dx3),sd19,q20,sb19]))<|?_
   refine Zp Z<|Zv (Y.int Z Z Z)<|Zv (Y.pick_t Z Z Z)<|Za Z<|Ze<|Zg<|Zu<|Ex.keep []<|?_
   exact Ex.ret1 rfl rfl  (congrArg Value.bool (decide_eq_true W))
theorem compacts13_h {V : Vw} {l : List S13} {v0 : Value} (hv : Rd V [] 10 v0 l.length (l.map S13.cells).flatten) (hl9 : l.length ≤ 9223372036854775807) (hok : ∀ x,x ∈ l → S13.Ok x) : Does Tryz.prog 6 [v0] V [] (fun v _ _ => v = .bool true) := by
  obtain ⟨p,c,rfl,_⟩ := hv.form
  rw [← List.flatMap_def] at hv
  exact compacts13_c hv hl9 hok
end Go.Proofs.YtinkencbkcciiaaGreat
