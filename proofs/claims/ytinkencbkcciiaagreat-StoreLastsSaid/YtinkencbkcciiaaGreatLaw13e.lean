/- StoreLasts, walked.
Conditions: as each theorem names them. -/
import Derived.Test.YtinkencbkcciiaaGreatProg
import Derived.Test.YtinkencbkcciiaaGreatLaw13b
import Derived.Test.YtinkencbkcciiaaGreatKJ
import Derived.Test.YtinkencbkcciiaaGreatDF
import Derived.Test.YtinkencbkcciiaaGreatKC
import Derived.Test.YtinkencbkcciiaaGreatZG
set_option linter.unusedSimpArgs false
set_option linter.unusedVariables false
set_option maxRecDepth 4000
namespace Go.Proofs.YtinkencbkcciiaaGreat
open Go Go.K
attribute [local irreducible] Code.wp wpList Calls wpQuiet
theorem Law13e_pt33 : ptrT Tryz.prog 33 = true := by kernel_rfl
theorem Law13e_es22 : elemS Tryz.prog 22 = some (5,1) := by kernel_rfl
theorem Law13e_fo54_1 : fieldOff Tryz.prog 54 1 = some 1 := by kernel_rfl
theorem Law13e_ts22 : scal Tryz.prog 22 = true := by kernel_rfl
theorem Law13e_zi5 : zeroInfo Tryz.prog 5 = some (1,1,.int .u8 0) := by kernel_rfl
theorem Law13e_es56 : elemS Tryz.prog 56 = some (22,1) := by kernel_rfl
theorem Law13e_zo22 : zeroOf Tryz.prog 22 = some (.slice none 0 0) := by kernel_rfl
theorem Law13e_es41 : elemS Tryz.prog 41 = some (51,10) := by kernel_rfl
theorem Law13e_fo51_0 : fieldOff Tryz.prog 51 0 = some 0 := by kernel_rfl
theorem Law13e_ts3 : scal Tryz.prog 3 = true := by kernel_rfl
theorem Law13e_ag51 : aggsz Tryz.prog 51 = some 10 := by kernel_rfl
theorem Law13e_zi22 : zeroInfo Tryz.prog 22 = some (1,24,.slice none 0 0) := by kernel_rfl
set_option maxHeartbeats 1000000 in
theorem lasts13_c {V : Vw} {l : List S13} {p : Option Addr} {c : Nat} (hv : Rd V [] 10 (.slice p l.length c) l.length (l.flatMap S13.cells)) (hl9 : l.length ≤ 9223372036854775807) (hok : ∀ x,x ∈ l → S13.Ok x) {keep : Int}  : Does Tryz.prog 5 [.slice p l.length c,.int .i64 keep] V [] (fun v _ _ => v = .bool true) := by
 refine Does.intro Tryz.func5 rfl rfl (le rfl) (fun B => ?_)
 refine Zs<|Zr<|Za Z<|Ze<|Zg<|Zs<|Zr<|?_
 refine Run.call [] (l := []) rfl rfl rfl (lt rfl) awake13_c (fun v1 V1 H1 hle1 hR1 => ?_)
 obtain ⟨_,rfl,rfl⟩ := hR1
 replace hv := hv.le hle1
 have hVle := hle1
 refine Run.heapTo (H' := []) Z<|Run.heapTo (H' := []) Z<|Za Z<|Ze<|Zg<|Zs<|Zr<|Zm Z<|?_
 refine Run.callW (l := [.tmp 24]) rfl rfl rfl (lt rfl) (long13_c hv.of_nil hl9) (fun v2 V2 H2 hle2 hR2 => ?_)
 obtain ⟨hV,rfl,b2,rfl,hb2⟩ := hR2; replace hV := hV.symm; subst hV
 refine Run.heapTo (H' := []) Z<|Run.heapTo (H' := []) Z<|Za Z<|Ze<|Zg<|Zs<|Zr<|?_
 refine Run.call [] (l := [.const (.int .i64 100000)]) rfl rfl rfl (lt rfl) (dnew_c (room := 100000)) (fun v3 V3 H3 hle3 hR3 => ?_)
 obtain ⟨hV,⟨hno,_⟩ | ⟨_,dx3,sd3,rfl,hin3,rfl⟩⟩ := hR3
 · exact absurd hno WD
 replace hV := hV.symm; subst hV
 refine Run.heapTo (H' := [sd3]) Z<|Run.heapTo (H' := [sd3]) Z<|Zm Z<|Zv (Y.extract Z Z)<|Zv (Y.extract Z Z)<|Za Z<|Za Z<|Ze<|Zg<|Zs<|Zr<|Zm Z<|?_
 refine Run.call [] (l := []) rfl rfl rfl (lt rfl) pool13_c (fun v4 V4 H4 hle4 hR4 => ?_)
 obtain ⟨_,hv4,rfl⟩ := hR4
 replace hv := hv.le hle4
 replace hVle := Vw.le_trans hVle hle4
 refine Run.heapTo (H' := [sd3]) Z<|Run.heapTo (H' := [sd3]) Z<|?_
 refine Run.call [0] (l := [.tmp 31,.tmp 32]) rfl rfl rfl (lt rfl) (open_o (rs := Rg.p16) hin3 hv4 WD Rg.p16_ok) (fun v5 V5 H5 hle5 hR5 => ?_)
 obtain ⟨hV,sd5,⟨hno,_⟩ | ⟨_,hno,_⟩ | ⟨_,_,sx5,lx5,tx5,sb5,rfl,ht5,hin5,rfl⟩⟩ := hR5
 · exact absurd Rg.pool16 hno
 · exact absurd (Sk.cut_ok hin3.1 (show (-1 : Int) ≠ 0 by decide)) hno
 replace hV := hV.symm; subst hV
 refine Run.heapTo (H' := [(cS 123 sx5 lx5 tx5 (Sk.opened Rg.p16 (Sk.cutD (Dk.new 100000)).1.bs)),(cL 187 lx5 dx3),sb5,sd5]) Z<|Run.heapTo (H' := [(cS 123 sx5 lx5 tx5 (Sk.opened Rg.p16 (Sk.cutD (Dk.new 100000)).1.bs)),(cL 187 lx5 dx3),sb5,sd5]) Z<|?_
 refine Zm Z<|Zv (Y.extract Z Z)<|Zv (Y.extract Z Z)<|Za Z<|Za Z<|Ze<|Zg<|Zs<|Zs<|Zr<|Zm Z<|Zv (Y.not Z)<|Zm Z<|Zp Z<|Zm Z<|Zp Z<|?_
 refine Zv (Y.int (r := .bool false) Z Z Z)<|Zv (Y.pick_f Z Z Z)<|Zm Z<|Zp Z<|Zm Z<|Zp Z<|Zv (Y.int (r := .bool false) Z Z Z)<|Zv (Y.pick_f Z Z Z)<|Zm Z<|Zp Z<|Zm Z<|Zp Z<|Zv (Y.eqNil Z Z Law13e_pt33)<|Zv (Y.pick_f Z Z Z)<|Zm Z<|Zp Z<|?_
 refine Zm Z<|Zv (Y.pick_f Z Z Z)<|Ze<|Zg<|?_
 rcases Zsplit (b2) with ⟨h6,g6⟩ | ⟨h6,g6⟩ <;> try simp only [kb] at g6
 ·refine Tr.cond_t Z h6<|Zs<|Zr<|Zm Z<|Za Z<|Ze<|Zg<|Zu<|Zn<|Ex.keep []<|?_
  exact Ex.ret1 rfl rfl  rfl
 ·refine Tr.cond_f Z h6<|Zt<|Zg<|Zs<|Zr<|?_
  refine Run.call [] (l := [.const (.int .i64 100000)]) rfl rfl rfl (lt rfl) (rdnew_c (room := 100000)) (fun v7 V7 H7 hle7 hR7 => ?_)
  obtain ⟨hV,⟨hno,_⟩ | ⟨_,dx7,sd7,rfl,hin7,rfl⟩⟩ := hR7
  · exact absurd hno WD
  replace hV := hV.symm; subst hV
  refine Run.heapTo (H' := [(cS 123 sx5 lx5 tx5 (Sk.opened Rg.p16 (Sk.cutD (Dk.new 100000)).1.bs)),(cL 187 lx5 dx3),sb5,sd5,sd7]) Z<|Run.heapTo (H' := [(cS 123 sx5 lx5 tx5 (Sk.opened Rg.p16 (Sk.cutD (Dk.new 100000)).1.bs)),(cL 187 lx5 dx3),sb5,sd5,sd7]) Z<|?_
  refine Zm Z<|Zv (Y.extract Z Z)<|Zv (Y.extract Z Z)<|Za Z<|Za Z<|Ze<|Zg<|Zs<|Zr<|Zm Z<|?_
  refine Run.call [] (l := []) rfl rfl rfl (lt rfl) pool13_c (fun v8 V8 H8 hle8 hR8 => ?_)
  obtain ⟨_,hv8,rfl⟩ := hR8
  replace hv := hv.le hle8
  replace hv4 := hv4.le hle8
  replace hVle := Vw.le_trans hVle hle8
  refine Run.heapTo (H' := [(cS 123 sx5 lx5 tx5 (Sk.opened Rg.p16 (Sk.cutD (Dk.new 100000)).1.bs)),(cL 187 lx5 dx3),sb5,sd5,sd7]) Z<|Run.heapTo (H' := [(cS 123 sx5 lx5 tx5 (Sk.opened Rg.p16 (Sk.cutD (Dk.new 100000)).1.bs)),(cL 187 lx5 dx3),sb5,sd5,sd7]) Z<|?_
  refine Run.call [4] (l := [.tmp 59,.tmp 60]) rfl rfl rfl (lt rfl) (ropen_o (rs := Rg.p16) hin7 hv8 WD Rg.p16_ok) (fun v9 V9 H9 hle9 hR9 => ?_)
  obtain ⟨hV,sd9,⟨hno,_⟩ | ⟨_,hno,_⟩ | ⟨_,_,sx9,lx9,tx9,sb9,rfl,ht9,hin9,rfl⟩⟩ := hR9
  · exact absurd Rg.pool16 hno
  · exact absurd (Sk.cut_ok hin7.1 (show (-1 : Int) ≠ 0 by decide)) hno
  replace hV := hV.symm; subst hV
  refine Run.heapTo (H' := [(cS 123 sx5 lx5 tx5 (Sk.opened Rg.p16 (Sk.cutD (Dk.new 100000)).1.bs)),(cL 187 lx5 dx3),sb5,sd5,(cS 133 sx9 lx9 tx9 (Sk.opened Rg.p16 (Sk.cutD (Dk.new 100000)).1.bs)),(cL 193 lx9 dx7),sb9,sd9]) Z ?_
  refine Zm Z<|Zv (Y.extract Z Z)<|Zv (Y.extract Z Z)<|Za Z<|Za Z<|Ze<|Zg<|Zs<|Zr<|?_
  obtain ⟨hd9,pd9,cd9,qd9,ho9,rfl⟩ := hin9
  refine Run.keepTo (H' := [(cS 123 sx5 lx5 tx5 (Sk.opened Rg.p16 (Sk.cutD (Dk.new 100000)).1.bs)),(cL 187 lx5 dx3),sb5,sd5,(cS 133 sx9 lx9 tx9 (Sk.opened Rg.p16 (Sk.cutD (Dk.new 100000)).1.bs)),(cL 193 lx9 dx7),sb9,([(cD 54 dx7 (((Sk.cutD (Dk.new 100000)).1).room) (.slice pd9 ((Sk.cutD (Dk.new 100000)).1).bs.length cd9) ((((Sk.cutD (Dk.new 100000)).1).lasts : Nat) : Int) (((Sk.cutD (Dk.new 100000)).1).inn)),qd9] : Hp).flatten]) [0,0,0,0,0,0,0,0] Z ?_
  refine Run.recut (H' := [(cS 123 sx5 lx5 tx5 (Sk.opened Rg.p16 (Sk.cutD (Dk.new 100000)).1.bs)),(cL 187 lx5 dx3),sb5,sd5,(cS 133 sx9 lx9 tx9 (Sk.opened Rg.p16 (Sk.cutD (Dk.new 100000)).1.bs)),(cL 193 lx9 dx7),sb9,(cD 54 dx7 (((Sk.cutD (Dk.new 100000)).1).room) (.slice pd9 ((Sk.cutD (Dk.new 100000)).1).bs.length cd9) ((((Sk.cutD (Dk.new 100000)).1).lasts : Nat) : Int) (((Sk.cutD (Dk.new 100000)).1).inn)),qd9]) (List.Perm.of_eq (by simp)) ?_
  have hb0 := hd9.b
  rw [Sk.start_room] at hb0
  refine Run.buildSlice0 Law13e_es22 (lt rfl) (fun b10 => ?_)
  refine Zm Z<|Zv (Y.nilCheck Z)<|Zv (Y.fieldAddr Z Law13e_fo54_1)<|Zv (Y.load Z Law13e_ts22 (Kn.at 8 Z) Z)<|?_
  refine Run.append (n := 0) (m := ((Sk.cutD (Dk.new 100000)).1).bs.length) (xs := []) (ys := ((Sk.cutD (Dk.new 100000)).1).bs.map byteV) rfl rfl Law13e_es22 Law13e_zi5 WD (j := 0) rfl (Ow.lit (cur := #[]) rfl WD) (Src.of_rd Law13e_es22 (ho9.rd 9 rfl)) W W (all_one_bytes _) (lt rfl) (fun v11 s12 ho13 hf => ?_)
  obtain ⟨p11,c11,rfl⟩ := hf
  refine Run.keepTo (H' := [s12,(cS 123 sx5 lx5 tx5 (Sk.opened Rg.p16 (Sk.cutD (Dk.new 100000)).1.bs)),(cL 187 lx5 dx3),sb5,sd5,(cS 133 sx9 lx9 tx9 (Sk.opened Rg.p16 (Sk.cutD (Dk.new 100000)).1.bs)),(cL 193 lx9 dx7),sb9,(cD 54 dx7 (((Sk.cutD (Dk.new 100000)).1).room) (.slice pd9 ((Sk.cutD (Dk.new 100000)).1).bs.length cd9) ((((Sk.cutD (Dk.new 100000)).1).lasts : Nat) : Int) (((Sk.cutD (Dk.new 100000)).1).inn)),qd9]) [0,0,0,0,0,0,0,0,0,0] Z ?_
  refine Run.show (fun V14 hle14 hsh14 => ?_)
  have hr0 : Rd V14 [] 1 (.slice p11 (0 + ((Sk.cutD (Dk.new 100000)).1).bs.length) c11) (0 + ((Sk.cutD (Dk.new 100000)).1).bs.length) ([] ++ (((Sk.cutD (Dk.new 100000)).1).bs.map byteV)) := ho13.show hsh14
  replace hv := hv.le hle14
  replace hv4 := hv4.le hle14
  replace hv8 := hv8.le hle14
  replace hVle := Vw.le_trans hVle hle14
  refine Run.buildSlice (l := [(0,.tmp 69)]) Law13e_es56 Law13e_zo22 rfl WD rfl rfl WD (lt rfl) (fun b15 => ?_)
  have hx0 : Ow 22 1 (.slice (some ⟨b15,0,none⟩) 1 1) 1 (([⟨p11,(0 + ((Sk.cutD (Dk.new 100000)).1).bs.length),c11,((Sk.cutD (Dk.new 100000)).1).bs⟩] : List Rc).flatMap Rc.cell) [(b15,.cells #[.slice p11 (0 + ((Sk.cutD (Dk.new 100000)).1).bs.length) c11] 22 (0,0))] := Ow.lit (cur := #[.slice p11 (0 + ((Sk.cutD (Dk.new 100000)).1).bs.length) c11]) rfl WD
  have hrs0 : Rc.Rs V14 ([⟨p11,(0 + ((Sk.cutD (Dk.new 100000)).1).bs.length),c11,((Sk.cutD (Dk.new 100000)).1).bs⟩] : List Rc) := (Rc.Rs.nil _).snoc hr0
  refine Za Z<|Ze<|Zg<|Zs<|Zs<|Zr<|Run.keepTo (H' := [(cS 123 sx5 lx5 tx5 (Sk.opened Rg.p16 (Sk.cutD (Dk.new 100000)).1.bs)),(cL 187 lx5 dx3),sb5,sd5,(cS 133 sx9 lx9 tx9 (Sk.opened Rg.p16 (Sk.cutD (Dk.new 100000)).1.bs)),(cL 193 lx9 dx7),sb9,(cD 54 dx7 (((Sk.cutD (Dk.new 100000)).1).room) (.slice pd9 ((Sk.cutD (Dk.new 100000)).1).bs.length cd9) ((((Sk.cutD (Dk.new 100000)).1).lasts : Nat) : Int) (((Sk.cutD (Dk.new 100000)).1).inn)),qd9,[(b15,.cells #[.slice p11 (0 + ((Sk.cutD (Dk.new 100000)).1).bs.length) c11] 22 (0,0))]]) [1,1,1,1,1,1,1,1,1,0] Z<|?_
  refine Run.recut (H' := [(cS 123 sx5 lx5 tx5 (Sk.opened Rg.p16 (Sk.cutD (Dk.new 100000)).1.bs)),(cL 187 lx5 dx3),sb5,sd5,(cS 133 sx9 lx9 tx9 (Sk.opened Rg.p16 (Sk.cutD (Dk.new 100000)).1.bs)),(cL 193 lx9 dx7),sb9,([(cD 54 dx7 (((Sk.cutD (Dk.new 100000)).1).room) (.slice pd9 ((Sk.cutD (Dk.new 100000)).1).bs.length cd9) ((((Sk.cutD (Dk.new 100000)).1).lasts : Nat) : Int) (((Sk.cutD (Dk.new 100000)).1).inn)),qd9] : Hp).flatten,[(b15,.cells #[.slice p11 (0 + ((Sk.cutD (Dk.new 100000)).1).bs.length) c11] 22 (0,0))]]) (List.Perm.of_eq (by simp)) ?_
  have hjn0 : Dk.In 54 ((Sk.cutD (Dk.new 100000)).1) dx7 ([(cD 54 dx7 (((Sk.cutD (Dk.new 100000)).1).room) (.slice pd9 ((Sk.cutD (Dk.new 100000)).1).bs.length cd9) ((((Sk.cutD (Dk.new 100000)).1).lasts : Nat) : Int) (((Sk.cutD (Dk.new 100000)).1).inn)),qd9] : Hp).flatten := ⟨hd9,pd9,cd9,qd9,ho9,rfl⟩
  have hl80 := hb2 h6
  refine Za Z<|Ze<|Zg<|Zb<|?_
  refine ZL (X := Nat × Vw × Dk × Sk × Sg × Sg × Sg × Sg × List Rc × Option Addr × Nat × Nat × Sg) (fun z0 => z0.2.1) (fun z0 => [(cS 123 sx5 lx5 tx5 z0.2.2.2.1),(cL 187 lx5 dx3),z0.2.2.2.2.1,z0.2.2.2.2.2.1,(cS 133 sx9 lx9 tx9 z0.2.2.2.1),(cL 193 lx9 dx7),z0.2.2.2.2.2.2.1,z0.2.2.2.2.2.2.2.1,z0.2.2.2.2.2.2.2.2.2.2.2.2]) (fun z0 => [(0,.slice p l.length c),(1,.int .i64 keep),(7,(pZ dx3)),(9,(pZ sx5)),(11,(pZ dx7)),(13,(pZ sx9)),(15,.slice z0.2.2.2.2.2.2.2.2.2.1 z0.2.2.2.2.2.2.2.2.2.2.1 z0.2.2.2.2.2.2.2.2.2.2.2.1),(16,.int .i64 (z0.1 : Int))]) (fun z0 => Dk.In 116 z0.2.2.1 dx3 z0.2.2.2.2.2.1 ∧ Le.In 149 z0.2.2.2.1.t tx5 z0.2.2.2.2.1 ∧ Dk.In 54 z0.2.2.1 dx7 z0.2.2.2.2.2.2.2.1 ∧ Le.Rin z0.2.2.2.1.t tx9 z0.2.2.2.2.2.2.1 ∧ z0.2.2.2.1.Ok ∧ z0.2.2.2.1.Os ∧ Rc.Rs z0.2.1 z0.2.2.2.2.2.2.2.2.1 ∧ V.le z0.2.1 ∧ Rd z0.2.1 [] 10 (.slice p l.length c) l.length (l.flatMap S13.cells) ∧ Ow 22 1 (.slice z0.2.2.2.2.2.2.2.2.2.1 z0.2.2.2.2.2.2.2.2.2.2.1 z0.2.2.2.2.2.2.2.2.2.2.2.1) z0.2.2.2.2.2.2.2.2.2.2.1 (z0.2.2.2.2.2.2.2.2.1.flatMap Rc.cell) z0.2.2.2.2.2.2.2.2.2.2.2.2 ∧ z0.2.2.2.2.2.2.2.2.2.2.1 = z0.2.2.2.2.2.2.2.2.1.length ∧ Sk.Lst Sk.A16 z0.2.2.1 z0.2.2.2.1 (z0.2.2.2.2.2.2.2.2.1.map (·.b)) ∧ z0.2.2.1.room = 100000 ∧ (∀ b,b ∈ z0.2.2.2.2.2.2.2.2.1.map (·.b) → b.length ≤ 100000) ∧ z0.1 ≤ l.length ∧ z0.2.2.2.2.2.2.2.2.2.2.1 ≤ z0.1 + 1) (fun z0 => l.length - z0.1) (⟨0,V14,((Sk.cutD (Dk.new 100000)).1),(Sk.opened Rg.p16 (Sk.cutD (Dk.new 100000)).1.bs),sb5,sd5,sb9,([(cD 54 dx7 (((Sk.cutD (Dk.new 100000)).1).room) (.slice pd9 ((Sk.cutD (Dk.new 100000)).1).bs.length cd9) ((((Sk.cutD (Dk.new 100000)).1).lasts : Nat) : Int) (((Sk.cutD (Dk.new 100000)).1).inn)),qd9] : Hp).flatten,([⟨p11,(0 + ((Sk.cutD (Dk.new 100000)).1).bs.length),c11,((Sk.cutD (Dk.new 100000)).1).bs⟩] : List Rc),(some ⟨b15,0,none⟩),1,1,[(b15,.cells #[.slice p11 (0 + ((Sk.cutD (Dk.new 100000)).1).bs.length) c11] 22 (0,0))]⟩ : Nat × Vw × Dk × Sk × Sg × Sg × Sg × Sg × List Rc × Option Addr × Nat × Nat × Sg) ⟨hin5,ht5,hjn0,ht9,(Sk.opened_ok Rg.pool16 _),(Sk.opened_os Rg.p16_ok _),hrs0,hVle,hv,hx0,rfl,Sk.start_lst,Sk.start_room _,(fun b hb => by rw [List.mem_singleton.1 (show b ∈ [_] from hb)]; show (Sk.cutD (Dk.new 100000)).1.bs.length ≤ _; omega),Nat.zero_le _,Nat.le_refl _⟩ ?_
  rintro ⟨i1,V1,d,s,st,sd,rt,rd,xs,p1,n1,k1,q1⟩ ⟨hin,ht,hin2,ht2,hs,hos,hrs,hVle,hv,how,hn,hL,hrm,hbl,hi,hn2⟩
  try dsimp only at hin ht hin2 ht2 hs hos hrs hVle hv how hn hL hrm hbl hi hn2 ⊢
  refine Zs<|Zs<|Zr<|Zm Z<|Zm Z<|Zv (Y.lenSl Z Law13e_es41)<|Zv (Y.int Z Z Z)<|Ze<|Zg<|?_
  rcases Zsplit (decide ((i1 : Int) < ((l.length : Nat) : Int))) with ⟨h16,g16⟩ | ⟨h16,g16⟩ <;> try simp only [kb] at g16
  ·refine Tr.cond_t Z h16<|Zt<|Zg<|Zs<|Zb<|Zs<|Zs<|Zr<|Zm Z<|Zm Z<|Zv (Y.idxR i1 Z Z Law13e_es41 hv.of_nil W W)<|Zv (Y.fieldR Z Law13e_fo51_0 hv.of_nil W)<|Zv (Y.ldR Z Law13e_ts3 hv.of_nil (flatm_at S13.enc.len W S13.dflt WD rfl))<|Zv (Y.int Z Z Z)<|Zm Z<|?_
   rcases Zsplit (decide (((l.getD i1 S13.dflt).k) < 0)) with ⟨h17,g17⟩ | ⟨h17,g17⟩ <;> try simp only [kb] at g17
   ·refine Zo h17 Z<|Zo h17 Z<|Zo h17 Z<|Zo h17 Z<|Zo h17 Z<|Zo h17 Z<|Zv (Y.pick_t Z h17 Z)<|Ze<|Zg<|Tr.cond_t Z Z<|Zx<|Zy<|Zi<|Zg<|Zr<|Zm Z<|?_
    refine Zv (Y.add Z Z W)<|Za Z<|Ze<|Ex.keep [0,0,0,0,0,0,0,0,0]<|?_
    exact ZR (⟨i1 + 1,V1,d,s,st,sd,rt,rd,xs,p1,n1,k1,q1⟩ : Nat × Vw × Dk × Sk × Sg × Sg × Sg × Sg × List Rc × Option Addr × Nat × Nat × Sg) ⟨hin,ht,hin2,ht2,hs,hos,hrs,hVle,hv,how,hn,hL,hrm,hbl,by dsimp only; omega,by dsimp only; omega⟩ (by dsimp only; omega)
   ·refine Zp h17<|Zm Z<|Zp h17<|Zm Z<|Zp h17<|Zv (Y.idxR i1 Z Z Law13e_es41 hv.of_nil W W)<|Zp h17<|Zv (Y.fieldR Z Law13e_fo51_0 hv.of_nil W)<|Zp h17<|Zv (Y.ldR Z Law13e_ts3 hv.of_nil (flatm_at S13.enc.len W S13.dflt WD rfl))<|Zp h17<|Zv (Y.int Z Z Z)<|Zv (Y.pick_f Z h17 Z)<|Ze<|Zg<|?_
    rcases Zsplit (decide (((l.getD i1 S13.dflt).k) > 4)) with ⟨h18,g18⟩ | ⟨h18,g18⟩ <;> try simp only [kb] at g18
    ·refine Tr.cond_t Z h18<|Zx<|Zy<|Zi<|Zg<|Zr<|Zm Z<|Zv (Y.add Z Z W)<|Za Z<|Ze<|Ex.keep [0,0,0,0,0,0,0,0,0]<|?_
     exact ZR (⟨i1 + 1,V1,d,s,st,sd,rt,rd,xs,p1,n1,k1,q1⟩ : Nat × Vw × Dk × Sk × Sg × Sg × Sg × Sg × List Rc × Option Addr × Nat × Nat × Sg) ⟨hin,ht,hin2,ht2,hs,hos,hrs,hVle,hv,how,hn,hL,hrm,hbl,by dsimp only; omega,by dsimp only; omega⟩ (by dsimp only; omega)
    ·refine Tr.cond_f Z h18<|Zt<|Zg<|Zs<|Zr<|Zm Z<|Zm Z<|Zm Z<|Zm Z<|Zm Z<|Zm Z<|Zv (Y.idxR i1 Z Z Law13e_es41 hv.of_nil W W)<|Zv (Y.ldRA (vs := [.int .i64 ((l.getD i1 S13.dflt).k),.int .i64 ((l.getD i1 S13.dflt).n),.int .u32 ((l.getD i1 S13.dflt).l.addr),.int .i64 ((l.getD i1 S13.dflt).l.bind),.string ((l.getD i1 S13.dflt).l.client),.int .i64 ((l.getD i1 S13.dflt).l.till),.int .i64 ((l.getD i1 S13.dflt).l.acked),.int .i64 ((l.getD i1 S13.dflt).l.told),.int .i64 ((l.getD i1 S13.dflt).l.at_),.int .i64 ((l.getD i1 S13.dflt).l.ver)]) rfl Law13e_ag51 hv.of_nil rfl WD (fun o ho => flatm_atA S13.enc.len W S13.dflt o ho))<|?_
     have hkk : 0 ≤ (l.getD i1 S13.dflt).k ∧ (l.getD i1 S13.dflt).k ≤ 4 := by omega
     have hxx := hok _ (S13.mem (l := l) (i := i1) W)
     refine Run.call [0,0,0,0,0,0,0,0] (l := [.tmp 91,.tmp 92,.tmp 93,.tmp 94,.tmp 98]) rfl rfl rfl (lt rfl) (step13_o hin ht hin2 ht2 hs hos (x := (l.getD i1 S13.dflt)) hxx) (fun v19 V19 H19 hle19 hR19 => ?_)
     obtain ⟨hV,sy,ly,ty,st19,sd19,ry,my,wy,rt19,rd19,rfl,hsm,ht19,hin19,hu19,hjn19,rfl⟩ := hR19; replace hV := hV.symm; subst hV; obtain ⟨rfl,rfl,rfl,rfl,rfl,rfl⟩ := hsm hkk
     have hsk19 := (Sk.stp_ok (x := (l.getD i1 S13.dflt)) hin.1 hs hxx).2
     have hso19 : (Sk.stp d s (l.getD i1 S13.dflt)).2.Os := Sk.stp_os hos
     refine Run.heapTo (H' := [q1,(cS 123 sx5 lx5 tx5 ((Sk.stp d s (l.getD i1 S13.dflt)).2)),(cL 187 lx5 dx3),st19,sd19,(cS 133 sx9 lx9 tx9 ((Sk.stp d s (l.getD i1 S13.dflt)).2)),(cL 193 lx9 dx7),rt19,rd19]) Z ?_
     refine Ze<|Zg<|Zs<|Zs<|Zr<|Zm Z<|Zm Z<|Zv (Y.idxR i1 Z Z Law13e_es41 hv.of_nil W W)<|Zv (Y.fieldR Z Law13e_fo51_0 hv.of_nil W)<|Zv (Y.ldR Z Law13e_ts3 hv.of_nil (flatm_at S13.enc.len W S13.dflt WD rfl))<|Zv (Y.int Z Z Z)<|Ze<|Zg<|?_
     rcases Zsplit (decide (((l.getD i1 S13.dflt).k) ≥ 3)) with ⟨h20,g20⟩ | ⟨h20,g20⟩ <;> try simp only [kb] at g20
     ·refine Tr.cond_t Z h20<|Zr<|Za Z<|Ze<|Zg<|Zr<|?_
      obtain ⟨hd9,pd9,cd9,qd9,ho9,rfl⟩ := hjn19
      refine Run.keepTo (H' := [q1,(cS 123 sx5 lx5 tx5 ((Sk.stp d s (l.getD i1 S13.dflt)).2)),(cL 187 lx5 dx3),st19,sd19,(cS 133 sx9 lx9 tx9 ((Sk.stp d s (l.getD i1 S13.dflt)).2)),(cL 193 lx9 dx7),rt19,([(cD 54 dx7 (((Sk.stp d s (l.getD i1 S13.dflt)).1).room) (.slice pd9 ((Sk.stp d s (l.getD i1 S13.dflt)).1).bs.length cd9) ((((Sk.stp d s (l.getD i1 S13.dflt)).1).lasts : Nat) : Int) (((Sk.stp d s (l.getD i1 S13.dflt)).1).inn)),qd9] : Hp).flatten]) [0,0,0,0,0,0,0,0,0] Z ?_
      refine Run.recut (H' := [q1,(cS 123 sx5 lx5 tx5 ((Sk.stp d s (l.getD i1 S13.dflt)).2)),(cL 187 lx5 dx3),st19,sd19,(cS 133 sx9 lx9 tx9 ((Sk.stp d s (l.getD i1 S13.dflt)).2)),(cL 193 lx9 dx7),rt19,(cD 54 dx7 (((Sk.stp d s (l.getD i1 S13.dflt)).1).room) (.slice pd9 ((Sk.stp d s (l.getD i1 S13.dflt)).1).bs.length cd9) ((((Sk.stp d s (l.getD i1 S13.dflt)).1).lasts : Nat) : Int) (((Sk.stp d s (l.getD i1 S13.dflt)).1).inn)),qd9]) (List.Perm.of_eq (by simp)) ?_
      have hb9 := hd9.b
      have hrm9 : (Sk.stp d s (l.getD i1 S13.dflt)).1.room = 100000 := by rw [Sk.stp_room]; exact hrm
      rw [hrm9] at hb9
      refine Zm Z ?_
      refine Run.buildSlice0 Law13e_es22 (lt rfl) (fun b21 => ?_)
      refine Zm Z<|Zv (Y.nilCheck Z)<|Zv (Y.fieldAddr Z Law13e_fo54_1)<|Zv (Y.load Z Law13e_ts22 (Kn.at 9 Z) Z)<|?_
      refine Run.append (n := 0) (m := ((Sk.stp d s (l.getD i1 S13.dflt)).1).bs.length) (xs := []) (ys := ((Sk.stp d s (l.getD i1 S13.dflt)).1).bs.map byteV) rfl rfl Law13e_es22 Law13e_zi5 WD (j := 0) rfl (Ow.lit (cur := #[]) rfl WD) (Src.of_rd Law13e_es22 (ho9.rd 10 rfl)) W W (all_one_bytes _) (lt rfl) (fun v22 s23 ho24 hf => ?_)
      obtain ⟨p22,c22,rfl⟩ := hf
      refine Run.keepTo (H' := [s23,q1,(cS 123 sx5 lx5 tx5 ((Sk.stp d s (l.getD i1 S13.dflt)).2)),(cL 187 lx5 dx3),st19,sd19,(cS 133 sx9 lx9 tx9 ((Sk.stp d s (l.getD i1 S13.dflt)).2)),(cL 193 lx9 dx7),rt19,(cD 54 dx7 (((Sk.stp d s (l.getD i1 S13.dflt)).1).room) (.slice pd9 ((Sk.stp d s (l.getD i1 S13.dflt)).1).bs.length cd9) ((((Sk.stp d s (l.getD i1 S13.dflt)).1).lasts : Nat) : Int) (((Sk.stp d s (l.getD i1 S13.dflt)).1).inn)),qd9]) [0,0,0,0,0,0,0,0,0,0,0] Z ?_
      refine Run.show (fun V25 hle25 hsh25 => ?_)
      have hr9 : Rd V25 [] 1 (.slice p22 (0 + ((Sk.stp d s (l.getD i1 S13.dflt)).1).bs.length) c22) (0 + ((Sk.stp d s (l.getD i1 S13.dflt)).1).bs.length) ([] ++ (((Sk.stp d s (l.getD i1 S13.dflt)).1).bs.map byteV)) := ho24.show hsh25
      replace hv := hv.le hle25
      replace hrs := hrs.le hle25
      replace hVle := Vw.le_trans hVle hle25
      refine Run.buildSlice (l := [(0,.tmp 112)]) Law13e_es56 Law13e_zo22 rfl WD rfl rfl WD (lt rfl) (fun b26 => ?_)
      refine Run.nilseg ?_
      refine Run.append (n := 0) (m := 1) (xs := []) (ys := [.slice p22 (0 + ((Sk.stp d s (l.getD i1 S13.dflt)).1).bs.length) c22]) rfl rfl Law13e_es56 Law13e_zi22 WD (j := 0) rfl (Ow.nil 22 1) (Src.of_rd Law13e_es56 (Rd.one (Kn.at 1 rfl) rfl)) W W rfl (lt rfl) (fun v27 s28 ho29 hf => ?_)
      obtain ⟨p27,c27,rfl⟩ := hf
      replace ho29 := Ow.app1 (f := Rc.cell) (l := []) (x := (⟨p22,(0 + ((Sk.stp d s (l.getD i1 S13.dflt)).1).bs.length),c22,((Sk.stp d s (l.getD i1 S13.dflt)).1).bs⟩ : Rc)) ho29
      refine Za Z<|Ze<|Zc<|Zg<|Zr<|Zm Z<|Zv (Y.add Z Z W)<|Za Z<|Ze<|Ex.keepTo (H' := [(cS 123 sx5 lx5 tx5 ((Sk.stp d s (l.getD i1 S13.dflt)).2)),(cL 187 lx5 dx3),st19,sd19,(cS 133 sx9 lx9 tx9 ((Sk.stp d s (l.getD i1 S13.dflt)).2)),(cL 193 lx9 dx7),rt19,(cD 54 dx7 (((Sk.stp d s (l.getD i1 S13.dflt)).1).room) (.slice pd9 ((Sk.stp d s (l.getD i1 S13.dflt)).1).bs.length cd9) ((((Sk.stp d s (l.getD i1 S13.dflt)).1).lasts : Nat) : Int) (((Sk.stp d s (l.getD i1 S13.dflt)).1).inn)),qd9,s28]) [3,3,3,3,3,3,3,3,3,0] Z<|?_
      refine Ex.recut (H' := [(cS 123 sx5 lx5 tx5 ((Sk.stp d s (l.getD i1 S13.dflt)).2)),(cL 187 lx5 dx3),st19,sd19,(cS 133 sx9 lx9 tx9 ((Sk.stp d s (l.getD i1 S13.dflt)).2)),(cL 193 lx9 dx7),rt19,([(cD 54 dx7 (((Sk.stp d s (l.getD i1 S13.dflt)).1).room) (.slice pd9 ((Sk.stp d s (l.getD i1 S13.dflt)).1).bs.length cd9) ((((Sk.stp d s (l.getD i1 S13.dflt)).1).lasts : Nat) : Int) (((Sk.stp d s (l.getD i1 S13.dflt)).1).inn)),qd9] : Hp).flatten,s28]) (List.Perm.of_eq (by simp)) ?_
      exact ZR (⟨i1 + 1,V25,((Sk.stp d s (l.getD i1 S13.dflt)).1),((Sk.stp d s (l.getD i1 S13.dflt)).2),st19,sd19,rt19,([(cD 54 dx7 (((Sk.stp d s (l.getD i1 S13.dflt)).1).room) (.slice pd9 ((Sk.stp d s (l.getD i1 S13.dflt)).1).bs.length cd9) ((((Sk.stp d s (l.getD i1 S13.dflt)).1).lasts : Nat) : Int) (((Sk.stp d s (l.getD i1 S13.dflt)).1).inn)),qd9] : Hp).flatten,[] ++ [(⟨p22,(0 + ((Sk.stp d s (l.getD i1 S13.dflt)).1).bs.length),c22,((Sk.stp d s (l.getD i1 S13.dflt)).1).bs⟩ : Rc)],p27,(0 + 1),c27,s28⟩ : Nat × Vw × Dk × Sk × Sg × Sg × Sg × Sg × List Rc × Option Addr × Nat × Nat × Sg) ⟨hin19,ht19,⟨hd9,pd9,cd9,qd9,ho9,rfl⟩,hu19,hsk19,hso19,(Rc.Rs.nil _).snoc hr9,hVle,hv,ho29,rfl,hL.step2 Sk.a16 ⟨by omega,by omega⟩,hrm9,(fun b hb => by rw [List.mem_singleton.1 (show b ∈ [_] from hb)]; show (Sk.stp d s (l.getD i1 S13.dflt)).1.bs.length ≤ _; omega),by dsimp only; omega,by dsimp only; omega⟩ (by dsimp only; omega)
     ·refine Tr.cond_f Z h20<|Zt<|Zg<|Zr<|?_
      obtain ⟨hd9,pd9,cd9,qd9,ho9,rfl⟩ := hjn19
      refine Run.keepTo (H' := [q1,(cS 123 sx5 lx5 tx5 ((Sk.stp d s (l.getD i1 S13.dflt)).2)),(cL 187 lx5 dx3),st19,sd19,(cS 133 sx9 lx9 tx9 ((Sk.stp d s (l.getD i1 S13.dflt)).2)),(cL 193 lx9 dx7),rt19,([(cD 54 dx7 (((Sk.stp d s (l.getD i1 S13.dflt)).1).room) (.slice pd9 ((Sk.stp d s (l.getD i1 S13.dflt)).1).bs.length cd9) ((((Sk.stp d s (l.getD i1 S13.dflt)).1).lasts : Nat) : Int) (((Sk.stp d s (l.getD i1 S13.dflt)).1).inn)),qd9] : Hp).flatten]) [0,0,0,0,0,0,0,0,0] Z ?_
      refine Run.recut (H' := [q1,(cS 123 sx5 lx5 tx5 ((Sk.stp d s (l.getD i1 S13.dflt)).2)),(cL 187 lx5 dx3),st19,sd19,(cS 133 sx9 lx9 tx9 ((Sk.stp d s (l.getD i1 S13.dflt)).2)),(cL 193 lx9 dx7),rt19,(cD 54 dx7 (((Sk.stp d s (l.getD i1 S13.dflt)).1).room) (.slice pd9 ((Sk.stp d s (l.getD i1 S13.dflt)).1).bs.length cd9) ((((Sk.stp d s (l.getD i1 S13.dflt)).1).lasts : Nat) : Int) (((Sk.stp d s (l.getD i1 S13.dflt)).1).inn)),qd9]) (List.Perm.of_eq (by simp)) ?_
      have hb9 := hd9.b
      have hrm9 : (Sk.stp d s (l.getD i1 S13.dflt)).1.room = 100000 := by rw [Sk.stp_room]; exact hrm
      rw [hrm9] at hb9
      refine Zm Z ?_
      refine Run.buildSlice0 Law13e_es22 (lt rfl) (fun b30 => ?_)
      refine Zm Z<|Zv (Y.nilCheck Z)<|Zv (Y.fieldAddr Z Law13e_fo54_1)<|Zv (Y.load Z Law13e_ts22 (Kn.at 9 Z) Z)<|?_
      refine Run.append (n := 0) (m := ((Sk.stp d s (l.getD i1 S13.dflt)).1).bs.length) (xs := []) (ys := ((Sk.stp d s (l.getD i1 S13.dflt)).1).bs.map byteV) rfl rfl Law13e_es22 Law13e_zi5 WD (j := 0) rfl (Ow.lit (cur := #[]) rfl WD) (Src.of_rd Law13e_es22 (ho9.rd 10 rfl)) W W (all_one_bytes _) (lt rfl) (fun v31 s32 ho33 hf => ?_)
      obtain ⟨p31,c31,rfl⟩ := hf
      refine Run.keepTo (H' := [s32,q1,(cS 123 sx5 lx5 tx5 ((Sk.stp d s (l.getD i1 S13.dflt)).2)),(cL 187 lx5 dx3),st19,sd19,(cS 133 sx9 lx9 tx9 ((Sk.stp d s (l.getD i1 S13.dflt)).2)),(cL 193 lx9 dx7),rt19,(cD 54 dx7 (((Sk.stp d s (l.getD i1 S13.dflt)).1).room) (.slice pd9 ((Sk.stp d s (l.getD i1 S13.dflt)).1).bs.length cd9) ((((Sk.stp d s (l.getD i1 S13.dflt)).1).lasts : Nat) : Int) (((Sk.stp d s (l.getD i1 S13.dflt)).1).inn)),qd9]) [0,0,0,0,0,0,0,0,0,0,0] Z ?_
      refine Run.show (fun V34 hle34 hsh34 => ?_)
      have hr9 : Rd V34 [] 1 (.slice p31 (0 + ((Sk.stp d s (l.getD i1 S13.dflt)).1).bs.length) c31) (0 + ((Sk.stp d s (l.getD i1 S13.dflt)).1).bs.length) ([] ++ (((Sk.stp d s (l.getD i1 S13.dflt)).1).bs.map byteV)) := ho33.show hsh34
      replace hv := hv.le hle34
      replace hrs := hrs.le hle34
      replace hVle := Vw.le_trans hVle hle34
      refine Run.buildSlice (l := [(0,.tmp 112)]) Law13e_es56 Law13e_zo22 rfl WD rfl rfl WD (lt rfl) (fun b35 => ?_)
      refine Run.append (n := n1) (m := 1) (xs := (xs).flatMap Rc.cell) (ys := [.slice p31 (0 + ((Sk.stp d s (l.getD i1 S13.dflt)).1).bs.length) c31]) rfl rfl Law13e_es56 Law13e_zi22 WD (j := 1) rfl how (Src.of_rd Law13e_es56 (Rd.one (Kn.at 0 rfl) rfl)) W W rfl (lt rfl) (fun v36 s37 ho38 hf => ?_)
      obtain ⟨p36,c36,rfl⟩ := hf
      replace ho38 := Ow.app1 (f := Rc.cell) (l := xs) (x := (⟨p31,(0 + ((Sk.stp d s (l.getD i1 S13.dflt)).1).bs.length),c31,((Sk.stp d s (l.getD i1 S13.dflt)).1).bs⟩ : Rc)) ho38
      refine Za Z<|Ze<|Zc<|Zg<|Zr<|Zm Z<|Zv (Y.add Z Z W)<|Za Z<|Ze<|Ex.keepTo (H' := [(cS 123 sx5 lx5 tx5 ((Sk.stp d s (l.getD i1 S13.dflt)).2)),(cL 187 lx5 dx3),st19,sd19,(cS 133 sx9 lx9 tx9 ((Sk.stp d s (l.getD i1 S13.dflt)).2)),(cL 193 lx9 dx7),rt19,(cD 54 dx7 (((Sk.stp d s (l.getD i1 S13.dflt)).1).room) (.slice pd9 ((Sk.stp d s (l.getD i1 S13.dflt)).1).bs.length cd9) ((((Sk.stp d s (l.getD i1 S13.dflt)).1).lasts : Nat) : Int) (((Sk.stp d s (l.getD i1 S13.dflt)).1).inn)),qd9,s37]) [2,2,2,2,2,2,2,2,2,1] Z<|?_
      refine Ex.recut (H' := [(cS 123 sx5 lx5 tx5 ((Sk.stp d s (l.getD i1 S13.dflt)).2)),(cL 187 lx5 dx3),st19,sd19,(cS 133 sx9 lx9 tx9 ((Sk.stp d s (l.getD i1 S13.dflt)).2)),(cL 193 lx9 dx7),rt19,([(cD 54 dx7 (((Sk.stp d s (l.getD i1 S13.dflt)).1).room) (.slice pd9 ((Sk.stp d s (l.getD i1 S13.dflt)).1).bs.length cd9) ((((Sk.stp d s (l.getD i1 S13.dflt)).1).lasts : Nat) : Int) (((Sk.stp d s (l.getD i1 S13.dflt)).1).inn)),qd9] : Hp).flatten,s37]) (List.Perm.of_eq (by simp)) ?_
      exact ZR (⟨i1 + 1,V34,((Sk.stp d s (l.getD i1 S13.dflt)).1),((Sk.stp d s (l.getD i1 S13.dflt)).2),st19,sd19,rt19,([(cD 54 dx7 (((Sk.stp d s (l.getD i1 S13.dflt)).1).room) (.slice pd9 ((Sk.stp d s (l.getD i1 S13.dflt)).1).bs.length cd9) ((((Sk.stp d s (l.getD i1 S13.dflt)).1).lasts : Nat) : Int) (((Sk.stp d s (l.getD i1 S13.dflt)).1).inn)),qd9] : Hp).flatten,xs ++ [(⟨p31,(0 + ((Sk.stp d s (l.getD i1 S13.dflt)).1).bs.length),c31,((Sk.stp d s (l.getD i1 S13.dflt)).1).bs⟩ : Rc)],p36,(n1 + 1),c36,s37⟩ : Nat × Vw × Dk × Sk × Sg × Sg × Sg × Sg × List Rc × Option Addr × Nat × Nat × Sg) ⟨hin19,ht19,⟨hd9,pd9,cd9,qd9,ho9,rfl⟩,hu19,hsk19,hso19,hrs.snoc hr9,hVle,hv,ho38,by rw [List.length_append,List.length_singleton,← hn],by rw [List.map_append]; exact hL.step ⟨by omega,by omega⟩,hrm9,(fun b hb => by rw [List.map_append] at hb; rcases List.mem_append.1 hb with hb | hb; exact hbl b hb; rw [List.mem_singleton.1 (show b ∈ [_] from hb)]; show (Sk.stp d s (l.getD i1 S13.dflt)).1.bs.length ≤ _; omega),by dsimp only; omega,by dsimp only; omega⟩ (by dsimp only; omega)
  ·refine Tr.cond_f Z h16<|Zx<|Zy<|Zy<|Zi<|Zg<|Zs<|Zr<|?_
   obtain ⟨j9,hj9,hjb⟩ := hL.meets hrm keep
   rw [List.length_map] at hj9
   rw [Rc.getD_b] at hjb
   subst hn
   refine Zm Z<|Zm Z<|?_
   refine Run.call [3] (l := [.tmp 115,.tmp 116]) rfl rfl rfl (lt rfl) (dcrash_o hin) (fun v39 V39 H39 hle39 hR39 => ?_)
   obtain ⟨hV,sd39,hin39,rfl⟩ := hR39; replace hV := hV.symm; subst hV
   refine Run.heapTo (H' := [(cS 123 sx5 lx5 tx5 s),(cL 187 lx5 dx3),st,(cS 133 sx9 lx9 tx9 s),(cL 193 lx9 dx7),rt,rd,q1,sd39]) Z ?_
   refine Ze<|Zg<|Zs<|Zr<|Zm Z<|?_
   refine Run.call [] (l := []) rfl rfl rfl (lt rfl) pool13_c (fun v40 V40 H40 hle40 hR40 => ?_)
   obtain ⟨_,hv40,rfl⟩ := hR40
   replace hv := hv.le hle40
   replace hrs := hrs.le hle40
   replace hVle := Vw.le_trans hVle hle40
   refine Run.heapTo (H' := [(cS 123 sx5 lx5 tx5 s),(cL 187 lx5 dx3),st,(cS 133 sx9 lx9 tx9 s),(cL 193 lx9 dx7),rt,rd,q1,sd39]) Z ?_
   refine Run.call [8] (l := [.tmp 119,.tmp 120]) rfl rfl rfl (lt rfl) (open_o (rs := Rg.p16) hin39 hv40 WD Rg.p16_ok) (fun v41 V41 H41 hle41 hR41 => ?_)
   obtain ⟨hV,sd41,⟨hno,_⟩ | ⟨_,hno,_⟩ | ⟨_,_,sx41,lx41,tx41,sb41,rfl,ht41,hin41,rfl⟩⟩ := hR41
   · exact absurd Rg.pool16 hno
   · exact absurd (Sk.cut_ok hin39.1 (show (-1 : Int) ≠ 0 by decide)) hno
   replace hV := hV.symm; subst hV
   refine Run.heapTo (H' := [(cS 123 sx5 lx5 tx5 s),(cL 187 lx5 dx3),st,(cS 133 sx9 lx9 tx9 s),(cL 193 lx9 dx7),rt,rd,q1,(cS 123 sx41 lx41 tx41 (Sk.opened Rg.p16 (Sk.cutD (Dk.crash d keep)).1.bs)),(cL 187 lx41 dx3),sb41,sd41]) Z ?_
   refine Zm Z<|Zv (Y.extract Z Z)<|Zv (Y.extract Z Z)<|Za Z<|Za Z<|Ze<|Zg<|Zs<|Zs<|Zr<|Zm Z<|Zv (Y.int (r := .bool false) Z Z Z)<|Zm Z<|Zp Z<|Zm Z<|Zp Z<|?_
   refine Zv (Y.eqNil Z Z Law13e_pt33)<|Zv (Y.pick_f Z Z Z)<|Ze<|Zg<|Tr.cond_f Z Z<|Zt<|Zg<|Zs<|Zs<|Zr<|Run.keepTo (H' := [(cS 123 sx41 lx41 tx41 (Sk.opened Rg.p16 (Sk.cutD (Dk.crash d keep)).1.bs)),(cL 187 lx41 dx3),sb41,sd41,q1]) [8,8,8,8,7] Z<|?_
   refine Za Z<|Ze<|Zg<|Zb<|?_
   refine ZL (X := Nat × Vw × Sg) (fun z0 => z0.2.1) (fun z0 => [(cS 123 sx41 lx41 tx41 (Sk.opened Rg.p16 (Sk.cutD (Dk.crash d keep)).1.bs)),(cL 187 lx41 dx3),sb41,z0.2.2,q1]) (fun z0 => [(7,(pZ dx3)),(9,(pZ sx41)),(15,.slice p1 xs.length k1),(17,.int .i64 (z0.1 : Int))]) (fun z0 => Rc.Rs z0.2.1 xs ∧ Dk.In 116 ((Sk.cutD (Dk.crash d keep)).1) dx3 z0.2.2 ∧ z0.1 ≤ j9) (fun z0 => xs.length - z0.1) (⟨0,V40,sd41⟩ : Nat × Vw × Sg) ⟨hrs,hin41,Nat.zero_le _⟩ ?_
   rintro ⟨m1,V1,sd5⟩ ⟨hrs,hin5,hm1⟩
   try dsimp only at hrs hin5 hm1 ⊢
   refine Zs<|Zs<|Zr<|Zm Z<|Zm Z<|Zv (Y.lenSl Z Law13e_es56)<|Zv (Y.int Z Z Z)<|Ze<|Zg<|?_
   rcases Zsplit (decide ((m1 : Int) < ((xs.length : Nat) : Int))) with ⟨h42,g42⟩ | ⟨h42,g42⟩ <;> try simp only [kb] at g42
   ·refine Tr.cond_t Z h42<|Zt<|Zg<|Zs<|Zb<|Zs<|Zr<|?_
    have hbk := hbl (xs.getD m1 Rc.dflt).b (by rw [← Rc.getD_b]; exact getD_mem' (by rw [List.length_map]; omega) _)
    refine Run.call [] (l := [.const (.int .i64 100000)]) rfl rfl rfl (lt rfl) (rdnew_c (room := 100000)) (fun v43 V43 H43 hle43 hR43 => ?_)
    obtain ⟨hV,⟨hno,_⟩ | ⟨_,dx43,sd43,rfl,hin43,rfl⟩⟩ := hR43
    · exact absurd hno WD
    replace hV := hV.symm; subst hV
    refine Run.heapTo (H' := [(cS 123 sx41 lx41 tx41 (Sk.opened Rg.p16 (Sk.cutD (Dk.crash d keep)).1.bs)),(cL 187 lx41 dx3),sb41,sd5,q1,sd43]) Z<|Run.heapTo (H' := [(cS 123 sx41 lx41 tx41 (Sk.opened Rg.p16 (Sk.cutD (Dk.crash d keep)).1.bs)),(cL 187 lx41 dx3),sb41,sd5,q1,sd43]) Z<|?_
    refine Zm Z<|Zv (Y.extract Z Z)<|Zv (Y.extract Z Z)<|Za Z<|Za Z<|Ze<|Zg<|Zs<|Zr<|Zm Z<|Zm Z<|Zm Z<|Zv (Y.idxR m1 Z Z Law13e_es56 (how.rd 4 rfl) W W)<|Zv (Y.ldR Z Law13e_ts22 (how.rd 4 rfl) (flatm_at0 Rc.len W Rc.dflt WD rfl))<|?_
    have hlb := (hrs.at (i := m1) W).lenB
    refine Run.call [5] (l := [.tmp 140,.tmp 144]) rfl rfl rfl (lt rfl) (rdappend_o hin43 (bs := (xs.getD m1 Rc.dflt).b) ((hrs.at W).to hlb.symm) W) (fun v44 V44 H44 hle44 hR44 => ?_)
    obtain ⟨hV,rfl,sd44,hin44,rfl⟩ := hR44; replace hV := hV.symm; subst hV
    refine Run.heapTo (H' := [(cS 123 sx41 lx41 tx41 (Sk.opened Rg.p16 (Sk.cutD (Dk.crash d keep)).1.bs)),(cL 187 lx41 dx3),sb41,sd5,q1,sd44]) Z<|Run.heapTo (H' := [(cS 123 sx41 lx41 tx41 (Sk.opened Rg.p16 (Sk.cutD (Dk.crash d keep)).1.bs)),(cL 187 lx41 dx3),sb41,sd5,q1,sd44]) Z<|?_
    refine Ze<|Zg<|Zs<|Zr<|Zm Z<|?_
    refine Run.call [] (l := []) rfl rfl rfl (lt rfl) pool13_c (fun v45 V45 H45 hle45 hR45 => ?_)
    obtain ⟨_,hv45,rfl⟩ := hR45
    replace hrs := hrs.le hle45
    have hVle := hle45
    refine Run.heapTo (H' := [(cS 123 sx41 lx41 tx41 (Sk.opened Rg.p16 (Sk.cutD (Dk.crash d keep)).1.bs)),(cL 187 lx41 dx3),sb41,sd5,q1,sd44]) Z<|Run.heapTo (H' := [(cS 123 sx41 lx41 tx41 (Sk.opened Rg.p16 (Sk.cutD (Dk.crash d keep)).1.bs)),(cL 187 lx41 dx3),sb41,sd5,q1,sd44]) Z<|?_
    refine Run.call [5] (l := [.tmp 147,.tmp 148]) rfl rfl rfl (lt rfl) (ropen_o (rs := Rg.p16) hin44 hv45 WD Rg.p16_ok) (fun v46 V46 H46 hle46 hR46 => ?_)
    obtain ⟨hV,sd46,⟨hno,_⟩ | ⟨_,hno,_⟩ | ⟨_,_,sx46,lx46,tx46,sb46,rfl,ht46,hin46,rfl⟩⟩ := hR46
    · exact absurd Rg.pool16 hno
    · exact absurd (Sk.cut_ok hin44.1 (by rw [Dk.app_inn rfl]; decide)) hno
    replace hV := hV.symm; subst hV
    refine Run.heapTo (H' := [(cS 123 sx41 lx41 tx41 (Sk.opened Rg.p16 (Sk.cutD (Dk.crash d keep)).1.bs)),(cL 187 lx41 dx3),sb41,sd5,q1,(cS 133 sx46 lx46 tx46 (Sk.opened Rg.p16 (Sk.cutD ((Dk.app (Dk.new 100000) (xs.getD m1 Rc.dflt).b).1)).1.bs)),(cL 193 lx46 dx43),sb46,sd46]) Z ?_
    refine Zm Z<|Zv (Y.extract Z Z)<|Zv (Y.extract Z Z)<|Za Z<|Za Z<|Ze<|Zg<|Zs<|Zr<|Zm Z<|Zm Z<|?_
    refine Run.call [0,0,0,0,1,1,1,1] (l := [.tmp 152,.tmp 153]) rfl rfl rfl (lt rfl) (alike13_o hin5 ht41 hin46 ht46 (Sk.opened_ok Rg.pool16 _)) (fun v47 V47 H47 hle47 hR47 => ?_)
    obtain ⟨hV,rfl,sd47,rd47,hin47,hjn47,rfl⟩ := hR47; replace hV := hV.symm; subst hV
    refine Run.heapTo (H' := [q1,(cS 123 sx41 lx41 tx41 (Sk.opened Rg.p16 (Sk.cutD (Dk.crash d keep)).1.bs)),(cL 187 lx41 dx3),sb41,sd47,(cS 133 sx46 lx46 tx46 (Sk.opened Rg.p16 (Sk.cutD ((Dk.app (Dk.new 100000) (xs.getD m1 Rc.dflt).b).1)).1.bs)),(cL 193 lx46 dx43),sb46,rd47]) Z ?_
    refine Za Z<|Ze<|Zg<|Zs<|Zr<|Zm Z<|Ze<|Zg<|?_
    rcases Zsplit (Sk.alk ((Sk.cutD (Dk.crash d keep)).1) (Sk.opened Rg.p16 (Sk.cutD (Dk.crash d keep)).1.bs) ((Sk.cutD ((Dk.app (Dk.new 100000) (xs.getD m1 Rc.dflt).b).1)).1) (Sk.opened Rg.p16 (Sk.cutD ((Dk.app (Dk.new 100000) (xs.getD m1 Rc.dflt).b).1)).1.bs)) with ⟨h48,g48⟩ | ⟨h48,g48⟩ <;> try simp only [kb] at g48
    ·refine Tr.cond_t Z h48<|Zs<|Zr<|Za Z<|Ze<|Zg<|Zu<|Zk<|Zn<|Zn<|Zk<|Zn<|Ex.keep []<|?_
     exact Ex.ret1 rfl rfl  rfl
    ·refine Tr.cond_f Z h48<|Zt<|Zc<|Zg<|Zr<|Zm Z<|Zv (Y.add Z Z W)<|Za Z<|Ze<|Ex.keep [1,1,1,1,0]<|?_
     have hne : m1 ≠ j9 := fun h9 => by subst h9; have h8 := Sk.alk_of hjb (congrArg (Sk.opened Rg.p16) hjb); rw [show Sk.alk ((Sk.cutD (Dk.crash d keep)).1) (Sk.opened Rg.p16 (Sk.cutD (Dk.crash d keep)).1.bs) ((Sk.cutD ((Dk.app (Dk.new 100000) (xs.getD m1 Rc.dflt).b).1)).1) (Sk.opened Rg.p16 (Sk.cutD ((Dk.app (Dk.new 100000) (xs.getD m1 Rc.dflt).b).1)).1.bs) = true from h8] at h48; cases h48
     exact ZR (⟨m1 + 1,V45,sd47⟩ : Nat × Vw × Sg) ⟨hrs,hin47,by omega⟩ (by dsimp only; omega)
   ·refine Tr.cond_f Z h42<|Zx<|Zy<|Zy<|Zi<|Zg<|Zs<|Zr<|Za Z<|Ze<|Zg<|Zu<|Ex.keep []<|?_
    exact Ex.ret1 rfl rfl  (by exfalso; omega)
theorem lasts13_h {V : Vw} {l : List S13} {v0 : Value} {keep : Int} (hv : Rd V [] 10 v0 l.length (l.map S13.cells).flatten) (hl9 : l.length ≤ 9223372036854775807) (hok : ∀ x,x ∈ l → S13.Ok x) : Does Tryz.prog 5 [v0,.int .i64 keep] V [] (fun v _ _ => v = .bool true) := by
  obtain ⟨p,c,rfl,_⟩ := hv.form
  rw [← List.flatMap_def] at hv
  exact lasts13_c hv hl9 hok
end Go.Proofs.YtinkencbkcciiaaGreat
