/- Disks, frames, leases as bytes, logs, walked.
Conditions: as each theorem names them. -/
import Derived.Test.YtinkencbkcciiaaGreatProg
import Derived.Test.YtinkencbkcciiaaGreatDA
import Derived.Test.YtinkencbkcciiaaGreatKF
import Derived.Test.YtinkencbkcciiaaGreatKG
import Derived.Test.YtinkencbkcciiaaGreatOA
import Derived.Test.YtinkencbkcciiaaGreatTable1
import Derived.Test.YtinkencbkcciiaaGreatKA
import Derived.Test.YtinkencbkcciiaaGreatKB
import Derived.Test.YtinkencbkcciiaaGreatMA
import Derived.Test.YtinkencbkcciiaaGreatZG
set_option linter.unusedSimpArgs false
set_option linter.unusedVariables false
set_option maxRecDepth 4000
namespace Go.Proofs.YtinkencbkcciiaaGreat
open Go Go.K
attribute [local irreducible] Code.wp wpList Calls wpQuiet
theorem Storesa_es56 : elemS Tryz.prog 56 = some (22,1) := by kernel_rfl
theorem Storesa_ts22 : scal Tryz.prog 22 = true := by kernel_rfl
theorem Storesa_es22 : elemS Tryz.prog 22 = some (5,1) := by kernel_rfl
theorem Storesa_zi5 : zeroInfo Tryz.prog 5 = some (1,1,.int .u8 0) := by kernel_rfl
theorem Storesa_mo : Tryz.prog.follows .mixedOrders = true := by kernel_rfl
theorem Storesa_ts25 : scal Tryz.prog 25 = true := by kernel_rfl
theorem Storesa_fo116_1 : fieldOff Tryz.prog 116 1 = some 1 := by kernel_rfl
theorem Storesa_zo22 : zeroOf Tryz.prog 22 = some (.slice none 0 0) := by kernel_rfl
theorem Storesa_sz22 : sizeT Tryz.prog 22 = some 1 := by kernel_rfl
theorem Storesa_fo116_2 : fieldOff Tryz.prog 116 2 = some 2 := by kernel_rfl
theorem Storesa_sz3 : sizeT Tryz.prog 3 = some 1 := by kernel_rfl
theorem Storesa_fo116_3 : fieldOff Tryz.prog 116 3 = some 3 := by kernel_rfl
theorem Storesa_ts3 : scal Tryz.prog 3 = true := by kernel_rfl
theorem Storesa_fo116_0 : fieldOff Tryz.prog 116 0 = some 0 := by kernel_rfl
theorem Storesa_zo116 : zeroOf Tryz.prog 116 = some (.agg #[.int .i64 0,.slice none 0 0,.int .i64 0,.int .i64 0]) := by kernel_rfl
theorem Storesa_pl116 : placesS Tryz.prog 116 = some [(0,1),(1,1),(2,1),(3,1)] := by kernel_rfl
theorem Storesa_fo54_3 : fieldOff Tryz.prog 54 3 = some 3 := by kernel_rfl
theorem Storesa_fo54_1 : fieldOff Tryz.prog 54 1 = some 1 := by kernel_rfl
theorem Storesa_fo54_0 : fieldOff Tryz.prog 54 0 = some 0 := by kernel_rfl
theorem Storesa_fo54_2 : fieldOff Tryz.prog 54 2 = some 2 := by kernel_rfl
theorem Storesa_zo54 : zeroOf Tryz.prog 54 = some (.agg #[.int .i64 0,.slice none 0 0,.int .i64 0,.int .i64 0]) := by kernel_rfl
theorem Storesa_pl54 : placesS Tryz.prog 54 = some [(0,1),(1,1),(2,1),(3,1)] := by kernel_rfl
theorem Storesa_sl22 : sliceT Tryz.prog 22 = true := by kernel_rfl
theorem Storesa_it3_5 : intT Tryz.prog 3 5 = some .u8 := by kernel_rfl
theorem Storesa_zo5 : zeroOf Tryz.prog 5 = some (.int .u8 0) := by kernel_rfl
theorem Storesa_ts5 : scal Tryz.prog 5 = true := by kernel_rfl
theorem Storesa_it5_3 : intT Tryz.prog 5 3 = some .i64 := by kernel_rfl
theorem Storesa_zo56 : zeroOf Tryz.prog 56 = some (.slice none 0 0) := by kernel_rfl
theorem Storesa_zo3 : zeroOf Tryz.prog 3 = some (.int .i64 0) := by kernel_rfl
theorem Storesa_ts56 : scal Tryz.prog 56 = true := by kernel_rfl
theorem Storesa_zi22 : zeroInfo Tryz.prog 22 = some (1,24,.slice none 0 0) := by kernel_rfl
theorem Storesa_sz56 : sizeT Tryz.prog 56 = some 1 := by kernel_rfl
theorem Storesa_sz5 : sizeT Tryz.prog 5 = some 1 := by kernel_rfl
theorem Storesa_ag49 : aggsz Tryz.prog 49 = some 8 := by kernel_rfl
theorem Storesa_fo49_0 : fieldOff Tryz.prog 49 0 = some 0 := by kernel_rfl
theorem Storesa_ts47 : scal Tryz.prog 47 = true := by kernel_rfl
theorem Storesa_it47_3 : intT Tryz.prog 47 3 = some .i64 := by kernel_rfl
theorem Storesa_fo49_1 : fieldOff Tryz.prog 49 1 = some 1 := by kernel_rfl
theorem Storesa_fo49_3 : fieldOff Tryz.prog 49 3 = some 3 := by kernel_rfl
theorem Storesa_fo49_4 : fieldOff Tryz.prog 49 4 = some 4 := by kernel_rfl
theorem Storesa_fo49_5 : fieldOff Tryz.prog 49 5 = some 5 := by kernel_rfl
theorem Storesa_fo49_6 : fieldOff Tryz.prog 49 6 = some 6 := by kernel_rfl
theorem Storesa_fo49_7 : fieldOff Tryz.prog 49 7 = some 7 := by kernel_rfl
theorem Storesa_fo49_2 : fieldOff Tryz.prog 49 2 = some 2 := by kernel_rfl
theorem Storesa_ts9 : scal Tryz.prog 9 = true := by kernel_rfl
theorem Storesa_st9 : strT Tryz.prog 9 = true := by kernel_rfl
theorem Storesa_it47_5 : intT Tryz.prog 47 5 = some .u8 := by kernel_rfl
theorem Storesa_as243 : arrS Tryz.prog 243 = some 5 := by kernel_rfl
theorem Storesa_zo49 : zeroOf Tryz.prog 49 = some (.agg #[.int .u32 0,.int .i64 0,.string ⟨#[]⟩,.int .i64 0,.int .i64 0,.int .i64 0,.int .i64 0,.int .i64 0]) := by kernel_rfl
theorem Storesa_pl49 : placesS Tryz.prog 49 = some [(0,1),(1,1),(2,1),(3,1),(4,1),(5,1),(6,1),(7,1)] := by kernel_rfl
theorem Storesa_sz49 : sizeT Tryz.prog 49 = some 8 := by kernel_rfl
theorem Storesa_tg5 : tagOf Tryz.prog 5 = some (0,.u8) := by kernel_rfl
theorem Storesa_it3_47 : intT Tryz.prog 3 47 = some .u32 := by kernel_rfl
theorem Storesa_it5_47 : intT Tryz.prog 5 47 = some .u32 := by kernel_rfl
theorem Storesa_sz47 : sizeT Tryz.prog 47 = some 1 := by kernel_rfl
theorem Storesa_fo187_0 : fieldOff Tryz.prog 187 0 = some 0 := by kernel_rfl
theorem Storesa_fo193_0 : fieldOff Tryz.prog 193 0 = some 0 := by kernel_rfl
theorem Storesa_ts29 : scal Tryz.prog 29 = true := by kernel_rfl
theorem Storesa_pt25 : ptrT Tryz.prog 25 = true := by kernel_rfl
theorem Storesa_zo187 : zeroOf Tryz.prog 187 = some (.agg #[.pointer none]) := by kernel_rfl
theorem Storesa_pl187 : placesS Tryz.prog 187 = some [(0,1)] := by kernel_rfl
theorem Storesa_pt29 : ptrT Tryz.prog 29 = true := by kernel_rfl
theorem Storesa_zo193 : zeroOf Tryz.prog 193 = some (.agg #[.pointer none]) := by kernel_rfl
theorem Storesa_pl193 : placesS Tryz.prog 193 = some [(0,1)] := by kernel_rfl
theorem own1_c {V : Vw} {Hr : Hp} {b : Nat} {x1 : Bts} {p1 : Option Addr} {n1 c1 : Nat} (hv1 : Rd V Hr 1 (.slice p1 n1 c1) n1 (x1.map byteV)) (hn : n1 ≤ 3000000)  : Does Tryz.prog 65 [.slice (some ⟨b,0,none⟩) 1 1] V ([(b,.cells #[.slice p1 n1 c1] 22 (0,0))] :: Hr) (fun v V' H' => V' = V ∧ ∃ q,Ow 5 1 v (x1).length ((x1).map byteV) q ∧ H' = q :: Hr) := by
 have e1 := hv1.lenB
 refine Does.intro Tryz.func65 rfl rfl (le rfl) (fun B => ?_)
 refine Zs<|Zr<|Za Z<|Ze<|Zg<|Zs<|Zr<|Za Z<|Ze<|Zg<|Zs<|Zs<|Zr<|Zm Z<|Zv (Y.lenSl Z Storesa_es56)<|Zm Z<|?_
 refine Ze<|Zg<|Zb<|Tr.unroll 1<|Zs<|Zr<|Zv (Y.int (r := .bool true) Z Z Z)<|Ze<|Zg<|Zs<|Tr.cond_t Z Z<|Zt<|Zg<|Zs<|Zb<|Zs<|?_
 refine Zr<|Zv (Y.idxAddr Z Z Storesa_es56 WD WD)<|Zv (Y.load Z Storesa_ts22 (Kn.at 0 Z) Z)<|Za Z<|Ze<|Zg<|Zr<|Zm Z<|Zm Z<|Zv (Y.lenSl Z Storesa_es22)<|Zv (Y.addN ((0 + n1 : Nat) : Int) rfl rfl W W)<|Za Z<|Ze<|Zc<|Zg<|Zr<|?_
 refine Zv (Y.int (r := .int .i64 1) Z Z Z)<|Zm Z<|Ze<|Ex.goU<|Zs<|Zr<|Zv (Y.int (r := .bool false) Z Z Z)<|Ze<|Zg<|Zs<|Tr.cond_f Z Z<|Zx<|Zy<|Zy<|Zi<|Zg<|?_
 refine Zs<|Zr<|Zm Z<|?_
 refine Run.makeSlice (n := 0 + n1) rfl rfl Storesa_es22 Storesa_zi5 WD W W (lt rfl) (fun b1 => ?_)
 have hm2 := Ow.made (e := 5) (b := b1) (n := 0 + n1) W (by unfold maxLen; omega)
 refine Run.heapTo (H' := [(b1,.cells (rep (Value.int .u8 0).cells.toList (0 + n1)).toArray 5 (0,0))] :: [(b,.cells #[.slice p1 n1 c1] 22 (0,0))] :: Hr) Z<|Za Z<|Ze<|Zg<|Zs<|Zr<|Za Z<|Ze<|Zg<|Zs<|Zs<|Zr<|Zm Z<|Zv (Y.lenSl Z Storesa_es56)<|Zm Z<|Ze<|?_
 refine Zg<|Zb<|Tr.unroll 1<|Zs<|Zr<|Zv (Y.int (r := .bool true) Z Z Z)<|Ze<|Zg<|Zs<|Tr.cond_t Z Z<|Zt<|Zg<|Zs<|Zb<|Zs<|Zr<|?_
 refine Zv (Y.idxAddr Z Z Storesa_es56 WD WD)<|Zv (Y.load Z Storesa_ts22 (Kn.at 1 Z) Z)<|Za Z<|Ze<|Zg<|Zr<|Zm Z<|Zm Z<|Zm Z<|Zv (Y.slice (l := 0) (m := (0 + n1)) rfl Storesa_es22 rfl rfl W W)<|Zm Z<|?_
 refine Run.copyO (at_ := 0) (m := n1) (ys := x1.map byteV) rfl rfl Storesa_es22 hm2 (j := 0) rfl hv1.cons.cons W (all_one_bytes _) (lt rfl) (fun s3 ho4 => ?_)
 refine Run.heapTo (H' := s3 :: [(b,.cells #[.slice p1 n1 c1] 22 (0,0))] :: Hr) Z<|Zv (Y.addN ((0 + n1 : Nat) : Int) rfl rfl W W)<|Za Z<|Ze<|Zc<|Zg<|Zr<|Zv (Y.int (r := .int .i64 1) Z Z Z)<|Zm Z<|Ze<|Ex.goU<|Zs<|Zr<|Zv (Y.int (r := .bool false) Z Z Z)<|Ze<|Zg<|?_
 refine Zs<|Tr.cond_f Z Z<|Zx<|Zy<|Zy<|Zi<|Zg<|Zs<|Zr<|Zm Z<|Za Z<|Ze<|Zg<|Zu<|?_
 have h9 := ho4
 rw [own1_eq ((List.length_map _).trans e1) (by simp)] at h9
 refine Ex.perm (H' := [(b,.cells #[.slice p1 n1 c1] 22 (0,0))] :: s3 :: Hr) (List.Perm.swap _ _ _)<|Ex.drop<|?_
 exact Ex.ret1 rfl rfl  ⟨rfl,s3,by rw [e1]; simpa using h9,rfl⟩
theorem own2_c {V : Vw} {Hr : Hp} {b : Nat} {x1 : Bts} {p1 : Option Addr} {n1 c1 : Nat} (hv1 : Rd V Hr 1 (.slice p1 n1 c1) n1 (x1.map byteV)) {x2 : Bts} {p2 : Option Addr} {n2 c2 : Nat} (hv2 : Rd V Hr 1 (.slice p2 n2 c2) n2 (x2.map byteV)) (hn : n1 + n2 ≤ 3000000)  : Does Tryz.prog 65 [.slice (some ⟨b,0,none⟩) 2 2] V ([(b,.cells #[.slice p1 n1 c1,.slice p2 n2 c2] 22 (0,0))] :: Hr) (fun v V' H' => V' = V ∧ ∃ q,Ow 5 1 v (x1 ++ x2).length ((x1 ++ x2).map byteV) q ∧ H' = q :: Hr) := by
 have e1 := hv1.lenB
 have e2 := hv2.lenB
 refine Does.intro Tryz.func65 rfl rfl (le rfl) (fun B => ?_)
 refine Zs<|Zr<|Za Z<|Ze<|Zg<|Zs<|Zr<|Za Z<|Ze<|Zg<|Zs<|Zs<|Zr<|Zm Z<|Zv (Y.lenSl Z Storesa_es56)<|Zm Z<|?_
 refine Ze<|Zg<|Zb<|Tr.unroll 2<|Zs<|Zr<|Zv (Y.int (r := .bool true) Z Z Z)<|Ze<|Zg<|Zs<|Tr.cond_t Z Z<|Zt<|Zg<|Zs<|Zb<|Zs<|?_
 refine Zr<|Zv (Y.idxAddr Z Z Storesa_es56 WD WD)<|Zv (Y.load Z Storesa_ts22 (Kn.at 0 Z) Z)<|Za Z<|Ze<|Zg<|Zr<|Zm Z<|Zm Z<|Zv (Y.lenSl Z Storesa_es22)<|Zv (Y.addN ((0 + n1 : Nat) : Int) rfl rfl W W)<|Za Z<|Ze<|Zc<|Zg<|Zr<|?_
 refine Zv (Y.int (r := .int .i64 1) Z Z Z)<|Zm Z<|Ze<|Ex.goU<|Zs<|Zr<|Zv (Y.int (r := .bool true) Z Z Z)<|Ze<|Zg<|Zs<|Tr.cond_t Z Z<|Zt<|Zg<|Zs<|Zb<|Zs<|?_
 refine Zr<|Zv (Y.idxAddr Z Z Storesa_es56 WD WD)<|Zv (Y.load Z Storesa_ts22 (Kn.at 0 Z) Z)<|Za Z<|Ze<|Zg<|Zr<|Zm Z<|Zm Z<|Zv (Y.lenSl Z Storesa_es22)<|Zv (Y.addN (((0 + n1) + n2 : Nat) : Int) rfl rfl W W)<|Za Z<|Ze<|Zc<|Zg<|Zr<|?_
 refine Zv (Y.int (r := .int .i64 2) Z Z Z)<|Zm Z<|Ze<|Ex.goU<|Zs<|Zr<|Zv (Y.int (r := .bool false) Z Z Z)<|Ze<|Zg<|Zs<|Tr.cond_f Z Z<|Zx<|Zy<|Zy<|Zi<|Zg<|?_
 refine Zs<|Zr<|Zm Z<|?_
 refine Run.makeSlice (n := (0 + n1) + n2) rfl rfl Storesa_es22 Storesa_zi5 WD W W (lt rfl) (fun b1 => ?_)
 have hm2 := Ow.made (e := 5) (b := b1) (n := (0 + n1) + n2) W (by unfold maxLen; omega)
 refine Run.heapTo (H' := [(b1,.cells (rep (Value.int .u8 0).cells.toList ((0 + n1) + n2)).toArray 5 (0,0))] :: [(b,.cells #[.slice p1 n1 c1,.slice p2 n2 c2] 22 (0,0))] :: Hr) Z<|Za Z<|Ze<|Zg<|Zs<|Zr<|Za Z<|Ze<|Zg<|Zs<|Zs<|Zr<|Zm Z<|Zv (Y.lenSl Z Storesa_es56)<|Zm Z<|Ze<|?_
 refine Zg<|Zb<|Tr.unroll 2<|Zs<|Zr<|Zv (Y.int (r := .bool true) Z Z Z)<|Ze<|Zg<|Zs<|Tr.cond_t Z Z<|Zt<|Zg<|Zs<|Zb<|Zs<|Zr<|?_
 refine Zv (Y.idxAddr Z Z Storesa_es56 WD WD)<|Zv (Y.load Z Storesa_ts22 (Kn.at 1 Z) Z)<|Za Z<|Ze<|Zg<|Zr<|Zm Z<|Zm Z<|Zm Z<|Zv (Y.slice (l := 0) (m := ((0 + n1) + n2)) rfl Storesa_es22 rfl rfl W W)<|Zm Z<|?_
 refine Run.copyO (at_ := 0) (m := n1) (ys := x1.map byteV) rfl rfl Storesa_es22 hm2 (j := 0) rfl hv1.cons.cons W (all_one_bytes _) (lt rfl) (fun s3 ho4 => ?_)
 refine Run.heapTo (H' := s3 :: [(b,.cells #[.slice p1 n1 c1,.slice p2 n2 c2] 22 (0,0))] :: Hr) Z<|Zv (Y.addN ((0 + n1 : Nat) : Int) rfl rfl W W)<|Za Z<|Ze<|Zc<|Zg<|Zr<|Zv (Y.int (r := .int .i64 1) Z Z Z)<|Zm Z<|Ze<|Ex.goU<|Zs<|Zr<|Zv (Y.int (r := .bool true) Z Z Z)<|Ze<|Zg<|?_
 refine Zs<|Tr.cond_t Z Z<|Zt<|Zg<|Zs<|Zb<|Zs<|Zr<|Zv (Y.idxAddr Z Z Storesa_es56 WD WD)<|Zv (Y.load Z Storesa_ts22 (Kn.at 1 Z) Z)<|Za Z<|Ze<|Zg<|Zr<|Zm Z<|Zm Z<|?_
 refine Zm Z<|Zv (Y.slice (l := 0 + n1) (m := ((0 + n1) + n2)) rfl Storesa_es22 rfl rfl W W)<|Zm Z<|?_
 refine Run.copyO (at_ := 0 + n1) (m := n2) (ys := x2.map byteV) rfl rfl Storesa_es22 ho4 (j := 0) rfl hv2.cons.cons W (all_one_bytes _) (lt rfl) (fun s5 ho6 => ?_)
 refine Run.heapTo (H' := s5 :: [(b,.cells #[.slice p1 n1 c1,.slice p2 n2 c2] 22 (0,0))] :: Hr) Z<|Zv (Y.addN (((0 + n1) + n2 : Nat) : Int) rfl rfl W W)<|Za Z<|Ze<|Zc<|Zg<|Zr<|Zv (Y.int (r := .int .i64 2) Z Z Z)<|Zm Z<|Ze<|Ex.goU<|Zs<|Zr<|Zv (Y.int (r := .bool false) Z Z Z)<|Ze<|Zg<|?_
 refine Zs<|Tr.cond_f Z Z<|Zx<|Zy<|Zy<|Zi<|Zg<|Zs<|Zr<|Zm Z<|Za Z<|Ze<|Zg<|Zu<|?_
 have h9 := ho6
 rw [own2_eq ((List.length_map _).trans e1) ((List.length_map _).trans e2) (by simp)] at h9
 refine Ex.perm (H' := [(b,.cells #[.slice p1 n1 c1,.slice p2 n2 c2] 22 (0,0))] :: s5 :: Hr) (List.Perm.swap _ _ _)<|Ex.drop<|?_
 exact Ex.ret1 rfl rfl  ⟨rfl,s5,by rw [List.length_append,List.map_append,e1,e2]; simpa using h9,rfl⟩
def Dk.In (T : Nat) (d : Dk) (dx : Nat) (s : Sg) : Prop := d.Ok ∧ ∃ p c q,Ow 5 1 (.slice p d.bs.length c) d.bs.length (d.bs.map byteV) q ∧ s = ([[(dx,.cells #[.int .i64 d.room,.slice p d.bs.length c,.int .i64 ((d.lasts : Nat) : Int),.int .i64 d.inn] T (0,0))],q] : Hp).flatten
theorem Dk.in_of {T : Nat} {d : Dk} {dx : Nat} {p : Option Addr} {n c : Nat} {q : Sg} {xs : List Value} {r l i : Int} (hd : d.Ok) (ho : Ow 5 1 (.slice p n c) n xs q) (hn : n = d.bs.length := by (first | rfl | (simp [Dk.dec_bs,Dk.dec_room,Dk.dec_lasts] <;> omega) | simp [Dk.dec_bs,Dk.dec_room,Dk.dec_lasts] | omega)) (hx : xs = d.bs.map byteV := by (first | rfl | (simp [Dk.dec_bs,Dk.dec_room,Dk.dec_lasts] <;> omega) | simp [Dk.dec_bs,Dk.dec_room,Dk.dec_lasts] | omega)) (hr : r = d.room := by (first | rfl | (simp [Dk.dec_bs,Dk.dec_room,Dk.dec_lasts] <;> omega) | simp [Dk.dec_bs,Dk.dec_room,Dk.dec_lasts] | omega)) (hl : l = ((d.lasts : Nat) : Int) := by (first | rfl | (simp [Dk.dec_bs,Dk.dec_room,Dk.dec_lasts] <;> omega) | simp [Dk.dec_bs,Dk.dec_room,Dk.dec_lasts] | omega)) (hi : i = d.inn := by (first | rfl | (simp [Dk.dec_bs,Dk.dec_room,Dk.dec_lasts] <;> omega) | simp [Dk.dec_bs,Dk.dec_room,Dk.dec_lasts] | omega)) :
    Dk.In T d dx ([[(dx,.cells #[.int .i64 r,.slice p n c,.int .i64 l,.int .i64 i] T (0,0))],q] : Hp).flatten := by subst hn hx hr hl hi; exact ⟨hd,p,c,q,ho,rfl⟩
theorem append1_c {V : Vw} {d : Dk} {dx : Nat} {pd : Option Addr} {cd : Nat} {qd : Sg} (hd : d.Ok) (ho : Ow 5 1 (.slice pd d.bs.length cd) d.bs.length (d.bs.map byteV) qd) {bs : Bts} {pb : Option Addr} {cb : Nat} (hb : Rd V [] 1 (.slice pb bs.length cb) bs.length (bs.map byteV)) (hbl : bs.length ≤ 1500000) {inn : Int} {bd bb : Nat}  : Does Tryz.prog 64 [(pZ bd),(pZ bb)] V [(cD 116 dx d.room (.slice pd d.bs.length cd) ((d.lasts : Nat) : Int) inn),qd,(cL 25 bd dx),[(bb,.cells #[.slice pb bs.length cb] 22 (0,0))]] (fun _ V' H' => V' = V ∧ ∃ p c q,Ow 5 1 (.slice p (d.bs ++ bs).length c) (d.bs ++ bs).length ((d.bs ++ bs).map byteV) q ∧ H' = [(cD 116 dx d.room (.slice p (d.bs ++ bs).length c) ((d.lasts : Nat) : Int) inn),q]) := by
 have hk1 := hd.r1
 have hk2 := hd.r2
 have hk3 := hd.b
 have hk4 := hd.l
 have hk5 := hd.i
 have hk6 := ho.cap
 refine Does.intro Tryz.func64 rfl rfl (le rfl) (fun B => ?_)
 refine Tr.anyL [(bd,.cells #[(pZ dx)] 25 (0,0)),(bb,.cells #[.slice pb bs.length cb] 22 (0,0)),(dx,.cells #[.int .i64 d.room,.slice pd d.bs.length cd,.int .i64 ((d.lasts : Nat) : Int),.int .i64 inn] 116 (0,0))] 10 Storesa_mo<|RunL.take (i := 0) 0 rfl rfl WK WK WK WK (fun _ _ _ h => h) (lt rfl) (KnAll.cons (Kn.at 2 rfl) (KnAll.cons (Kn.at 3 rfl) (ZK 0 Z))) (fun _ => (Y.load rfl Storesa_ts25 Kn.vk1 rfl))<|?_
 refine RunL.take (i := 1) 0 rfl rfl WK WK WK WK (fun _ _ _ h => h) (lt rfl) (KnAll.cons (Kn.at 2 rfl) (KnAll.cons (Kn.at 3 rfl) (ZK 0 Z))) (fun _ => (Y.load rfl Storesa_ts25 Kn.vk1 rfl))<|RunL.pure (i := 2) rfl WK WK WK WK (fun _ _ _ h => h) (lt rfl) (KnAll.cons (Kn.at 2 rfl) (KnAll.cons (Kn.at 3 rfl) (ZK 0 Z))) (fun _ => (Y.nilCheck rfl))<|?_
 refine RunL.pure (i := 3) rfl WK WK WK WK (fun _ _ _ h => h) (lt rfl) (KnAll.cons (Kn.at 2 rfl) (KnAll.cons (Kn.at 3 rfl) (ZK 0 Z))) (fun _ => (Y.fieldAddr rfl Storesa_fo116_1))<|RunL.take (i := 4) 2 rfl rfl WK WK WK WK (fun _ _ _ h => h) (lt rfl) (KnAll.cons (Kn.at 2 rfl) (KnAll.cons (Kn.at 3 rfl) (ZK 0 Z))) (fun _ => (Y.load rfl Storesa_ts22 Kn.vk1 rfl))<|?_
 refine RunL.take (i := 5) 1 rfl rfl WK WK WK WK (fun _ _ _ h => h) (lt rfl) (KnAll.cons (Kn.at 2 rfl) (KnAll.cons (Kn.at 3 rfl) (ZK 0 Z))) (fun _ => (Y.load rfl Storesa_ts22 Kn.vk1 rfl)) ?_
 refine RunL.one (i := 6) WK rfl  ?_
 refine Run.buildSlice (l := [(0,.tmp 6),(1,.tmp 7)]) Storesa_es56 Storesa_zo22 rfl WD rfl rfl WD (lt rfl) (fun b1 => ?_)
 refine Ze<|Ex.anyL (KnAll.cons (Kn.at 3 Z) (KnAll.cons (Kn.at 4 Z) (ZK 1 Z)))<|?_
 refine RunL.one (i := 7) WK rfl  ?_
 refine Run.call [0,0,0,0,0] (l := [.tmp 8]) rfl rfl rfl (lt rfl) (own2_c (Hr := [(cD 116 dx d.room (.slice pd d.bs.length cd) ((d.lasts : Nat) : Int) inn),qd,(cL 25 bd dx),[(bb,.cells #[.slice pb bs.length cb] 22 (0,0))]]) (ho.rd 1 rfl) hb.of_nil W) (fun v2 V2 H2 hle hR => ?_)
 obtain ⟨hV,q3,ho4,rfl⟩ := hR; replace hV := hV.symm; subst hV; obtain ⟨p5,k6,rfl⟩ := ho4.form
 refine Run.heapTo (H' := [q3,(cD 116 dx d.room (.slice pd d.bs.length cd) ((d.lasts : Nat) : Int) inn),qd,(cL 25 bd dx),[(bb,.cells #[.slice pb bs.length cb] 22 (0,0))]]) Z<|Run.heapTo (H' := [q3,(cD 116 dx d.room (.slice pd d.bs.length cd) ((d.lasts : Nat) : Int) inn),qd,(cL 25 bd dx),[(bb,.cells #[.slice pb bs.length cb] 22 (0,0))]]) Z<|?_
 refine Ze<|Ex.anyL (KnAll.cons (Kn.at 3 Z) (KnAll.cons (Kn.at 4 Z) (ZK 1 Z)))<|?_
 refine RunL.one (i := 8) WK rfl  ?_
 refine Zv (Y.nilCheck Z)<|Ze<|Ex.anyL (KnAll.cons (Kn.at 3 Z) (KnAll.cons (Kn.at 4 Z) (ZK 1 Z)))<|RunL.pure (i := 9) rfl WK WK WK WK (fun _ _ _ h => h) (lt rfl) (KnAll.cons (Kn.at 3 rfl) (KnAll.cons (Kn.at 4 rfl) (ZK 1 Z))) (fun _ => (Y.fieldAddr rfl Storesa_fo116_1))<|?_
 refine RunL.one (i := 10) WK rfl  ?_
 refine Run.store (s := (cD 116 dx d.room (.slice p5 (d.bs ++ bs).length k6) ((d.lasts : Nat) : Int) inn)) Z Z Storesa_sz22 (i := 1) Z Z (le Z) Z Z<|Ze<|Ex.anyLz Z<|RunL.done WK<|Ex.keepTo (H' := [(cD 116 dx d.room (.slice p5 (d.bs ++ bs).length k6) ((d.lasts : Nat) : Int) inn),q3]) [1,0] Z<|?_
 exact Ex.end0 rfl ⟨rfl,_,_,_,ho4,rfl⟩
theorem sync1_c {V : Vw} {d : Dk} {dx : Nat} {pd : Option Addr} {cd : Nat} {qd : Sg} (hd : d.Ok) (ho : Ow 5 1 (.slice pd d.bs.length cd) d.bs.length (d.bs.map byteV) qd) {inn : Int} {bd : Nat}  : Does Tryz.prog 218 [(pZ bd)] V [(cD 116 dx d.room (.slice pd d.bs.length cd) ((d.lasts : Nat) : Int) inn),qd,(cL 25 bd dx)] (fun _ V' H' => V' = V ∧ ∃ p c q,Ow 5 1 (.slice p (d.bs).length c) (d.bs).length ((d.bs).map byteV) q ∧ H' = [(cD 116 dx d.room (.slice p (d.bs).length c) ((d.bs.length : Nat) : Int) inn),q]) := by
 have hk1 := hd.r1
 have hk2 := hd.r2
 have hk3 := hd.b
 have hk4 := hd.l
 have hk5 := hd.i
 have hk6 := ho.cap
 refine Does.intro Tryz.func218 rfl rfl (le rfl) (fun B => ?_)
 refine Tr.anyL [(bd,.cells #[(pZ dx)] 25 (0,0)),(dx,.cells #[.int .i64 d.room,.slice pd d.bs.length cd,.int .i64 ((d.lasts : Nat) : Int),.int .i64 inn] 116 (0,0))] 8 Storesa_mo<|RunL.take (i := 0) 0 rfl rfl WK WK WK WK (fun _ _ _ h => h) (lt rfl) (KnAll.cons (Kn.at 2 rfl) (ZK 0 Z)) (fun _ => (Y.load rfl Storesa_ts25 Kn.vk1 rfl))<|?_
 refine RunL.take (i := 1) 0 rfl rfl WK WK WK WK (fun _ _ _ h => h) (lt rfl) (KnAll.cons (Kn.at 2 rfl) (ZK 0 Z)) (fun _ => (Y.load rfl Storesa_ts25 Kn.vk1 rfl))<|RunL.pure (i := 2) rfl WK WK WK WK (fun _ _ _ h => h) (lt rfl) (KnAll.cons (Kn.at 2 rfl) (ZK 0 Z)) (fun _ => (Y.nilCheck rfl))<|RunL.pure (i := 3) rfl WK WK WK WK (fun _ _ _ h => h) (lt rfl) (KnAll.cons (Kn.at 2 rfl) (ZK 0 Z)) (fun _ => (Y.fieldAddr rfl Storesa_fo116_1))<|?_
 refine RunL.take (i := 4) 1 rfl rfl WK WK WK WK (fun _ _ _ h => h) (lt rfl) (KnAll.cons (Kn.at 2 rfl) (ZK 0 Z)) (fun _ => (Y.load rfl Storesa_ts22 Kn.vk1 rfl))<|RunL.pure (i := 5) rfl WK WK WK WK (fun _ _ _ h => h) (lt rfl) (KnAll.cons (Kn.at 2 rfl) (ZK 0 Z)) (fun _ => (Y.lenSl rfl Storesa_es22))<|?_
 refine RunL.one (i := 6) WK rfl  ?_
 refine Zv (Y.nilCheck Z)<|Ze<|Ex.anyL (KnAll.cons (Kn.at 2 Z) (ZK 0 Z))<|RunL.pure (i := 7) rfl WK WK WK WK (fun _ _ _ h => h) (lt rfl) (KnAll.cons (Kn.at 2 rfl) (ZK 0 Z)) (fun _ => (Y.fieldAddr rfl Storesa_fo116_2))<|?_
 refine RunL.one (i := 8) WK rfl  ?_
 refine Run.store (s := (cD 116 dx d.room (.slice pd d.bs.length cd) ((d.bs.length : Nat) : Int) inn)) Z Z Storesa_sz3 (i := 0) Z Z (le Z) Z Z<|Ze<|Ex.anyLz Z<|RunL.done WK<|Ex.keepTo (H' := [(cD 116 dx d.room (.slice pd d.bs.length cd) ((d.bs.length : Nat) : Int) inn),qd]) [0,0] Z<|?_
 exact Ex.end0 rfl ⟨rfl,_,_,_,ho,rfl⟩
theorem swap1_c {V : Vw} {d : Dk} {dx : Nat} {pd : Option Addr} {cd : Nat} {qd : Sg} (hd : d.Ok) (ho : Ow 5 1 (.slice pd d.bs.length cd) d.bs.length (d.bs.map byteV) qd) {bs : Bts} {pb : Option Addr} {cb : Nat} (hb : Rd V [] 1 (.slice pb bs.length cb) bs.length (bs.map byteV)) (hbl : bs.length ≤ 1500000) {inn : Int} {bb bd : Nat}  : Does Tryz.prog 220 [(pZ bb),(pZ bd)] V [(cD 116 dx d.room (.slice pd d.bs.length cd) ((d.lasts : Nat) : Int) inn),qd,[(bb,.cells #[.slice pb bs.length cb] 22 (0,0))],(cL 25 bd dx)] (fun _ V' H' => V' = V ∧ ∃ p c q,Ow 5 1 (.slice p (bs).length c) (bs).length ((bs).map byteV) q ∧ H' = [(cD 116 dx d.room (.slice p (bs).length c) ((bs.length : Nat) : Int) inn),q]) := by
 have hk1 := hd.r1
 have hk2 := hd.r2
 have hk3 := hd.b
 have hk4 := hd.l
 have hk5 := hd.i
 have hk6 := ho.cap
 refine Does.intro Tryz.func220 rfl rfl (le rfl) (fun B => ?_)
 refine Tr.anyD [(bb,.cells #[.slice pb bs.length cb] 22 (0,0)),(bd,.cells #[(pZ dx)] 25 (0,0))] Storesa_mo<|RunD.take (i := 0) 1 rfl rfl WK WK WK (fun _ _ _ h => h) (lt rfl) (KnAll.cons (Kn.at 2 rfl) (ZK 3 Z)) (fun _ => (Y.load rfl Storesa_ts25 Kn.vk1 rfl))<|RunD.take (i := 1) 1 rfl rfl WK WK WK (fun _ _ _ h => h) (lt rfl) (KnAll.cons (Kn.at 2 rfl) (ZK 3 Z)) (fun _ => (Y.load rfl Storesa_ts25 Kn.vk1 rfl))<|?_
 refine RunD.take (i := 2) 0 rfl rfl WK WK WK (fun _ _ _ h => h) (lt rfl) (KnAll.cons (Kn.at 2 rfl) (ZK 3 Z)) (fun _ => (Y.load rfl Storesa_ts22 Kn.vk1 rfl))<|RunD.take (i := 5) 0 rfl rfl WK WK WK (fun _ _ _ h => h) (lt rfl) (KnAll.cons (Kn.at 2 rfl) (ZK 3 Z)) (fun _ => (Y.load rfl Storesa_ts22 Kn.vk1 rfl))<|RunD.pure (i := 6) rfl WK WK WK (fun _ _ _ h => h) (lt rfl) (KnAll.cons (Kn.at 2 rfl) (ZK 3 Z)) (fun _ => (Y.lenSl rfl Storesa_es22))<|?_
 refine RunD.one (i := 3) WK rfl  ?_
 refine Run.buildSlice (l := [(0,.tmp 4)]) Storesa_es56 Storesa_zo22 rfl WD rfl rfl WD (lt rfl) (fun b1 => ?_)
 refine Ze<|Ex.anyD (KnAll.cons (Kn.at 3 Z) (ZK 4 Z))<|?_
 refine RunD.one (i := 4) WK rfl  ?_
 refine Run.call [0,0,0,0,0] (l := [.tmp 5]) rfl rfl rfl (lt rfl) (own1_c (Hr := [(cD 116 dx d.room (.slice pd d.bs.length cd) ((d.lasts : Nat) : Int) inn),qd,[(bb,.cells #[.slice pb bs.length cb] 22 (0,0))],(cL 25 bd dx)]) hb.of_nil W) (fun v2 V2 H2 hle hR => ?_)
 obtain ⟨hV,q3,ho4,rfl⟩ := hR; replace hV := hV.symm; subst hV; obtain ⟨p5,k6,rfl⟩ := ho4.form
 refine Run.heapTo (H' := [q3,(cD 116 dx d.room (.slice pd d.bs.length cd) ((d.lasts : Nat) : Int) inn),qd,[(bb,.cells #[.slice pb bs.length cb] 22 (0,0))],(cL 25 bd dx)]) Z<|Run.heapTo (H' := [q3,(cD 116 dx d.room (.slice pd d.bs.length cd) ((d.lasts : Nat) : Int) inn),qd,[(bb,.cells #[.slice pb bs.length cb] 22 (0,0))],(cL 25 bd dx)]) Z<|?_
 refine Ze<|Ex.anyD (KnAll.cons (Kn.at 3 Z) (ZK 4 Z))<|RunD.pure (i := 7) rfl WK WK WK (fun _ _ _ h => h) (lt rfl) (KnAll.cons (Kn.at 3 rfl) (ZK 4 Z)) (fun _ => (Y.nilCheck rfl))<|RunD.pure (i := 8) rfl WK WK WK (fun _ _ _ h => h) (lt rfl) (KnAll.cons (Kn.at 3 rfl) (ZK 4 Z)) (fun _ => (Y.fieldAddr rfl Storesa_fo116_1))<|?_
 refine RunD.one (i := 9) WK rfl  ?_
 refine Run.store (s := (cD 116 dx d.room (.slice p5 (bs).length k6) ((d.lasts : Nat) : Int) inn)) Z Z Storesa_sz22 (i := 1) Z Z (le Z) Z Z<|Ze<|Ex.anyD (KnAll.cons (Kn.at 3 Z) (ZK 4 Z))<|RunD.pure (i := 10) rfl WK WK WK (fun _ _ _ h => h) (lt rfl) (KnAll.cons (Kn.at 3 rfl) (ZK 4 Z)) (fun _ => (Y.nilCheck rfl))<|RunD.pure (i := 11) rfl WK WK WK (fun _ _ _ h => h) (lt rfl) (KnAll.cons (Kn.at 3 rfl) (ZK 4 Z)) (fun _ => (Y.fieldAddr rfl Storesa_fo116_2))<|?_
 refine RunD.one (i := 12) WK rfl  ?_
 refine Run.store (s := (cD 116 dx d.room (.slice p5 (bs).length k6) ((bs.length : Nat) : Int) inn)) Z Z Storesa_sz3 (i := 1) Z Z (le Z) Z Z<|Ze<|Ex.anyD (KnAll.cons (Kn.at 3 Z) (ZK 4 Z))<|RunD.done WK<|Ex.keepTo (H' := [(cD 116 dx d.room (.slice p5 (bs).length k6) ((bs.length : Nat) : Int) inn),q3]) [1,0] Z<|?_
 exact Ex.end0 rfl ⟨rfl,_,_,_,ho4,rfl⟩
theorem change_c {V : Vw} {d : Dk} {dx : Nat} {pd : Option Addr} {cd : Nat} {qd : Sg} {Hc : Hp} {n : Int} {gf : FuncId} {caps : List Value} {R : Int → Value → Vw → Hp → Prop} (hd : d.Ok) (hf : ∀ i : Int,Does Tryz.prog gf caps V ([(cD 116 dx d.room (.slice pd d.bs.length cd) ((d.lasts : Nat) : Int) i),qd] ++ Hc) (R i))  : Does Tryz.prog 63 [(pZ dx),.int .i64 n,.func (.func gf) #[] caps.toArray] V ([(cD 116 dx d.room (.slice pd d.bs.length cd) ((d.lasts : Nat) : Int) d.inn),qd] ++ Hc) (fun v V' H' => (d.inn = 0 ∧ v = .int .i64 7 ∧ V' = V ∧ H' = ([(cD 116 dx d.room (.slice pd d.bs.length cd) ((d.lasts : Nat) : Int) d.inn),qd] ++ Hc)) ∨ (d.inn ≠ 0 ∧ n > d.room ∧ v = .int .i64 3 ∧ V' = V ∧ H' = ([(cD 116 dx d.room (.slice pd d.bs.length cd) ((d.lasts : Nat) : Int) d.dec.inn),qd] ++ Hc)) ∨ (d.inn ≠ 0 ∧ ¬ n > d.room ∧ v = .int .i64 0 ∧ ∃ u,R d.dec.inn u V' H')) := by
 have hk5 := hd.i
 refine Does.intro Tryz.func63 rfl rfl (le rfl) (fun B => ?_)
 refine Zs<|Zr<|Za Z<|Ze<|Zg<|Zs<|Zb<|Zs<|Zr<|Zm Z<|Zv (Y.nilCheck Z)<|Zv (Y.fieldAddr Z Storesa_fo116_3)<|Zv (Y.load Z Storesa_ts3 (Kn.at 0 Z) Z)<|Zv (Y.int Z Z Z)<|Za Z<|Ze<|?_
 refine Zg ?_
 rcases Zsplit (d.inn == 0) with ⟨h1,g1⟩ | ⟨h1,g1⟩ <;> try simp only [kb] at g1
 ·refine Tr.cond_t Z h1<|Zs<|Zr<|Za Z<|Ze<|Zg<|Zu<|Zk<|Zn<|?_
  exact Ex.ret1 rfl rfl  (.inl ⟨by omega,rfl,rfl,rfl⟩)
 ·refine Tr.cond_f Z h1<|Zs<|Zr<|Zm Z<|Zv (Y.nilCheck Z)<|Zv (Y.fieldAddr Z Storesa_fo116_3)<|Zv (Y.load Z Storesa_ts3 (Kn.at 0 Z) Z)<|Zv (Y.int Z Z Z)<|Za Z<|Ze<|Zg<|?_
  rcases Zsplit (decide (d.inn > 0)) with ⟨h2,g2⟩ | ⟨h2,g2⟩ <;> try simp only [kb] at g2
  ·refine Tr.cond_t Z h2<|Zr<|Zm Z<|Zv (Y.nilCheck Z)<|Zv (Y.fieldAddr Z Storesa_fo116_3)<|Zv (Y.load Z Storesa_ts3 (Kn.at 0 Z) Z)<|Zv (Y.sub Z Z W)<|Zv (Y.nilCheck Z)<|Zv (Y.fieldAddr Z Storesa_fo116_3)<|Run.store (s := (cD 116 dx d.room (.slice pd d.bs.length cd) ((d.lasts : Nat) : Int) (d.inn - 1))) Z Z Storesa_sz3 (i := 0) Z Z (le Z) Z Z<|Ze<|Zc<|Zg<|Zs<|Zs<|Zr<|?_
   refine Zm Z<|Zm Z<|Zv (Y.nilCheck Z)<|Zv (Y.fieldAddr Z Storesa_fo116_0)<|Zv (Y.load Z Storesa_ts3 (Kn.at 0 Z) Z)<|Zv (Y.int Z Z Z)<|Ze<|Zg<|?_
   rcases Zsplit (decide (n > d.room)) with ⟨h3,g3⟩ | ⟨h3,g3⟩ <;> try simp only [kb] at g3
   ·refine Tr.cond_t Z h3<|Zs<|Zr<|Za Z<|Ze<|Zg<|Zu<|Zn<|?_
    exact Ex.ret1 rfl rfl  (.inr (.inl ⟨by omega,by omega,rfl,rfl,by rw [Dk.dec_pos W] <;> rfl⟩))
   ·refine Tr.cond_f Z h3<|Zt<|Zg<|Zs<|Zr<|Zm Z<|?_
    refine Run.callW (l := []) rfl rfl rfl (lt rfl) (hf (d.inn - 1)) (fun v9 V9 H9 hle9 hR9 => ?_)
    refine Ze<|Zg<|Zs<|Zr<|Za Z<|Ze<|Zg<|Zu<|?_
    exact Ex.ret1 rfl rfl  (.inr (.inr ⟨by omega,by omega,rfl,v9,by rw [Dk.dec_pos W]; exact hR9⟩))
  ·refine Tr.cond_f Z h2<|Zt<|Zc<|Zg<|Zs<|Zs<|Zr<|Zm Z<|Zm Z<|Zv (Y.nilCheck Z)<|Zv (Y.fieldAddr Z Storesa_fo116_0)<|Zv (Y.load Z Storesa_ts3 (Kn.at 0 Z) Z)<|Zv (Y.int Z Z Z)<|Ze<|Zg<|?_
   rcases Zsplit (decide (n > d.room)) with ⟨h4,g4⟩ | ⟨h4,g4⟩ <;> try simp only [kb] at g4
   ·refine Tr.cond_t Z h4<|Zs<|Zr<|Za Z<|Ze<|Zg<|Zu<|Zn<|?_
    exact Ex.ret1 rfl rfl  (.inr (.inl ⟨by omega,by omega,rfl,rfl,by rw [Dk.dec_neg W] <;> rfl⟩))
   ·refine Tr.cond_f Z h4<|Zt<|Zg<|Zs<|Zr<|Zm Z<|?_
    refine Run.callW (l := []) rfl rfl rfl (lt rfl) (hf d.inn) (fun v9 V9 H9 hle9 hR9 => ?_)
    refine Ze<|Zg<|Zs<|Zr<|Za Z<|Ze<|Zg<|Zu<|?_
    exact Ex.ret1 rfl rfl  (.inr (.inr ⟨by omega,by omega,rfl,v9,by rw [Dk.dec_neg W]; exact hR9⟩))
theorem dappend_c {V : Vw} {d : Dk} {dx : Nat} {pd : Option Addr} {cd : Nat} {qd : Sg} (hd : d.Ok) (ho : Ow 5 1 (.slice pd d.bs.length cd) d.bs.length (d.bs.map byteV) qd) {bs : Bts} {pb : Option Addr} {cb : Nat} (hb : Rd V [] 1 (.slice pb bs.length cb) bs.length (bs.map byteV)) (hbl : bs.length ≤ 1500000)  : Does Tryz.prog 17 [(pZ dx),.slice pb bs.length cb] V [(cD 116 dx d.room (.slice pd d.bs.length cd) ((d.lasts : Nat) : Int) d.inn),qd] (fun v V' H' => V' = V ∧ v = .int .i64 (d.app bs).2 ∧ ∃ s2,Dk.In 116 (d.app bs).1 dx s2 ∧ H' = [s2]) := by
 have hk1 := hd.r1
 have hk2 := hd.r2
 have hk3 := hd.b
 have hk4 := hd.l
 have hk5 := hd.i
 have hk6 := ho.cap
 refine Does.intro Tryz.func17 rfl rfl (le rfl) (fun B => ?_)
 refine Zs<|Zr<|?_
 refine Run.box rfl (lt rfl) (fun b1 => ?_)
 refine Run.box rfl (lt rfl) (fun b2 => ?_)
 refine Za Z<|Ze<|Zg<|Zs<|Tr.tail 10 Storesa_mo WK<|ZV (Y.load Z Storesa_ts25 (Kn.at 1 Z) Z)<|ZV (Y.load Z Storesa_ts25 (Kn.at 1 Z) Z)<|ZV (Y.nilCheck Z)<|ZV (Y.fieldAddr Z Storesa_fo116_1)<|ZV (Y.load Z Storesa_ts22 (Kn.at 2 Z) Z)<|ZV (Y.lenSl Z Storesa_es22)<|ZV (Y.load Z Storesa_ts22 (Kn.at 0 Z) Z)<|ZV (Y.lenSl Z Storesa_es22)<|ZV (Y.add Z Z W)<|ZV (Y.makeFunc (l := []) (l' := [.tmp 2,.tmp 3]) Z Z)<|RunQ.nil_run<|?_
 have hc9 := change_c (V := V) (n := ((d.bs.length : Nat) : Int) + ((bs.length : Nat) : Int)) (gf := 64) (caps := [(pZ b1),(pZ b2)]) (Hc := [(cL 25 b1 dx),[(b2,.cells #[.slice pb bs.length cb] 22 (0,0))]]) hd (fun i => append1_c (V := V) (inn := i) (bd := b1) (bb := b2) hd ho hb hbl)
 simp only [List.cons_append,List.nil_append] at hc9
 refine Run.call [2,2,1,0] (l := [.tmp 5,.tmp 13,.tmp 14]) rfl rfl rfl (lt rfl) hc9 (fun v9 V2 H2 hle hR => ?_)
 rcases hR with ⟨z1,rfl,hV,rfl⟩ | ⟨z1,z2,rfl,hV,rfl⟩ | ⟨z1,z2,rfl,u9,hV,p2,c2,q2,ho2,rfl⟩ <;> (replace hV := hV.symm; subst hV)
 ·refine Run.heapTo (H' := [(cD 116 dx d.room (.slice pd d.bs.length cd) ((d.lasts : Nat) : Int) d.inn),qd,(cL 25 b1 dx),[(b2,.cells #[.slice pb bs.length cb] 22 (0,0))]]) Z<|Za Z<|Ze<|Zg<|Zu<|Ex.keepTo (H' := [(cD 116 dx d.room (.slice pd d.bs.length cd) ((d.lasts : Nat) : Int) d.inn),qd]) [0,0] Z<|?_
  refine Ex.recut (H' := [([(cD 116 dx d.room (.slice pd d.bs.length cd) ((d.lasts : Nat) : Int) d.inn),qd] : Hp).flatten]) (one_piece [(cD 116 dx d.room (.slice pd d.bs.length cd) ((d.lasts : Nat) : Int) d.inn),qd]) ?_
  have e9 : d.app bs = (d,7) := Dk.change_down z1
  have o9 : (d.app bs).1.Ok := hd.app bs
  rw [e9] at o9 ⊢
  exact Ex.ret1 rfl rfl  ⟨rfl,rfl,_,(Dk.in_of o9 ho),rfl⟩
 ·refine Run.heapTo (H' := [(cD 116 dx d.room (.slice pd d.bs.length cd) ((d.lasts : Nat) : Int) d.dec.inn),qd,(cL 25 b1 dx),[(b2,.cells #[.slice pb bs.length cb] 22 (0,0))]]) Z<|Za Z<|Ze<|Zg<|Zu<|Ex.keepTo (H' := [(cD 116 dx d.room (.slice pd d.bs.length cd) ((d.lasts : Nat) : Int) d.dec.inn),qd]) [0,0] Z<|?_
  refine Ex.recut (H' := [([(cD 116 dx d.room (.slice pd d.bs.length cd) ((d.lasts : Nat) : Int) d.dec.inn),qd] : Hp).flatten]) (one_piece [(cD 116 dx d.room (.slice pd d.bs.length cd) ((d.lasts : Nat) : Int) d.dec.inn),qd]) ?_
  have e9 : d.app bs = (d.dec,3) := Dk.change_full z1 z2
  have o9 : (d.app bs).1.Ok := hd.app bs
  rw [e9] at o9 ⊢
  exact Ex.ret1 rfl rfl  ⟨rfl,rfl,_,(Dk.in_of o9 ho),rfl⟩
 ·refine Run.heapTo (H' := [(cD 116 dx d.room (.slice p2 (d.bs ++ bs).length c2) ((d.lasts : Nat) : Int) d.dec.inn),q2]) Z<|Za Z<|Ze<|Zg<|Zu<|Ex.keepTo (H' := [(cD 116 dx d.room (.slice p2 (d.bs ++ bs).length c2) ((d.lasts : Nat) : Int) d.dec.inn),q2]) [0,0] Z<|Ex.recut (H' := [([(cD 116 dx d.room (.slice p2 (d.bs ++ bs).length c2) ((d.lasts : Nat) : Int) d.dec.inn),q2] : Hp).flatten]) (one_piece [(cD 116 dx d.room (.slice p2 (d.bs ++ bs).length c2) ((d.lasts : Nat) : Int) d.dec.inn),q2])<|?_
  have e9 : d.app bs = ({ d.dec with bs := d.dec.bs ++ bs },0) := Dk.change_ok0 z1 z2
  have o9 : (d.app bs).1.Ok := hd.app bs
  rw [e9] at o9 ⊢
  exact Ex.ret1 rfl rfl  ⟨rfl,rfl,_,(Dk.in_of o9 ho2),rfl⟩
theorem dsync_c {V : Vw} {d : Dk} {dx : Nat} {pd : Option Addr} {cd : Nat} {qd : Sg} (hd : d.Ok) (ho : Ow 5 1 (.slice pd d.bs.length cd) d.bs.length (d.bs.map byteV) qd)  : Does Tryz.prog 143 [(pZ dx)] V [(cD 116 dx d.room (.slice pd d.bs.length cd) ((d.lasts : Nat) : Int) d.inn),qd] (fun v V' H' => V' = V ∧ v = .int .i64 (d.sync).2 ∧ ∃ s2,Dk.In 116 (d.sync).1 dx s2 ∧ H' = [s2]) := by
 have hk1 := hd.r1
 have hk2 := hd.r2
 have hk3 := hd.b
 have hk4 := hd.l
 have hk5 := hd.i
 have hk6 := ho.cap
 refine Does.intro Tryz.func143 rfl rfl (le rfl) (fun B => ?_)
 refine Zs<|Zr<|?_
 refine Run.box rfl (lt rfl) (fun b1 => ?_)
 refine Za Z<|Ze<|Zg<|Zs<|Zr<|Zv (Y.load Z Storesa_ts25 (Kn.at 0 Z) Z)<|Zv (Y.makeFunc (l := []) (l' := [.tmp 1]) Z Z)<|?_
 have hc9 := change_c (V := V) (n := 0) (gf := 218) (caps := [(pZ b1)]) (Hc := [(cL 25 b1 dx)]) hd (fun i => sync1_c (V := V) (inn := i) (bd := b1) hd ho)
 simp only [List.cons_append,List.nil_append] at hc9
 refine Run.call [1,1,0] (l := [.tmp 3,.const (.int .i64 0),.tmp 4]) rfl rfl rfl (lt rfl) hc9 (fun v9 V2 H2 hle hR => ?_)
 rcases hR with ⟨z1,rfl,hV,rfl⟩ | ⟨z1,z2,rfl,hV,rfl⟩ | ⟨z1,z2,rfl,u9,hV,p2,c2,q2,ho2,rfl⟩ <;> (replace hV := hV.symm; subst hV)
 ·refine Run.heapTo (H' := [(cD 116 dx d.room (.slice pd d.bs.length cd) ((d.lasts : Nat) : Int) d.inn),qd,(cL 25 b1 dx)]) Z<|Za Z<|Ze<|Zg<|Zu<|Ex.keepTo (H' := [(cD 116 dx d.room (.slice pd d.bs.length cd) ((d.lasts : Nat) : Int) d.inn),qd]) [0,0] Z<|Ex.recut (H' := [([(cD 116 dx d.room (.slice pd d.bs.length cd) ((d.lasts : Nat) : Int) d.inn),qd] : Hp).flatten]) (one_piece [(cD 116 dx d.room (.slice pd d.bs.length cd) ((d.lasts : Nat) : Int) d.inn),qd])<|?_
  have e9 : d.sync = (d,7) := Dk.change_down z1
  have o9 : (d.sync).1.Ok := hd.sync
  rw [e9] at o9 ⊢
  exact Ex.ret1 rfl rfl  ⟨rfl,rfl,_,(Dk.in_of o9 ho),rfl⟩
 ·refine Run.heapTo (H' := [(cD 116 dx d.room (.slice pd d.bs.length cd) ((d.lasts : Nat) : Int) d.dec.inn),qd,(cL 25 b1 dx)]) Z<|Za Z<|Ze<|Zg<|Zu<|Ex.keepTo (H' := [(cD 116 dx d.room (.slice pd d.bs.length cd) ((d.lasts : Nat) : Int) d.dec.inn),qd]) [0,0] Z<|Ex.recut (H' := [([(cD 116 dx d.room (.slice pd d.bs.length cd) ((d.lasts : Nat) : Int) d.dec.inn),qd] : Hp).flatten]) (one_piece [(cD 116 dx d.room (.slice pd d.bs.length cd) ((d.lasts : Nat) : Int) d.dec.inn),qd])<|?_
  have e9 : d.sync = (d.dec,3) := Dk.change_full z1 z2
  have o9 : (d.sync).1.Ok := hd.sync
  rw [e9] at o9 ⊢
  exact Ex.ret1 rfl rfl  ⟨rfl,rfl,_,(Dk.in_of o9 ho),rfl⟩
 ·refine Run.heapTo (H' := [(cD 116 dx d.room (.slice p2 (d.bs).length c2) ((d.bs.length : Nat) : Int) d.dec.inn),q2]) Z<|Za Z<|Ze<|Zg<|Zu<|Ex.keepTo (H' := [(cD 116 dx d.room (.slice p2 (d.bs).length c2) ((d.bs.length : Nat) : Int) d.dec.inn),q2]) [0,0] Z<|Ex.recut (H' := [([(cD 116 dx d.room (.slice p2 (d.bs).length c2) ((d.bs.length : Nat) : Int) d.dec.inn),q2] : Hp).flatten]) (one_piece [(cD 116 dx d.room (.slice p2 (d.bs).length c2) ((d.bs.length : Nat) : Int) d.dec.inn),q2])<|?_
  have e9 : d.sync = ({ d.dec with lasts := d.dec.bs.length },0) := Dk.change_ok0 z1 z2
  have o9 : (d.sync).1.Ok := hd.sync
  rw [e9] at o9 ⊢
  exact Ex.ret1 rfl rfl  ⟨rfl,rfl,_,(Dk.in_of o9 ho2),rfl⟩
theorem dswap_c {V : Vw} {d : Dk} {dx : Nat} {pd : Option Addr} {cd : Nat} {qd : Sg} (hd : d.Ok) (ho : Ow 5 1 (.slice pd d.bs.length cd) d.bs.length (d.bs.map byteV) qd) {bs : Bts} {pb : Option Addr} {cb : Nat} (hb : Rd V [] 1 (.slice pb bs.length cb) bs.length (bs.map byteV)) (hbl : bs.length ≤ 1500000)  : Does Tryz.prog 145 [(pZ dx),.slice pb bs.length cb] V [(cD 116 dx d.room (.slice pd d.bs.length cd) ((d.lasts : Nat) : Int) d.inn),qd] (fun v V' H' => V' = V ∧ v = .int .i64 (d.swap bs).2 ∧ ∃ s2,Dk.In 116 (d.swap bs).1 dx s2 ∧ H' = [s2]) := by
 have hk1 := hd.r1
 have hk2 := hd.r2
 have hk3 := hd.b
 have hk4 := hd.l
 have hk5 := hd.i
 have hk6 := ho.cap
 refine Does.intro Tryz.func145 rfl rfl (le rfl) (fun B => ?_)
 refine Zs<|Zr<|?_
 refine Run.box rfl (lt rfl) (fun b1 => ?_)
 refine Run.box rfl (lt rfl) (fun b2 => ?_)
 refine Za Z<|Ze<|Zg<|Zs<|Zr<|Zv (Y.load Z Storesa_ts25 (Kn.at 1 Z) Z)<|Zv (Y.load Z Storesa_ts22 (Kn.at 0 Z) Z)<|Zv (Y.lenSl Z Storesa_es22)<|Zv (Y.makeFunc (l := []) (l' := [.tmp 3,.tmp 2]) Z Z)<|?_
 have hc9 := change_c (V := V) (n := ((bs.length : Nat) : Int)) (gf := 220) (caps := [(pZ b2),(pZ b1)]) (Hc := [[(b2,.cells #[.slice pb bs.length cb] 22 (0,0))],(cL 25 b1 dx)]) hd (fun i => swap1_c (V := V) (inn := i) (bb := b2) (bd := b1) hd ho hb hbl)
 simp only [List.cons_append,List.nil_append] at hc9
 refine Run.call [2,2,0,0] (l := [.tmp 5,.tmp 7,.tmp 8]) rfl rfl rfl (lt rfl) hc9 (fun v9 V2 H2 hle hR => ?_)
 rcases hR with ⟨z1,rfl,hV,rfl⟩ | ⟨z1,z2,rfl,hV,rfl⟩ | ⟨z1,z2,rfl,u9,hV,p2,c2,q2,ho2,rfl⟩ <;> (replace hV := hV.symm; subst hV)
 ·refine Run.heapTo (H' := [(cD 116 dx d.room (.slice pd d.bs.length cd) ((d.lasts : Nat) : Int) d.inn),qd,[(b2,.cells #[.slice pb bs.length cb] 22 (0,0))],(cL 25 b1 dx)]) Z<|Za Z<|Ze<|Zg<|Zu<|Ex.keepTo (H' := [(cD 116 dx d.room (.slice pd d.bs.length cd) ((d.lasts : Nat) : Int) d.inn),qd]) [0,0] Z<|?_
  refine Ex.recut (H' := [([(cD 116 dx d.room (.slice pd d.bs.length cd) ((d.lasts : Nat) : Int) d.inn),qd] : Hp).flatten]) (one_piece [(cD 116 dx d.room (.slice pd d.bs.length cd) ((d.lasts : Nat) : Int) d.inn),qd]) ?_
  have e9 : d.swap bs = (d,7) := Dk.change_down z1
  have o9 : (d.swap bs).1.Ok := hd.swap bs
  rw [e9] at o9 ⊢
  exact Ex.ret1 rfl rfl  ⟨rfl,rfl,_,(Dk.in_of o9 ho),rfl⟩
 ·refine Run.heapTo (H' := [(cD 116 dx d.room (.slice pd d.bs.length cd) ((d.lasts : Nat) : Int) d.dec.inn),qd,[(b2,.cells #[.slice pb bs.length cb] 22 (0,0))],(cL 25 b1 dx)]) Z<|Za Z<|Ze<|Zg<|Zu<|Ex.keepTo (H' := [(cD 116 dx d.room (.slice pd d.bs.length cd) ((d.lasts : Nat) : Int) d.dec.inn),qd]) [0,0] Z<|?_
  refine Ex.recut (H' := [([(cD 116 dx d.room (.slice pd d.bs.length cd) ((d.lasts : Nat) : Int) d.dec.inn),qd] : Hp).flatten]) (one_piece [(cD 116 dx d.room (.slice pd d.bs.length cd) ((d.lasts : Nat) : Int) d.dec.inn),qd]) ?_
  have e9 : d.swap bs = (d.dec,3) := Dk.change_full z1 z2
  have o9 : (d.swap bs).1.Ok := hd.swap bs
  rw [e9] at o9 ⊢
  exact Ex.ret1 rfl rfl  ⟨rfl,rfl,_,(Dk.in_of o9 ho),rfl⟩
 ·refine Run.heapTo (H' := [(cD 116 dx d.room (.slice p2 (bs).length c2) ((bs.length : Nat) : Int) d.dec.inn),q2]) Z<|Za Z<|Ze<|Zg<|Zu<|Ex.keepTo (H' := [(cD 116 dx d.room (.slice p2 (bs).length c2) ((bs.length : Nat) : Int) d.dec.inn),q2]) [0,0] Z<|Ex.recut (H' := [([(cD 116 dx d.room (.slice p2 (bs).length c2) ((bs.length : Nat) : Int) d.dec.inn),q2] : Hp).flatten]) (one_piece [(cD 116 dx d.room (.slice p2 (bs).length c2) ((bs.length : Nat) : Int) d.dec.inn),q2])<|?_
  have e9 : d.swap bs = ({ d.dec with bs := bs,lasts := bs.length },0) := Dk.change_ok0 z1 z2
  have o9 : (d.swap bs).1.Ok := hd.swap bs
  rw [e9] at o9 ⊢
  exact Ex.ret1 rfl rfl  ⟨rfl,rfl,_,(Dk.in_of o9 ho2),rfl⟩
theorem dread_c {V : Vw} {d : Dk} {dx : Nat} {pd : Option Addr} {cd : Nat} {qd : Sg} (hd : d.Ok) (ho : Ow 5 1 (.slice pd d.bs.length cd) d.bs.length (d.bs.map byteV) qd)  : Does Tryz.prog 25 [(pZ dx)] V [(cD 116 dx d.room (.slice pd d.bs.length cd) ((d.lasts : Nat) : Int) d.inn),qd] (fun v V' H' => V' = V ∧ ∃ q,Ow 5 1 v d.bs.length (d.bs.map byteV) q ∧ H' = [q,([(cD 116 dx d.room (.slice pd d.bs.length cd) ((d.lasts : Nat) : Int) d.inn),qd] : Hp).flatten]) := by
 have hk1 := hd.r1
 have hk2 := hd.r2
 have hk3 := hd.b
 have hk4 := hd.l
 have hk5 := hd.i
 have hk6 := ho.cap
 refine Does.intro Tryz.func25 rfl rfl (le rfl) (fun B => ?_)
 refine Zs<|Zr<|Za Z<|Ze<|Zg<|Zs<|Zr<|Zm Z<|Zv (Y.nilCheck Z)<|Zv (Y.fieldAddr Z Storesa_fo116_1)<|Zv (Y.load Z Storesa_ts22 (Kn.at 0 Z) Z)<|?_
 refine Run.buildSlice (l := [(0,.tmp 6)]) Storesa_es56 Storesa_zo22 rfl WD rfl rfl WD (lt rfl) (fun b1 => ?_)
 refine Run.call [0,0,0] (l := [.tmp 7]) rfl rfl rfl (lt rfl) (own1_c (Hr := [(cD 116 dx d.room (.slice pd d.bs.length cd) ((d.lasts : Nat) : Int) d.inn),qd]) (ho.rd 1 rfl) W) (fun v2 V2 H2 hle hR => ?_)
 obtain ⟨hV,q3,ho4,rfl⟩ := hR; replace hV := hV.symm; subst hV; obtain ⟨p5,k6,rfl⟩ := ho4.form
 refine Run.heapTo (H' := [q3,(cD 116 dx d.room (.slice pd d.bs.length cd) ((d.lasts : Nat) : Int) d.inn),qd]) Z<|Run.heapTo (H' := [q3,(cD 116 dx d.room (.slice pd d.bs.length cd) ((d.lasts : Nat) : Int) d.inn),qd]) Z<|Za Z<|Ze<|Zg<|Zu<|Ex.keepTo (H' := [q3,(cD 116 dx d.room (.slice pd d.bs.length cd) ((d.lasts : Nat) : Int) d.inn),qd]) [0,0,0] Z<|?_
 refine Ex.recut (H' := [q3,([(cD 116 dx d.room (.slice pd d.bs.length cd) ((d.lasts : Nat) : Int) d.inn),qd] : Hp).flatten]) (two_piece _ [(cD 116 dx d.room (.slice pd d.bs.length cd) ((d.lasts : Nat) : Int) d.inn),qd]) ?_
 exact Ex.ret1 rfl rfl  ⟨rfl,_,ho4,rfl⟩
theorem dfail_c {V : Vw} {d : Dk} {dx : Nat} {pd : Option Addr} {cd : Nat} {qd : Sg} (hd : d.Ok) (ho : Ow 5 1 (.slice pd d.bs.length cd) d.bs.length (d.bs.map byteV) qd) {n : Int} (hn : n ≤ 9223372036854775807)  : Does Tryz.prog 80 [(pZ dx),.int .i64 n] V [(cD 116 dx d.room (.slice pd d.bs.length cd) ((d.lasts : Nat) : Int) d.inn),qd] (fun v V' H' => V' = V ∧ ∃ s2,Dk.In 116 (d.fail n) dx s2 ∧ H' = [s2]) := by
 refine Does.intro Tryz.func80 rfl rfl (le rfl) (fun B => ?_)
 refine Zr<|Zm Z<|Zm Z<|Zv (Y.max2 Z Z)<|Zv (Y.nilCheck Z)<|Zv (Y.fieldAddr Z Storesa_fo116_3)<|Run.store (s := (cD 116 dx d.room (.slice pd d.bs.length cd) ((d.lasts : Nat) : Int) (max n (-1)))) Z Z Storesa_sz3 (i := 0) Z Z (le Z) Z Z<|Ze<|Ex.keepTo (H' := [(cD 116 dx d.room (.slice pd d.bs.length cd) ((d.lasts : Nat) : Int) (max n (-1))),qd]) [0,0] Z<|?_
 refine Ex.recut (H' := [([(cD 116 dx d.room (.slice pd d.bs.length cd) ((d.lasts : Nat) : Int) (max n (-1))),qd] : Hp).flatten]) (one_piece [(cD 116 dx d.room (.slice pd d.bs.length cd) ((d.lasts : Nat) : Int) (max n (-1))),qd]) ?_
 exact Ex.end0 rfl ⟨rfl,_,(Dk.in_of (hd.fail hn) ho),rfl⟩
theorem dcrash_c {V : Vw} {d : Dk} {dx : Nat} {pd : Option Addr} {cd : Nat} {qd : Sg} (hd : d.Ok) (ho : Ow 5 1 (.slice pd d.bs.length cd) d.bs.length (d.bs.map byteV) qd) {k : Int}  : Does Tryz.prog 26 [(pZ dx),.int .i64 k] V [(cD 116 dx d.room (.slice pd d.bs.length cd) ((d.lasts : Nat) : Int) d.inn),qd] (fun v V' H' => V' = V ∧ ∃ s2,Dk.In 116 (d.crash k) dx s2 ∧ H' = [s2]) := by
 have hk1 := hd.r1
 have hk2 := hd.r2
 have hk3 := hd.b
 have hk4 := hd.l
 have hk5 := hd.i
 have hk6 := ho.cap
 have hkp := Dk.kept_le hd.l k
 have hkd : d.kept k = d.lasts + (min (max k 0) (((d.bs.length - d.lasts : Nat)) : Int)).toNat := rfl
 have hkt : (d.bs.take (d.kept k)).length = d.kept k := by rw [List.length_take]; omega
 refine Does.intro Tryz.func26 rfl rfl (le rfl) (fun B => ?_)
 refine Zs<|Tr.quiet Storesa_mo WK<|ZM Z<|ZV (Y.max2 Z Z)<|ZM Z<|ZV (Y.nilCheck Z)<|ZV (Y.fieldAddr Z Storesa_fo116_1)<|ZV (Y.load Z Storesa_ts22 (Kn.at 0 Z) Z)<|ZV (Y.lenSl Z Storesa_es22)<|ZM Z<|ZV (Y.nilCheck Z)<|ZV (Y.fieldAddr Z Storesa_fo116_2)<|ZV (Y.load Z Storesa_ts3 (Kn.at 0 Z) Z)<|ZV (Y.sub Z Z W)<|ZV (Y.min2 Z Z)<|ZA Z<|?_
 refine ZE<|Zg<|Zs<|Tr.anyL (cD 116 dx d.room (.slice pd d.bs.length cd) ((d.lasts : Nat) : Int) d.inn) 16 Storesa_mo<|RunL.pure (i := 0) rfl WK WK WK WK (fun _ _ _ h => h) (lt rfl) (ZK 0 Z) (fun _ => (Y.move rfl))<|RunL.pure (i := 1) rfl WK WK WK WK (fun _ _ _ h => h) (lt rfl) (ZK 0 Z) (fun _ => (Y.move rfl))<|?_
 refine RunL.pure (i := 2) rfl WK WK WK WK (fun _ _ _ h => h) (lt rfl) (ZK 0 Z) (fun _ => (Y.nilCheck rfl))<|RunL.pure (i := 3) rfl WK WK WK WK (fun _ _ _ h => h) (lt rfl) (ZK 0 Z) (fun _ => (Y.fieldAddr rfl Storesa_fo116_1))<|RunL.take (i := 4) 0 rfl rfl WK WK WK WK (fun _ _ _ h => h) (lt rfl) (ZK 0 Z) (fun _ => (Y.load rfl Storesa_ts22 Kn.vk1 rfl))<|?_
 refine RunL.pure (i := 5) rfl WK WK WK WK (fun _ _ _ h => h) (lt rfl) (ZK 0 Z) (fun _ => (Y.move rfl))<|RunL.pure (i := 6) rfl WK WK WK WK (fun _ _ _ h => h) (lt rfl) (ZK 0 Z) (fun _ => (Y.nilCheck rfl))<|RunL.pure (i := 7) rfl WK WK WK WK (fun _ _ _ h => h) (lt rfl) (ZK 0 Z) (fun _ => (Y.fieldAddr rfl Storesa_fo116_2))<|?_
 refine RunL.take (i := 8) 0 rfl rfl WK WK WK WK (fun _ _ _ h => h) (lt rfl) (ZK 0 Z) (fun _ => (Y.load rfl Storesa_ts3 Kn.vk1 rfl))<|RunL.pure (i := 9) rfl WK WK WK WK (fun _ _ _ h => h) (lt rfl) (ZK 0 Z) (fun _ => (Y.move rfl))<|RunL.pure (i := 10) rfl WK WK WK WK (fun _ _ _ h => h) (lt rfl) (ZK 0 Z) (fun _ => (Y.int (r := .int .i64 (((d.kept k : Nat) : Int))) rfl rfl (by simp only [intRes]; rw [wrap_i64 W]; exact congrArg (fun z => some (Value.int _ z)) W)))<|?_
 refine RunL.pure (i := 11) rfl WK WK WK WK (fun _ _ _ h => h) (lt rfl) (ZK 0 Z) (fun _ => (Y.slice (l := 0) (m := d.kept k) rfl Storesa_es22 rfl rfl W W)) ?_
 refine RunL.one (i := 12) WK rfl  ?_
 refine Run.buildSlice (l := [(0,.tmp 29)]) Storesa_es56 Storesa_zo22 rfl WD rfl rfl WD (lt rfl) (fun b1 => ?_)
 refine Ze<|Ex.anyL (ZK 1 Z)<|?_
 refine RunL.one (i := 13) WK rfl  ?_
 refine Run.call [0,0,0] (l := [.tmp 30]) rfl rfl rfl (lt rfl) (own1_c (Hr := [(cD 116 dx d.room (.slice pd d.bs.length cd) ((d.lasts : Nat) : Int) d.inn),qd]) ((ho.rd 1 rfl).takeB (d.kept k) W) W) (fun v2 V2 H2 hle hR => ?_)
 obtain ⟨hV,q3,ho4,rfl⟩ := hR; replace hV := hV.symm; subst hV; obtain ⟨p5,k6,rfl⟩ := ho4.form
 refine Run.heapTo (H' := [q3,(cD 116 dx d.room (.slice pd d.bs.length cd) ((d.lasts : Nat) : Int) d.inn),qd]) Z<|Run.heapTo (H' := [q3,(cD 116 dx d.room (.slice pd d.bs.length cd) ((d.lasts : Nat) : Int) d.inn),qd]) Z<|Ze<|Ex.anyL (ZK 1 Z)<|?_
 refine RunL.one (i := 14) WK rfl  ?_
 refine Zv (Y.nilCheck Z)<|Ze<|Ex.anyL (ZK 1 Z)<|RunL.pure (i := 15) rfl WK WK WK WK (fun _ _ _ h => h) (lt rfl) (ZK 1 Z) (fun _ => (Y.fieldAddr rfl Storesa_fo116_1))<|?_
 refine RunL.one (i := 16) WK rfl  ?_
 refine Run.store (s := (cD 116 dx d.room (.slice p5 ((d.bs.take (d.kept k))).length k6) ((d.lasts : Nat) : Int) d.inn)) Z Z Storesa_sz22 (i := 1) Z Z (le Z) Z Z<|Ze<|Ex.anyLz Z<|RunL.done WK<|Zg<|Zr<|Zm Z<|Zm Z<|Zm Z<|Zv (Y.nilCheck Z)<|Zv (Y.fieldAddr Z Storesa_fo116_1)<|Zv (Y.load Z Storesa_ts22 (Kn.at 1 Z) Z)<|Zv (Y.lenSl Z Storesa_es22)<|Zv (Y.nilCheck Z)<|Zv (Y.fieldAddr Z Storesa_fo116_2)<|?_
 refine Run.store (s := (cD 116 dx d.room (.slice p5 ((d.bs.take (d.kept k))).length k6) ((((d.bs.take (d.kept k))).length : Nat) : Int) d.inn)) Z Z Storesa_sz3 (i := 1) Z Z (le Z) Z Z<|Zv (Y.nilCheck Z)<|Zv (Y.fieldAddr Z Storesa_fo116_3)<|Run.store (s := (cD 116 dx d.room (.slice p5 ((d.bs.take (d.kept k))).length k6) ((((d.bs.take (d.kept k))).length : Nat) : Int) (-1))) Z Z Storesa_sz3 (i := 1) Z Z (le Z) Z Z<|?_
 refine Ze<|Ex.keepTo (H' := [(cD 116 dx d.room (.slice p5 ((d.bs.take (d.kept k))).length k6) ((((d.bs.take (d.kept k))).length : Nat) : Int) (-1)),q3]) [1,0] Z<|Ex.recut (H' := [([(cD 116 dx d.room (.slice p5 ((d.bs.take (d.kept k))).length k6) ((((d.bs.take (d.kept k))).length : Nat) : Int) (-1)),q3] : Hp).flatten]) (one_piece [(cD 116 dx d.room (.slice p5 ((d.bs.take (d.kept k))).length k6) ((((d.bs.take (d.kept k))).length : Nat) : Int) (-1)),q3])<|?_
 have o9 := hd.crash k
 exact Ex.end0 rfl ⟨rfl,_,Dk.in_of o9 ho4 (by show _ = (d.bs.take (d.kept k)).length; (first | rfl | (simp [Dk.dec_bs,Dk.dec_room,Dk.dec_lasts] <;> omega) | simp [Dk.dec_bs,Dk.dec_room,Dk.dec_lasts] | omega)) (by show _ = (d.bs.take (d.kept k)).map byteV; (first | rfl | (simp [Dk.dec_bs,Dk.dec_room,Dk.dec_lasts] <;> omega) | simp [Dk.dec_bs,Dk.dec_room,Dk.dec_lasts] | omega)) (by (first | rfl | (simp [Dk.dec_bs,Dk.dec_room,Dk.dec_lasts] <;> omega) | simp [Dk.dec_bs,Dk.dec_room,Dk.dec_lasts] | omega)) (by show _ = ((d.kept k : Nat) : Int); simp <;> omega) (by (first | rfl | (simp [Dk.dec_bs,Dk.dec_room,Dk.dec_lasts] <;> omega) | simp [Dk.dec_bs,Dk.dec_room,Dk.dec_lasts] | omega)),rfl⟩
theorem dnew_c {V : Vw} {room : Int}  : Does Tryz.prog 15 [.int .i64 room] V [] (fun v V' H' => V' = V ∧ ((room < 1 ∨ room > 1048576) ∧ v = .tuple #[.pointer none,.int .i64 1] ∧ H' = [] ∨ ¬ (room < 1 ∨ room > 1048576) ∧ ∃ dx s,v = .tuple #[(pZ dx),.int .i64 0] ∧ Dk.In 116 (Dk.new room) dx s ∧ H' = [s])) := by
 refine Does.intro Tryz.func15 rfl rfl (le rfl) (fun B => ?_)
 refine Zs<|Zr<|Za Z<|Za Z<|Ze<|Zg<|Zs<|Zs<|Zr<|Zm Z<|Zv (Y.int Z Z Z)<|Zm Z<|?_
 rcases Zsplit (decide (room < 1)) with ⟨h1,g1⟩ | ⟨h1,g1⟩ <;> try simp only [kb] at g1
 ·refine Zo h1 Z<|Zo h1 Z<|Zv (Y.pick_t Z h1 Z)<|Ze<|Zg<|Tr.cond_t Z Z<|Zs<|Zr<|Za Z<|Za Z<|Ze<|Zg<|Zu<|Zn<|?_
  exact Ex.ret2 rfl rfl rfl  ⟨rfl,.inl ⟨by omega,rfl,rfl⟩⟩
 ·refine Zp h1<|Zm Z<|Zp h1<|Zv (Y.int Z Z Z)<|Zv (Y.pick_f Z h1 Z)<|Ze<|Zg<|?_
  rcases Zsplit (decide (room > 1048576)) with ⟨h2,g2⟩ | ⟨h2,g2⟩ <;> try simp only [kb] at g2
  ·refine Tr.cond_t Z h2<|Zs<|Zr<|Za Z<|Za Z<|Ze<|Zg<|Zu<|Zn<|?_
   exact Ex.ret2 rfl rfl rfl  ⟨rfl,.inl ⟨by omega,rfl,rfl⟩⟩
  ·refine Tr.cond_f Z h2<|Zt<|Zg<|Zs<|Zr<|Zm Z<|Zv (Y.buildS (l := [(0,.tmp 10),(3,.const (.int .i64 (-1)))]) Storesa_zo116 Storesa_pl116 Z Z)<|?_
   refine Run.box rfl (lt rfl) (fun b3 => ?_)
   refine Za Z<|Za Z<|Ze<|Zg<|Zu<|Ex.recut (H' := [([(cD 116 b3 room (.slice none 0 0) 0 (-1)),[]] : Hp).flatten]) (List.Perm.of_eq Z)<|?_
   exact Ex.ret2 rfl rfl rfl  ⟨rfl,.inr ⟨by omega,b3,_,rfl,Dk.in_of (Dk.new_ok W W) (Ow.nil _ _) rfl rfl rfl rfl rfl,rfl⟩⟩
theorem fails_c {V : Vw} {d : Dk} {dx : Nat} {pd : Option Addr} {cd : Nat} (hd : d.Ok)  : Does Tryz.prog 66 [(pZ dx)] V [(cD 54 dx d.room (.slice pd d.bs.length cd) ((d.lasts : Nat) : Int) d.inn)] (fun v V' H' => V' = V ∧ v = .bool (decide (d.inn = 0)) ∧ H' = [(cD 54 dx d.room (.slice pd d.bs.length cd) ((d.lasts : Nat) : Int) d.dec.inn)]) := by
 have hk5 := hd.i
 refine Does.intro Tryz.func66 rfl rfl (le rfl) (fun B => ?_)
 refine Zs<|Zr<|Za Z<|Ze<|Zg<|Zs<|Zs<|Zr<|Zm Z<|Zv (Y.nilCheck Z)<|Zv (Y.fieldAddr Z Storesa_fo54_3)<|Zv (Y.load Z Storesa_ts3 (Kn.at 0 Z) Z)<|Zv (Y.int Z Z Z)<|Ze<|Zg<|?_
 rcases Zsplit (d.inn == 0) with ⟨h1,g1⟩ | ⟨h1,g1⟩ <;> try simp only [kb] at g1
 ·refine Tr.cond_t Z h1<|Zs<|Zr<|Za Z<|Ze<|Zg<|Zu<|Zn<|?_
  exact Ex.ret1 rfl rfl  ⟨rfl,congrArg Value.bool (decide_eq_true W).symm,by rw [Dk.dec_neg W] <;> rfl⟩
 ·refine Tr.cond_f Z h1<|Zt<|Zg<|Zs<|Zs<|Zr<|Zm Z<|Zv (Y.nilCheck Z)<|Zv (Y.fieldAddr Z Storesa_fo54_3)<|Zv (Y.load Z Storesa_ts3 (Kn.at 0 Z) Z)<|Zv (Y.int Z Z Z)<|Ze<|Zg<|?_
  rcases Zsplit (decide (d.inn > 0)) with ⟨h2,g2⟩ | ⟨h2,g2⟩ <;> try simp only [kb] at g2
  ·refine Tr.cond_t Z h2<|Zr<|Zm Z<|Zv (Y.nilCheck Z)<|Zv (Y.fieldAddr Z Storesa_fo54_3)<|Zv (Y.load Z Storesa_ts3 (Kn.at 0 Z) Z)<|Zv (Y.sub Z Z W)<|Zv (Y.nilCheck Z)<|Zv (Y.fieldAddr Z Storesa_fo54_3)<|Run.store (s := (cD 54 dx d.room (.slice pd d.bs.length cd) ((d.lasts : Nat) : Int) (d.inn - 1))) Z Z Storesa_sz3 (i := 0) Z Z (le Z) Z Z<|Ze<|Zg<|Zs<|Zr<|Za Z<|Ze<|?_
   refine Zg<|Zu<|?_
   exact Ex.ret1 rfl rfl  ⟨rfl,congrArg Value.bool (decide_eq_false W).symm,by rw [Dk.dec_pos W] <;> rfl⟩
  ·refine Tr.cond_f Z h2<|Zt<|Zg<|Zs<|Zr<|Za Z<|Ze<|Zg<|Zu<|?_
   exact Ex.ret1 rfl rfl  ⟨rfl,congrArg Value.bool (decide_eq_false W).symm,by rw [Dk.dec_neg W] <;> rfl⟩
theorem rdappend_c {V : Vw} {d : Dk} {dx : Nat} {pd : Option Addr} {cd : Nat} {qd : Sg} (hd : d.Ok) (ho : Ow 5 1 (.slice pd d.bs.length cd) d.bs.length (d.bs.map byteV) qd) {bs : Bts} {pb : Option Addr} {cb : Nat} (hb : Rd V [] 1 (.slice pb bs.length cb) bs.length (bs.map byteV)) (hbl : bs.length ≤ 1500000)  : Does Tryz.prog 18 [(pZ dx),.slice pb bs.length cb] V [(cD 54 dx d.room (.slice pd d.bs.length cd) ((d.lasts : Nat) : Int) d.inn),qd] (fun v V' H' => V' = V ∧ v = .int .i64 (d.app bs).2 ∧ ∃ s2,Dk.In 54 (d.app bs).1 dx s2 ∧ H' = [s2]) := by
 have hk1 := hd.r1
 have hk2 := hd.r2
 have hk3 := hd.b
 have hk4 := hd.l
 have hk5 := hd.i
 have hk6 := ho.cap
 have hk7 := Dk.dec_room d
 refine Does.intro Tryz.func18 rfl rfl (le rfl) (fun B => ?_)
 refine Zs<|Zr<|Za Z<|Ze<|Zg<|Zs<|Zs<|Zr<|Zm Z<|?_
 refine Run.call [0] (l := [.tmp 5]) rfl rfl rfl (lt rfl) (fails_c hd) (fun v9 V2 H2 hle hR => ?_)
 obtain ⟨hV,rfl,rfl⟩ := hR; replace hV := hV.symm; subst hV
 refine Run.heapTo (H' := [qd,(cD 54 dx d.room (.slice pd d.bs.length cd) ((d.lasts : Nat) : Int) d.dec.inn)]) Z<|Run.heapTo (H' := [qd,(cD 54 dx d.room (.slice pd d.bs.length cd) ((d.lasts : Nat) : Int) d.dec.inn)]) Z<|Ze<|Zg<|?_
 rcases Zsplit (decide (d.inn = 0)) with ⟨h1,g1⟩ | ⟨h1,g1⟩ <;> try simp only [kb] at g1
 ·refine Tr.cond_t Z h1<|Zs<|Zr<|Za Z<|Ze<|Zg<|Zu<|Zn<|Ex.keepTo (H' := [(cD 54 dx d.room (.slice pd d.bs.length cd) ((d.lasts : Nat) : Int) d.dec.inn),qd]) [1,0] Z<|Ex.recut (H' := [([(cD 54 dx d.room (.slice pd d.bs.length cd) ((d.lasts : Nat) : Int) d.dec.inn),qd] : Hp).flatten]) (one_piece [(cD 54 dx d.room (.slice pd d.bs.length cd) ((d.lasts : Nat) : Int) d.dec.inn),qd])<|?_
  have e9 : d.app bs = (d,7) := Dk.change_down W
  have o9 : (d.app bs).1.Ok := hd.app bs
  rw [e9] at o9 ⊢
  have d9 : d.dec = d := Dk.dec_neg W
  exact Ex.ret1 rfl rfl  ⟨rfl,rfl,_,Dk.in_of o9 ho rfl rfl rfl rfl (by rw [d9]),rfl⟩
 ·refine Tr.cond_f Z h1<|Zt<|Zg<|Zs<|Zs<|Tr.quiet Storesa_mo WK<|ZM Z<|ZV (Y.nilCheck Z)<|ZV (Y.fieldAddr Z Storesa_fo54_1)<|ZV (Y.load Z Storesa_ts22 (Kn.at 1 Z) Z)<|ZV (Y.lenSl Z Storesa_es22)<|ZM Z<|ZV (Y.lenSl Z Storesa_es22)<|ZV (Y.add Z Z W)<|ZM Z<|ZV (Y.nilCheck Z)<|?_
  refine ZV (Y.fieldAddr Z Storesa_fo54_0)<|ZV (Y.load Z Storesa_ts3 (Kn.at 1 Z) Z)<|ZV (Y.int Z Z Z)<|ZE<|Zg<|?_
  rcases Zsplit (decide ((((d.bs.length : Nat) : Int) + ((bs.length : Nat) : Int)) > d.room)) with ⟨h2,g2⟩ | ⟨h2,g2⟩ <;> try simp only [kb] at g2
  ·refine Tr.cond_t Z h2<|Zs<|Zr<|Za Z<|Ze<|Zg<|Zu<|Zn<|Ex.keepTo (H' := [(cD 54 dx d.room (.slice pd d.bs.length cd) ((d.lasts : Nat) : Int) d.dec.inn),qd]) [1,0] Z<|Ex.recut (H' := [([(cD 54 dx d.room (.slice pd d.bs.length cd) ((d.lasts : Nat) : Int) d.dec.inn),qd] : Hp).flatten]) (one_piece [(cD 54 dx d.room (.slice pd d.bs.length cd) ((d.lasts : Nat) : Int) d.dec.inn),qd])<|?_
   have e9 : d.app bs = (d.dec,3) := Dk.change_full W W
   have o9 : (d.app bs).1.Ok := hd.app bs
   rw [e9] at o9 ⊢
   exact Ex.ret1 rfl rfl  ⟨rfl,rfl,_,(Dk.in_of o9 ho),rfl⟩
  ·refine Tr.cond_f Z h2<|Zt<|Zg<|Zs<|Zr<|Zm Z<|?_
   refine Run.buildSlice0 Storesa_es22 (lt rfl) (fun b3 => ?_)
   refine Zm Z<|Zv (Y.nilCheck Z)<|Zv (Y.fieldAddr Z Storesa_fo54_1)<|Zv (Y.load Z Storesa_ts22 (Kn.at 2 Z) Z)<|?_
   refine Run.append (n := 0) (m := d.bs.length) (xs := []) (ys := d.bs.map byteV) rfl rfl Storesa_es22 Storesa_zi5 WD (j := 0) rfl (Ow.lit (cur := #[]) rfl WD) (Src.of_rd Storesa_es22 (ho.rd 1 rfl)) W W (all_one_bytes _) (lt rfl) (fun v4 s5 ho6 hf => ?_)
   obtain ⟨p4,c4,rfl⟩ := hf
   refine Zm Z ?_
   refine Run.append (n := 0 + d.bs.length) (m := bs.length) (xs := [] ++ (d.bs.map byteV)) (ys := bs.map byteV) rfl rfl Storesa_es22 Storesa_zi5 WD (j := 0) rfl ho6 (Src.of_rd Storesa_es22 hb.of_nil) W W (all_one_bytes _) (lt rfl) (fun v7 s8 ho9 hf => ?_)
   obtain ⟨p7,c7,rfl⟩ := hf
   refine Zv (Y.nilCheck Z)<|Zv (Y.fieldAddr Z Storesa_fo54_1)<|Run.store (s := (cD 54 dx d.room (.slice p7 (0 + d.bs.length + bs.length) c7) ((d.lasts : Nat) : Int) d.dec.inn)) Z Z Storesa_sz22 (i := 2) Z Z (le Z) Z Z<|Ze<|Zg<|Zs<|Zr<|Za Z<|Ze<|Zg<|Zu<|Ex.keepTo (H' := [(cD 54 dx d.room (.slice p7 (0 + d.bs.length + bs.length) c7) ((d.lasts : Nat) : Int) d.dec.inn),s8]) [2,0] Z<|?_
   refine Ex.recut (H' := [([(cD 54 dx d.room (.slice p7 (0 + d.bs.length + bs.length) c7) ((d.lasts : Nat) : Int) d.dec.inn),s8] : Hp).flatten]) (one_piece [(cD 54 dx d.room (.slice p7 (0 + d.bs.length + bs.length) c7) ((d.lasts : Nat) : Int) d.dec.inn),s8]) ?_
   have e9 : d.app bs = ({ d.dec with bs := d.dec.bs ++ bs },0) := Dk.change_ok0 W W
   have o9 : (d.app bs).1.Ok := hd.app bs
   rw [e9] at o9 ⊢
   exact Ex.ret1 rfl rfl  ⟨rfl,rfl,_,(Dk.in_of o9 ho9),rfl⟩
theorem rdsync_c {V : Vw} {d : Dk} {dx : Nat} {pd : Option Addr} {cd : Nat} {qd : Sg} (hd : d.Ok) (ho : Ow 5 1 (.slice pd d.bs.length cd) d.bs.length (d.bs.map byteV) qd)  : Does Tryz.prog 156 [(pZ dx)] V [(cD 54 dx d.room (.slice pd d.bs.length cd) ((d.lasts : Nat) : Int) d.inn),qd] (fun v V' H' => V' = V ∧ v = .int .i64 (d.sync).2 ∧ ∃ s2,Dk.In 54 (d.sync).1 dx s2 ∧ H' = [s2]) := by
 have hk1 := hd.r1
 have hk2 := hd.r2
 have hk3 := hd.b
 have hk4 := hd.l
 have hk5 := hd.i
 have hk6 := ho.cap
 have hk7 := Dk.dec_room d
 refine Does.intro Tryz.func156 rfl rfl (le rfl) (fun B => ?_)
 refine Zs<|Zr<|Za Z<|Ze<|Zg<|Zs<|Zs<|Zr<|Zm Z<|?_
 refine Run.call [0] (l := [.tmp 3]) rfl rfl rfl (lt rfl) (fails_c hd) (fun v9 V2 H2 hle hR => ?_)
 obtain ⟨hV,rfl,rfl⟩ := hR; replace hV := hV.symm; subst hV
 refine Run.heapTo (H' := [qd,(cD 54 dx d.room (.slice pd d.bs.length cd) ((d.lasts : Nat) : Int) d.dec.inn)]) Z<|Run.heapTo (H' := [qd,(cD 54 dx d.room (.slice pd d.bs.length cd) ((d.lasts : Nat) : Int) d.dec.inn)]) Z<|Ze<|Zg<|?_
 rcases Zsplit (decide (d.inn = 0)) with ⟨h1,g1⟩ | ⟨h1,g1⟩ <;> try simp only [kb] at g1
 ·refine Tr.cond_t Z h1<|Zs<|Zr<|Za Z<|Ze<|Zg<|Zu<|Zn<|Ex.keepTo (H' := [(cD 54 dx d.room (.slice pd d.bs.length cd) ((d.lasts : Nat) : Int) d.dec.inn),qd]) [1,0] Z<|Ex.recut (H' := [([(cD 54 dx d.room (.slice pd d.bs.length cd) ((d.lasts : Nat) : Int) d.dec.inn),qd] : Hp).flatten]) (one_piece [(cD 54 dx d.room (.slice pd d.bs.length cd) ((d.lasts : Nat) : Int) d.dec.inn),qd])<|?_
  have e9 : d.sync = (d,7) := Dk.change_down W
  have o9 : (d.sync).1.Ok := hd.sync
  rw [e9] at o9 ⊢
  have d9 : d.dec = d := Dk.dec_neg W
  exact Ex.ret1 rfl rfl  ⟨rfl,rfl,_,Dk.in_of o9 ho rfl rfl rfl rfl (by rw [d9]),rfl⟩
 ·refine Tr.cond_f Z h1<|Zt<|Zg<|Zs<|Zr<|Zm Z<|Zm Z<|Zv (Y.nilCheck Z)<|Zv (Y.fieldAddr Z Storesa_fo54_1)<|Zv (Y.load Z Storesa_ts22 (Kn.at 1 Z) Z)<|Zv (Y.lenSl Z Storesa_es22)<|Zv (Y.nilCheck Z)<|Zv (Y.fieldAddr Z Storesa_fo54_2)<|Run.store (s := (cD 54 dx d.room (.slice pd d.bs.length cd) ((d.bs.length : Nat) : Int) d.dec.inn)) Z Z Storesa_sz3 (i := 1) Z Z (le Z) Z Z<|Ze<|Zg<|?_
  refine Zs<|Zr<|Za Z<|Ze<|Zg<|Zu<|Ex.keepTo (H' := [(cD 54 dx d.room (.slice pd d.bs.length cd) ((d.bs.length : Nat) : Int) d.dec.inn),qd]) [1,0] Z<|Ex.recut (H' := [([(cD 54 dx d.room (.slice pd d.bs.length cd) ((d.bs.length : Nat) : Int) d.dec.inn),qd] : Hp).flatten]) (one_piece [(cD 54 dx d.room (.slice pd d.bs.length cd) ((d.bs.length : Nat) : Int) d.dec.inn),qd])<|?_
  have e9 : d.sync = ({ d.dec with lasts := d.dec.bs.length },0) := Dk.change_ok0 W W
  have o9 : (d.sync).1.Ok := hd.sync
  rw [e9] at o9 ⊢
  exact Ex.ret1 rfl rfl  ⟨rfl,rfl,_,(Dk.in_of o9 ho),rfl⟩
theorem rdswap_c {V : Vw} {d : Dk} {dx : Nat} {pd : Option Addr} {cd : Nat} {qd : Sg} (hd : d.Ok) (ho : Ow 5 1 (.slice pd d.bs.length cd) d.bs.length (d.bs.map byteV) qd) {bs : Bts} {pb : Option Addr} {cb : Nat} (hb : Rd V [] 1 (.slice pb bs.length cb) bs.length (bs.map byteV)) (hbl : bs.length ≤ 1500000)  : Does Tryz.prog 150 [(pZ dx),.slice pb bs.length cb] V [(cD 54 dx d.room (.slice pd d.bs.length cd) ((d.lasts : Nat) : Int) d.inn),qd] (fun v V' H' => V' = V ∧ v = .int .i64 (d.swap bs).2 ∧ ∃ s2,Dk.In 54 (d.swap bs).1 dx s2 ∧ H' = [s2]) := by
 have hk1 := hd.r1
 have hk2 := hd.r2
 have hk3 := hd.b
 have hk4 := hd.l
 have hk5 := hd.i
 have hk6 := ho.cap
 have hk7 := Dk.dec_room d
 refine Does.intro Tryz.func150 rfl rfl (le rfl) (fun B => ?_)
 refine Zs<|Zr<|Za Z<|Ze<|Zg<|Zs<|Zs<|Zr<|Zm Z<|?_
 refine Run.call [0] (l := [.tmp 5]) rfl rfl rfl (lt rfl) (fails_c hd) (fun v9 V2 H2 hle hR => ?_)
 obtain ⟨hV,rfl,rfl⟩ := hR; replace hV := hV.symm; subst hV
 refine Run.heapTo (H' := [qd,(cD 54 dx d.room (.slice pd d.bs.length cd) ((d.lasts : Nat) : Int) d.dec.inn)]) Z<|Run.heapTo (H' := [qd,(cD 54 dx d.room (.slice pd d.bs.length cd) ((d.lasts : Nat) : Int) d.dec.inn)]) Z<|Ze<|Zg<|?_
 rcases Zsplit (decide (d.inn = 0)) with ⟨h1,g1⟩ | ⟨h1,g1⟩ <;> try simp only [kb] at g1
 ·refine Tr.cond_t Z h1<|Zs<|Zr<|Za Z<|Ze<|Zg<|Zu<|Zn<|Ex.keepTo (H' := [(cD 54 dx d.room (.slice pd d.bs.length cd) ((d.lasts : Nat) : Int) d.dec.inn),qd]) [1,0] Z<|Ex.recut (H' := [([(cD 54 dx d.room (.slice pd d.bs.length cd) ((d.lasts : Nat) : Int) d.dec.inn),qd] : Hp).flatten]) (one_piece [(cD 54 dx d.room (.slice pd d.bs.length cd) ((d.lasts : Nat) : Int) d.dec.inn),qd])<|?_
  have e9 : d.swap bs = (d,7) := Dk.change_down W
  have o9 : (d.swap bs).1.Ok := hd.swap bs
  rw [e9] at o9 ⊢
  have d9 : d.dec = d := Dk.dec_neg W
  exact Ex.ret1 rfl rfl  ⟨rfl,rfl,_,Dk.in_of o9 ho rfl rfl rfl rfl (by rw [d9]),rfl⟩
 ·refine Tr.cond_f Z h1<|Zt<|Zg<|Zs<|Zs<|Zr<|Zm Z<|Zv (Y.lenSl Z Storesa_es22)<|Zm Z<|Zv (Y.nilCheck Z)<|Zv (Y.fieldAddr Z Storesa_fo54_0)<|Zv (Y.load Z Storesa_ts3 (Kn.at 1 Z) Z)<|Zv (Y.int Z Z Z)<|Ze<|Zg<|?_
  rcases Zsplit (decide (((bs.length : Nat) : Int) > d.room)) with ⟨h2,g2⟩ | ⟨h2,g2⟩ <;> try simp only [kb] at g2
  ·refine Tr.cond_t Z h2<|Zs<|Zr<|Za Z<|Ze<|Zg<|Zu<|Zn<|Ex.keepTo (H' := [(cD 54 dx d.room (.slice pd d.bs.length cd) ((d.lasts : Nat) : Int) d.dec.inn),qd]) [1,0] Z<|Ex.recut (H' := [([(cD 54 dx d.room (.slice pd d.bs.length cd) ((d.lasts : Nat) : Int) d.dec.inn),qd] : Hp).flatten]) (one_piece [(cD 54 dx d.room (.slice pd d.bs.length cd) ((d.lasts : Nat) : Int) d.dec.inn),qd])<|?_
   have e9 : d.swap bs = (d.dec,3) := Dk.change_full W W
   have o9 : (d.swap bs).1.Ok := hd.swap bs
   rw [e9] at o9 ⊢
   exact Ex.ret1 rfl rfl  ⟨rfl,rfl,_,(Dk.in_of o9 ho),rfl⟩
  ·refine Tr.cond_f Z h2<|Zt<|Zg<|Zs<|Zr<|Zm Z<|?_
   refine Run.buildSlice0 Storesa_es22 (lt rfl) (fun b3 => ?_)
   refine Zm Z ?_
   refine Run.append (n := 0) (m := bs.length) (xs := []) (ys := bs.map byteV) rfl rfl Storesa_es22 Storesa_zi5 WD (j := 0) rfl (Ow.lit (cur := #[]) rfl WD) (Src.of_rd Storesa_es22 hb.of_nil) W W (all_one_bytes _) (lt rfl) (fun v4 s5 ho6 hf => ?_)
   obtain ⟨p4,c4,rfl⟩ := hf
   refine Zv (Y.nilCheck Z)<|Zv (Y.fieldAddr Z Storesa_fo54_1)<|Run.store (s := (cD 54 dx d.room (.slice p4 (0 + bs.length) c4) ((d.lasts : Nat) : Int) d.dec.inn)) Z Z Storesa_sz22 (i := 2) Z Z (le Z) Z Z<|Ze<|Zg<|Zs<|Zr<|Zm Z<|Zm Z<|Zv (Y.lenSl Z Storesa_es22)<|Zv (Y.nilCheck Z)<|Zv (Y.fieldAddr Z Storesa_fo54_2)<|Run.store (s := (cD 54 dx d.room (.slice p4 (0 + bs.length) c4) ((bs.length : Nat) : Int) d.dec.inn)) Z Z Storesa_sz3 (i := 2) Z Z (le Z) Z Z<|?_
   refine Ze<|Zg<|Zs<|Zr<|Za Z<|Ze<|Zg<|Zu<|Ex.keepTo (H' := [(cD 54 dx d.room (.slice p4 (0 + bs.length) c4) ((bs.length : Nat) : Int) d.dec.inn),s5]) [2,0] Z<|Ex.recut (H' := [([(cD 54 dx d.room (.slice p4 (0 + bs.length) c4) ((bs.length : Nat) : Int) d.dec.inn),s5] : Hp).flatten]) (one_piece [(cD 54 dx d.room (.slice p4 (0 + bs.length) c4) ((bs.length : Nat) : Int) d.dec.inn),s5])<|?_
   have e9 : d.swap bs = ({ d.dec with bs := bs,lasts := bs.length },0) := Dk.change_ok0 W W
   have o9 : (d.swap bs).1.Ok := hd.swap bs
   rw [e9] at o9 ⊢
   exact Ex.ret1 rfl rfl  ⟨rfl,rfl,_,(Dk.in_of o9 ho6),rfl⟩
theorem rdfail_c {V : Vw} {d : Dk} {dx : Nat} {pd : Option Addr} {cd : Nat} {qd : Sg} (hd : d.Ok) (ho : Ow 5 1 (.slice pd d.bs.length cd) d.bs.length (d.bs.map byteV) qd) {n : Int} (hn : n ≤ 9223372036854775807)  : Does Tryz.prog 81 [(pZ dx),.int .i64 n] V [(cD 54 dx d.room (.slice pd d.bs.length cd) ((d.lasts : Nat) : Int) d.inn),qd] (fun v V' H' => V' = V ∧ ∃ s2,Dk.In 54 (d.fail n) dx s2 ∧ H' = [s2]) := by
 refine Does.intro Tryz.func81 rfl rfl (le rfl) (fun B => ?_)
 refine Zr<|Zm Z<|Zm Z<|Zv (Y.max2 Z Z)<|Zv (Y.nilCheck Z)<|Zv (Y.fieldAddr Z Storesa_fo54_3)<|Run.store (s := (cD 54 dx d.room (.slice pd d.bs.length cd) ((d.lasts : Nat) : Int) (max n (-1)))) Z Z Storesa_sz3 (i := 0) Z Z (le Z) Z Z<|Ze<|Ex.keepTo (H' := [(cD 54 dx d.room (.slice pd d.bs.length cd) ((d.lasts : Nat) : Int) (max n (-1))),qd]) [0,0] Z<|?_
 refine Ex.recut (H' := [([(cD 54 dx d.room (.slice pd d.bs.length cd) ((d.lasts : Nat) : Int) (max n (-1))),qd] : Hp).flatten]) (one_piece [(cD 54 dx d.room (.slice pd d.bs.length cd) ((d.lasts : Nat) : Int) (max n (-1))),qd]) ?_
 exact Ex.end0 rfl ⟨rfl,_,(Dk.in_of (hd.fail hn) ho),rfl⟩
theorem rdcrash_c {V : Vw} {d : Dk} {dx : Nat} {pd : Option Addr} {cd : Nat} {qd : Sg} (hd : d.Ok) (ho : Ow 5 1 (.slice pd d.bs.length cd) d.bs.length (d.bs.map byteV) qd) {k : Int}  : Does Tryz.prog 82 [(pZ dx),.int .i64 k] V [(cD 54 dx d.room (.slice pd d.bs.length cd) ((d.lasts : Nat) : Int) d.inn),qd] (fun v V' H' => V' = V ∧ ∃ s2,Dk.In 54 (d.crash k) dx s2 ∧ H' = [s2]) := by
 have hk1 := hd.r1
 have hk2 := hd.r2
 have hk3 := hd.b
 have hk4 := hd.l
 have hk5 := hd.i
 have hk6 := ho.cap
 have hkp := Dk.kept_le hd.l k
 have hkd : d.kept k = d.lasts + (min (max k 0) (((d.bs.length - d.lasts : Nat)) : Int)).toNat := rfl
 have hkt : (d.bs.take (d.kept k)).length = d.kept k := by rw [List.length_take]; omega
 refine Does.intro Tryz.func82 rfl rfl (le rfl) (fun B => ?_)
 refine Zs<|Tr.quiet Storesa_mo WK<|ZM Z<|ZV (Y.max2 Z Z)<|ZM Z<|ZV (Y.nilCheck Z)<|ZV (Y.fieldAddr Z Storesa_fo54_1)<|ZV (Y.load Z Storesa_ts22 (Kn.at 0 Z) Z)<|ZV (Y.lenSl Z Storesa_es22)<|ZM Z<|ZV (Y.nilCheck Z)<|ZV (Y.fieldAddr Z Storesa_fo54_2)<|ZV (Y.load Z Storesa_ts3 (Kn.at 0 Z) Z)<|ZV (Y.sub Z Z W)<|ZV (Y.min2 Z Z)<|ZA Z<|?_
 refine ZE<|Zg<|Zs<|Tr.anyL (cD 54 dx d.room (.slice pd d.bs.length cd) ((d.lasts : Nat) : Int) d.inn) 16 Storesa_mo<|RunL.pure (i := 0) rfl WK WK WK WK (fun _ _ _ h => h) (lt rfl) (ZK 0 Z) (fun _ => (Y.move rfl))<|RunL.pure (i := 2) rfl WK WK WK WK (fun _ _ _ h => h) (lt rfl) (ZK 0 Z) (fun _ => (Y.move rfl))<|?_
 refine RunL.pure (i := 3) rfl WK WK WK WK (fun _ _ _ h => h) (lt rfl) (ZK 0 Z) (fun _ => (Y.nilCheck rfl))<|RunL.pure (i := 4) rfl WK WK WK WK (fun _ _ _ h => h) (lt rfl) (ZK 0 Z) (fun _ => (Y.fieldAddr rfl Storesa_fo54_1))<|RunL.take (i := 5) 0 rfl rfl WK WK WK WK (fun _ _ _ h => h) (lt rfl) (ZK 0 Z) (fun _ => (Y.load rfl Storesa_ts22 Kn.vk1 rfl))<|?_
 refine RunL.pure (i := 6) rfl WK WK WK WK (fun _ _ _ h => h) (lt rfl) (ZK 0 Z) (fun _ => (Y.move rfl))<|RunL.pure (i := 7) rfl WK WK WK WK (fun _ _ _ h => h) (lt rfl) (ZK 0 Z) (fun _ => (Y.nilCheck rfl))<|RunL.pure (i := 8) rfl WK WK WK WK (fun _ _ _ h => h) (lt rfl) (ZK 0 Z) (fun _ => (Y.fieldAddr rfl Storesa_fo54_2))<|?_
 refine RunL.take (i := 9) 0 rfl rfl WK WK WK WK (fun _ _ _ h => h) (lt rfl) (ZK 0 Z) (fun _ => (Y.load rfl Storesa_ts3 Kn.vk1 rfl))<|RunL.pure (i := 10) rfl WK WK WK WK (fun _ _ _ h => h) (lt rfl) (ZK 0 Z) (fun _ => (Y.move rfl))<|RunL.pure (i := 11) rfl WK WK WK WK (fun _ _ _ h => h) (lt rfl) (ZK 0 Z) (fun _ => (Y.int (r := .int .i64 (((d.kept k : Nat) : Int))) rfl rfl (by simp only [intRes]; rw [wrap_i64 W]; exact congrArg (fun z => some (Value.int _ z)) W)))<|?_
 refine RunL.pure (i := 12) rfl WK WK WK WK (fun _ _ _ h => h) (lt rfl) (ZK 0 Z) (fun _ => (Y.slice (l := 0) (m := d.kept k) rfl Storesa_es22 rfl rfl W W)) ?_
 refine RunL.one (i := 1) WK rfl  ?_
 refine Run.buildSlice0 Storesa_es22 (lt rfl) (fun b1 => ?_)
 refine Ze<|Ex.anyL (ZK 1 Z)<|?_
 refine RunL.one (i := 13) WK rfl  ?_
 refine Run.append (n := 0) (m := d.kept k - 0) (xs := []) (ys := (d.bs.take (d.kept k)).map byteV) rfl rfl Storesa_es22 Storesa_zi5 WD (j := 0) rfl (Ow.lit (cur := #[]) rfl WD) (Src.of_rd Storesa_es22 ((ho.rd 2 rfl).takeB (d.kept k) W)) W W (all_one_bytes _) (lt rfl) (fun v2 s3 ho4 hf => ?_)
 obtain ⟨p2,c2,rfl⟩ := hf
 refine Ze<|Ex.anyL (ZK 1 Z)<|?_
 refine RunL.one (i := 14) WK rfl  ?_
 refine Zv (Y.nilCheck Z)<|Ze<|Ex.anyL (ZK 1 Z)<|RunL.pure (i := 15) rfl WK WK WK WK (fun _ _ _ h => h) (lt rfl) (ZK 1 Z) (fun _ => (Y.fieldAddr rfl Storesa_fo54_1))<|?_
 refine RunL.one (i := 16) WK rfl  ?_
 refine Run.store (s := (cD 54 dx d.room (.slice p2 (0 + d.kept k - 0) c2) ((d.lasts : Nat) : Int) d.inn)) Z Z Storesa_sz22 (i := 1) Z Z (le Z) Z Z<|Ze<|Ex.anyLz Z<|RunL.done WK<|Zg<|Zs<|Zr<|Zm Z<|Zm Z<|Zv (Y.nilCheck Z)<|Zv (Y.fieldAddr Z Storesa_fo54_1)<|Zv (Y.load Z Storesa_ts22 (Kn.at 1 Z) Z)<|Zv (Y.lenSl Z Storesa_es22)<|Zv (Y.nilCheck Z)<|Zv (Y.fieldAddr Z Storesa_fo54_2)<|?_
 refine Run.store (s := (cD 54 dx d.room (.slice p2 (0 + d.kept k - 0) c2) (((0 + d.kept k - 0) : Nat) : Int) d.inn)) Z Z Storesa_sz3 (i := 1) Z Z (le Z) Z Z<|Ze<|Zg<|Zr<|Zm Z<|Zv (Y.nilCheck Z)<|Zv (Y.fieldAddr Z Storesa_fo54_3)<|Run.store (s := (cD 54 dx d.room (.slice p2 (0 + d.kept k - 0) c2) (((0 + d.kept k - 0) : Nat) : Int) (-1))) Z Z Storesa_sz3 (i := 1) Z Z (le Z) Z Z<|?_
 refine Ze<|Ex.keepTo (H' := [(cD 54 dx d.room (.slice p2 (0 + d.kept k - 0) c2) (((0 + d.kept k - 0) : Nat) : Int) (-1)),s3]) [1,0] Z<|Ex.recut (H' := [([(cD 54 dx d.room (.slice p2 (0 + d.kept k - 0) c2) (((0 + d.kept k - 0) : Nat) : Int) (-1)),s3] : Hp).flatten]) (one_piece [(cD 54 dx d.room (.slice p2 (0 + d.kept k - 0) c2) (((0 + d.kept k - 0) : Nat) : Int) (-1)),s3])<|?_
 have o9 := hd.crash k
 exact Ex.end0 rfl ⟨rfl,_,Dk.in_of o9 ho4 (by show _ = (d.bs.take (d.kept k)).length; (first | rfl | (simp [Dk.dec_bs,Dk.dec_room,Dk.dec_lasts] <;> omega) | simp [Dk.dec_bs,Dk.dec_room,Dk.dec_lasts] | omega)) (by show _ = (d.bs.take (d.kept k)).map byteV; (first | rfl | (simp [Dk.dec_bs,Dk.dec_room,Dk.dec_lasts] <;> omega) | simp [Dk.dec_bs,Dk.dec_room,Dk.dec_lasts] | omega)) (by (first | rfl | (simp [Dk.dec_bs,Dk.dec_room,Dk.dec_lasts] <;> omega) | simp [Dk.dec_bs,Dk.dec_room,Dk.dec_lasts] | omega)) (by show _ = ((d.kept k : Nat) : Int); simp <;> omega) (by (first | rfl | (simp [Dk.dec_bs,Dk.dec_room,Dk.dec_lasts] <;> omega) | simp [Dk.dec_bs,Dk.dec_room,Dk.dec_lasts] | omega)),rfl⟩
theorem rdnew_c {V : Vw} {room : Int}  : Does Tryz.prog 16 [.int .i64 room] V [] (fun v V' H' => V' = V ∧ ((room < 1 ∨ room > 1048576) ∧ v = .tuple #[.pointer none,.int .i64 1] ∧ H' = [] ∨ ¬ (room < 1 ∨ room > 1048576) ∧ ∃ dx s,v = .tuple #[(pZ dx),.int .i64 0] ∧ Dk.In 54 (Dk.new room) dx s ∧ H' = [s])) := by
 refine Does.intro Tryz.func16 rfl rfl (le rfl) (fun B => ?_)
 refine Zs<|Zr<|Za Z<|Za Z<|Ze<|Zg<|Zs<|Zs<|Zr<|Zm Z<|Zv (Y.int Z Z Z)<|Zm Z<|?_
 rcases Zsplit (decide (room < 1)) with ⟨h1,g1⟩ | ⟨h1,g1⟩ <;> try simp only [kb] at g1
 ·refine Zo h1 Z<|Zo h1 Z<|Zv (Y.pick_t Z h1 Z)<|Ze<|Zg<|Tr.cond_t Z Z<|Zs<|Zr<|Za Z<|Za Z<|Ze<|Zg<|Zu<|Zn<|?_
  exact Ex.ret2 rfl rfl rfl  ⟨rfl,.inl ⟨by omega,rfl,rfl⟩⟩
 ·refine Zp h1<|Zm Z<|Zp h1<|Zv (Y.int Z Z Z)<|Zv (Y.pick_f Z h1 Z)<|Ze<|Zg<|?_
  rcases Zsplit (decide (room > 1048576)) with ⟨h2,g2⟩ | ⟨h2,g2⟩ <;> try simp only [kb] at g2
  ·refine Tr.cond_t Z h2<|Zs<|Zr<|Za Z<|Za Z<|Ze<|Zg<|Zu<|Zn<|?_
   exact Ex.ret2 rfl rfl rfl  ⟨rfl,.inl ⟨by omega,rfl,rfl⟩⟩
  ·refine Tr.cond_f Z h2<|Zt<|Zg<|Zs<|Zr<|Zm Z<|Zv (Y.buildS (l := [(0,.tmp 10),(3,.const (.int .i64 (-1)))]) Storesa_zo54 Storesa_pl54 Z Z)<|?_
   refine Run.box rfl (lt rfl) (fun b3 => ?_)
   refine Za Z<|Za Z<|Ze<|Zg<|Zu<|Ex.recut (H' := [([(cD 54 b3 room (.slice none 0 0) 0 (-1)),[]] : Hp).flatten]) (List.Perm.of_eq Z)<|?_
   exact Ex.ret2 rfl rfl rfl  ⟨rfl,.inr ⟨by omega,b3,_,rfl,Dk.in_of (Dk.new_ok W W) (Ow.nil _ _) rfl rfl rfl rfl rfl,rfl⟩⟩
theorem dappend_o {V : Vw} {d : Dk} {dx : Nat} {s : Sg} (hin : Dk.In 116 d dx s) {bs : Bts} {vb : Value} (hb : Rd V [] 1 vb bs.length (bs.map byteV)) (hbl : bs.length ≤ 1500000) : Does Tryz.prog 17 [(pZ dx),vb] V [s] (fun v V' H' => V' = V ∧ v = .int .i64 (d.app bs).2 ∧ ∃ s2,Dk.In 116 (d.app bs).1 dx s2 ∧ H' = [s2]) := by
  obtain ⟨hd,pd,cd,qd,ho,rfl⟩ := hin
  obtain ⟨pb,cb,rfl,_⟩ := hb.form
  exact (dappend_c hd ho hb hbl).one
theorem dswap_o {V : Vw} {d : Dk} {dx : Nat} {s : Sg} (hin : Dk.In 116 d dx s) {bs : Bts} {vb : Value} (hb : Rd V [] 1 vb bs.length (bs.map byteV)) (hbl : bs.length ≤ 1500000) : Does Tryz.prog 145 [(pZ dx),vb] V [s] (fun v V' H' => V' = V ∧ v = .int .i64 (d.swap bs).2 ∧ ∃ s2,Dk.In 116 (d.swap bs).1 dx s2 ∧ H' = [s2]) := by
  obtain ⟨hd,pd,cd,qd,ho,rfl⟩ := hin
  obtain ⟨pb,cb,rfl,_⟩ := hb.form
  exact (dswap_c hd ho hb hbl).one
theorem dsync_o {V : Vw} {d : Dk} {dx : Nat} {s : Sg} (hin : Dk.In 116 d dx s) : Does Tryz.prog 143 [(pZ dx)] V [s] (fun v V' H' => V' = V ∧ v = .int .i64 (d.sync).2 ∧ ∃ s2,Dk.In 116 (d.sync).1 dx s2 ∧ H' = [s2]) := by
  obtain ⟨hd,pd,cd,qd,ho,rfl⟩ := hin
  exact (dsync_c hd ho ).one
theorem dfail_o {V : Vw} {d : Dk} {dx : Nat} {s : Sg} (hin : Dk.In 116 d dx s) {n : Int} (hn : n ≤ 9223372036854775807) : Does Tryz.prog 80 [(pZ dx),.int .i64 n] V [s] (fun v V' H' => V' = V ∧ ∃ s2,Dk.In 116 (d.fail n) dx s2 ∧ H' = [s2]) := by
  obtain ⟨hd,pd,cd,qd,ho,rfl⟩ := hin
  exact (dfail_c hd ho hn).one
theorem dcrash_o {V : Vw} {d : Dk} {dx : Nat} {s : Sg} (hin : Dk.In 116 d dx s) {k : Int} : Does Tryz.prog 26 [(pZ dx),.int .i64 k] V [s] (fun v V' H' => V' = V ∧ ∃ s2,Dk.In 116 (d.crash k) dx s2 ∧ H' = [s2]) := by
  obtain ⟨hd,pd,cd,qd,ho,rfl⟩ := hin
  exact (dcrash_c hd ho).one
theorem dread_o {V : Vw} {d : Dk} {dx : Nat} {s : Sg} (hin : Dk.In 116 d dx s) : Does Tryz.prog 25 [(pZ dx)] V [s] (fun v V' H' => V' = V ∧ ∃ q,Ow 5 1 v d.bs.length (d.bs.map byteV) q ∧ H' = [q,s]) := by
  obtain ⟨hd,pd,cd,qd,ho,rfl⟩ := hin
  exact (dread_c hd ho).one
theorem rdappend_o {V : Vw} {d : Dk} {dx : Nat} {s : Sg} (hin : Dk.In 54 d dx s) {bs : Bts} {vb : Value} (hb : Rd V [] 1 vb bs.length (bs.map byteV)) (hbl : bs.length ≤ 1500000) : Does Tryz.prog 18 [(pZ dx),vb] V [s] (fun v V' H' => V' = V ∧ v = .int .i64 (d.app bs).2 ∧ ∃ s2,Dk.In 54 (d.app bs).1 dx s2 ∧ H' = [s2]) := by
  obtain ⟨hd,pd,cd,qd,ho,rfl⟩ := hin
  obtain ⟨pb,cb,rfl,_⟩ := hb.form
  exact (rdappend_c hd ho hb hbl).one
theorem rdswap_o {V : Vw} {d : Dk} {dx : Nat} {s : Sg} (hin : Dk.In 54 d dx s) {bs : Bts} {vb : Value} (hb : Rd V [] 1 vb bs.length (bs.map byteV)) (hbl : bs.length ≤ 1500000) : Does Tryz.prog 150 [(pZ dx),vb] V [s] (fun v V' H' => V' = V ∧ v = .int .i64 (d.swap bs).2 ∧ ∃ s2,Dk.In 54 (d.swap bs).1 dx s2 ∧ H' = [s2]) := by
  obtain ⟨hd,pd,cd,qd,ho,rfl⟩ := hin
  obtain ⟨pb,cb,rfl,_⟩ := hb.form
  exact (rdswap_c hd ho hb hbl).one
theorem rdsync_o {V : Vw} {d : Dk} {dx : Nat} {s : Sg} (hin : Dk.In 54 d dx s) : Does Tryz.prog 156 [(pZ dx)] V [s] (fun v V' H' => V' = V ∧ v = .int .i64 (d.sync).2 ∧ ∃ s2,Dk.In 54 (d.sync).1 dx s2 ∧ H' = [s2]) := by
  obtain ⟨hd,pd,cd,qd,ho,rfl⟩ := hin
  exact (rdsync_c hd ho ).one
theorem rdfail_o {V : Vw} {d : Dk} {dx : Nat} {s : Sg} (hin : Dk.In 54 d dx s) {n : Int} (hn : n ≤ 9223372036854775807) : Does Tryz.prog 81 [(pZ dx),.int .i64 n] V [s] (fun v V' H' => V' = V ∧ ∃ s2,Dk.In 54 (d.fail n) dx s2 ∧ H' = [s2]) := by
  obtain ⟨hd,pd,cd,qd,ho,rfl⟩ := hin
  exact (rdfail_c hd ho hn).one
theorem rdcrash_o {V : Vw} {d : Dk} {dx : Nat} {s : Sg} (hin : Dk.In 54 d dx s) {k : Int} : Does Tryz.prog 82 [(pZ dx),.int .i64 k] V [s] (fun v V' H' => V' = V ∧ ∃ s2,Dk.In 54 (d.crash k) dx s2 ∧ H' = [s2]) := by
  obtain ⟨hd,pd,cd,qd,ho,rfl⟩ := hin
  exact (rdcrash_c hd ho).one
theorem fclone_c {V : Vw} {bs : List UInt8} {pb : Option Addr} {cb : Nat} (hvb : Rd V [] 1 (.slice pb bs.length cb) bs.length (bs.map byteV)) (hl : bs.length ≤ 1000000)  : Does Tryz.prog 127 [.slice pb bs.length cb] V [] (fun u V' H' => V' = V ∧ ∃ s',H' = [s'] ∧ Ow 5 1 u bs.length (bs.map byteV) s') := by
 refine Does.intro Tryz.func127 rfl rfl (le rfl) (fun B => ?_)
 refine Zs<|Zr<|Za Z<|Ze<|Zg<|Zs<|Zs<|Zr<|Zm Z<|Zv (Y.eqNilS Z Z Storesa_sl22)<|Ze<|Zg<|?_
 rcases Zsplit (Option.isNone pb) with ⟨h1,g1⟩ | ⟨h1,g1⟩ <;> try simp only [kb] at g1
 ·refine Tr.cond_t Z h1<|Zs<|Zr<|Run.nilseg<|Za Z<|Ze<|Zg<|Zu<|Zn<|?_
  obtain rfl : pb = none := by simpa using h1
  obtain rfl : bs = [] := List.eq_nil_of_length_eq_zero hvb.none
  exact Ex.ret1 rfl rfl  ⟨rfl,[],rfl,Ow.nil _ _⟩
 ·refine Tr.cond_f Z h1<|Zt<|Zg<|Zs<|Zr<|?_
  refine Run.buildSlice0 Storesa_es22 (lt rfl) (fun b2 => ?_)
  refine Zm Z ?_
  refine Run.append (n := 0) (m := bs.length) (xs := []) (ys := bs.map byteV) rfl rfl Storesa_es22 Storesa_zi5 WD (j := 0) rfl (Ow.lit (cur := #[]) rfl WD) (Src.of_rd Storesa_es22 hvb.of_nil) W W (all_one_bytes _) (lt rfl) (fun v3 s4 ho5 hf => ?_)
  obtain ⟨p3,c3,rfl⟩ := hf
  refine Za Z<|Ze<|Zg<|Zu<|?_
  exact Ex.ret1 rfl rfl  ⟨rfl,_,rfl,by have h := ho5; simpa using h⟩
theorem fclone_h {V : Vw} {v : Value} {bs : List UInt8} (hv : Rd V [] 1 v bs.length (bs.map byteV)) (hl : bs.length ≤ 1000000) : Does Tryz.prog 127 [v] V [] (fun u V' H' => V' = V ∧ ∃ s',H' = [s'] ∧ Ow 5 1 u bs.length (bs.map byteV) s') := by
  obtain ⟨p,c,rfl,_⟩ := hv.form
  exact fclone_c hv hl
theorem fput_c {V : Vw} {bs : Bts} {p : Option Addr} {c : Nat} (hv : Rd V [] 1 (.slice p bs.length c) bs.length (bs.map byteV)) (hl : bs.length ≤ 1500000) (hok : Fr.okR bs)  : Does Tryz.prog 165 [.slice p bs.length c] V [] (fun v V' H' => V' = V ∧ ∃ p c q,v = .tuple #[.slice p (Fr.put bs).length c,.int .i64 0] ∧ Ow 5 1 (.slice p (Fr.put bs).length c) (Fr.put bs).length ((Fr.put bs).map byteV) q ∧ H' = [q]) := by
 obtain ⟨hk1,hk2⟩ := hok
 have hpl := Fr.put_len bs
 refine Does.intro Tryz.func165 rfl rfl (le rfl) (fun B => ?_)
 refine Zs<|Zr<|Za Z<|Za Z<|Ze<|Zg<|Zs<|Zs<|Zr<|Zm Z<|Zv (Y.lenSl Z Storesa_es22)<|Zv (Y.int Z Z Z)<|Zm Z<|?_
 rcases Zsplit (decide (((bs.length : Nat) : Int) < 1)) with ⟨h1,g1⟩ | ⟨h1,g1⟩ <;> try simp only [kb] at g1
 ·refine Zo h1 Z<|Zo h1 Z<|Zo h1 Z<|Zv (Y.pick_t Z h1 Z)<|Ze<|Zg<|Tr.cond_t Z Z<|Zs<|Zr<|Za Z<|Za Z<|Ze<|Zg<|Zu<|Zn<|?_
  exact Ex.ret2 rfl rfl rfl  (by exfalso; omega)
 ·refine Zp h1<|Zm Z<|Zp h1<|Zv (Y.lenSl Z Storesa_es22)<|Zp h1<|Zv (Y.int Z Z Z)<|Zv (Y.pick_f Z h1 Z)<|Ze<|Zg<|?_
  rcases Zsplit (decide (((bs.length : Nat) : Int) > 1000)) with ⟨h2,g2⟩ | ⟨h2,g2⟩ <;> try simp only [kb] at g2
  ·refine Tr.cond_t Z h2<|Zs<|Zr<|Za Z<|Za Z<|Ze<|Zg<|Zu<|Zn<|?_
   exact Ex.ret2 rfl rfl rfl  (by exfalso; omega)
  ·refine Tr.cond_f Z h2<|Zt<|Zg<|Zs<|Zr<|Zm Z<|Zv (Y.lenSl Z Storesa_es22)<|Zv (Y.shr (((bs.length / 256 : Nat) : Int)) rfl rfl WD (by show ((bs.length : Nat) : Int).fdiv 256 = _; rw [Int.fdiv_eq_ediv_of_nonneg _ WD]; omega))<|Zv (Y.conv (((UInt8.ofNat (bs.length / 256)).toNat : Int)) rfl Storesa_it3_5 (Fr.u8n W))<|Zm Z<|Zv (Y.lenSl Z Storesa_es22)<|Zv (Y.conv (((UInt8.ofNat (bs.length % 256)).toNat : Int)) rfl Storesa_it3_5 (Fr.u8n (by rw [Nat.mod_mod]; omega)))<|?_
   refine Run.buildSlice (l := [(0,.tmp 16),(1,.tmp 19)]) Storesa_es22 Storesa_zo5 rfl WD rfl rfl WD (lt rfl) (fun b3 => ?_)
   refine Za Z<|Ze<|Zg<|Zs<|Zr<|Zm Z<|Zm Z<|?_
   refine Run.append (n := 2) (m := bs.length) (xs := [.int .u8 ((UInt8.ofNat (bs.length / 256)).toNat : Int),.int .u8 ((UInt8.ofNat (bs.length % 256)).toNat : Int)]) (ys := bs.map byteV) rfl rfl Storesa_es22 Storesa_zi5 WD (j := 0) rfl (Ow.lit (cur := #[.int .u8 ((UInt8.ofNat (bs.length / 256)).toNat : Int),.int .u8 ((UInt8.ofNat (bs.length % 256)).toNat : Int)]) rfl WD) (Src.of_rd Storesa_es22 hv.of_nil) W W (all_one_bytes _) (lt rfl) (fun v4 s5 ho6 hf => ?_)
   obtain ⟨p4,c4,rfl⟩ := hf
   refine Run.buildSlice (l := [(0,.const (.int .u8 90))]) Storesa_es22 Storesa_zo5 rfl WD rfl rfl WD (lt rfl) (fun b7 => ?_)
   refine Run.append (n := 2 + bs.length) (m := 1) (xs := [.int .u8 ((UInt8.ofNat (bs.length / 256)).toNat : Int),.int .u8 ((UInt8.ofNat (bs.length % 256)).toNat : Int)] ++ (bs.map byteV)) (ys := [.int .u8 90]) rfl rfl Storesa_es22 Storesa_zi5 WD (j := 1) rfl ho6 (Src.of_rd Storesa_es22 (Rd.one (Kn.at 0 rfl) rfl)) W W rfl (lt rfl) (fun v8 s9 ho10 hf => ?_)
   obtain ⟨p8,c8,rfl⟩ := hf
   refine Za Z<|Za Z<|Ze<|Zg<|Zu<|Ex.keep [1]<|?_
   have h9 := ho10
   rw [Fr.put_cells] at h9
   exact Ex.ret2 rfl rfl rfl  ⟨rfl,p8,c8,s9,by rw [(show ((2 + bs.length + 1) : Nat) = (Fr.put bs).length from by omega)],by rw [(show ((2 + bs.length + 1) : Nat) = (Fr.put bs).length from by omega)] at h9; exact h9,rfl⟩
theorem rfput_c {V : Vw} {bs : Bts} {p : Option Addr} {c : Nat} (hv : Rd V [] 1 (.slice p bs.length c) bs.length (bs.map byteV)) (hl : bs.length ≤ 1500000) (hok : Fr.okR bs)  : Does Tryz.prog 225 [.slice p bs.length c] V [] (fun v V' H' => V' = V ∧ ∃ p c q,v = .tuple #[.slice p (Fr.put bs).length c,.int .i64 0] ∧ Ow 5 1 (.slice p (Fr.put bs).length c) (Fr.put bs).length ((Fr.put bs).map byteV) q ∧ H' = [q]) := by
 obtain ⟨hk1,hk2⟩ := hok
 have hpl := Fr.put_len bs
 refine Does.intro Tryz.func225 rfl rfl (le rfl) (fun B => ?_)
 refine Zs<|Zr<|Za Z<|Za Z<|Ze<|Zg<|Zs<|Zs<|Zr<|Zm Z<|Zv (Y.lenSl Z Storesa_es22)<|Zv (Y.int Z Z Z)<|Zm Z<|?_
 rcases Zsplit (decide (((bs.length : Nat) : Int) < 1)) with ⟨h1,g1⟩ | ⟨h1,g1⟩ <;> try simp only [kb] at g1
 ·refine Zo h1 Z<|Zo h1 Z<|Zo h1 Z<|Zv (Y.pick_t Z h1 Z)<|Ze<|Zg<|Tr.cond_t Z Z<|Zs<|Zr<|Za Z<|Za Z<|Ze<|Zg<|Zu<|Zn<|?_
  exact Ex.ret2 rfl rfl rfl  (by exfalso; omega)
 ·refine Zp h1<|Zm Z<|Zp h1<|Zv (Y.lenSl Z Storesa_es22)<|Zp h1<|Zv (Y.int Z Z Z)<|Zv (Y.pick_f Z h1 Z)<|Ze<|Zg<|?_
  rcases Zsplit (decide (((bs.length : Nat) : Int) > 1000)) with ⟨h2,g2⟩ | ⟨h2,g2⟩ <;> try simp only [kb] at g2
  ·refine Tr.cond_t Z h2<|Zs<|Zr<|Za Z<|Za Z<|Ze<|Zg<|Zu<|Zn<|?_
   exact Ex.ret2 rfl rfl rfl  (by exfalso; omega)
  ·refine Tr.cond_f Z h2<|Zt<|Zg<|Zs<|Zr<|Zm Z<|Zv (Y.lenSl Z Storesa_es22)<|Zv (Y.quo (((bs.length / 256 : Nat) : Int)) rfl rfl WD (by rw [Int.tdiv_eq_ediv_of_nonneg W,wrap_i64 W]; omega))<|Zv (Y.conv (((UInt8.ofNat (bs.length / 256)).toNat : Int)) rfl Storesa_it3_5 (Fr.u8n W))<|Zm Z<|Zv (Y.lenSl Z Storesa_es22)<|Zv (Y.rem (((bs.length % 256 : Nat) : Int)) rfl rfl WD (by rw [Int.tmod_eq_emod_of_nonneg W]; omega))<|?_
   refine Zv (Y.conv (((UInt8.ofNat (bs.length % 256)).toNat : Int)) rfl Storesa_it3_5 (Fr.u8n (by rw [Nat.mod_mod]; omega))) ?_
   refine Run.buildSlice (l := [(0,.tmp 16),(1,.tmp 20)]) Storesa_es22 Storesa_zo5 rfl WD rfl rfl WD (lt rfl) (fun b3 => ?_)
   refine Za Z<|Ze<|Zg<|Zs<|Zr<|Zm Z<|Zm Z<|?_
   refine Run.append (n := 2) (m := bs.length) (xs := [.int .u8 ((UInt8.ofNat (bs.length / 256)).toNat : Int),.int .u8 ((UInt8.ofNat (bs.length % 256)).toNat : Int)]) (ys := bs.map byteV) rfl rfl Storesa_es22 Storesa_zi5 WD (j := 0) rfl (Ow.lit (cur := #[.int .u8 ((UInt8.ofNat (bs.length / 256)).toNat : Int),.int .u8 ((UInt8.ofNat (bs.length % 256)).toNat : Int)]) rfl WD) (Src.of_rd Storesa_es22 hv.of_nil) W W (all_one_bytes _) (lt rfl) (fun v4 s5 ho6 hf => ?_)
   obtain ⟨p4,c4,rfl⟩ := hf
   refine Za Z<|Ze<|Zg<|Zs<|Zr<|Zm Z<|?_
   refine Run.buildSlice (l := [(0,.const (.int .u8 90))]) Storesa_es22 Storesa_zo5 rfl WD rfl rfl WD (lt rfl) (fun b7 => ?_)
   refine Run.append (n := 2 + bs.length) (m := 1) (xs := [.int .u8 ((UInt8.ofNat (bs.length / 256)).toNat : Int),.int .u8 ((UInt8.ofNat (bs.length % 256)).toNat : Int)] ++ (bs.map byteV)) (ys := [.int .u8 90]) rfl rfl Storesa_es22 Storesa_zi5 WD (j := 1) rfl ho6 (Src.of_rd Storesa_es22 (Rd.one (Kn.at 0 rfl) rfl)) W W rfl (lt rfl) (fun v8 s9 ho10 hf => ?_)
   obtain ⟨p8,c8,rfl⟩ := hf
   refine Za Z<|Za Z<|Ze<|Zg<|Zu<|Ex.keep [1]<|?_
   have h9 := ho10
   rw [Fr.put_cells] at h9
   exact Ex.ret2 rfl rfl rfl  ⟨rfl,p8,c8,s9,by rw [(show ((2 + bs.length + 1) : Nat) = (Fr.put bs).length from by omega)],by rw [(show ((2 + bs.length + 1) : Nat) = (Fr.put bs).length from by omega)] at h9; exact h9,rfl⟩
theorem frames1_c {V : Vw} {bs : Bts} {p : Option Addr} {c : Nat} (hv : Rd V [] 1 (.slice p bs.length c) bs.length (bs.map byteV)) (hl : bs.length ≤ 1500000) {b N : Nat} (hNl : bs.length < N) {lp : Nat} {J Jx : List Fx → Hp → Prop} {Hy : Hp} (hy : ∀ xs x H,Fx.Own 5 x → J xs H → xs.length < N → YDoes Tryz.prog lp (Fx.enc x) V (x.sg :: H) (fun u V' H' => V' = V ∧ (u = .bool true ∧ J (xs ++ [x]) H' ∨ u = .bool false ∧ Jx (xs ++ [x]) H'))) (h0 : J [] Hy)  : Does Tryz.prog 257 [yv lp,(pZ b)] V ([[(b,.cells #[.slice p bs.length c] 22 (0,0))]] ++ Hy) (fun _ V' H' => V' = V ∧ ∃ xs Hy',H' = [[(b,.cells #[.slice p bs.length c] 22 (0,0))]] ++ Hy' ∧ (Fr.scan bs = (Fx.recs xs,Fx.last xs) ∧ J xs Hy' ∨ True ∧ Jx xs Hy')) := by
 refine Does.intro Tryz.func257 rfl rfl (le rfl) (fun B => ?_)
 refine Zs<|Zr<|Za Z<|Ze<|Zg<|Zb<|?_
 refine ZL (X := Nat × List Fx × Hp) (fun z0 => V) (fun z0 => [(b,.cells #[.slice p bs.length c] 22 (0,0))] :: z0.2.2) (fun z0 => [(0,yv lp),(1,(pZ b)),(3,.int .i64 ((z0.1 : Nat) : Int))]) (fun z0 => J z0.2.1 z0.2.2 ∧ Fr.Sc bs z0.1 (Fx.recs z0.2.1) ∧ z0.1 = Fx.last z0.2.1) (fun z0 => bs.length - z0.1) (⟨0,[],Hy⟩ : Nat × List Fx × Hp) ⟨h0,.nil,rfl⟩ ?_
 rintro ⟨at1,xs,Hy1⟩ ⟨hJ,hsc,hat⟩
 try dsimp only at hJ hsc hat ⊢
 have hcp := hv.cap
 have hle1 := Fr.sc_le hsc
 have hu0 := u8_lt (bs.getD at1 0)
 have hu1 := u8_lt (bs.getD (at1 + 1) 0)
 have hhd : Fr.hd bs at1 = (bs.getD at1 0).toNat * 256 + (bs.getD (at1 + 1) 0).toNat := rfl
 refine Zs<|Zs<|Zr<|Zv (Y.load Z Storesa_ts22 (Kn.at 0 Z) Z)<|Zv (Y.lenSl Z Storesa_es22)<|Zm Z<|Zv (Y.subN ((bs.length - at1 : Nat) : Int) rfl rfl W W)<|Zv (Y.int Z Z Z)<|Ze<|Zg<|?_
 rcases Zsplit (decide (((bs.length - at1 : Nat) : Int) > 2)) with ⟨h1,g1⟩ | ⟨h1,g1⟩ <;> try simp only [kb] at g1
 ·refine Tr.cond_t Z h1<|Zt<|Zg<|Zb<|Zs<|Tr.quiet Storesa_mo WK<|ZV (Y.load Z Storesa_ts22 (Kn.at 0 Z) Z)<|ZM Z<|ZV (Y.idxR at1 Z Z Storesa_es22 hv.flatB.of_nil W W)<|ZV (Y.ldR Z Storesa_ts5 hv.flatB.of_nil (flatm_at0 nB_len W 0 WD rfl))<|ZV (Y.conv ((((bs.getD at1 0).toNat : Nat) : Int)) rfl Storesa_it5_3 (wrap_i64 W))<|ZV (Y.shl (((bs.getD at1 0).toNat : Int) * 256) rfl rfl WD (shl_byte W W))<|?_
  refine ZV (Y.load Z Storesa_ts22 (Kn.at 0 Z) Z)<|ZM Z<|ZV (Y.addN ((at1 + 1 : Nat) : Int) rfl rfl W W)<|ZV (Y.idxR (at1 + 1) rfl rfl Storesa_es22 hv.flatB.of_nil W W)<|ZV (Y.ldR Z Storesa_ts5 hv.flatB.of_nil (flatm_at0 nB_len W 0 WD rfl))<|ZV (Y.conv ((((bs.getD (at1 + 1) 0).toNat : Nat) : Int)) rfl Storesa_it5_3 (wrap_i64 W))<|ZV (Y.int (r := .int .i64 (((Fr.hd bs at1 : Nat) : Int))) rfl rfl (by simp only [intRes]; rw [or_byte W W W W]; exact congrArg (fun z => some (Value.int _ z)) W))<|?_
  refine ZA Z<|ZE<|Zg<|Zs<|Zr<|Zm Z<|Zv (Y.addN ((at1 + 2 : Nat) : Int) rfl rfl W W)<|Zm Z<|Zv (Y.addN (((at1 + 2) + (Fr.hd bs at1) : Nat) : Int) rfl rfl W W)<|Zv (Y.addN ((((at1 + 2) + (Fr.hd bs at1)) + 1 : Nat) : Int) rfl rfl W W)<|Za Z<|Ze<|Zg<|Zs<|Zs<|Zr<|?_
  refine Zm Z<|Zv (Y.int Z Z Z)<|Zm Z<|?_
  rcases Zsplit (decide (((Fr.hd bs at1 : Nat) : Int) < 1)) with ⟨h2,g2⟩ | ⟨h2,g2⟩ <;> try simp only [kb] at g2
  ·refine Zo h2 Z<|Zo h2 Z<|Zv (Y.pick_t Z h2 Z)<|Zm Z<|Zo Z Z<|Zo Z Z<|Zo Z Z<|Zo Z Z<|Zv (Y.pick_t Z Z Z)<|Zm Z<|Zo Z Z<|Zo Z Z<|Zo Z Z<|Zo Z Z<|Zo Z Z<|Zo Z Z<|?_
   refine Zv (Y.pick_t Z Z Z)<|Ze<|Zg<|Tr.cond_t Z Z<|Zu<|Zn<|Zk<|Zn<|Zk<|?_
   exact Ex.ret0 rfl ⟨rfl,xs,Hy1,rfl,.inl ⟨(Fr.sc_scan hsc (Fr.one_no (fun ⟨z0,z1,z2,z3,z4⟩ => by first | omega | (have z5 : (((bs.getD (at1 + 2 + Fr.hd bs at1 + 1 - 1) 0).toNat : Nat) : Int) = 90 := Fr.of90 z4; omega)))).trans (by rw [← hat]),hJ⟩⟩
  ·refine Zp h2<|Zm Z<|Zp h2<|Zv (Y.int Z Z Z)<|Zv (Y.pick_f Z h2 Z)<|Zm Z<|?_
   rcases Zsplit (decide (((Fr.hd bs at1 : Nat) : Int) > 1000)) with ⟨h3,g3⟩ | ⟨h3,g3⟩ <;> try simp only [kb] at g3
   ·refine Zo h3 Z<|Zo h3 Z<|Zo h3 Z<|Zo h3 Z<|Zv (Y.pick_t Z h3 Z)<|Zm Z<|Zo Z Z<|Zo Z Z<|Zo Z Z<|Zo Z Z<|Zo Z Z<|Zo Z Z<|Zv (Y.pick_t Z Z Z)<|Ze<|Zg<|Tr.cond_t Z Z<|?_
    refine Zu<|Zn<|Zk<|Zn<|Zk<|?_
    exact Ex.ret0 rfl ⟨rfl,xs,Hy1,rfl,.inl ⟨(Fr.sc_scan hsc (Fr.one_no (fun ⟨z0,z1,z2,z3,z4⟩ => by first | omega | (have z5 : (((bs.getD (at1 + 2 + Fr.hd bs at1 + 1 - 1) 0).toNat : Nat) : Int) = 90 := Fr.of90 z4; omega)))).trans (by rw [← hat]),hJ⟩⟩
   ·refine Zp h3<|Zm Z<|Zp h3<|Zv (Y.load Z Storesa_ts22 (Kn.at 0 Z) Z)<|Zp h3<|Zv (Y.lenSl Z Storesa_es22)<|Zp h3<|Zv (Y.int Z Z Z)<|Zv (Y.pick_f Z h3 Z)<|Zm Z<|?_
    rcases Zsplit (decide (((((at1 + 2) + (Fr.hd bs at1)) + 1 : Nat) : Int) > ((bs.length : Nat) : Int))) with ⟨h4,g4⟩ | ⟨h4,g4⟩ <;> try simp only [kb] at g4
    ·refine Zo h4 Z<|Zo h4 Z<|Zo h4 Z<|Zo h4 Z<|Zo h4 Z<|Zo h4 Z<|Zv (Y.pick_t Z h4 Z)<|Ze<|Zg<|Tr.cond_t Z Z<|Zu<|Zn<|Zk<|Zn<|Zk<|?_
     exact Ex.ret0 rfl ⟨rfl,xs,Hy1,rfl,.inl ⟨(Fr.sc_scan hsc (Fr.one_no (fun ⟨z0,z1,z2,z3,z4⟩ => by first | omega | (have z5 : (((bs.getD (at1 + 2 + Fr.hd bs at1 + 1 - 1) 0).toNat : Nat) : Int) = 90 := Fr.of90 z4; omega)))).trans (by rw [← hat]),hJ⟩⟩
    ·refine Zp h4<|Zv (Y.load Z Storesa_ts22 (Kn.at 0 Z) Z)<|Zp h4<|Zm Z<|Zp h4<|Zv (Y.subN (((((at1 + 2) + (Fr.hd bs at1)) + 1) - 1 : Nat) : Int) rfl rfl W W)<|Zp h4<|Zv (Y.idxR ((((at1 + 2) + (Fr.hd bs at1)) + 1) - 1) rfl rfl Storesa_es22 hv.flatB.of_nil W W)<|Zp h4<|Zv (Y.ldR Z Storesa_ts5 hv.flatB.of_nil (flatm_at0 nB_len W 0 WD rfl))<|Zp h4<|Zv (Y.int Z Z Z)<|Zv (Y.pick_f Z h4 Z)<|?_
     refine Ze<|Zg<|?_
     rcases Zsplit ((((bs.getD ((((at1 + 2) + (Fr.hd bs at1)) + 1) - 1) 0).toNat : Nat) : Int) != 90) with ⟨h5,g5⟩ | ⟨h5,g5⟩ <;> try simp only [kb] at g5
     ·refine Tr.cond_t Z h5<|Zu<|Zn<|Zk<|Zn<|Zk<|?_
      exact Ex.ret0 rfl ⟨rfl,xs,Hy1,rfl,.inl ⟨(Fr.sc_scan hsc (Fr.one_no (fun ⟨z0,z1,z2,z3,z4⟩ => by first | omega | (have z5 : (((bs.getD (at1 + 2 + Fr.hd bs at1 + 1 - 1) 0).toNat : Nat) : Int) = 90 := Fr.of90 z4; omega)))).trans (by rw [← hat]),hJ⟩⟩
     ·refine Tr.cond_f Z h5<|Zt<|Zg<|Zs<|Zs<|Tr.regionI<|RunI.op Z<|Zm Z<|Ze<|Ex.goI<|RunI.op Z<|Zm Z<|Ze<|Ex.goI<|RunI.op Z<|Zv (Y.load Z Storesa_ts22 (Kn.at 0 Z) Z)<|?_
      refine Ze<|Ex.goI<|RunI.op Z<|Zm Z<|Ze<|Ex.goI<|RunI.op Z<|Zv (Y.addN ((at1 + 2 : Nat) : Int) rfl rfl W W)<|Ze<|Ex.goI<|RunI.op Z<|Zm Z<|Ze<|Ex.goI<|RunI.op Z<|Zv (Y.subN (((((at1 + 2) + (Fr.hd bs at1)) + 1) - 1 : Nat) : Int) rfl rfl W W)<|?_
      refine Ze<|Ex.goI<|RunI.op Z<|Zv (Y.slice (l := at1 + 2) (m := (((at1 + 2) + (Fr.hd bs at1)) + 1) - 1) rfl Storesa_es22 rfl rfl W W)<|Ze<|Ex.goI<|RunI.op Z<|?_
      refine Run.callF (l := [.tmp 56]) rfl rfl rfl (lt rfl) (fclone_h (bs := (bs.drop (at1 + 2)).take (((((at1 + 2) + (Fr.hd bs at1)) + 1) - 1) - (at1 + 2))) (((Rd.cut nB_len hv.flatB.of_nil (at1 + 2) ((((at1 + 2) + (Fr.hd bs at1)) + 1) - 1) W W)).mapB.to (by rw [List.length_take,List.length_drop]; omega)) (by rw [List.length_take,List.length_drop]; omega)) (fun v9 V9 H9 hle9 hR9 => ?_)
      obtain ⟨hV,s9,rfl,ho9⟩ := hR9; replace hV := hV.symm; subst hV; obtain ⟨p9,c9,rfl⟩ := ho9.form
      refine Run.perm (H' := [(b,.cells #[.slice p bs.length c] 22 (0,0))] :: s9 :: Hy1) (List.Perm.swap _ _ _)<|Ze<|Ex.goI<|?_
      have hxl : (Fx.recs xs).length = xs.length := by unfold Fx.recs; simp
      refine RunI.callY [[(b,.cells #[.slice p bs.length c] 22 (0,0))]] (s9 :: Hy1) rfl rfl rfl (lt rfl) (hy xs (⟨at1 + 2 + Fr.hd bs at1 + 1,⟨p9,((bs.drop (at1 + 2)).take (((((at1 + 2) + (Fr.hd bs at1)) + 1) - 1) - (at1 + 2))).length,c9,(bs.drop (at1 + 2)).take (((((at1 + 2) + (Fr.hd bs at1)) + 1) - 1) - (at1 + 2))⟩,s9⟩ : Fx) _ ho9 hJ W) (fun u V2 Hy2 hle hR => ?_)
      obtain ⟨hV,⟨rfl,hJ2⟩ | ⟨rfl,hJ2⟩⟩ := hR <;> (replace hV := hV.symm; subst hV)
      ·refine RunI.op Z<|Zv (Y.not Z)<|Ze<|Ex.goI<|RunI.nil<|Zg<|Tr.cond_f Z Z<|Zt<|Zg<|Zr<|Zm Z<|Za Z<|Ze<|Zc<|?_
       exact ZR (⟨at1 + 2 + Fr.hd bs at1 + 1,xs ++ [(⟨at1 + 2 + Fr.hd bs at1 + 1,⟨p9,((bs.drop (at1 + 2)).take (((((at1 + 2) + (Fr.hd bs at1)) + 1) - 1) - (at1 + 2))).length,c9,(bs.drop (at1 + 2)).take (((((at1 + 2) + (Fr.hd bs at1)) + 1) - 1) - (at1 + 2))⟩,s9⟩ : Fx)],Hy2⟩ : Nat × List Fx × Hp) ⟨hJ2,by rw [Fx.recs_snoc]; exact Fr.sc_more hsc (Fr.one_yes (n := Fr.hd bs at1) rfl W W W W (Fr.is90 (b := bs.getD (at1 + 2 + Fr.hd bs at1 + 1 - 1) 0) W)) (by (try dsimp only) <;> omega) (congrArg (fun z => (bs.drop (at1 + 2)).take z) (show at1 + 2 + Fr.hd bs at1 + 1 - 1 - (at1 + 2) = Fr.hd bs at1 by omega)),by rw [Fx.last_snoc]⟩ (by dsimp only; omega)
      ·refine RunI.op Z<|Zv (Y.not Z)<|Ze<|Ex.goI<|RunI.nil<|Zg<|Tr.cond_t Z Z<|Zu<|Zn<|Zk<|Zn<|Zk<|?_
       exact Ex.ret0 rfl ⟨rfl,xs ++ [(⟨at1 + 2 + Fr.hd bs at1 + 1,⟨p9,((bs.drop (at1 + 2)).take (((((at1 + 2) + (Fr.hd bs at1)) + 1) - 1) - (at1 + 2))).length,c9,(bs.drop (at1 + 2)).take (((((at1 + 2) + (Fr.hd bs at1)) + 1) - 1) - (at1 + 2))⟩,s9⟩ : Fx)],Hy2,rfl,.inr ⟨trivial,hJ2⟩⟩
 ·refine Tr.cond_f Z h1<|Zx<|Zy<|Zy<|Zi<|?_
  exact Ex.end0 rfl ⟨rfl,xs,Hy1,rfl,.inl ⟨(Fr.sc_scan hsc (Fr.one_no (fun ⟨z0,z1,z2,z3,z4⟩ => by first | omega | (have z5 : (((bs.getD (at1 + 2 + Fr.hd bs at1 + 1 - 1) 0).toNat : Nat) : Int) = 90 := Fr.of90 z4; omega)))).trans (by rw [← hat]),hJ⟩⟩
theorem frames_it {V : Vw} {bs : Bts} {p : Option Addr} {c : Nat} (hv : Rd V [] 1 (.slice p bs.length c) bs.length (bs.map byteV)) (hl : bs.length ≤ 1500000) {b : Nat} : IterO Tryz.prog 257 [(pZ b)] V [[(b,.cells #[.slice p bs.length c] 22 (0,0))]] Fx.enc Fx.sg (Fx.Own 5) (fun xs => Fr.scan bs = (Fx.recs xs,Fx.last xs)) (fun _ => True) (bs.length + 1) := fun lp J Jx hy Hy h0 => frames1_c hv hl (Nat.lt_succ_self _) hy h0
theorem frames_top {V : Vw} {bs : Bts} {p : Option Addr} {c : Nat}  : Does Tryz.prog 219 [.slice p bs.length c] V [] (fun v V' H' => V' = V ∧ ∃ b,v = .func (.func 257) #[] [(pZ b)].toArray ∧ H' = [[(b,.cells #[.slice p bs.length c] 22 (0,0))]]) := by
 refine Does.intro Tryz.func219 rfl rfl (le rfl) (fun B => ?_)
 refine Zs<|Zr<|?_
 refine Run.box rfl (lt rfl) (fun b1 => ?_)
 refine Za Z<|Ze<|Zg<|Zs<|Zr<|Zv (Y.makeFunc (l := []) (l' := [.tmp 1]) Z Z)<|Za Z<|Ze<|Zg<|Zu<|Ex.keep [0]<|?_
 exact Ex.ret1 rfl rfl  ⟨rfl,b1,rfl,rfl⟩
theorem scan_c {V : Vw} {bs : Bts} {p : Option Addr} {c : Nat} (hv : Rd V [] 1 (.slice p bs.length c) bs.length (bs.map byteV)) (hl : bs.length ≤ 1500000)  : Does Tryz.prog 144 [.slice p bs.length c] V [] (fun v V' H' => V.le V' ∧ ∃ xs w q,v = .tuple #[w,.int .i64 (((Fr.scan bs).2 : Nat) : Int)] ∧ xs.map (·.b) = (Fr.scan bs).1 ∧ Rc.Rs V' xs ∧ Ow 22 1 w xs.length (xs.flatMap Rc.cell) q ∧ H' = [q]) := by
 refine Does.introM Tryz.func144 rfl rfl (le rfl) (fun B => ?_)
 refine Zs<|Zr<|Za Z<|Za Z<|Ze<|Zg<|Zs<|Zr<|?_
 refine Run.alloc Storesa_zo56 (lt rfl) (fun b1 => ?_)
 refine Ze<|Zg<|Zs<|Zr<|?_
 refine Run.alloc Storesa_zo3 (lt rfl) (fun b2 => ?_)
 refine Run.store (s := [(b2,.cells #[.int .i64 0] 3 (0,0))]) Z Z Storesa_sz3 (i := 0) Z Z (le Z) Z Z<|Ze<|Zg<|Zs<|Zs<|Zr<|Zm Z<|?_
 refine Run.callF (l := [.tmp 8]) rfl rfl rfl (lt rfl) (frames_top (bs := bs) (p := p) (c := c)) (fun v4 V2 H2 hle hR => ?_)
 obtain ⟨hV,bk,rfl,rfl⟩ := hR; replace hV := hV.symm; subst hV
 refine Run.nilseg<|Run.nilseg<|Run.heapTo (H' := [[],[],[(bk,.cells #[.slice p bs.length c] 22 (0,0))],[(b2,.cells #[.int .i64 0] 3 (0,0))],[(b1,.cells #[.slice none 0 0] 56 (0,0))]]) Z<|Ze<|Zg<|Zb<|?_
 refine Tr.rangeO [] [[(bk,.cells #[.slice p bs.length c] 22 (0,0))]] [[],[(b1,.cells #[.slice none 0 0] 56 (0,0))],[(b2,.cells #[.int .i64 0] 3 (0,0))],[]] ((pull_perm [2,0,2,1,0] [[],[],[(bk,.cells #[.slice p bs.length c] 22 (0,0))],[(b2,.cells #[.int .i64 0] 3 (0,0))],[(b1,.cells #[.slice none 0 0] 56 (0,0))]]).symm) rfl (frames_it hv hl) (fun xs (H : Hp) => ∃ p1 n1 k1 q1 u1,H = [q1,[(b1,.cells #[.slice p1 n1 k1] 56 (0,0))],[(b2,.cells #[.int .i64 u1] 3 (0,0))],(xs.flatMap Fx.sg)] ∧ Ow 22 1 (.slice p1 n1 k1) n1 ((Fx.rcs xs).flatMap Rc.cell) q1 ∧ n1 = xs.length ∧ u1 = ((Fx.last xs : Nat) : Int) ∧ ∀ x,x ∈ xs → Fx.Own 5 x) (fun c xs (H : Hp) => False) ⟨none,0,0,[],0,rfl,Ow.nil _ _,rfl,rfl,fun x h => absurd h List.not_mem_nil⟩ (fun lp4 rr5 xs6 x7 H hLI hf hG hJ hN => ?_) (fun D3 xs6 H hS hJ => ?_) (fun D3 c xs6 H hS hJ => ?_)
 ·obtain ⟨p1,n1,k1,q1,u1,rfl,how,hn2,hu2,hown⟩ := hJ
  refine YDoes.intro hLI rfl (env_par2 (lt rfl) (lt rfl)) (fun Blp4 => ?_)
  refine TrR.seq<|TrR.region Z<|Za Z<|Ze<|Ex.goR<|TrR.region Z<|Za Z<|Ze<|Ex.begin hf.1<|TrR.block<|TrR.region Z<|Zv (Y.load Z Storesa_ts56 (Kn.at 3 Z) Z)<|Zm Z<|?_
  refine Run.buildSlice (l := [(0,.tmp 13)]) Storesa_es56 Storesa_zo22 rfl WD rfl rfl WD (lt rfl) (fun b8 => ?_)
  refine Run.append (n := n1) (m := 1) (xs := (Fx.rcs xs6).flatMap Rc.cell) (ys := [.slice x7.rc.p x7.rc.n x7.rc.c]) rfl rfl Storesa_es56 Storesa_zi22 WD (j := 3) rfl how (Src.of_rd Storesa_es56 (Rd.one (Kn.at 0 rfl) rfl)) W W rfl (lt rfl) (fun v9 s10 ho11 hf => ?_)
  obtain ⟨p9,c9,rfl⟩ := hf
  replace ho11 := Ow.app1 (f := Rc.cell) (l := Fx.rcs xs6) (x := (⟨x7.rc.p,x7.rc.n,x7.rc.c,x7.rc.b⟩ : Rc)) ho11
  refine Zm Z<|Run.store (s := [(b1,.cells #[.slice p9 (n1 + 1) c9] 56 (0,0))]) Z Z Storesa_sz56 (i := 4) Z Z (le Z) Z Z<|Run.store (s := [(b2,.cells #[.int .i64 ((x7.nx : Nat) : Int)] 3 (0,0))]) Z Z Storesa_sz3 (i := 5) Z Z (le Z) Z Z<|Ze<|Zc<|Ex.keepTo (H' := [rec_ lp4 { rr5 with state := .busy },s10,[(b1,.cells #[.slice p9 (n1 + 1) c9] 56 (0,0))],[(b2,.cells #[.int .i64 ((x7.nx : Nat) : Int)] 3 (0,0))],(xs6.flatMap Fx.sg),x7.sg]) [1,2,2,2,2,1] Z<|?_
  refine Ex.recut (H' := [rec_ lp4 { rr5 with state := .busy },s10,[(b1,.cells #[.slice p9 (n1 + 1) c9] 56 (0,0))],[(b2,.cells #[.int .i64 ((x7.nx : Nat) : Int)] 3 (0,0))],((xs6 ++ [x7]).flatMap Fx.sg)]) (by rw [Fx.seg_snoc]; exact List.Perm.of_eq (by simp)) ?_
  exact Ex.next ⟨rfl,.inl ⟨rfl,_,_,hLI.with _ _,⟨rfl,rfl⟩,rfl,⟨_,_,_,_,_,rfl,by rw [Fx.rcs_snoc]; exact ho11,by rw [List.length_append,List.length_singleton]; omega,by rw [Fx.last_snoc],Fx.own_snoc hown hG⟩⟩⟩
 ·obtain ⟨p1,n1,k1,q1,u1,rfl,how,hn2,hu2,hown⟩ := hJ
  subst hn2 hu2
  refine Zc<|Zg<|Zs<|Tr.quiet Storesa_mo WK<|ZV (Y.load Z Storesa_ts56 (Kn.at 3 Z) Z)<|ZV (Y.load Z Storesa_ts3 (Kn.at 4 Z) Z)<|ZA Z<|ZA Z<|ZE<|Zg<|Zu<|Ex.unmark (.inl Z)<|Ex.bodyM (.inl Z)<|Ex.keepTo (H' := [(xs6.flatMap Fx.sg),q1]) [4,1] Z<|?_
  refine Ex.showFlat (fun V9 hle9 hsh9 => ?_)
  exact Ex.ret2 rfl rfl rfl  ⟨hle9,Fx.rcs xs6,.slice p1 xs6.length k1,q1,by rw [hS]; rfl,by rw [hS]; exact Fx.map_b xs6,Fx.rs_of hown hsh9,by rw [Fx.rcs_len]; exact how,rfl⟩
 ·exact hJ.elim
theorem rscan_c {V : Vw} {Hr : Hp} {bs : Bts} {p : Option Addr} {c : Nat} (hv : Rd V Hr 1 (.slice p bs.length c) bs.length (bs.map byteV)) (hl : bs.length ≤ 1500000)  : Does Tryz.prog 149 [.slice p bs.length c] V Hr (fun v V' H' => V.le V' ∧ ∃ xs w q,v = .tuple #[w,.int .i64 (((Fr.scan bs).2 : Nat) : Int)] ∧ xs.map (·.b) = (Fr.scan bs).1 ∧ Rc.Rs V' xs ∧ Ow 22 1 w xs.length (xs.flatMap Rc.cell) q ∧ H' = q :: Hr) := by
 refine Does.intro Tryz.func149 rfl rfl (le rfl) (fun B => ?_)
 refine Zs<|Zr<|Za Z<|Za Z<|Ze<|Zg<|Zs<|Zr<|Run.nilseg<|Za Z<|Ze<|Zg<|Zs<|Zr<|Za Z<|Ze<|?_
 refine Zg<|Zs<|Zb<|?_
 refine ZL (X := Nat × Vw × List Rc × Option Addr × Nat × Nat × Sg) (fun z0 => z0.2.1) (fun z0 => z0.2.2.2.2.2.2 :: Hr) (fun z0 => [(0,.slice p bs.length c),(4,.slice z0.2.2.2.1 z0.2.2.2.2.1 z0.2.2.2.2.2.1),(5,.int .i64 ((z0.1 : Nat) : Int))]) (fun z0 => Fr.Sc bs z0.1 (z0.2.2.1.map (·.b)) ∧ V.le z0.2.1 ∧ Rc.Rs z0.2.1 z0.2.2.1 ∧ Ow 22 1 (.slice z0.2.2.2.1 z0.2.2.2.2.1 z0.2.2.2.2.2.1) z0.2.2.2.2.1 (z0.2.2.1.flatMap Rc.cell) z0.2.2.2.2.2.2 ∧ z0.2.2.2.2.1 = z0.2.2.1.length) (fun z0 => bs.length - z0.1) (⟨0,V,[],none,0,0,[]⟩ : Nat × Vw × List Rc × Option Addr × Nat × Nat × Sg) ⟨.nil,Vw.le_refl _,Rc.Rs.nil _,Ow.nil _ _,rfl⟩ ?_
 rintro ⟨at1,V1,xs,p1,n1,k1,q1⟩ ⟨hsc,hVle,hrs,how,hn⟩
 try dsimp only at hsc hVle hrs how hn ⊢
 have hcp := hv.cap
 have hle1 := Fr.sc_le hsc
 have hu0 := u8_lt (bs.getD at1 0)
 have hu1 := u8_lt (bs.getD (at1 + 1) 0)
 have hhd : Fr.hd bs at1 = (bs.getD at1 0).toNat * 256 + (bs.getD (at1 + 1) 0).toNat := rfl
 have hxl : (xs.map (·.b)).length = xs.length := List.length_map _
 refine Zs<|Zs<|Zr<|Zm Z<|Zv (Y.addN ((at1 + 2 : Nat) : Int) rfl rfl W W)<|Zm Z<|Zv (Y.lenSl Z Storesa_es22)<|Zv (Y.int Z Z Z)<|Ze<|Zg<|?_
 rcases Zsplit (decide (((at1 + 2 : Nat) : Int) < ((bs.length : Nat) : Int))) with ⟨h1,g1⟩ | ⟨h1,g1⟩ <;> try simp only [kb] at g1
 ·refine Tr.cond_t Z h1<|Zt<|Zg<|Zb<|Zs<|Tr.quiet Storesa_mo WK<|ZM Z<|ZM Z<|ZV (Y.idxR at1 Z Z Storesa_es22 ((hv.flatB.le hVle).cons) W W)<|ZV (Y.ldR Z Storesa_ts5 ((hv.flatB.le hVle).cons) (flatm_at0 nB_len W 0 WD rfl))<|ZV (Y.conv ((((bs.getD at1 0).toNat : Nat) : Int)) rfl Storesa_it5_3 (wrap_i64 W))<|ZV (Y.mulN ((((bs.getD at1 0).toNat) * 256 : Nat) : Int) rfl rfl W W)<|?_
  refine ZM Z<|ZM Z<|ZV (Y.addN ((at1 + 1 : Nat) : Int) rfl rfl W W)<|ZV (Y.idxR (at1 + 1) rfl rfl Storesa_es22 ((hv.flatB.le hVle).cons) W W)<|ZV (Y.ldR Z Storesa_ts5 ((hv.flatB.le hVle).cons) (flatm_at0 nB_len W 0 WD rfl))<|ZV (Y.conv ((((bs.getD (at1 + 1) 0).toNat : Nat) : Int)) rfl Storesa_it5_3 (wrap_i64 W))<|ZV (Y.int (r := .int .i64 (((Fr.hd bs at1 : Nat) : Int))) rfl rfl (by simp only [intRes]; rw [wrap_i64 W]; exact congrArg (fun z => some (Value.int _ z)) W))<|?_
  refine ZA Z<|ZE<|Zg<|Zs<|Zs<|Zr<|Zm Z<|Zv (Y.int Z Z Z)<|Zm Z<|?_
  rcases Zsplit (decide (((Fr.hd bs at1 : Nat) : Int) < 1)) with ⟨h2,g2⟩ | ⟨h2,g2⟩ <;> try simp only [kb] at g2
  ·refine Zo h2 Z<|Zo h2 Z<|Zv (Y.pick_t Z h2 Z)<|Zm Z<|Zo Z Z<|Zo Z Z<|Zo Z Z<|Zo Z Z<|Zo Z Z<|Zo Z Z<|Zo Z Z<|Zv (Y.pick_t Z Z Z)<|Zm Z<|Zo Z Z<|Zo Z Z<|Zo Z Z<|?_
   refine Zo Z Z<|Zo Z Z<|Zo Z Z<|Zo Z Z<|Zo Z Z<|Zv (Y.pick_t Z Z Z)<|Ze<|Zg<|Tr.cond_t Z Z<|Zs<|Zr<|Zm Z<|Zm Z<|Za Z<|Za Z<|Ze<|?_
   refine Zg<|Zu<|Zn<|Zk<|Zn<|Zk<|Zn<|?_
   have e9 := Fr.sc_scan hsc (Fr.one_no (fun ⟨z0,z1,z2,z3,z4⟩ => by first | omega | (have z5 : (((bs.getD (at1 + 2 + Fr.hd bs at1) 0).toNat : Nat) : Int) = 90 := Fr.of90 z4; omega)))
   subst hn
   exact Ex.ret2 rfl rfl rfl  ⟨hVle,xs,_,q1,by rw [e9],by rw [e9],hrs,how,rfl⟩
  ·refine Zp h2<|Zm Z<|Zp h2<|Zv (Y.int Z Z Z)<|Zv (Y.pick_f Z h2 Z)<|Zm Z<|?_
   rcases Zsplit (decide (((Fr.hd bs at1 : Nat) : Int) > 1000)) with ⟨h3,g3⟩ | ⟨h3,g3⟩ <;> try simp only [kb] at g3
   ·refine Zo h3 Z<|Zo h3 Z<|Zo h3 Z<|Zo h3 Z<|Zo h3 Z<|Zo h3 Z<|Zo h3 Z<|Zv (Y.pick_t Z h3 Z)<|Zm Z<|Zo Z Z<|Zo Z Z<|Zo Z Z<|Zo Z Z<|Zo Z Z<|Zo Z Z<|Zo Z Z<|?_
    refine Zo Z Z<|Zv (Y.pick_t Z Z Z)<|Ze<|Zg<|Tr.cond_t Z Z<|Zs<|Zr<|Zm Z<|Zm Z<|Za Z<|Za Z<|Ze<|Zg<|Zu<|Zn<|Zk<|?_
    refine Zn<|Zk<|Zn<|?_
    have e9 := Fr.sc_scan hsc (Fr.one_no (fun ⟨z0,z1,z2,z3,z4⟩ => by first | omega | (have z5 : (((bs.getD (at1 + 2 + Fr.hd bs at1) 0).toNat : Nat) : Int) = 90 := Fr.of90 z4; omega)))
    subst hn
    exact Ex.ret2 rfl rfl rfl  ⟨hVle,xs,_,q1,by rw [e9],by rw [e9],hrs,how,rfl⟩
   ·refine Zp h3<|Zm Z<|Zp h3<|Zv (Y.addN ((at1 + 3 : Nat) : Int) rfl rfl W W)<|Zp h3<|Zm Z<|Zp h3<|Zv (Y.addN (((at1 + 3) + (Fr.hd bs at1) : Nat) : Int) rfl rfl W W)<|Zp h3<|Zm Z<|Zp h3<|Zv (Y.lenSl Z Storesa_es22)<|Zp h3<|Zv (Y.int Z Z Z)<|Zv (Y.pick_f Z h3 Z)<|Zm Z<|?_
    rcases Zsplit (decide ((((at1 + 3) + (Fr.hd bs at1) : Nat) : Int) > ((bs.length : Nat) : Int))) with ⟨h4,g4⟩ | ⟨h4,g4⟩ <;> try simp only [kb] at g4
    ·refine Zo h4 Z<|Zo h4 Z<|Zo h4 Z<|Zo h4 Z<|Zo h4 Z<|Zo h4 Z<|Zo h4 Z<|Zo h4 Z<|Zv (Y.pick_t Z h4 Z)<|Ze<|Zg<|Tr.cond_t Z Z<|Zs<|Zr<|Zm Z<|Zm Z<|?_
     refine Za Z<|Za Z<|Ze<|Zg<|Zu<|Zn<|Zk<|Zn<|Zk<|Zn<|?_
     have e9 := Fr.sc_scan hsc (Fr.one_no (fun ⟨z0,z1,z2,z3,z4⟩ => by first | omega | (have z5 : (((bs.getD (at1 + 2 + Fr.hd bs at1) 0).toNat : Nat) : Int) = 90 := Fr.of90 z4; omega)))
     subst hn
     exact Ex.ret2 rfl rfl rfl  ⟨hVle,xs,_,q1,by rw [e9],by rw [e9],hrs,how,rfl⟩
    ·refine Zp h4<|Zm Z<|Zp h4<|Zm Z<|Zp h4<|Zv (Y.addN ((at1 + 2 : Nat) : Int) rfl rfl W W)<|Zp h4<|Zm Z<|Zp h4<|Zv (Y.addN (((at1 + 2) + (Fr.hd bs at1) : Nat) : Int) rfl rfl W W)<|Zp h4<|Zv (Y.idxR ((at1 + 2) + (Fr.hd bs at1)) rfl rfl Storesa_es22 ((hv.flatB.le hVle).cons) W W)<|Zp h4<|Zv (Y.ldR Z Storesa_ts5 ((hv.flatB.le hVle).cons) (flatm_at0 nB_len W 0 WD rfl))<|?_
     refine Zp h4<|Zv (Y.int Z Z Z)<|Zv (Y.pick_f Z h4 Z)<|Ze<|Zg<|?_
     rcases Zsplit ((((bs.getD ((at1 + 2) + (Fr.hd bs at1)) 0).toNat : Nat) : Int) != 90) with ⟨h5,g5⟩ | ⟨h5,g5⟩ <;> try simp only [kb] at g5
     ·refine Tr.cond_t Z h5<|Zs<|Zr<|Zm Z<|Zm Z<|Za Z<|Za Z<|Ze<|Zg<|Zu<|Zn<|Zk<|Zn<|Zk<|Zn<|?_
      have e9 := Fr.sc_scan hsc (Fr.one_no (fun ⟨z0,z1,z2,z3,z4⟩ => by first | omega | (have z5 : (((bs.getD (at1 + 2 + Fr.hd bs at1) 0).toNat : Nat) : Int) = 90 := Fr.of90 z4; omega)))
      subst hn
      exact Ex.ret2 rfl rfl rfl  ⟨hVle,xs,_,q1,by rw [e9],by rw [e9],hrs,how,rfl⟩
     ·refine Tr.cond_f Z h5<|Zt<|Zg<|Zs<|Zr<|Zm Z<|?_
      refine Run.buildSlice0 Storesa_es22 (lt rfl) (fun b6 => ?_)
      refine Zm Z<|Zm Z<|Zv (Y.addN ((at1 + 2 : Nat) : Int) rfl rfl W W)<|Zm Z<|Zv (Y.addN ((at1 + 2 : Nat) : Int) rfl rfl W W)<|Zm Z<|Zv (Y.addN (((at1 + 2) + (Fr.hd bs at1) : Nat) : Int) rfl rfl W W)<|Zv (Y.slice (l := at1 + 2) (m := (at1 + 2) + (Fr.hd bs at1)) rfl Storesa_es22 rfl rfl W W)<|?_
      refine Run.append (n := 0) (m := (((at1 + 2) + (Fr.hd bs at1)) - (at1 + 2))) (xs := []) (ys := ((bs.drop (at1 + 2)).take (((at1 + 2) + (Fr.hd bs at1)) - (at1 + 2))).flatMap nB) rfl rfl Storesa_es22 Storesa_zi5 WD (j := 0) rfl (Ow.lit (cur := #[]) rfl WD) (Src.of_rd Storesa_es22 (Rd.cut nB_len ((hv.flatB.le hVle).cons.cons) (at1 + 2) ((at1 + 2) + (Fr.hd bs at1)) W W)) W W (all_one_flat nB_enc _) (lt rfl) (fun v7 s8 ho9 hf => ?_)
      obtain ⟨p7,c7,rfl⟩ := hf
      replace ho9 := Ow.app (f := nB) (l := []) (m := (bs.drop (at1 + 2)).take (((at1 + 2) + (Fr.hd bs at1)) - (at1 + 2))) ho9
      have hs9 := ho9.mapB
      refine Run.show (fun V9 hle9 hsh9 => ?_)
      have hr9 : Rd V9 [] 1 (.slice p7 (0 + (((at1 + 2) + (Fr.hd bs at1)) - (at1 + 2))) c7) ((0 + (((at1 + 2) + (Fr.hd bs at1)) - (at1 + 2)))) ((([] ++ ((bs.drop (at1 + 2)).take (((at1 + 2) + (Fr.hd bs at1)) - (at1 + 2))))).map byteV) := hs9.show hsh9
      replace hVle := Vw.le_trans hVle hle9
      replace hrs := hrs.le hle9
      refine Run.buildSlice (l := [(0,.tmp 62)]) Storesa_es56 Storesa_zo22 rfl WD rfl rfl WD (lt rfl) (fun b10 => ?_)
      refine Run.append (n := n1) (m := 1) (xs := (xs).flatMap Rc.cell) (ys := [.slice p7 (0 + (((at1 + 2) + (Fr.hd bs at1)) - (at1 + 2))) c7]) rfl rfl Storesa_es56 Storesa_zi22 WD (j := 1) rfl how (Src.of_rd Storesa_es56 (Rd.one (Kn.at 0 rfl) rfl)) W W rfl (lt rfl) (fun v11 s12 ho13 hf => ?_)
      obtain ⟨p11,c11,rfl⟩ := hf
      replace ho13 := Ow.app1 (f := Rc.cell) (l := xs) (x := (⟨p7,(0 + (((at1 + 2) + (Fr.hd bs at1)) - (at1 + 2))),c7,([] ++ ((bs.drop (at1 + 2)).take (((at1 + 2) + (Fr.hd bs at1)) - (at1 + 2))))⟩ : Rc)) ho13
      refine Za Z<|Ze<|Zg<|Zr<|Zm Z<|Zv (Y.addN ((at1 + 3 : Nat) : Int) rfl rfl W W)<|Zm Z<|Zv (Y.addN (((at1 + 3) + (Fr.hd bs at1) : Nat) : Int) rfl rfl W W)<|Za Z<|Ze<|Zc<|Ex.drop<|?_
      exact ZR (⟨(at1 + 3) + (Fr.hd bs at1),V9,xs ++ [(⟨p7,(0 + (((at1 + 2) + (Fr.hd bs at1)) - (at1 + 2))),c7,([] ++ ((bs.drop (at1 + 2)).take (((at1 + 2) + (Fr.hd bs at1)) - (at1 + 2))))⟩ : Rc)],p11,(n1 + 1),c11,s12⟩ : Nat × Vw × List Rc × Option Addr × Nat × Nat × Sg) ⟨by rw [List.map_append]; exact Fr.sc_more hsc (Fr.one_yes (n := Fr.hd bs at1) rfl W W W W (Fr.is90 (b := bs.getD (at1 + 2 + Fr.hd bs at1) 0) W)) (by (try dsimp only) <;> omega) (congrArg (fun z => (bs.drop (at1 + 2)).take z) (show at1 + 2 + Fr.hd bs at1 - (at1 + 2) = Fr.hd bs at1 by omega)),hVle,hrs.snoc hr9,ho13,by rw [List.length_append,List.length_singleton,hn]⟩ (by dsimp only; omega)
 ·refine Tr.cond_f Z h1<|Zx<|Zy<|Zy<|Zi<|Zg<|Zs<|Zr<|Zm Z<|Zm Z<|Za Z<|Za Z<|Ze<|Zg<|Zu<|?_
  have e9 := Fr.sc_scan hsc (Fr.one_no (fun ⟨z0,z1,z2,z3,z4⟩ => by first | omega | (have z5 : (((bs.getD (at1 + 2 + Fr.hd bs at1) 0).toNat : Nat) : Int) = 90 := Fr.of90 z4; omega)))
  subst hn
  exact Ex.ret2 rfl rfl rfl  ⟨hVle,xs,_,q1,by rw [e9],by rw [e9],hrs,how,rfl⟩
theorem number11_c {n : Int} {k : Nat} (hk : k ≤ 8) (hn : 0 ≤ n ∧ n ≤ 9223372036854775807) {V : Vw} : Does Tryz.prog 258 [.int .i64 n,.int .i64 (k : Int)] V [] (fun v V' H' => V' = V ∧ ∃ s',H' = [s'] ∧ Ow 5 1 v k ((Msg.be k n).map byteV) s') := by
 refine Does.intro Tryz.func258 rfl rfl (le rfl) (fun B => ?_)
 refine Zs<|Zr<|Za Z<|Ze<|Zg<|Zs<|Zr<|Zm Z<|?_
 refine Run.makeSlice rfl rfl Storesa_es22 Storesa_zi5 WD W W (lt rfl) (fun b1 => ?_)
 rw [show rep (Value.int .u8 0).cells.toList k = Msg.row k 0 n from Msg.row_zero k n]
 refine Za Z<|Ze<|Zg<|Zs<|Zs<|Zr<|Zm Z<|Zv (Y.sub Z Z W)<|Za Z<|Ze<|Zg<|Zb<|?_
 refine ZL (X := Nat) (fun x => V) (fun x => [[(b1,.cells (Msg.row k x n).toArray 5 (0,0))]]) (fun x => [(0,.int .i64 (n / 256 ^ x)),(1,.int .i64 (k : Int)),(5,.slice (some ⟨b1,0,none⟩) k k),(6,.int .i64 ((k : Int) - 1 - (x : Int)))]) (fun x => x ≤ k) (fun x => k - x) 0 (Nat.zero_le _) ?_
 rintro x hx
 refine Zs<|Zs<|Zr<|Zm Z<|Zv (Y.int Z Z Z)<|Ze<|Zg<|?_
 rcases Zsplit (decide (((k : Int) - 1 - (x : Int)) ≥ 0)) with ⟨h2,g2⟩ | ⟨h2,g2⟩ <;> try simp only [kb] at g2
 ·refine Tr.cond_t Z h2<|Zt<|Zg<|Zs<|Zb<|Zs<|Zr<|Zm Z<|Zm Z<|Zm Z<|Zv (Y.rem (n / 256 ^ x % 256) rfl rfl WD (Msg.tmod_256 hn.1 x))<|Zv (Y.conv (n / 256 ^ x % 256) rfl Storesa_it3_5 (wrap_u8 W))<|Zv (Y.idxAddr Z Z Storesa_es22 W W)<|Run.store (off := 0 + (((k : Int) - 1 - (x : Int)).toNat * 1)) (z := 1) (c := Msg.row k x n) (s := [(b1,.cells (Msg.row k (x + 1) n).toArray 5 (0,0))]) rfl rfl Storesa_sz5 (i := 0) rfl rfl (by rw [Msg.row_length W]; omega) rfl (by rw [Msg.row_step W W]; rfl)<|?_
  refine Ze<|Zg<|Zr<|Zm Z<|Zv (Y.quo (n / 256 ^ (x + 1)) rfl rfl WD (Msg.tdiv_256 hn x))<|Za Z<|Ze<|Zc<|Zg<|Zr<|Zm Z<|Zv (Y.sub Z Z W)<|Za Z<|Ze<|?_
  exact ZR (x + 1) (by show x + 1 ≤ k; omega) W
 ·refine Tr.cond_f Z h2<|Zx<|Zy<|Zy<|Zi<|Zg<|Zs<|Zr<|Zm Z<|Za Z<|Ze<|Zg<|Zu<|?_
  exact Ex.ret1 rfl rfl  ⟨rfl,_,rfl,by rw [show x = k from by omega]; exact Msg.row_ow k n _ _ W⟩
set_option maxHeartbeats 1000000 in
theorem renc_c {V : Vw} {q : Le} (hok : q.Ok)  : Does Tryz.prog 222 [.agg #[.int .u32 q.addr,.int .i64 q.bind,.string q.client,.int .i64 q.till,.int .i64 q.acked,.int .i64 q.told,.int .i64 q.at_,.int .i64 q.ver]] V [] (fun v V' H' => V' = V ∧ (Le.right q = false ∧ v = .tuple #[.slice none 0 0,.int .i64 1] ∧ H' = [] ∨ Le.right q = true ∧ ∃ p c q2,v = .tuple #[.slice p (Le.encB q).length c,.int .i64 0] ∧ Ow 5 1 (.slice p (Le.encB q).length c) (Le.encB q).length ((Le.encB q).map byteV) q2 ∧ H' = [q2])) := by
 have ha := hok.addr
 have hcs := hok.client
 refine Does.intro Tryz.func222 rfl rfl (le rfl) (fun B => ?_)
 refine Zs<|Zr<|?_
 refine Run.box rfl (lt rfl) (fun b1 => ?_)
 refine Za Z<|Za Z<|Ze<|Zg<|Zs<|Zr<|Zv (Y.loadAgg Z Storesa_ag49 (Kn.at 0 Z) Z)<|Run.call0 (l := [.tmp 6]) Z Z Z (lt Z) (rright11_h (q := q) hok.client)<|Za Z<|Ze<|Zg<|Zs<|Zs<|Zr<|Zm Z<|Zv (Y.not Z)<|?_
 refine Ze<|Zg<|?_
 rcases Zsplit (Le.right q) with ⟨h2,g2⟩ | ⟨h2,g2⟩ <;> try simp only [kb] at g2
 ·have hri := Le.right_iff.1 h2
  have hsz := Le.right_size h2
  have hel := Le.encB_len q
  refine Tr.cond_f Z (congrArg Bool.not h2)<|Zt<|Zg<|Zs<|Tr.anyD [(b1,.cells #[.int .u32 q.addr,.int .i64 q.bind,.string q.client,.int .i64 q.till,.int .i64 q.acked,.int .i64 q.told,.int .i64 q.at_,.int .i64 q.ver] 49 (0,0))] Storesa_mo<|RunD.pure (i := 0) rfl WK WK WK (fun _ _ _ h => h) (lt rfl) (ZK 0 Z) (fun _ => (Y.fieldAddr rfl Storesa_fo49_0))<|RunD.take (i := 1) 0 rfl rfl WK WK WK (fun _ _ _ h => h) (lt rfl) (ZK 0 Z) (fun _ => (Y.load rfl Storesa_ts47 Kn.vk1 rfl))<|?_
  refine RunD.pure (i := 2) rfl WK WK WK (fun _ _ _ h => h) (lt rfl) (ZK 0 Z) (fun _ => (Y.conv (q.addr) rfl Storesa_it47_3 (wrap_i64 W)))<|RunD.pure (i := 4) rfl WK WK WK (fun _ _ _ h => h) (lt rfl) (ZK 0 Z) (fun _ => (Y.fieldAddr rfl Storesa_fo49_1))<|RunD.take (i := 5) 0 rfl rfl WK WK WK (fun _ _ _ h => h) (lt rfl) (ZK 0 Z) (fun _ => (Y.load rfl Storesa_ts3 Kn.vk1 rfl))<|?_
  refine RunD.pure (i := 6) rfl WK WK WK (fun _ _ _ h => h) (lt rfl) (ZK 0 Z) (fun _ => (Y.conv (q.bind) rfl Storesa_it3_5 (wrap_u8 W))) ?_
  refine RunD.two (i := 3) (j := 7) WK rfl rfl  ?_ ?_
  ·refine Run.call [] (l := [.tmp 12,.const (.int .i64 4)]) rfl rfl rfl (lt rfl) (number11_c (k := 4) WD W) (fun v3 V2 H2 _ hR => ?_)
   obtain ⟨hV,s4,rfl,ho5⟩ := hR; replace hV := hV.symm; subst hV
   obtain ⟨p3,c3,rfl⟩ := ho5.form
   refine Run.heapTo (H' := [[(b1,.cells #[.int .u32 q.addr,.int .i64 q.bind,.string q.client,.int .i64 q.till,.int .i64 q.acked,.int .i64 q.told,.int .i64 q.at_,.int .i64 q.ver] 49 (0,0))],s4]) Z<|Run.heapTo (H' := [[(b1,.cells #[.int .u32 q.addr,.int .i64 q.bind,.string q.client,.int .i64 q.till,.int .i64 q.acked,.int .i64 q.told,.int .i64 q.at_,.int .i64 q.ver] 49 (0,0))],s4]) Z<|Ze<|Ex.anyD (ZK 0 Z)<|?_
   refine RunD.one (i := 7) WK rfl  ?_
   refine Run.buildSlice (l := [(0,.tmp 16)]) Storesa_es22 Storesa_zo5 rfl WD rfl rfl WD (lt rfl) (fun b6 => ?_)
   refine Ze<|Ex.anyD (ZK 1 Z)<|?_
   refine RunD.one (i := 8) WK rfl  ?_
   refine Run.append (n := 4) (m := 1) (xs := (Msg.be 4 q.addr).map byteV) (ys := [.int .u8 q.bind]) rfl rfl Storesa_es22 Storesa_zi5 WD (j := 2) rfl ho5 (Src.of_rd Storesa_es22 (Rd.one (Kn.at 0 rfl) rfl)) W W rfl (lt rfl) (fun v7 s8 ho9 hf => ?_)
   obtain ⟨p7,c7,rfl⟩ := hf
   refine Ze<|Ex.anyD (ZK 1 Z)<|RunD.pure (i := 9) rfl WK WK WK (fun _ _ _ h => h) (lt rfl) (ZK 1 Z) (fun _ => (Y.assign rfl))<|RunD.done WK<|Zg<|Zs<|Zr<|Zm Z<|Zv (Y.fieldAddr Z Storesa_fo49_3)<|Zv (Y.load Z Storesa_ts3 (Kn.at 1 Z) Z)<|?_
   refine Run.call [] (l := [.tmp 21,.const (.int .i64 6)]) rfl rfl rfl (lt rfl) (number11_c (k := 6) WD W) (fun v10 V2 H2 _ hR => ?_)
   obtain ⟨hV,s11,rfl,ho12⟩ := hR; replace hV := hV.symm; subst hV
   obtain ⟨p10,c10,rfl⟩ := ho12.form
   refine Run.heapTo (H' := [[(b6,.cells #[.int .u8 q.bind] 5 (0,0))],[(b1,.cells #[.int .u32 q.addr,.int .i64 q.bind,.string q.client,.int .i64 q.till,.int .i64 q.acked,.int .i64 q.told,.int .i64 q.at_,.int .i64 q.ver] 49 (0,0))],s8,s11]) Z<|Run.heapTo (H' := [[(b6,.cells #[.int .u8 q.bind] 5 (0,0))],[(b1,.cells #[.int .u32 q.addr,.int .i64 q.bind,.string q.client,.int .i64 q.till,.int .i64 q.acked,.int .i64 q.told,.int .i64 q.at_,.int .i64 q.ver] 49 (0,0))],s8,s11]) Z<|?_
   refine Run.append (n := 4 + 1) (m := 6) (xs := ((Msg.be 4 q.addr).map byteV) ++ [.int .u8 q.bind]) (ys := (Msg.be 6 q.till).map byteV) rfl rfl Storesa_es22 Storesa_zi5 WD (j := 2) rfl ho9 (Src.of_rd Storesa_es22 (ho12.rd 3 rfl)) W W (all_one_bytes _) (lt rfl) (fun v13 s14 ho15 hf => ?_)
   obtain ⟨p13,c13,rfl⟩ := hf
   refine Za Z<|Ze<|Zg<|Zs<|Zr<|Zm Z<|Zv (Y.fieldAddr Z Storesa_fo49_4)<|Zv (Y.load Z Storesa_ts3 (Kn.at 1 Z) Z)<|?_
   refine Run.call [] (l := [.tmp 26,.const (.int .i64 6)]) rfl rfl rfl (lt rfl) (number11_c (k := 6) WD W) (fun v16 V2 H2 _ hR => ?_)
   obtain ⟨hV,s17,rfl,ho18⟩ := hR; replace hV := hV.symm; subst hV
   obtain ⟨p16,c16,rfl⟩ := ho18.form
   refine Run.heapTo (H' := [[(b6,.cells #[.int .u8 q.bind] 5 (0,0))],[(b1,.cells #[.int .u32 q.addr,.int .i64 q.bind,.string q.client,.int .i64 q.till,.int .i64 q.acked,.int .i64 q.told,.int .i64 q.at_,.int .i64 q.ver] 49 (0,0))],s14,s11,s17]) Z<|Run.heapTo (H' := [[(b6,.cells #[.int .u8 q.bind] 5 (0,0))],[(b1,.cells #[.int .u32 q.addr,.int .i64 q.bind,.string q.client,.int .i64 q.till,.int .i64 q.acked,.int .i64 q.told,.int .i64 q.at_,.int .i64 q.ver] 49 (0,0))],s14,s11,s17]) Z<|?_
   refine Run.append (n := 4 + 1 + 6) (m := 6) (xs := (((Msg.be 4 q.addr).map byteV) ++ [.int .u8 q.bind]) ++ ((Msg.be 6 q.till).map byteV)) (ys := (Msg.be 6 q.acked).map byteV) rfl rfl Storesa_es22 Storesa_zi5 WD (j := 2) rfl ho15 (Src.of_rd Storesa_es22 (ho18.rd 4 rfl)) W W (all_one_bytes _) (lt rfl) (fun v19 s20 ho21 hf => ?_)
   obtain ⟨p19,c19,rfl⟩ := hf
   refine Za Z<|Ze<|Zg<|Zs<|Zr<|Zm Z<|Zv (Y.fieldAddr Z Storesa_fo49_5)<|Zv (Y.load Z Storesa_ts3 (Kn.at 1 Z) Z)<|?_
   refine Run.call [] (l := [.tmp 31,.const (.int .i64 6)]) rfl rfl rfl (lt rfl) (number11_c (k := 6) WD W) (fun v22 V2 H2 _ hR => ?_)
   obtain ⟨hV,s23,rfl,ho24⟩ := hR; replace hV := hV.symm; subst hV
   obtain ⟨p22,c22,rfl⟩ := ho24.form
   refine Run.heapTo (H' := [[(b6,.cells #[.int .u8 q.bind] 5 (0,0))],[(b1,.cells #[.int .u32 q.addr,.int .i64 q.bind,.string q.client,.int .i64 q.till,.int .i64 q.acked,.int .i64 q.told,.int .i64 q.at_,.int .i64 q.ver] 49 (0,0))],s20,s11,s17,s23]) Z<|Run.heapTo (H' := [[(b6,.cells #[.int .u8 q.bind] 5 (0,0))],[(b1,.cells #[.int .u32 q.addr,.int .i64 q.bind,.string q.client,.int .i64 q.till,.int .i64 q.acked,.int .i64 q.told,.int .i64 q.at_,.int .i64 q.ver] 49 (0,0))],s20,s11,s17,s23]) Z<|?_
   refine Run.append (n := 4 + 1 + 6 + 6) (m := 6) (xs := ((((Msg.be 4 q.addr).map byteV) ++ [.int .u8 q.bind]) ++ ((Msg.be 6 q.till).map byteV)) ++ ((Msg.be 6 q.acked).map byteV)) (ys := (Msg.be 6 q.told).map byteV) rfl rfl Storesa_es22 Storesa_zi5 WD (j := 2) rfl ho21 (Src.of_rd Storesa_es22 (ho24.rd 5 rfl)) W W (all_one_bytes _) (lt rfl) (fun v25 s26 ho27 hf => ?_)
   obtain ⟨p25,c25,rfl⟩ := hf
   refine Za Z<|Ze<|Zg<|Zs<|Zr<|Zm Z<|Zv (Y.fieldAddr Z Storesa_fo49_6)<|Zv (Y.load Z Storesa_ts3 (Kn.at 1 Z) Z)<|?_
   refine Run.call [] (l := [.tmp 36,.const (.int .i64 6)]) rfl rfl rfl (lt rfl) (number11_c (k := 6) WD W) (fun v28 V2 H2 _ hR => ?_)
   obtain ⟨hV,s29,rfl,ho30⟩ := hR; replace hV := hV.symm; subst hV
   obtain ⟨p28,c28,rfl⟩ := ho30.form
   refine Run.heapTo (H' := [[(b6,.cells #[.int .u8 q.bind] 5 (0,0))],[(b1,.cells #[.int .u32 q.addr,.int .i64 q.bind,.string q.client,.int .i64 q.till,.int .i64 q.acked,.int .i64 q.told,.int .i64 q.at_,.int .i64 q.ver] 49 (0,0))],s26,s11,s17,s23,s29]) Z<|Run.heapTo (H' := [[(b6,.cells #[.int .u8 q.bind] 5 (0,0))],[(b1,.cells #[.int .u32 q.addr,.int .i64 q.bind,.string q.client,.int .i64 q.till,.int .i64 q.acked,.int .i64 q.told,.int .i64 q.at_,.int .i64 q.ver] 49 (0,0))],s26,s11,s17,s23,s29]) Z<|?_
   refine Run.append (n := 4 + 1 + 6 + 6 + 6) (m := 6) (xs := (((((Msg.be 4 q.addr).map byteV) ++ [.int .u8 q.bind]) ++ ((Msg.be 6 q.till).map byteV)) ++ ((Msg.be 6 q.acked).map byteV)) ++ ((Msg.be 6 q.told).map byteV)) (ys := (Msg.be 6 q.at_).map byteV) rfl rfl Storesa_es22 Storesa_zi5 WD (j := 2) rfl ho27 (Src.of_rd Storesa_es22 (ho30.rd 6 rfl)) W W (all_one_bytes _) (lt rfl) (fun v31 s32 ho33 hf => ?_)
   obtain ⟨p31,c31,rfl⟩ := hf
   refine Za Z<|Ze<|Zg<|Zs<|Zr<|Zm Z<|Zv (Y.fieldAddr Z Storesa_fo49_7)<|Zv (Y.load Z Storesa_ts3 (Kn.at 1 Z) Z)<|?_
   refine Run.call [] (l := [.tmp 41,.const (.int .i64 6)]) rfl rfl rfl (lt rfl) (number11_c (k := 6) WD W) (fun v34 V2 H2 _ hR => ?_)
   obtain ⟨hV,s35,rfl,ho36⟩ := hR; replace hV := hV.symm; subst hV
   obtain ⟨p34,c34,rfl⟩ := ho36.form
   refine Run.heapTo (H' := [[(b6,.cells #[.int .u8 q.bind] 5 (0,0))],[(b1,.cells #[.int .u32 q.addr,.int .i64 q.bind,.string q.client,.int .i64 q.till,.int .i64 q.acked,.int .i64 q.told,.int .i64 q.at_,.int .i64 q.ver] 49 (0,0))],s32,s11,s17,s23,s29,s35]) Z<|Run.heapTo (H' := [[(b6,.cells #[.int .u8 q.bind] 5 (0,0))],[(b1,.cells #[.int .u32 q.addr,.int .i64 q.bind,.string q.client,.int .i64 q.till,.int .i64 q.acked,.int .i64 q.told,.int .i64 q.at_,.int .i64 q.ver] 49 (0,0))],s32,s11,s17,s23,s29,s35]) Z<|?_
   refine Run.append (n := 4 + 1 + 6 + 6 + 6 + 6) (m := 6) (xs := ((((((Msg.be 4 q.addr).map byteV) ++ [.int .u8 q.bind]) ++ ((Msg.be 6 q.till).map byteV)) ++ ((Msg.be 6 q.acked).map byteV)) ++ ((Msg.be 6 q.told).map byteV)) ++ ((Msg.be 6 q.at_).map byteV)) (ys := (Msg.be 6 q.ver).map byteV) rfl rfl Storesa_es22 Storesa_zi5 WD (j := 2) rfl ho33 (Src.of_rd Storesa_es22 (ho36.rd 7 rfl)) W W (all_one_bytes _) (lt rfl) (fun v37 s38 ho39 hf => ?_)
   obtain ⟨p37,c37,rfl⟩ := hf
   refine Za Z<|Ze<|Zg<|Zs<|Zr<|Zm Z<|Zv (Y.fieldAddr Z Storesa_fo49_2)<|Zv (Y.load Z Storesa_ts9 (Kn.at 1 Z) Z)<|Zv (Y.lenStr Z Storesa_st9)<|Zv (Y.conv (((q.client.size : Nat) : Int)) rfl Storesa_it3_5 (wrap_u8 W))<|?_
   refine Run.buildSlice (l := [(0,.tmp 48)]) Storesa_es22 Storesa_zo5 rfl WD rfl rfl WD (lt rfl) (fun b40 => ?_)
   refine Run.append (n := 4 + 1 + 6 + 6 + 6 + 6 + 6) (m := 1) (xs := (((((((Msg.be 4 q.addr).map byteV) ++ [.int .u8 q.bind]) ++ ((Msg.be 6 q.till).map byteV)) ++ ((Msg.be 6 q.acked).map byteV)) ++ ((Msg.be 6 q.told).map byteV)) ++ ((Msg.be 6 q.at_).map byteV)) ++ ((Msg.be 6 q.ver).map byteV)) (ys := [.int .u8 ((q.client.size : Nat) : Int)]) rfl rfl Storesa_es22 Storesa_zi5 WD (j := 3) rfl ho39 (Src.of_rd Storesa_es22 (Rd.one (Kn.at 0 rfl) rfl)) W W rfl (lt rfl) (fun v41 s42 ho43 hf => ?_)
   obtain ⟨p41,c41,rfl⟩ := hf
   refine Za Z<|Ze<|Zg<|Zs<|Zr<|Zm Z<|Zv (Y.fieldAddr Z Storesa_fo49_2)<|Zv (Y.load Z Storesa_ts9 (Kn.at 2 Z) Z)<|?_
   refine Run.append (n := 4 + 1 + 6 + 6 + 6 + 6 + 6 + 1) (m := q.client.size) (xs := ((((((((Msg.be 4 q.addr).map byteV) ++ [.int .u8 q.bind]) ++ ((Msg.be 6 q.till).map byteV)) ++ ((Msg.be 6 q.acked).map byteV)) ++ ((Msg.be 6 q.told).map byteV)) ++ ((Msg.be 6 q.at_).map byteV)) ++ ((Msg.be 6 q.ver).map byteV)) ++ [.int .u8 ((q.client.size : Nat) : Int)]) (ys := q.client.toList.map byteV) rfl rfl Storesa_es22 Storesa_zi5 WD (j := 3) rfl ho43 (Src.of_str q.client Storesa_st9) W W (all_one_bytes _) (lt rfl) (fun v44 s45 ho46 hf => ?_)
   obtain ⟨p44,c44,rfl⟩ := hf
   refine Za Z<|Za Z<|Ze<|Zg<|Zu<|Ex.keep [3]<|?_
   have h9 := ho46
   have h8 := Le.enc_cells (q := q) W W (xs := (((((((((Msg.be 4 q.addr).map byteV) ++ [.int .u8 q.bind]) ++ ((Msg.be 6 q.till).map byteV)) ++ ((Msg.be 6 q.acked).map byteV)) ++ ((Msg.be 6 q.told).map byteV)) ++ ((Msg.be 6 q.at_).map byteV)) ++ ((Msg.be 6 q.ver).map byteV)) ++ [.int .u8 ((q.client.size : Nat) : Int)]) ++ (q.client.toList.map byteV)) (by simp only [Le.tl,List.flatMap_cons,List.flatMap_nil,List.append_nil,List.append_assoc])
   rw [h8] at h9
   exact Ex.ret2 rfl rfl rfl  ⟨rfl,.inr ⟨h2,p44,c44,s45,by rw [(show ((4 + 1 + 6 + 6 + 6 + 6 + 6 + 1 + q.client.size) : Nat) = (Le.encB q).length from by omega)],by rw [(show ((4 + 1 + 6 + 6 + 6 + 6 + 6 + 1 + q.client.size) : Nat) = (Le.encB q).length from by omega)] at h9; exact h9,rfl⟩⟩
  ·refine Run.buildSlice (l := [(0,.tmp 16)]) Storesa_es22 Storesa_zo5 rfl WD rfl rfl WD (lt rfl) (fun b47 => ?_)
   refine Ze<|Ex.anyD (ZK 1 Z)<|?_
   refine RunD.one (i := 3) WK rfl  ?_
   refine Run.call [] (l := [.tmp 12,.const (.int .i64 4)]) rfl rfl rfl (lt rfl) (number11_c (k := 4) WD W) (fun v48 V2 H2 _ hR => ?_)
   obtain ⟨hV,s49,rfl,ho50⟩ := hR; replace hV := hV.symm; subst hV
   obtain ⟨p48,c48,rfl⟩ := ho50.form
   refine Run.heapTo (H' := [[(b47,.cells #[.int .u8 q.bind] 5 (0,0))],[(b1,.cells #[.int .u32 q.addr,.int .i64 q.bind,.string q.client,.int .i64 q.till,.int .i64 q.acked,.int .i64 q.told,.int .i64 q.at_,.int .i64 q.ver] 49 (0,0))],s49]) Z<|Run.heapTo (H' := [[(b47,.cells #[.int .u8 q.bind] 5 (0,0))],[(b1,.cells #[.int .u32 q.addr,.int .i64 q.bind,.string q.client,.int .i64 q.till,.int .i64 q.acked,.int .i64 q.told,.int .i64 q.at_,.int .i64 q.ver] 49 (0,0))],s49]) Z<|?_
   refine Ze<|Ex.anyD (ZK 1 Z)<|?_
   refine RunD.one (i := 8) WK rfl  ?_
   refine Run.append (n := 4) (m := 1) (xs := (Msg.be 4 q.addr).map byteV) (ys := [.int .u8 q.bind]) rfl rfl Storesa_es22 Storesa_zi5 WD (j := 2) rfl ho50 (Src.of_rd Storesa_es22 (Rd.one (Kn.at 0 rfl) rfl)) W W rfl (lt rfl) (fun v51 s52 ho53 hf => ?_)
   obtain ⟨p51,c51,rfl⟩ := hf
   refine Ze<|Ex.anyD (ZK 1 Z)<|RunD.pure (i := 9) rfl WK WK WK (fun _ _ _ h => h) (lt rfl) (ZK 1 Z) (fun _ => (Y.assign rfl))<|RunD.done WK<|Zg<|Zs<|Zr<|Zm Z<|Zv (Y.fieldAddr Z Storesa_fo49_3)<|Zv (Y.load Z Storesa_ts3 (Kn.at 1 Z) Z)<|?_
   refine Run.call [] (l := [.tmp 21,.const (.int .i64 6)]) rfl rfl rfl (lt rfl) (number11_c (k := 6) WD W) (fun v54 V2 H2 _ hR => ?_)
   obtain ⟨hV,s55,rfl,ho56⟩ := hR; replace hV := hV.symm; subst hV
   obtain ⟨p54,c54,rfl⟩ := ho56.form
   refine Run.heapTo (H' := [[(b47,.cells #[.int .u8 q.bind] 5 (0,0))],[(b1,.cells #[.int .u32 q.addr,.int .i64 q.bind,.string q.client,.int .i64 q.till,.int .i64 q.acked,.int .i64 q.told,.int .i64 q.at_,.int .i64 q.ver] 49 (0,0))],s52,s55]) Z<|Run.heapTo (H' := [[(b47,.cells #[.int .u8 q.bind] 5 (0,0))],[(b1,.cells #[.int .u32 q.addr,.int .i64 q.bind,.string q.client,.int .i64 q.till,.int .i64 q.acked,.int .i64 q.told,.int .i64 q.at_,.int .i64 q.ver] 49 (0,0))],s52,s55]) Z<|?_
   refine Run.append (n := 4 + 1) (m := 6) (xs := ((Msg.be 4 q.addr).map byteV) ++ [.int .u8 q.bind]) (ys := (Msg.be 6 q.till).map byteV) rfl rfl Storesa_es22 Storesa_zi5 WD (j := 2) rfl ho53 (Src.of_rd Storesa_es22 (ho56.rd 3 rfl)) W W (all_one_bytes _) (lt rfl) (fun v57 s58 ho59 hf => ?_)
   obtain ⟨p57,c57,rfl⟩ := hf
   refine Za Z<|Ze<|Zg<|Zs<|Zr<|Zm Z<|Zv (Y.fieldAddr Z Storesa_fo49_4)<|Zv (Y.load Z Storesa_ts3 (Kn.at 1 Z) Z)<|?_
   refine Run.call [] (l := [.tmp 26,.const (.int .i64 6)]) rfl rfl rfl (lt rfl) (number11_c (k := 6) WD W) (fun v60 V2 H2 _ hR => ?_)
   obtain ⟨hV,s61,rfl,ho62⟩ := hR; replace hV := hV.symm; subst hV
   obtain ⟨p60,c60,rfl⟩ := ho62.form
   refine Run.heapTo (H' := [[(b47,.cells #[.int .u8 q.bind] 5 (0,0))],[(b1,.cells #[.int .u32 q.addr,.int .i64 q.bind,.string q.client,.int .i64 q.till,.int .i64 q.acked,.int .i64 q.told,.int .i64 q.at_,.int .i64 q.ver] 49 (0,0))],s58,s55,s61]) Z<|Run.heapTo (H' := [[(b47,.cells #[.int .u8 q.bind] 5 (0,0))],[(b1,.cells #[.int .u32 q.addr,.int .i64 q.bind,.string q.client,.int .i64 q.till,.int .i64 q.acked,.int .i64 q.told,.int .i64 q.at_,.int .i64 q.ver] 49 (0,0))],s58,s55,s61]) Z<|?_
   refine Run.append (n := 4 + 1 + 6) (m := 6) (xs := (((Msg.be 4 q.addr).map byteV) ++ [.int .u8 q.bind]) ++ ((Msg.be 6 q.till).map byteV)) (ys := (Msg.be 6 q.acked).map byteV) rfl rfl Storesa_es22 Storesa_zi5 WD (j := 2) rfl ho59 (Src.of_rd Storesa_es22 (ho62.rd 4 rfl)) W W (all_one_bytes _) (lt rfl) (fun v63 s64 ho65 hf => ?_)
   obtain ⟨p63,c63,rfl⟩ := hf
   refine Za Z<|Ze<|Zg<|Zs<|Zr<|Zm Z<|Zv (Y.fieldAddr Z Storesa_fo49_5)<|Zv (Y.load Z Storesa_ts3 (Kn.at 1 Z) Z)<|?_
   refine Run.call [] (l := [.tmp 31,.const (.int .i64 6)]) rfl rfl rfl (lt rfl) (number11_c (k := 6) WD W) (fun v66 V2 H2 _ hR => ?_)
   obtain ⟨hV,s67,rfl,ho68⟩ := hR; replace hV := hV.symm; subst hV
   obtain ⟨p66,c66,rfl⟩ := ho68.form
   refine Run.heapTo (H' := [[(b47,.cells #[.int .u8 q.bind] 5 (0,0))],[(b1,.cells #[.int .u32 q.addr,.int .i64 q.bind,.string q.client,.int .i64 q.till,.int .i64 q.acked,.int .i64 q.told,.int .i64 q.at_,.int .i64 q.ver] 49 (0,0))],s64,s55,s61,s67]) Z<|Run.heapTo (H' := [[(b47,.cells #[.int .u8 q.bind] 5 (0,0))],[(b1,.cells #[.int .u32 q.addr,.int .i64 q.bind,.string q.client,.int .i64 q.till,.int .i64 q.acked,.int .i64 q.told,.int .i64 q.at_,.int .i64 q.ver] 49 (0,0))],s64,s55,s61,s67]) Z<|?_
   refine Run.append (n := 4 + 1 + 6 + 6) (m := 6) (xs := ((((Msg.be 4 q.addr).map byteV) ++ [.int .u8 q.bind]) ++ ((Msg.be 6 q.till).map byteV)) ++ ((Msg.be 6 q.acked).map byteV)) (ys := (Msg.be 6 q.told).map byteV) rfl rfl Storesa_es22 Storesa_zi5 WD (j := 2) rfl ho65 (Src.of_rd Storesa_es22 (ho68.rd 5 rfl)) W W (all_one_bytes _) (lt rfl) (fun v69 s70 ho71 hf => ?_)
   obtain ⟨p69,c69,rfl⟩ := hf
   refine Za Z<|Ze<|Zg<|Zs<|Zr<|Zm Z<|Zv (Y.fieldAddr Z Storesa_fo49_6)<|Zv (Y.load Z Storesa_ts3 (Kn.at 1 Z) Z)<|?_
   refine Run.call [] (l := [.tmp 36,.const (.int .i64 6)]) rfl rfl rfl (lt rfl) (number11_c (k := 6) WD W) (fun v72 V2 H2 _ hR => ?_)
   obtain ⟨hV,s73,rfl,ho74⟩ := hR; replace hV := hV.symm; subst hV
   obtain ⟨p72,c72,rfl⟩ := ho74.form
   refine Run.heapTo (H' := [[(b47,.cells #[.int .u8 q.bind] 5 (0,0))],[(b1,.cells #[.int .u32 q.addr,.int .i64 q.bind,.string q.client,.int .i64 q.till,.int .i64 q.acked,.int .i64 q.told,.int .i64 q.at_,.int .i64 q.ver] 49 (0,0))],s70,s55,s61,s67,s73]) Z<|Run.heapTo (H' := [[(b47,.cells #[.int .u8 q.bind] 5 (0,0))],[(b1,.cells #[.int .u32 q.addr,.int .i64 q.bind,.string q.client,.int .i64 q.till,.int .i64 q.acked,.int .i64 q.told,.int .i64 q.at_,.int .i64 q.ver] 49 (0,0))],s70,s55,s61,s67,s73]) Z<|?_
   refine Run.append (n := 4 + 1 + 6 + 6 + 6) (m := 6) (xs := (((((Msg.be 4 q.addr).map byteV) ++ [.int .u8 q.bind]) ++ ((Msg.be 6 q.till).map byteV)) ++ ((Msg.be 6 q.acked).map byteV)) ++ ((Msg.be 6 q.told).map byteV)) (ys := (Msg.be 6 q.at_).map byteV) rfl rfl Storesa_es22 Storesa_zi5 WD (j := 2) rfl ho71 (Src.of_rd Storesa_es22 (ho74.rd 6 rfl)) W W (all_one_bytes _) (lt rfl) (fun v75 s76 ho77 hf => ?_)
   obtain ⟨p75,c75,rfl⟩ := hf
   refine Za Z<|Ze<|Zg<|Zs<|Zr<|Zm Z<|Zv (Y.fieldAddr Z Storesa_fo49_7)<|Zv (Y.load Z Storesa_ts3 (Kn.at 1 Z) Z)<|?_
   refine Run.call [] (l := [.tmp 41,.const (.int .i64 6)]) rfl rfl rfl (lt rfl) (number11_c (k := 6) WD W) (fun v78 V2 H2 _ hR => ?_)
   obtain ⟨hV,s79,rfl,ho80⟩ := hR; replace hV := hV.symm; subst hV
   obtain ⟨p78,c78,rfl⟩ := ho80.form
   refine Run.heapTo (H' := [[(b47,.cells #[.int .u8 q.bind] 5 (0,0))],[(b1,.cells #[.int .u32 q.addr,.int .i64 q.bind,.string q.client,.int .i64 q.till,.int .i64 q.acked,.int .i64 q.told,.int .i64 q.at_,.int .i64 q.ver] 49 (0,0))],s76,s55,s61,s67,s73,s79]) Z<|Run.heapTo (H' := [[(b47,.cells #[.int .u8 q.bind] 5 (0,0))],[(b1,.cells #[.int .u32 q.addr,.int .i64 q.bind,.string q.client,.int .i64 q.till,.int .i64 q.acked,.int .i64 q.told,.int .i64 q.at_,.int .i64 q.ver] 49 (0,0))],s76,s55,s61,s67,s73,s79]) Z<|?_
   refine Run.append (n := 4 + 1 + 6 + 6 + 6 + 6) (m := 6) (xs := ((((((Msg.be 4 q.addr).map byteV) ++ [.int .u8 q.bind]) ++ ((Msg.be 6 q.till).map byteV)) ++ ((Msg.be 6 q.acked).map byteV)) ++ ((Msg.be 6 q.told).map byteV)) ++ ((Msg.be 6 q.at_).map byteV)) (ys := (Msg.be 6 q.ver).map byteV) rfl rfl Storesa_es22 Storesa_zi5 WD (j := 2) rfl ho77 (Src.of_rd Storesa_es22 (ho80.rd 7 rfl)) W W (all_one_bytes _) (lt rfl) (fun v81 s82 ho83 hf => ?_)
   obtain ⟨p81,c81,rfl⟩ := hf
   refine Za Z<|Ze<|Zg<|Zs<|Zr<|Zm Z<|Zv (Y.fieldAddr Z Storesa_fo49_2)<|Zv (Y.load Z Storesa_ts9 (Kn.at 1 Z) Z)<|Zv (Y.lenStr Z Storesa_st9)<|Zv (Y.conv (((q.client.size : Nat) : Int)) rfl Storesa_it3_5 (wrap_u8 W))<|?_
   refine Run.buildSlice (l := [(0,.tmp 48)]) Storesa_es22 Storesa_zo5 rfl WD rfl rfl WD (lt rfl) (fun b84 => ?_)
   refine Run.append (n := 4 + 1 + 6 + 6 + 6 + 6 + 6) (m := 1) (xs := (((((((Msg.be 4 q.addr).map byteV) ++ [.int .u8 q.bind]) ++ ((Msg.be 6 q.till).map byteV)) ++ ((Msg.be 6 q.acked).map byteV)) ++ ((Msg.be 6 q.told).map byteV)) ++ ((Msg.be 6 q.at_).map byteV)) ++ ((Msg.be 6 q.ver).map byteV)) (ys := [.int .u8 ((q.client.size : Nat) : Int)]) rfl rfl Storesa_es22 Storesa_zi5 WD (j := 3) rfl ho83 (Src.of_rd Storesa_es22 (Rd.one (Kn.at 0 rfl) rfl)) W W rfl (lt rfl) (fun v85 s86 ho87 hf => ?_)
   obtain ⟨p85,c85,rfl⟩ := hf
   refine Za Z<|Ze<|Zg<|Zs<|Zr<|Zm Z<|Zv (Y.fieldAddr Z Storesa_fo49_2)<|Zv (Y.load Z Storesa_ts9 (Kn.at 2 Z) Z)<|?_
   refine Run.append (n := 4 + 1 + 6 + 6 + 6 + 6 + 6 + 1) (m := q.client.size) (xs := ((((((((Msg.be 4 q.addr).map byteV) ++ [.int .u8 q.bind]) ++ ((Msg.be 6 q.till).map byteV)) ++ ((Msg.be 6 q.acked).map byteV)) ++ ((Msg.be 6 q.told).map byteV)) ++ ((Msg.be 6 q.at_).map byteV)) ++ ((Msg.be 6 q.ver).map byteV)) ++ [.int .u8 ((q.client.size : Nat) : Int)]) (ys := q.client.toList.map byteV) rfl rfl Storesa_es22 Storesa_zi5 WD (j := 3) rfl ho87 (Src.of_str q.client Storesa_st9) W W (all_one_bytes _) (lt rfl) (fun v88 s89 ho90 hf => ?_)
   obtain ⟨p88,c88,rfl⟩ := hf
   refine Za Z<|Za Z<|Ze<|Zg<|Zu<|Ex.keep [3]<|?_
   have h9 := ho90
   have h8 := Le.enc_cells (q := q) W W (xs := (((((((((Msg.be 4 q.addr).map byteV) ++ [.int .u8 q.bind]) ++ ((Msg.be 6 q.till).map byteV)) ++ ((Msg.be 6 q.acked).map byteV)) ++ ((Msg.be 6 q.told).map byteV)) ++ ((Msg.be 6 q.at_).map byteV)) ++ ((Msg.be 6 q.ver).map byteV)) ++ [.int .u8 ((q.client.size : Nat) : Int)]) ++ (q.client.toList.map byteV)) (by simp only [Le.tl,List.flatMap_cons,List.flatMap_nil,List.append_nil,List.append_assoc])
   rw [h8] at h9
   exact Ex.ret2 rfl rfl rfl  ⟨rfl,.inr ⟨h2,p88,c88,s89,by rw [(show ((4 + 1 + 6 + 6 + 6 + 6 + 6 + 1 + q.client.size) : Nat) = (Le.encB q).length from by omega)],by rw [(show ((4 + 1 + 6 + 6 + 6 + 6 + 6 + 1 + q.client.size) : Nat) = (Le.encB q).length from by omega)] at h9; exact h9,rfl⟩⟩
 ·refine Tr.cond_t Z (congrArg Bool.not h2)<|Zs<|Zr<|Za Z<|Za Z<|Ze<|Zg<|Zu<|Zn<|Ex.keep []<|?_
  exact Ex.ret2 rfl rfl rfl  ⟨rfl,.inl ⟨h2,rfl,rfl⟩⟩
set_option maxHeartbeats 1000000 in
theorem enc_c {V : Vw} {q : Le} (hok : q.Ok)  : Does Tryz.prog 164 [.agg #[.int .u32 q.addr,.int .i64 q.bind,.string q.client,.int .i64 q.till,.int .i64 q.acked,.int .i64 q.told,.int .i64 q.at_,.int .i64 q.ver]] V [] (fun v V' H' => V' = V ∧ (Le.right q = false ∧ v = .tuple #[.slice none 0 0,.int .i64 1] ∧ H' = [] ∨ Le.right q = true ∧ ∃ p c q2,v = .tuple #[.slice p (Le.encB q).length c,.int .i64 0] ∧ Ow 5 1 (.slice p (Le.encB q).length c) (Le.encB q).length ((Le.encB q).map byteV) q2 ∧ H' = [q2])) := by
 have ha := hok.addr
 have hcs := hok.client
 refine Does.intro Tryz.func164 rfl rfl (le rfl) (fun B => ?_)
 refine Zs<|Zr<|?_
 refine Run.box rfl (lt rfl) (fun b1 => ?_)
 refine Za Z<|Za Z<|Ze<|Zg<|Zs<|Zs<|Zr<|Zv (Y.loadAgg Z Storesa_ag49 (Kn.at 0 Z) Z)<|Run.call0 (l := [.tmp 9]) Z Z Z (lt Z) (right_h (q := q) hok.client)<|Zv (Y.not Z)<|Ze<|Zg<|?_
 rcases Zsplit (Le.right q) with ⟨h2,g2⟩ | ⟨h2,g2⟩ <;> try simp only [kb] at g2
 ·have hri := Le.right_iff.1 h2
  have hsz := Le.right_size h2
  have hel := Le.encB_len q
  refine Tr.cond_f Z (congrArg Bool.not h2)<|Zt<|Zg<|Zs<|Zr<|Zv (Y.fieldAddr Z Storesa_fo49_0)<|Zv (Y.load Z Storesa_ts47 (Kn.at 0 Z) Z)<|Za Z<|Ze<|Zg<|Zs<|Zr<|Zm Z<|Zv (Y.shr (q.addr / 16777216) rfl rfl WD (by show q.addr.fdiv 16777216 = _; exact Int.fdiv_eq_ediv_of_nonneg _ WD))<|Zv (Y.conv (q.addr / 16777216 % 256) Z Storesa_it47_5 (wrap_u8_mod _))<|Zm Z<|?_
  refine Zv (Y.shr (q.addr / 65536) rfl rfl WD (by show q.addr.fdiv 65536 = _; exact Int.fdiv_eq_ediv_of_nonneg _ WD))<|Zv (Y.conv (q.addr / 65536 % 256) Z Storesa_it47_5 (wrap_u8_mod _))<|Zm Z<|Zv (Y.shr (q.addr / 256) rfl rfl WD (by show q.addr.fdiv 256 = _; exact Int.fdiv_eq_ediv_of_nonneg _ WD))<|Zv (Y.conv (q.addr / 256 % 256) Z Storesa_it47_5 (wrap_u8_mod _))<|Zm Z<|Zv (Y.conv (q.addr % 256) Z Storesa_it47_5 (wrap_u8_mod _))<|?_
  refine Zv (Y.fieldAddr Z Storesa_fo49_1)<|Zv (Y.load Z Storesa_ts3 (Kn.at 0 Z) Z)<|Zv (Y.conv (q.bind) rfl Storesa_it3_5 (wrap_u8 W))<|?_
  refine Run.buildSlice (l := [(0,.tmp 16),(1,.tmp 19),(2,.tmp 22),(3,.tmp 24),(4,.tmp 27)]) (r := [.int .u8 (q.addr / 16777216 % 256),.int .u8 (q.addr / 65536 % 256),.int .u8 (q.addr / 256 % 256),.int .u8 (q.addr % 256),.int .u8 q.bind]) Storesa_es22 Storesa_zo5 rfl WD rfl rfl WD (lt rfl) (fun b3 => ?_)
  refine Za Z<|Ze<|Zg<|Zs<|Zs<|Zr<|Run.call0 (l := [.tmp 1]) Z Z Z (lt Z) times_c<|Zm Z<|Ze<|Zg<|Zb<|Tr.unroll 5<|Zs<|Zr<|Zv (Y.int (r := .bool true) Z Z Z)<|Ze<|?_
  refine Zg<|Zs<|Tr.cond_t Z Z<|Zt<|Zg<|Zs<|Zb<|Zs<|Zr<|Zv (Y.idxAgg Z Z Storesa_as243 WD WD rfl)<|Za Z<|Ze<|Zg<|Zs<|Zr<|Zm Z<|?_
  refine Ze<|Zg<|Zb<|?_
  refine ZL (X := Nat × Option Addr × Nat × Nat × Sg) (fun z0 => V) (fun z0 => [z0.2.2.2.2,[(b1,.cells #[.int .u32 q.addr,.int .i64 q.bind,.string q.client,.int .i64 q.till,.int .i64 q.acked,.int .i64 q.told,.int .i64 q.at_,.int .i64 q.ver] 49 (0,0))]]) (fun z0 => [(1,(pZ b1)),(5,.slice z0.2.1 z0.2.2.1 z0.2.2.2.1),(7,.pointer (some ⟨b1,3,none⟩)),(29,.agg #[.pointer (some ⟨b1,3,none⟩),.pointer (some ⟨b1,4,none⟩),.pointer (some ⟨b1,5,none⟩),.pointer (some ⟨b1,6,none⟩),.pointer (some ⟨b1,7,none⟩)]),(30,.int .i64 0),(33,.int .i64 (z0.1 : Int))]) (fun z0 => Ow 5 1 (.slice z0.2.1 z0.2.2.1 z0.2.2.2.1) z0.2.2.1 (([.int .u8 (q.addr / 16777216 % 256),.int .u8 (q.addr / 65536 % 256),.int .u8 (q.addr / 256 % 256),.int .u8 (q.addr % 256),.int .u8 q.bind]) ++ ((Msg.be 6 q.till).take z0.1).map byteV) z0.2.2.2.2 ∧ z0.2.2.1 = 5 + z0.1 ∧ z0.1 ≤ 6) (fun z0 => 6 - z0.1) (⟨0,(some ⟨b3,0,none⟩),5,5,[(b3,.cells #[.int .u8 (q.addr / 16777216 % 256),.int .u8 (q.addr / 65536 % 256),.int .u8 (q.addr / 256 % 256),.int .u8 (q.addr % 256),.int .u8 q.bind] 5 (0,0))]⟩ : Nat × Option Addr × Nat × Nat × Sg) ⟨by simpa using (Ow.lit (cur := #[.int .u8 (q.addr / 16777216 % 256),.int .u8 (q.addr / 65536 % 256),.int .u8 (q.addr / 256 % 256),.int .u8 (q.addr % 256),.int .u8 q.bind]) rfl WD),rfl,Nat.zero_le _⟩ ?_
  rintro ⟨ii0,pp0,nn0,kk0,qq0⟩ ⟨how0,hn0,hi0⟩
  try dsimp only at how0 hn0 hi0 ⊢
  refine Zs<|Zr<|Zv (Y.int Z Z Z)<|Ze<|Zg<|Zs<|?_
  rcases Zsplit (decide ((ii0 : Int) < 6)) with ⟨h4,g4⟩ | ⟨h4,g4⟩ <;> try simp only [kb] at g4
  ·refine Tr.cond_t Z h4<|Zt<|Zg<|Zs<|Zb<|Zs<|Zr<|Zm Z<|Za Z<|Ze<|Zg<|Zr<|Zm Z<|Zm Z<|Zv (Y.nilCheck Z)<|Zv (Y.load Z Storesa_ts3 (Kn.at 1 Z) Z)<|?_
   refine Zm Z<|Zv (Y.sub Z Z W)<|Zv (Y.mul Z Z W)<|Zv (Y.shr (q.till / 256 ^ (6 - 1 - ii0)) rfl rfl W (Msg.shr_be W W))<|Zv (Y.conv (q.till / 256 ^ (6 - 1 - ii0) % 256) Z Storesa_it3_5 (wrap_u8_mod _))<|?_
   refine Run.buildSlice (l := [(0,.tmp 44)]) Storesa_es22 Storesa_zo5 rfl WD rfl rfl WD (lt rfl) (fun b5 => ?_)
   refine Run.append (n := nn0) (m := 1) (xs := ([.int .u8 (q.addr / 16777216 % 256),.int .u8 (q.addr / 65536 % 256),.int .u8 (q.addr / 256 % 256),.int .u8 (q.addr % 256),.int .u8 q.bind]) ++ ((Msg.be 6 q.till).take ii0).map byteV) (ys := [.int .u8 (q.till / 256 ^ (6 - 1 - ii0) % 256)]) rfl rfl Storesa_es22 Storesa_zi5 WD (j := 1) rfl how0 (Src.of_rd Storesa_es22 (Rd.one (Kn.at 0 rfl) rfl)) W W rfl (lt rfl) (fun v6 s7 ho8 hf => ?_)
   obtain ⟨p6,c6,rfl⟩ := hf
   refine Za Z<|Ze<|Zc<|Zg<|Zr<|Zv (Y.add Z Z W)<|Zm Z<|Ze<|Ex.keep [1,1]<|?_
   exact ZR (⟨ii0 + 1,p6,(nn0 + 1),c6,s7⟩ : Nat × Option Addr × Nat × Nat × Sg) ⟨by rw [Msg.be_step W,List.map_append,← List.append_assoc,List.map_cons,List.map_nil,byteV_of W]; exact ho8,by dsimp only; omega,by omega⟩ (by dsimp only; omega)
  ·refine Tr.cond_f Z h4<|Zx<|Zy<|Zy<|Zi<|Zc<|Zg<|Zr<|?_
   obtain rfl : ii0 = 6 := by omega
   obtain rfl : nn0 = 11 := by omega
   rw [List.take_of_length_le (by rw [Msg.be_length]; omega)] at how0
   refine Zv (Y.int (r := .int .i64 1) Z Z Z)<|Zm Z<|Ze<|Ex.goU<|Zs<|Zr<|Zv (Y.int (r := .bool true) Z Z Z)<|Ze<|Zg<|Zs<|Tr.cond_t Z Z<|Zt<|Zg<|Zs<|Zb<|Zs<|?_
   refine Zr<|Zv (Y.idxAgg Z Z Storesa_as243 WD WD rfl)<|Za Z<|Ze<|Zg<|Zs<|Zr<|Zm Z<|Ze<|Zg<|Zb<|?_
   refine ZL (X := Nat × Option Addr × Nat × Nat × Sg) (fun z0 => V) (fun z0 => [z0.2.2.2.2,[(b1,.cells #[.int .u32 q.addr,.int .i64 q.bind,.string q.client,.int .i64 q.till,.int .i64 q.acked,.int .i64 q.told,.int .i64 q.at_,.int .i64 q.ver] 49 (0,0))]]) (fun z0 => [(1,(pZ b1)),(5,.slice z0.2.1 z0.2.2.1 z0.2.2.2.1),(7,.pointer (some ⟨b1,4,none⟩)),(29,.agg #[.pointer (some ⟨b1,3,none⟩),.pointer (some ⟨b1,4,none⟩),.pointer (some ⟨b1,5,none⟩),.pointer (some ⟨b1,6,none⟩),.pointer (some ⟨b1,7,none⟩)]),(30,.int .i64 1),(33,.int .i64 (z0.1 : Int))]) (fun z0 => Ow 5 1 (.slice z0.2.1 z0.2.2.1 z0.2.2.2.1) z0.2.2.1 ((([.int .u8 (q.addr / 16777216 % 256),.int .u8 (q.addr / 65536 % 256),.int .u8 (q.addr / 256 % 256),.int .u8 (q.addr % 256),.int .u8 q.bind]) ++ (Msg.be 6 q.till).map byteV) ++ ((Msg.be 6 q.acked).take z0.1).map byteV) z0.2.2.2.2 ∧ z0.2.2.1 = 11 + z0.1 ∧ z0.1 ≤ 6) (fun z0 => 6 - z0.1) (⟨0,pp0,11,kk0,qq0⟩ : Nat × Option Addr × Nat × Nat × Sg) ⟨by simpa using how0,rfl,Nat.zero_le _⟩ ?_
   rintro ⟨ii1,pp1,nn1,kk1,qq1⟩ ⟨how1,hn1,hi1⟩
   try dsimp only at how1 hn1 hi1 ⊢
   refine Zs<|Zr<|Zv (Y.int Z Z Z)<|Ze<|Zg<|Zs<|?_
   rcases Zsplit (decide ((ii1 : Int) < 6)) with ⟨h9,g9⟩ | ⟨h9,g9⟩ <;> try simp only [kb] at g9
   ·refine Tr.cond_t Z h9<|Zt<|Zg<|Zs<|Zb<|Zs<|Zr<|Zm Z<|Za Z<|Ze<|Zg<|Zr<|Zm Z<|Zm Z<|Zv (Y.nilCheck Z)<|Zv (Y.load Z Storesa_ts3 (Kn.at 1 Z) Z)<|?_
    refine Zm Z<|Zv (Y.sub Z Z W)<|Zv (Y.mul Z Z W)<|Zv (Y.shr (q.acked / 256 ^ (6 - 1 - ii1)) rfl rfl W (Msg.shr_be W W))<|Zv (Y.conv (q.acked / 256 ^ (6 - 1 - ii1) % 256) Z Storesa_it3_5 (wrap_u8_mod _))<|?_
    refine Run.buildSlice (l := [(0,.tmp 44)]) Storesa_es22 Storesa_zo5 rfl WD rfl rfl WD (lt rfl) (fun b10 => ?_)
    refine Run.append (n := nn1) (m := 1) (xs := (([.int .u8 (q.addr / 16777216 % 256),.int .u8 (q.addr / 65536 % 256),.int .u8 (q.addr / 256 % 256),.int .u8 (q.addr % 256),.int .u8 q.bind]) ++ (Msg.be 6 q.till).map byteV) ++ ((Msg.be 6 q.acked).take ii1).map byteV) (ys := [.int .u8 (q.acked / 256 ^ (6 - 1 - ii1) % 256)]) rfl rfl Storesa_es22 Storesa_zi5 WD (j := 1) rfl how1 (Src.of_rd Storesa_es22 (Rd.one (Kn.at 0 rfl) rfl)) W W rfl (lt rfl) (fun v11 s12 ho13 hf => ?_)
    obtain ⟨p11,c11,rfl⟩ := hf
    refine Za Z<|Ze<|Zc<|Zg<|Zr<|Zv (Y.add Z Z W)<|Zm Z<|Ze<|Ex.keep [1,1]<|?_
    exact ZR (⟨ii1 + 1,p11,(nn1 + 1),c11,s12⟩ : Nat × Option Addr × Nat × Nat × Sg) ⟨by rw [Msg.be_step W,List.map_append,← List.append_assoc,List.map_cons,List.map_nil,byteV_of W]; exact ho13,by dsimp only; omega,by omega⟩ (by dsimp only; omega)
   ·refine Tr.cond_f Z h9<|Zx<|Zy<|Zy<|Zi<|Zc<|Zg<|Zr<|?_
    obtain rfl : ii1 = 6 := by omega
    obtain rfl : nn1 = 17 := by omega
    rw [List.take_of_length_le (by rw [Msg.be_length]; omega)] at how1
    refine Zv (Y.int (r := .int .i64 2) Z Z Z)<|Zm Z<|Ze<|Ex.goU<|Zs<|Zr<|Zv (Y.int (r := .bool true) Z Z Z)<|Ze<|Zg<|Zs<|Tr.cond_t Z Z<|Zt<|Zg<|Zs<|Zb<|Zs<|?_
    refine Zr<|Zv (Y.idxAgg Z Z Storesa_as243 WD WD rfl)<|Za Z<|Ze<|Zg<|Zs<|Zr<|Zm Z<|Ze<|Zg<|Zb<|?_
    refine ZL (X := Nat × Option Addr × Nat × Nat × Sg) (fun z0 => V) (fun z0 => [z0.2.2.2.2,[(b1,.cells #[.int .u32 q.addr,.int .i64 q.bind,.string q.client,.int .i64 q.till,.int .i64 q.acked,.int .i64 q.told,.int .i64 q.at_,.int .i64 q.ver] 49 (0,0))]]) (fun z0 => [(1,(pZ b1)),(5,.slice z0.2.1 z0.2.2.1 z0.2.2.2.1),(7,.pointer (some ⟨b1,5,none⟩)),(29,.agg #[.pointer (some ⟨b1,3,none⟩),.pointer (some ⟨b1,4,none⟩),.pointer (some ⟨b1,5,none⟩),.pointer (some ⟨b1,6,none⟩),.pointer (some ⟨b1,7,none⟩)]),(30,.int .i64 2),(33,.int .i64 (z0.1 : Int))]) (fun z0 => Ow 5 1 (.slice z0.2.1 z0.2.2.1 z0.2.2.2.1) z0.2.2.1 (((([.int .u8 (q.addr / 16777216 % 256),.int .u8 (q.addr / 65536 % 256),.int .u8 (q.addr / 256 % 256),.int .u8 (q.addr % 256),.int .u8 q.bind]) ++ (Msg.be 6 q.till).map byteV) ++ (Msg.be 6 q.acked).map byteV) ++ ((Msg.be 6 q.told).take z0.1).map byteV) z0.2.2.2.2 ∧ z0.2.2.1 = 17 + z0.1 ∧ z0.1 ≤ 6) (fun z0 => 6 - z0.1) (⟨0,pp1,17,kk1,qq1⟩ : Nat × Option Addr × Nat × Nat × Sg) ⟨by simpa using how1,rfl,Nat.zero_le _⟩ ?_
    rintro ⟨ii2,pp2,nn2,kk2,qq2⟩ ⟨how2,hn2,hi2⟩
    try dsimp only at how2 hn2 hi2 ⊢
    refine Zs<|Zr<|Zv (Y.int Z Z Z)<|Ze<|Zg<|Zs<|?_
    rcases Zsplit (decide ((ii2 : Int) < 6)) with ⟨h14,g14⟩ | ⟨h14,g14⟩ <;> try simp only [kb] at g14
    ·refine Tr.cond_t Z h14<|Zt<|Zg<|Zs<|Zb<|Zs<|Zr<|Zm Z<|Za Z<|Ze<|Zg<|Zr<|Zm Z<|Zm Z<|Zv (Y.nilCheck Z)<|Zv (Y.load Z Storesa_ts3 (Kn.at 1 Z) Z)<|?_
     refine Zm Z<|Zv (Y.sub Z Z W)<|Zv (Y.mul Z Z W)<|Zv (Y.shr (q.told / 256 ^ (6 - 1 - ii2)) rfl rfl W (Msg.shr_be W W))<|Zv (Y.conv (q.told / 256 ^ (6 - 1 - ii2) % 256) Z Storesa_it3_5 (wrap_u8_mod _))<|?_
     refine Run.buildSlice (l := [(0,.tmp 44)]) Storesa_es22 Storesa_zo5 rfl WD rfl rfl WD (lt rfl) (fun b15 => ?_)
     refine Run.append (n := nn2) (m := 1) (xs := ((([.int .u8 (q.addr / 16777216 % 256),.int .u8 (q.addr / 65536 % 256),.int .u8 (q.addr / 256 % 256),.int .u8 (q.addr % 256),.int .u8 q.bind]) ++ (Msg.be 6 q.till).map byteV) ++ (Msg.be 6 q.acked).map byteV) ++ ((Msg.be 6 q.told).take ii2).map byteV) (ys := [.int .u8 (q.told / 256 ^ (6 - 1 - ii2) % 256)]) rfl rfl Storesa_es22 Storesa_zi5 WD (j := 1) rfl how2 (Src.of_rd Storesa_es22 (Rd.one (Kn.at 0 rfl) rfl)) W W rfl (lt rfl) (fun v16 s17 ho18 hf => ?_)
     obtain ⟨p16,c16,rfl⟩ := hf
     refine Za Z<|Ze<|Zc<|Zg<|Zr<|Zv (Y.add Z Z W)<|Zm Z<|Ze<|Ex.keep [1,1]<|?_
     exact ZR (⟨ii2 + 1,p16,(nn2 + 1),c16,s17⟩ : Nat × Option Addr × Nat × Nat × Sg) ⟨by rw [Msg.be_step W,List.map_append,← List.append_assoc,List.map_cons,List.map_nil,byteV_of W]; exact ho18,by dsimp only; omega,by omega⟩ (by dsimp only; omega)
    ·refine Tr.cond_f Z h14<|Zx<|Zy<|Zy<|Zi<|Zc<|Zg<|Zr<|?_
     obtain rfl : ii2 = 6 := by omega
     obtain rfl : nn2 = 23 := by omega
     rw [List.take_of_length_le (by rw [Msg.be_length]; omega)] at how2
     refine Zv (Y.int (r := .int .i64 3) Z Z Z)<|Zm Z<|Ze<|Ex.goU<|Zs<|Zr<|Zv (Y.int (r := .bool true) Z Z Z)<|Ze<|Zg<|Zs<|Tr.cond_t Z Z<|Zt<|Zg<|Zs<|Zb<|Zs<|?_
     refine Zr<|Zv (Y.idxAgg Z Z Storesa_as243 WD WD rfl)<|Za Z<|Ze<|Zg<|Zs<|Zr<|Zm Z<|Ze<|Zg<|Zb<|?_
     refine ZL (X := Nat × Option Addr × Nat × Nat × Sg) (fun z0 => V) (fun z0 => [z0.2.2.2.2,[(b1,.cells #[.int .u32 q.addr,.int .i64 q.bind,.string q.client,.int .i64 q.till,.int .i64 q.acked,.int .i64 q.told,.int .i64 q.at_,.int .i64 q.ver] 49 (0,0))]]) (fun z0 => [(1,(pZ b1)),(5,.slice z0.2.1 z0.2.2.1 z0.2.2.2.1),(7,.pointer (some ⟨b1,6,none⟩)),(29,.agg #[.pointer (some ⟨b1,3,none⟩),.pointer (some ⟨b1,4,none⟩),.pointer (some ⟨b1,5,none⟩),.pointer (some ⟨b1,6,none⟩),.pointer (some ⟨b1,7,none⟩)]),(30,.int .i64 3),(33,.int .i64 (z0.1 : Int))]) (fun z0 => Ow 5 1 (.slice z0.2.1 z0.2.2.1 z0.2.2.2.1) z0.2.2.1 ((((([.int .u8 (q.addr / 16777216 % 256),.int .u8 (q.addr / 65536 % 256),.int .u8 (q.addr / 256 % 256),.int .u8 (q.addr % 256),.int .u8 q.bind]) ++ (Msg.be 6 q.till).map byteV) ++ (Msg.be 6 q.acked).map byteV) ++ (Msg.be 6 q.told).map byteV) ++ ((Msg.be 6 q.at_).take z0.1).map byteV) z0.2.2.2.2 ∧ z0.2.2.1 = 23 + z0.1 ∧ z0.1 ≤ 6) (fun z0 => 6 - z0.1) (⟨0,pp2,23,kk2,qq2⟩ : Nat × Option Addr × Nat × Nat × Sg) ⟨by simpa using how2,rfl,Nat.zero_le _⟩ ?_
     rintro ⟨ii3,pp3,nn3,kk3,qq3⟩ ⟨how3,hn3,hi3⟩
     try dsimp only at how3 hn3 hi3 ⊢
     refine Zs<|Zr<|Zv (Y.int Z Z Z)<|Ze<|Zg<|Zs<|?_
     rcases Zsplit (decide ((ii3 : Int) < 6)) with ⟨h19,g19⟩ | ⟨h19,g19⟩ <;> try simp only [kb] at g19
     ·refine Tr.cond_t Z h19<|Zt<|Zg<|Zs<|Zb<|Zs<|Zr<|Zm Z<|Za Z<|Ze<|Zg<|Zr<|Zm Z<|Zm Z<|Zv (Y.nilCheck Z)<|Zv (Y.load Z Storesa_ts3 (Kn.at 1 Z) Z)<|?_
      refine Zm Z<|Zv (Y.sub Z Z W)<|Zv (Y.mul Z Z W)<|Zv (Y.shr (q.at_ / 256 ^ (6 - 1 - ii3)) rfl rfl W (Msg.shr_be W W))<|Zv (Y.conv (q.at_ / 256 ^ (6 - 1 - ii3) % 256) Z Storesa_it3_5 (wrap_u8_mod _))<|?_
      refine Run.buildSlice (l := [(0,.tmp 44)]) Storesa_es22 Storesa_zo5 rfl WD rfl rfl WD (lt rfl) (fun b20 => ?_)
      refine Run.append (n := nn3) (m := 1) (xs := (((([.int .u8 (q.addr / 16777216 % 256),.int .u8 (q.addr / 65536 % 256),.int .u8 (q.addr / 256 % 256),.int .u8 (q.addr % 256),.int .u8 q.bind]) ++ (Msg.be 6 q.till).map byteV) ++ (Msg.be 6 q.acked).map byteV) ++ (Msg.be 6 q.told).map byteV) ++ ((Msg.be 6 q.at_).take ii3).map byteV) (ys := [.int .u8 (q.at_ / 256 ^ (6 - 1 - ii3) % 256)]) rfl rfl Storesa_es22 Storesa_zi5 WD (j := 1) rfl how3 (Src.of_rd Storesa_es22 (Rd.one (Kn.at 0 rfl) rfl)) W W rfl (lt rfl) (fun v21 s22 ho23 hf => ?_)
      obtain ⟨p21,c21,rfl⟩ := hf
      refine Za Z<|Ze<|Zc<|Zg<|Zr<|Zv (Y.add Z Z W)<|Zm Z<|Ze<|Ex.keep [1,1]<|?_
      exact ZR (⟨ii3 + 1,p21,(nn3 + 1),c21,s22⟩ : Nat × Option Addr × Nat × Nat × Sg) ⟨by rw [Msg.be_step W,List.map_append,← List.append_assoc,List.map_cons,List.map_nil,byteV_of W]; exact ho23,by dsimp only; omega,by omega⟩ (by dsimp only; omega)
     ·refine Tr.cond_f Z h19<|Zx<|Zy<|Zy<|Zi<|Zc<|Zg<|Zr<|?_
      obtain rfl : ii3 = 6 := by omega
      obtain rfl : nn3 = 29 := by omega
      rw [List.take_of_length_le (by rw [Msg.be_length]; omega)] at how3
      refine Zv (Y.int (r := .int .i64 4) Z Z Z)<|Zm Z<|Ze<|Ex.goU<|Zs<|Zr<|Zv (Y.int (r := .bool true) Z Z Z)<|Ze<|Zg<|Zs<|Tr.cond_t Z Z<|Zt<|Zg<|Zs<|Zb<|Zs<|?_
      refine Zr<|Zv (Y.idxAgg Z Z Storesa_as243 WD WD rfl)<|Za Z<|Ze<|Zg<|Zs<|Zr<|Zm Z<|Ze<|Zg<|Zb<|?_
      refine ZL (X := Nat × Option Addr × Nat × Nat × Sg) (fun z0 => V) (fun z0 => [z0.2.2.2.2,[(b1,.cells #[.int .u32 q.addr,.int .i64 q.bind,.string q.client,.int .i64 q.till,.int .i64 q.acked,.int .i64 q.told,.int .i64 q.at_,.int .i64 q.ver] 49 (0,0))]]) (fun z0 => [(1,(pZ b1)),(5,.slice z0.2.1 z0.2.2.1 z0.2.2.2.1),(7,.pointer (some ⟨b1,7,none⟩)),(29,.agg #[.pointer (some ⟨b1,3,none⟩),.pointer (some ⟨b1,4,none⟩),.pointer (some ⟨b1,5,none⟩),.pointer (some ⟨b1,6,none⟩),.pointer (some ⟨b1,7,none⟩)]),(30,.int .i64 4),(33,.int .i64 (z0.1 : Int))]) (fun z0 => Ow 5 1 (.slice z0.2.1 z0.2.2.1 z0.2.2.2.1) z0.2.2.1 (((((([.int .u8 (q.addr / 16777216 % 256),.int .u8 (q.addr / 65536 % 256),.int .u8 (q.addr / 256 % 256),.int .u8 (q.addr % 256),.int .u8 q.bind]) ++ (Msg.be 6 q.till).map byteV) ++ (Msg.be 6 q.acked).map byteV) ++ (Msg.be 6 q.told).map byteV) ++ (Msg.be 6 q.at_).map byteV) ++ ((Msg.be 6 q.ver).take z0.1).map byteV) z0.2.2.2.2 ∧ z0.2.2.1 = 29 + z0.1 ∧ z0.1 ≤ 6) (fun z0 => 6 - z0.1) (⟨0,pp3,29,kk3,qq3⟩ : Nat × Option Addr × Nat × Nat × Sg) ⟨by simpa using how3,rfl,Nat.zero_le _⟩ ?_
      rintro ⟨ii4,pp4,nn4,kk4,qq4⟩ ⟨how4,hn4,hi4⟩
      try dsimp only at how4 hn4 hi4 ⊢
      refine Zs<|Zr<|Zv (Y.int Z Z Z)<|Ze<|Zg<|Zs<|?_
      rcases Zsplit (decide ((ii4 : Int) < 6)) with ⟨h24,g24⟩ | ⟨h24,g24⟩ <;> try simp only [kb] at g24
      ·refine Tr.cond_t Z h24<|Zt<|Zg<|Zs<|Zb<|Zs<|Zr<|Zm Z<|Za Z<|Ze<|Zg<|Zr<|Zm Z<|Zm Z<|Zv (Y.nilCheck Z)<|Zv (Y.load Z Storesa_ts3 (Kn.at 1 Z) Z)<|?_
       refine Zm Z<|Zv (Y.sub Z Z W)<|Zv (Y.mul Z Z W)<|Zv (Y.shr (q.ver / 256 ^ (6 - 1 - ii4)) rfl rfl W (Msg.shr_be W W))<|Zv (Y.conv (q.ver / 256 ^ (6 - 1 - ii4) % 256) Z Storesa_it3_5 (wrap_u8_mod _))<|?_
       refine Run.buildSlice (l := [(0,.tmp 44)]) Storesa_es22 Storesa_zo5 rfl WD rfl rfl WD (lt rfl) (fun b25 => ?_)
       refine Run.append (n := nn4) (m := 1) (xs := ((((([.int .u8 (q.addr / 16777216 % 256),.int .u8 (q.addr / 65536 % 256),.int .u8 (q.addr / 256 % 256),.int .u8 (q.addr % 256),.int .u8 q.bind]) ++ (Msg.be 6 q.till).map byteV) ++ (Msg.be 6 q.acked).map byteV) ++ (Msg.be 6 q.told).map byteV) ++ (Msg.be 6 q.at_).map byteV) ++ ((Msg.be 6 q.ver).take ii4).map byteV) (ys := [.int .u8 (q.ver / 256 ^ (6 - 1 - ii4) % 256)]) rfl rfl Storesa_es22 Storesa_zi5 WD (j := 1) rfl how4 (Src.of_rd Storesa_es22 (Rd.one (Kn.at 0 rfl) rfl)) W W rfl (lt rfl) (fun v26 s27 ho28 hf => ?_)
       obtain ⟨p26,c26,rfl⟩ := hf
       refine Za Z<|Ze<|Zc<|Zg<|Zr<|Zv (Y.add Z Z W)<|Zm Z<|Ze<|Ex.keep [1,1]<|?_
       exact ZR (⟨ii4 + 1,p26,(nn4 + 1),c26,s27⟩ : Nat × Option Addr × Nat × Nat × Sg) ⟨by rw [Msg.be_step W,List.map_append,← List.append_assoc,List.map_cons,List.map_nil,byteV_of W]; exact ho28,by dsimp only; omega,by omega⟩ (by dsimp only; omega)
      ·refine Tr.cond_f Z h24<|Zx<|Zy<|Zy<|Zi<|Zc<|Zg<|Zr<|?_
       obtain rfl : ii4 = 6 := by omega
       obtain rfl : nn4 = 35 := by omega
       rw [List.take_of_length_le (by rw [Msg.be_length]; omega)] at how4
       refine Zv (Y.int (r := .int .i64 5) Z Z Z)<|Zm Z<|Ze<|Ex.goU<|Zs<|Zr<|Zv (Y.int (r := .bool false) Z Z Z)<|Ze<|Zg<|Zs<|Tr.cond_f Z Z<|Zx<|Zy<|Zy<|Zi<|Zg<|?_
       refine Zs<|Tr.anyD [(b1,.cells #[.int .u32 q.addr,.int .i64 q.bind,.string q.client,.int .i64 q.till,.int .i64 q.acked,.int .i64 q.told,.int .i64 q.at_,.int .i64 q.ver] 49 (0,0))] Storesa_mo<|RunD.pure (i := 0) rfl WK WK WK (fun _ _ _ h => h) (lt rfl) (ZK 1 Z) (fun _ => (Y.move rfl))<|RunD.pure (i := 1) rfl WK WK WK (fun _ _ _ h => h) (lt rfl) (ZK 1 Z) (fun _ => (Y.fieldAddr rfl Storesa_fo49_2))<|?_
       refine RunD.take (i := 2) 0 rfl rfl WK WK WK (fun _ _ _ h => h) (lt rfl) (ZK 1 Z) (fun _ => (Y.load rfl Storesa_ts9 Kn.vk1 rfl))<|RunD.pure (i := 3) rfl WK WK WK (fun _ _ _ h => h) (lt rfl) (ZK 1 Z) (fun _ => (Y.lenStr rfl Storesa_st9))<|RunD.pure (i := 4) rfl WK WK WK (fun _ _ _ h => h) (lt rfl) (ZK 1 Z) (fun _ => (Y.conv (((q.client.size : Nat) : Int)) rfl Storesa_it3_5 (wrap_u8 W)))<|?_
       refine RunD.pure (i := 7) rfl WK WK WK (fun _ _ _ h => h) (lt rfl) (ZK 1 Z) (fun _ => (Y.fieldAddr rfl Storesa_fo49_2))<|RunD.take (i := 8) 0 rfl rfl WK WK WK (fun _ _ _ h => h) (lt rfl) (ZK 1 Z) (fun _ => (Y.load rfl Storesa_ts9 Kn.vk1 rfl))<|?_
       refine RunD.one (i := 5) WK rfl  ?_
       refine Run.buildSlice (l := [(0,.tmp 53)]) Storesa_es22 Storesa_zo5 rfl WD rfl rfl WD (lt rfl) (fun b29 => ?_)
       refine Ze<|Ex.anyD (ZK 2 Z)<|?_
       refine RunD.one (i := 6) WK rfl  ?_
       refine Run.append (n := 35) (m := 1) (xs := ((((([.int .u8 (q.addr / 16777216 % 256),.int .u8 (q.addr / 65536 % 256),.int .u8 (q.addr / 256 % 256),.int .u8 (q.addr % 256),.int .u8 q.bind]) ++ (Msg.be 6 q.till).map byteV) ++ (Msg.be 6 q.acked).map byteV) ++ (Msg.be 6 q.told).map byteV) ++ (Msg.be 6 q.at_).map byteV) ++ (Msg.be 6 q.ver).map byteV) (ys := [.int .u8 ((q.client.size : Nat) : Int)]) rfl rfl Storesa_es22 Storesa_zi5 WD (j := 1) rfl how4 (Src.of_rd Storesa_es22 (Rd.one (Kn.at 0 rfl) rfl)) W W rfl (lt rfl) (fun v30 s31 ho32 hf => ?_)
       obtain ⟨p30,c30,rfl⟩ := hf
       refine Ze<|Ex.anyD (ZK 2 Z)<|?_
       refine RunD.one (i := 9) WK rfl  ?_
       refine Run.append (n := 35 + 1) (m := q.client.size) (xs := (((((([.int .u8 (q.addr / 16777216 % 256),.int .u8 (q.addr / 65536 % 256),.int .u8 (q.addr / 256 % 256),.int .u8 (q.addr % 256),.int .u8 q.bind]) ++ (Msg.be 6 q.till).map byteV) ++ (Msg.be 6 q.acked).map byteV) ++ (Msg.be 6 q.told).map byteV) ++ (Msg.be 6 q.at_).map byteV) ++ (Msg.be 6 q.ver).map byteV) ++ [.int .u8 ((q.client.size : Nat) : Int)]) (ys := q.client.toList.map byteV) rfl rfl Storesa_es22 Storesa_zi5 WD (j := 1) rfl ho32 (Src.of_str q.client Storesa_st9) W W (all_one_bytes _) (lt rfl) (fun v33 s34 ho35 hf => ?_)
       obtain ⟨p33,c33,rfl⟩ := hf
       refine Ze<|Ex.anyD (ZK 2 Z)<|RunD.pure (i := 10) rfl WK WK WK (fun _ _ _ h => h) (lt rfl) (ZK 2 Z) (fun _ => (Y.assign rfl))<|RunD.pure (i := 11) rfl WK WK WK (fun _ _ _ h => h) (lt rfl) (ZK 2 Z) (fun _ => (Y.assign rfl))<|RunD.done WK<|Zg<|Zu<|Ex.keep [1]<|?_
       have h9 := ho35
       have h8 := Le.enc_cells (q := q) W W (xs := ((((((([.int .u8 (q.addr / 16777216 % 256),.int .u8 (q.addr / 65536 % 256),.int .u8 (q.addr / 256 % 256),.int .u8 (q.addr % 256),.int .u8 q.bind]) ++ (Msg.be 6 q.till).map byteV) ++ (Msg.be 6 q.acked).map byteV) ++ (Msg.be 6 q.told).map byteV) ++ (Msg.be 6 q.at_).map byteV) ++ (Msg.be 6 q.ver).map byteV) ++ [.int .u8 ((q.client.size : Nat) : Int)]) ++ (q.client.toList.map byteV)) (by rw [be4_cells]; simp only [Le.tl,List.flatMap_cons,List.flatMap_nil,List.append_nil,List.append_assoc,List.cons_append,List.nil_append])
       rw [h8] at h9
       exact Ex.ret2 rfl rfl rfl  ⟨rfl,.inr ⟨h2,p33,c33,s34,by rw [(show ((35 + 1 + q.client.size) : Nat) = (Le.encB q).length from by omega)],by rw [(show ((35 + 1 + q.client.size) : Nat) = (Le.encB q).length from by omega)] at h9; exact h9,rfl⟩⟩
 ·refine Tr.cond_t Z (congrArg Bool.not h2)<|Zs<|Zr<|Za Z<|Za Z<|Ze<|Zg<|Zu<|Zn<|Ex.keep []<|?_
  exact Ex.ret2 rfl rfl rfl  ⟨rfl,.inl ⟨h2,rfl,rfl⟩⟩
theorem of11_c {V : Vw} {H : Hp} {bs : Bts} {p : Option Addr} {n c : Nat} (hv : Rd V H 1 (.slice p n c) n (bs.flatMap nB)) (h6 : n ≤ 6)  : Does Tryz.prog 221 [.slice p n c] V H (Pv (.int .i64 (val bs)) V H) := by
 have hn := hv.mapB.lenB
 refine Does.intro Tryz.func221 rfl rfl (le rfl) (fun B => ?_)
 refine Zs<|Zr<|Za Z<|Ze<|Zg<|Zs<|Zr<|Za Z<|Ze<|Zg<|Zs<|Zs<|Zr<|Za Z<|Ze<|Zg<|?_
 refine Zb ?_
 refine ZL (X := Nat) (fun z0 => V) (fun z0 => H) (fun z0 => [(0,.slice p n c),(3,.int .i64 (val (bs.take z0))),(4,.int .i64 (z0 : Int))]) (fun z0 => z0 ≤ n) (fun z0 => n - z0) (0 : Nat) (Nat.zero_le _) ?_
 rintro i1 hi
 have hvs := val_small (l := bs.take i1) (by rw [List.length_take]; omega)
 have hu := u8_lt (bs.getD i1 0)
 refine Zs<|Zs<|Zr<|Zm Z<|Zm Z<|Zv (Y.lenSl Z Storesa_es22)<|Zv (Y.int Z Z Z)<|Ze<|Zg<|?_
 rcases Zsplit (decide ((i1 : Int) < ((n : Nat) : Int))) with ⟨h1,g1⟩ | ⟨h1,g1⟩ <;> try simp only [kb] at g1
 ·refine Tr.cond_t Z h1<|Zt<|Zg<|Zs<|Zb<|Zr<|Zm Z<|Zv (Y.mul Z Z W)<|Zm Z<|Zm Z<|Zv (Y.idxR i1 Z Z Storesa_es22 hv W W)<|Zv (Y.ldR Z Storesa_ts5 hv (flatm_at0 nB_len W 0 WD rfl))<|Zv (Y.conv ((((bs.getD i1 0).toNat : Nat) : Int)) rfl Storesa_it5_3 (wrap_i64 W))<|Zv (Y.add Z Z W)<|Za Z<|Ze<|?_
  refine Zc<|Zg<|Zr<|Zm Z<|Zv (Y.add Z Z W)<|Za Z<|Ze<|?_
  exact ZR (i1 + 1 : Nat) W W (by repeat (first | exact subB_nil _ | refine subB_cons (by first | rfl | exact congrArg (fun z => some (Value.int _ z)) W | exact congrArg (fun z => some (Value.int _ z)) (by rw [val_take W])) ?_))
 ·refine Tr.cond_f Z h1<|Zx<|Zy<|Zy<|Zi<|Zg<|Zs<|Zr<|Zm Z<|Za Z<|Ze<|Zg<|Zu<|?_
  exact Ex.ret1 rfl rfl  ⟨congrArg (Value.int _) (by rw [List.take_of_length_le W]),rfl,rfl⟩
set_option maxHeartbeats 1000000 in
theorem rdec_c {V : Vw} {bs : Bts} {p : Option Addr} {c : Nat} (hv : Rd V [] 1 (.slice p bs.length c) bs.length (bs.map byteV)) (hl : bs.length ≤ 1500000)  : Does Tryz.prog 151 [.slice p bs.length c] V [] (Pv (.tuple #[.agg (Le.decE bs).1.cells.toArray,.int .i64 (Le.decE bs).2]) V []) := by
 have hcp := hv.cap
 have hu4 := u8_lt (bs.getD 4 0)
 refine Does.intro Tryz.func151 rfl rfl (le rfl) (fun B => ?_)
 refine Zs<|Zr<|?_
 refine Run.alloc Storesa_zo49 (lt rfl) (fun b1 => ?_)
 refine Za Z<|Ze<|Zg<|Zs<|Zs<|Zr<|Zm Z<|Zv (Y.lenSl Z Storesa_es22)<|Zv (Y.int Z Z Z)<|Ze<|Zg<|?_
 rcases Zsplit (decide (((bs.length : Nat) : Int) < 36)) with ⟨h2,g2⟩ | ⟨h2,g2⟩ <;> try simp only [kb] at g2
 ·refine Tr.cond_t Z h2<|Zs<|Zr<|Zv (Y.buildS (l := []) Storesa_zo49 Storesa_pl49 Z Z)<|Run.store (s := [(b1,.cells #[.int .u32 0,.int .i64 0,.string ⟨#[]⟩,.int .i64 0,.int .i64 0,.int .i64 0,.int .i64 0,.int .i64 0] 49 (0,0))]) Z Z Storesa_sz49 (i := 0) Z Z (le Z) Z Z<|Za Z<|Ze<|Zg<|Zu<|Zn<|?_
  exact Ex.retCell2 [] rfl rfl rfl Storesa_ag49 (Kn.at 0 rfl) rfl ⟨by rw [Le.decE_bad (.inl W)]; rfl,rfl,rfl⟩
 ·have h04 := val_small4 (l := (bs.drop 0).take (4 - 0)) (by rw [List.length_take,List.length_drop]; omega)
  have hdo := Le.dcd_ok (b := bs) W W
  obtain ⟨b5,o5,hk5,hvk⟩ := hv.flatB.vk W
  refine Tr.cond_f Z h2<|Zt<|Zg<|?_
  refine Tr.cutx (X := Nat) (fun bl => V) (fun bl => [[(bl,.cells #[.int .u32 (val ((bs.drop 0).take (4 - 0))),.int .i64 ((bs.getD 4 0).toNat : Int),.string ⟨((bs.drop 36).take (bs.length - 36) : List UInt8).toArray⟩,.int .i64 (val ((bs.drop 5).take (11 - 5))),.int .i64 (val ((bs.drop 11).take (17 - 11))),.int .i64 (val ((bs.drop 17).take (23 - 17))),.int .i64 (val ((bs.drop 23).take (29 - 23))),.int .i64 (val ((bs.drop 29).take (35 - 29)))] 49 (0,0))],[(b1,.cells #[.int .u32 0,.int .i64 0,.string ⟨#[]⟩,.int .i64 0,.int .i64 0,.int .i64 0,.int .i64 0,.int .i64 0] 49 (0,0))]]) (fun bl => [(0,.slice p bs.length c),(2,(pZ b1)),(4,(pZ bl))]) (fun bl => True) ?_ ?_
  ·refine Tr.anyL [(b5,o5)] 28 Storesa_mo<|RunL.pure (i := 0) rfl WK WK WK WK (fun _ _ _ h => h) (lt rfl) (KnAll.cons hk5.of_nil KnAll.nil) (fun _ => (Y.move rfl))<|RunL.pure (i := 1) rfl WK WK WK WK (fun _ _ _ h => h) (lt rfl) (KnAll.cons hk5.of_nil KnAll.nil) (fun _ => (Y.slice (l := 0) (m := 4) rfl Storesa_es22 rfl rfl W W))<|?_
   refine RunL.pure (i := 4) rfl WK WK WK WK (fun _ _ _ h => h) (lt rfl) (KnAll.cons hk5.of_nil KnAll.nil) (fun _ => (Y.move rfl))<|RunL.take (i := 5) 0 rfl rfl WK WK WK WK (fun _ _ _ h => h) (lt rfl) (KnAll.cons hk5.of_nil KnAll.nil) (fun _ => (Y.idxR 4 rfl rfl Storesa_es22 hvk W W))<|RunL.take (i := 6) 0 rfl rfl WK WK WK WK (fun _ _ _ h => h) (lt rfl) (KnAll.cons hk5.of_nil KnAll.nil) (fun _ => (Y.ldR rfl Storesa_ts5 hvk (flatm_at0 nB_len W 0 WD rfl)))<|?_
   refine RunL.pure (i := 7) rfl WK WK WK WK (fun _ _ _ h => h) (lt rfl) (KnAll.cons hk5.of_nil KnAll.nil) (fun _ => (Y.conv ((((bs.getD 4 0).toNat : Nat) : Int)) rfl Storesa_it5_3 (wrap_i64 W)))<|RunL.pure (i := 8) rfl WK WK WK WK (fun _ _ _ h => h) (lt rfl) (KnAll.cons hk5.of_nil KnAll.nil) (fun _ => (Y.move rfl))<|?_
   refine RunL.pure (i := 9) rfl WK WK WK WK (fun _ _ _ h => h) (lt rfl) (KnAll.cons hk5.of_nil KnAll.nil) (fun _ => (Y.slice (l := 5) (m := 11) rfl Storesa_es22 rfl rfl W W))<|RunL.pure (i := 11) rfl WK WK WK WK (fun _ _ _ h => h) (lt rfl) (KnAll.cons hk5.of_nil KnAll.nil) (fun _ => (Y.move rfl))<|?_
   refine RunL.pure (i := 12) rfl WK WK WK WK (fun _ _ _ h => h) (lt rfl) (KnAll.cons hk5.of_nil KnAll.nil) (fun _ => (Y.slice (l := 11) (m := 17) rfl Storesa_es22 rfl rfl W W))<|RunL.pure (i := 14) rfl WK WK WK WK (fun _ _ _ h => h) (lt rfl) (KnAll.cons hk5.of_nil KnAll.nil) (fun _ => (Y.move rfl))<|?_
   refine RunL.pure (i := 15) rfl WK WK WK WK (fun _ _ _ h => h) (lt rfl) (KnAll.cons hk5.of_nil KnAll.nil) (fun _ => (Y.slice (l := 17) (m := 23) rfl Storesa_es22 rfl rfl W W))<|RunL.pure (i := 17) rfl WK WK WK WK (fun _ _ _ h => h) (lt rfl) (KnAll.cons hk5.of_nil KnAll.nil) (fun _ => (Y.move rfl))<|?_
   refine RunL.pure (i := 18) rfl WK WK WK WK (fun _ _ _ h => h) (lt rfl) (KnAll.cons hk5.of_nil KnAll.nil) (fun _ => (Y.slice (l := 23) (m := 29) rfl Storesa_es22 rfl rfl W W))<|RunL.pure (i := 20) rfl WK WK WK WK (fun _ _ _ h => h) (lt rfl) (KnAll.cons hk5.of_nil KnAll.nil) (fun _ => (Y.move rfl))<|?_
   refine RunL.pure (i := 21) rfl WK WK WK WK (fun _ _ _ h => h) (lt rfl) (KnAll.cons hk5.of_nil KnAll.nil) (fun _ => (Y.slice (l := 29) (m := 35) rfl Storesa_es22 rfl rfl W W))<|RunL.pure (i := 23) rfl WK WK WK WK (fun _ _ _ h => h) (lt rfl) (KnAll.cons hk5.of_nil KnAll.nil) (fun _ => (Y.move rfl))<|?_
   refine RunL.pure (i := 24) rfl WK WK WK WK (fun _ _ _ h => h) (lt rfl) (KnAll.cons hk5.of_nil KnAll.nil) (fun _ => (Y.slice (l := 36) (m := bs.length) rfl Storesa_es22 rfl rfl W W))<|RunL.take (i := 25) 0 rfl rfl WK WK WK WK (fun _ _ _ h => h) (lt rfl) (KnAll.cons hk5.of_nil KnAll.nil) (fun _ => (Y.bytesStr (bs := (bs.drop 36).take (bs.length - 36)) rfl Storesa_es22 Storesa_tg5 Storesa_st9 ((Rd.cut nB_len hvk 36 bs.length W W).mapB.to (by rw [List.length_take,List.length_drop]; omega))))<|?_
   refine RunL.two (i := 2) (j := 27) WK rfl rfl  ?_ ?_
   ·refine Run.call0 (l := [.tmp 12]) rfl rfl rfl (lt rfl) (of11_c (Rd.cut nB_len hv.flatB.of_nil 0 4 W W) W)<|Ze<|Ex.anyL (KnAll.cons hk5.of_nil KnAll.nil)<|RunL.pure (i := 3) rfl WK WK WK WK (fun _ _ _ h => h) (lt rfl) (KnAll.cons hk5.of_nil KnAll.nil) (fun _ => (Y.conv (val ((bs.drop 0).take (4 - 0))) rfl Storesa_it3_47 (wrap_u32 W)))<|?_
    refine RunL.two (i := 10) (j := 27) WK rfl rfl  ?_ ?_
    ·refine Run.call0 (l := [.tmp 20]) rfl rfl rfl (lt rfl) (of11_c (Rd.cut nB_len hv.flatB.of_nil 5 11 W W) W)<|Ze<|Ex.anyL (KnAll.cons hk5.of_nil KnAll.nil)<|?_
     refine RunL.two (i := 13) (j := 27) WK rfl rfl  ?_ ?_
     ·refine Run.call0 (l := [.tmp 23]) rfl rfl rfl (lt rfl) (of11_c (Rd.cut nB_len hv.flatB.of_nil 11 17 W W) W)<|Ze<|Ex.anyL (KnAll.cons hk5.of_nil KnAll.nil)<|?_
      refine RunL.two (i := 16) (j := 27) WK rfl rfl  ?_ ?_
      ·refine Run.call0 (l := [.tmp 26]) rfl rfl rfl (lt rfl) (of11_c (Rd.cut nB_len hv.flatB.of_nil 17 23 W W) W)<|Ze<|Ex.anyL (KnAll.cons hk5.of_nil KnAll.nil)<|?_
       refine RunL.two (i := 19) (j := 27) WK rfl rfl  ?_ ?_
       ·refine Run.call0 (l := [.tmp 29]) rfl rfl rfl (lt rfl) (of11_c (Rd.cut nB_len hv.flatB.of_nil 23 29 W W) W)<|Ze<|Ex.anyL (KnAll.cons hk5.of_nil KnAll.nil)<|?_
        refine RunL.two (i := 22) (j := 27) WK rfl rfl  ?_ ?_
        ·refine Run.call0 (l := [.tmp 32]) rfl rfl rfl (lt rfl) (of11_c (Rd.cut nB_len hv.flatB.of_nil 29 35 W W) W)<|Ze<|Ex.anyL (KnAll.cons hk5.of_nil KnAll.nil)<|RunL.pure (i := 26) rfl WK WK WK WK (fun _ _ _ h => h) (lt rfl) (KnAll.cons hk5.of_nil KnAll.nil) (fun _ => (Y.buildS (l := [(0,.tmp 14),(1,.tmp 18),(3,.tmp 21),(4,.tmp 24),(5,.tmp 27),(6,.tmp 30),(7,.tmp 33),(2,.tmp 36)]) Storesa_zo49 Storesa_pl49 rfl rfl))<|?_
         refine RunL.one (i := 27) WK rfl  ?_
         refine Run.alloc Storesa_zo49 (lt rfl) (fun b3 => ?_)
         refine Ze<|Ex.anyL (KnAll.cons hk5.of_nil KnAll.nil)<|?_
         refine RunL.one (i := 28) WK rfl  ?_
         refine Run.store (s := [(b3,.cells #[.int .u32 (val ((bs.drop 0).take (4 - 0))),.int .i64 (((bs.getD 4 0).toNat : Nat) : Int),.string ⟨((bs.drop 36).take (bs.length - 36) : List UInt8).toArray⟩,.int .i64 (val ((bs.drop 5).take (11 - 5))),.int .i64 (val ((bs.drop 11).take (17 - 11))),.int .i64 (val ((bs.drop 17).take (23 - 17))),.int .i64 (val ((bs.drop 23).take (29 - 23))),.int .i64 (val ((bs.drop 29).take (35 - 29)))] 49 (0,0))]) Z Z Storesa_sz49 (i := 0) Z Z (le Z) Z Z ?_
         refine Ze<|Ex.anyLz Z<|RunL.done WK<|Ex.keep [0,0]<|?_
         exact ZX b3 trivial
        ·refine Run.alloc Storesa_zo49 (lt rfl) (fun b4 => ?_)
         refine Ze<|Ex.anyL (KnAll.cons hk5.of_nil KnAll.nil)<|?_
         refine RunL.one (i := 22) WK rfl  ?_
         refine Run.call0 (l := [.tmp 32]) rfl rfl rfl (lt rfl) (of11_c (Rd.cut nB_len hv.flatB.of_nil 29 35 W W) W)<|Ze<|Ex.anyL (KnAll.cons hk5.of_nil KnAll.nil)<|RunL.pure (i := 26) rfl WK WK WK WK (fun _ _ _ h => h) (lt rfl) (KnAll.cons hk5.of_nil KnAll.nil) (fun _ => (Y.buildS (l := [(0,.tmp 14),(1,.tmp 18),(3,.tmp 21),(4,.tmp 24),(5,.tmp 27),(6,.tmp 30),(7,.tmp 33),(2,.tmp 36)]) Storesa_zo49 Storesa_pl49 rfl rfl))<|?_
         refine RunL.one (i := 28) WK rfl  ?_
         refine Run.store (s := [(b4,.cells #[.int .u32 (val ((bs.drop 0).take (4 - 0))),.int .i64 (((bs.getD 4 0).toNat : Nat) : Int),.string ⟨((bs.drop 36).take (bs.length - 36) : List UInt8).toArray⟩,.int .i64 (val ((bs.drop 5).take (11 - 5))),.int .i64 (val ((bs.drop 11).take (17 - 11))),.int .i64 (val ((bs.drop 17).take (23 - 17))),.int .i64 (val ((bs.drop 23).take (29 - 23))),.int .i64 (val ((bs.drop 29).take (35 - 29)))] 49 (0,0))]) Z Z Storesa_sz49 (i := 0) Z Z (le Z) Z Z ?_
         refine Ze<|Ex.anyLz Z<|RunL.done WK<|Ex.keep [0,0]<|?_
         exact ZX b4 trivial
       ·refine Run.alloc Storesa_zo49 (lt rfl) (fun b5 => ?_)
        refine Ze<|Ex.anyL (KnAll.cons hk5.of_nil KnAll.nil)<|?_
        refine RunL.one (i := 19) WK rfl  ?_
        refine Run.call0 (l := [.tmp 29]) rfl rfl rfl (lt rfl) (of11_c (Rd.cut nB_len hv.flatB.of_nil 23 29 W W) W)<|Ze<|Ex.anyL (KnAll.cons hk5.of_nil KnAll.nil)<|?_
        refine RunL.one (i := 22) WK rfl  ?_
        refine Run.call0 (l := [.tmp 32]) rfl rfl rfl (lt rfl) (of11_c (Rd.cut nB_len hv.flatB.of_nil 29 35 W W) W)<|Ze<|Ex.anyL (KnAll.cons hk5.of_nil KnAll.nil)<|RunL.pure (i := 26) rfl WK WK WK WK (fun _ _ _ h => h) (lt rfl) (KnAll.cons hk5.of_nil KnAll.nil) (fun _ => (Y.buildS (l := [(0,.tmp 14),(1,.tmp 18),(3,.tmp 21),(4,.tmp 24),(5,.tmp 27),(6,.tmp 30),(7,.tmp 33),(2,.tmp 36)]) Storesa_zo49 Storesa_pl49 rfl rfl))<|?_
        refine RunL.one (i := 28) WK rfl  ?_
        refine Run.store (s := [(b5,.cells #[.int .u32 (val ((bs.drop 0).take (4 - 0))),.int .i64 (((bs.getD 4 0).toNat : Nat) : Int),.string ⟨((bs.drop 36).take (bs.length - 36) : List UInt8).toArray⟩,.int .i64 (val ((bs.drop 5).take (11 - 5))),.int .i64 (val ((bs.drop 11).take (17 - 11))),.int .i64 (val ((bs.drop 17).take (23 - 17))),.int .i64 (val ((bs.drop 23).take (29 - 23))),.int .i64 (val ((bs.drop 29).take (35 - 29)))] 49 (0,0))]) Z Z Storesa_sz49 (i := 0) Z Z (le Z) Z Z ?_
        refine Ze<|Ex.anyLz Z<|RunL.done WK<|Ex.keep [0,0]<|?_
        exact ZX b5 trivial
      ·refine Run.alloc Storesa_zo49 (lt rfl) (fun b6 => ?_)
       refine Ze<|Ex.anyL (KnAll.cons hk5.of_nil KnAll.nil)<|?_
       refine RunL.one (i := 16) WK rfl  ?_
       refine Run.call0 (l := [.tmp 26]) rfl rfl rfl (lt rfl) (of11_c (Rd.cut nB_len hv.flatB.of_nil 17 23 W W) W)<|Ze<|Ex.anyL (KnAll.cons hk5.of_nil KnAll.nil)<|?_
       refine RunL.one (i := 19) WK rfl  ?_
       refine Run.call0 (l := [.tmp 29]) rfl rfl rfl (lt rfl) (of11_c (Rd.cut nB_len hv.flatB.of_nil 23 29 W W) W)<|Ze<|Ex.anyL (KnAll.cons hk5.of_nil KnAll.nil)<|?_
       refine RunL.one (i := 22) WK rfl  ?_
       refine Run.call0 (l := [.tmp 32]) rfl rfl rfl (lt rfl) (of11_c (Rd.cut nB_len hv.flatB.of_nil 29 35 W W) W)<|Ze<|Ex.anyL (KnAll.cons hk5.of_nil KnAll.nil)<|RunL.pure (i := 26) rfl WK WK WK WK (fun _ _ _ h => h) (lt rfl) (KnAll.cons hk5.of_nil KnAll.nil) (fun _ => (Y.buildS (l := [(0,.tmp 14),(1,.tmp 18),(3,.tmp 21),(4,.tmp 24),(5,.tmp 27),(6,.tmp 30),(7,.tmp 33),(2,.tmp 36)]) Storesa_zo49 Storesa_pl49 rfl rfl))<|?_
       refine RunL.one (i := 28) WK rfl  ?_
       refine Run.store (s := [(b6,.cells #[.int .u32 (val ((bs.drop 0).take (4 - 0))),.int .i64 (((bs.getD 4 0).toNat : Nat) : Int),.string ⟨((bs.drop 36).take (bs.length - 36) : List UInt8).toArray⟩,.int .i64 (val ((bs.drop 5).take (11 - 5))),.int .i64 (val ((bs.drop 11).take (17 - 11))),.int .i64 (val ((bs.drop 17).take (23 - 17))),.int .i64 (val ((bs.drop 23).take (29 - 23))),.int .i64 (val ((bs.drop 29).take (35 - 29)))] 49 (0,0))]) Z Z Storesa_sz49 (i := 0) Z Z (le Z) Z Z ?_
       refine Ze<|Ex.anyLz Z<|RunL.done WK<|Ex.keep [0,0]<|?_
       exact ZX b6 trivial
     ·refine Run.alloc Storesa_zo49 (lt rfl) (fun b7 => ?_)
      refine Ze<|Ex.anyL (KnAll.cons hk5.of_nil KnAll.nil)<|?_
      refine RunL.one (i := 13) WK rfl  ?_
      refine Run.call0 (l := [.tmp 23]) rfl rfl rfl (lt rfl) (of11_c (Rd.cut nB_len hv.flatB.of_nil 11 17 W W) W)<|Ze<|Ex.anyL (KnAll.cons hk5.of_nil KnAll.nil)<|?_
      refine RunL.one (i := 16) WK rfl  ?_
      refine Run.call0 (l := [.tmp 26]) rfl rfl rfl (lt rfl) (of11_c (Rd.cut nB_len hv.flatB.of_nil 17 23 W W) W)<|Ze<|Ex.anyL (KnAll.cons hk5.of_nil KnAll.nil)<|?_
      refine RunL.one (i := 19) WK rfl  ?_
      refine Run.call0 (l := [.tmp 29]) rfl rfl rfl (lt rfl) (of11_c (Rd.cut nB_len hv.flatB.of_nil 23 29 W W) W)<|Ze<|Ex.anyL (KnAll.cons hk5.of_nil KnAll.nil)<|?_
      refine RunL.one (i := 22) WK rfl  ?_
      refine Run.call0 (l := [.tmp 32]) rfl rfl rfl (lt rfl) (of11_c (Rd.cut nB_len hv.flatB.of_nil 29 35 W W) W)<|Ze<|Ex.anyL (KnAll.cons hk5.of_nil KnAll.nil)<|RunL.pure (i := 26) rfl WK WK WK WK (fun _ _ _ h => h) (lt rfl) (KnAll.cons hk5.of_nil KnAll.nil) (fun _ => (Y.buildS (l := [(0,.tmp 14),(1,.tmp 18),(3,.tmp 21),(4,.tmp 24),(5,.tmp 27),(6,.tmp 30),(7,.tmp 33),(2,.tmp 36)]) Storesa_zo49 Storesa_pl49 rfl rfl))<|?_
      refine RunL.one (i := 28) WK rfl  ?_
      refine Run.store (s := [(b7,.cells #[.int .u32 (val ((bs.drop 0).take (4 - 0))),.int .i64 (((bs.getD 4 0).toNat : Nat) : Int),.string ⟨((bs.drop 36).take (bs.length - 36) : List UInt8).toArray⟩,.int .i64 (val ((bs.drop 5).take (11 - 5))),.int .i64 (val ((bs.drop 11).take (17 - 11))),.int .i64 (val ((bs.drop 17).take (23 - 17))),.int .i64 (val ((bs.drop 23).take (29 - 23))),.int .i64 (val ((bs.drop 29).take (35 - 29)))] 49 (0,0))]) Z Z Storesa_sz49 (i := 0) Z Z (le Z) Z Z ?_
      refine Ze<|Ex.anyLz Z<|RunL.done WK<|Ex.keep [0,0]<|?_
      exact ZX b7 trivial
    ·refine Run.alloc Storesa_zo49 (lt rfl) (fun b8 => ?_)
     refine Ze<|Ex.anyL (KnAll.cons hk5.of_nil KnAll.nil)<|?_
     refine RunL.one (i := 10) WK rfl  ?_
     refine Run.call0 (l := [.tmp 20]) rfl rfl rfl (lt rfl) (of11_c (Rd.cut nB_len hv.flatB.of_nil 5 11 W W) W)<|Ze<|Ex.anyL (KnAll.cons hk5.of_nil KnAll.nil)<|?_
     refine RunL.one (i := 13) WK rfl  ?_
     refine Run.call0 (l := [.tmp 23]) rfl rfl rfl (lt rfl) (of11_c (Rd.cut nB_len hv.flatB.of_nil 11 17 W W) W)<|Ze<|Ex.anyL (KnAll.cons hk5.of_nil KnAll.nil)<|?_
     refine RunL.one (i := 16) WK rfl  ?_
     refine Run.call0 (l := [.tmp 26]) rfl rfl rfl (lt rfl) (of11_c (Rd.cut nB_len hv.flatB.of_nil 17 23 W W) W)<|Ze<|Ex.anyL (KnAll.cons hk5.of_nil KnAll.nil)<|?_
     refine RunL.one (i := 19) WK rfl  ?_
     refine Run.call0 (l := [.tmp 29]) rfl rfl rfl (lt rfl) (of11_c (Rd.cut nB_len hv.flatB.of_nil 23 29 W W) W)<|Ze<|Ex.anyL (KnAll.cons hk5.of_nil KnAll.nil)<|?_
     refine RunL.one (i := 22) WK rfl  ?_
     refine Run.call0 (l := [.tmp 32]) rfl rfl rfl (lt rfl) (of11_c (Rd.cut nB_len hv.flatB.of_nil 29 35 W W) W)<|Ze<|Ex.anyL (KnAll.cons hk5.of_nil KnAll.nil)<|RunL.pure (i := 26) rfl WK WK WK WK (fun _ _ _ h => h) (lt rfl) (KnAll.cons hk5.of_nil KnAll.nil) (fun _ => (Y.buildS (l := [(0,.tmp 14),(1,.tmp 18),(3,.tmp 21),(4,.tmp 24),(5,.tmp 27),(6,.tmp 30),(7,.tmp 33),(2,.tmp 36)]) Storesa_zo49 Storesa_pl49 rfl rfl))<|?_
     refine RunL.one (i := 28) WK rfl  ?_
     refine Run.store (s := [(b8,.cells #[.int .u32 (val ((bs.drop 0).take (4 - 0))),.int .i64 (((bs.getD 4 0).toNat : Nat) : Int),.string ⟨((bs.drop 36).take (bs.length - 36) : List UInt8).toArray⟩,.int .i64 (val ((bs.drop 5).take (11 - 5))),.int .i64 (val ((bs.drop 11).take (17 - 11))),.int .i64 (val ((bs.drop 17).take (23 - 17))),.int .i64 (val ((bs.drop 23).take (29 - 23))),.int .i64 (val ((bs.drop 29).take (35 - 29)))] 49 (0,0))]) Z Z Storesa_sz49 (i := 0) Z Z (le Z) Z Z ?_
     refine Ze<|Ex.anyLz Z<|RunL.done WK<|Ex.keep [0,0]<|?_
     exact ZX b8 trivial
   ·refine Run.alloc Storesa_zo49 (lt rfl) (fun b9 => ?_)
    refine Ze<|Ex.anyL (KnAll.cons hk5.of_nil KnAll.nil)<|?_
    refine RunL.one (i := 2) WK rfl  ?_
    refine Run.call0 (l := [.tmp 12]) rfl rfl rfl (lt rfl) (of11_c (Rd.cut nB_len hv.flatB.of_nil 0 4 W W) W)<|Ze<|Ex.anyL (KnAll.cons hk5.of_nil KnAll.nil)<|RunL.pure (i := 3) rfl WK WK WK WK (fun _ _ _ h => h) (lt rfl) (KnAll.cons hk5.of_nil KnAll.nil) (fun _ => (Y.conv (val ((bs.drop 0).take (4 - 0))) rfl Storesa_it3_47 (wrap_u32 W)))<|?_
    refine RunL.one (i := 10) WK rfl  ?_
    refine Run.call0 (l := [.tmp 20]) rfl rfl rfl (lt rfl) (of11_c (Rd.cut nB_len hv.flatB.of_nil 5 11 W W) W)<|Ze<|Ex.anyL (KnAll.cons hk5.of_nil KnAll.nil)<|?_
    refine RunL.one (i := 13) WK rfl  ?_
    refine Run.call0 (l := [.tmp 23]) rfl rfl rfl (lt rfl) (of11_c (Rd.cut nB_len hv.flatB.of_nil 11 17 W W) W)<|Ze<|Ex.anyL (KnAll.cons hk5.of_nil KnAll.nil)<|?_
    refine RunL.one (i := 16) WK rfl  ?_
    refine Run.call0 (l := [.tmp 26]) rfl rfl rfl (lt rfl) (of11_c (Rd.cut nB_len hv.flatB.of_nil 17 23 W W) W)<|Ze<|Ex.anyL (KnAll.cons hk5.of_nil KnAll.nil)<|?_
    refine RunL.one (i := 19) WK rfl  ?_
    refine Run.call0 (l := [.tmp 29]) rfl rfl rfl (lt rfl) (of11_c (Rd.cut nB_len hv.flatB.of_nil 23 29 W W) W)<|Ze<|Ex.anyL (KnAll.cons hk5.of_nil KnAll.nil)<|?_
    refine RunL.one (i := 22) WK rfl  ?_
    refine Run.call0 (l := [.tmp 32]) rfl rfl rfl (lt rfl) (of11_c (Rd.cut nB_len hv.flatB.of_nil 29 35 W W) W)<|Ze<|Ex.anyL (KnAll.cons hk5.of_nil KnAll.nil)<|RunL.pure (i := 26) rfl WK WK WK WK (fun _ _ _ h => h) (lt rfl) (KnAll.cons hk5.of_nil KnAll.nil) (fun _ => (Y.buildS (l := [(0,.tmp 14),(1,.tmp 18),(3,.tmp 21),(4,.tmp 24),(5,.tmp 27),(6,.tmp 30),(7,.tmp 33),(2,.tmp 36)]) Storesa_zo49 Storesa_pl49 rfl rfl))<|?_
    refine RunL.one (i := 28) WK rfl  ?_
    refine Run.store (s := [(b9,.cells #[.int .u32 (val ((bs.drop 0).take (4 - 0))),.int .i64 (((bs.getD 4 0).toNat : Nat) : Int),.string ⟨((bs.drop 36).take (bs.length - 36) : List UInt8).toArray⟩,.int .i64 (val ((bs.drop 5).take (11 - 5))),.int .i64 (val ((bs.drop 11).take (17 - 11))),.int .i64 (val ((bs.drop 17).take (23 - 17))),.int .i64 (val ((bs.drop 23).take (29 - 23))),.int .i64 (val ((bs.drop 29).take (35 - 29)))] 49 (0,0))]) Z Z Storesa_sz49 (i := 0) Z Z (le Z) Z Z ?_
    refine Ze<|Ex.anyLz Z<|RunL.done WK<|Ex.keep [0,0]<|?_
    exact ZX b9 trivial
  ·rintro bl _
   refine Zs<|Zr<|Zv (Y.loadAgg Z Storesa_ag49 (Kn.at 0 Z) Z)<|?_
   refine Run.callF (l := [.tmp 39]) rfl rfl rfl (lt rfl) (renc_c (q := Le.dcd bs) hdo) (fun v9 V9 H9 hle9 hR => ?_)
   obtain ⟨hV,⟨hr9,rfl,rfl⟩ | ⟨hr9,p9,c9,q9,rfl,ho9,rfl⟩⟩ := hR <;> (replace hV := hV.symm; subst hV)
   ·refine Run.heapTo (H' := [[(bl,.cells #[.int .u32 (val ((bs.drop 0).take (4 - 0))),.int .i64 ((bs.getD 4 0).toNat : Int),.string ⟨((bs.drop 36).take (bs.length - 36) : List UInt8).toArray⟩,.int .i64 (val ((bs.drop 5).take (11 - 5))),.int .i64 (val ((bs.drop 11).take (17 - 11))),.int .i64 (val ((bs.drop 17).take (23 - 17))),.int .i64 (val ((bs.drop 23).take (29 - 23))),.int .i64 (val ((bs.drop 29).take (35 - 29)))] 49 (0,0))],[(b1,.cells #[.int .u32 0,.int .i64 0,.string ⟨#[]⟩,.int .i64 0,.int .i64 0,.int .i64 0,.int .i64 0,.int .i64 0] 49 (0,0))]]) Z ?_
    refine Zm Z<|Zv (Y.extract Z Z)<|Zv (Y.extract Z Z)<|Za Z<|Za Z<|Ze<|Zg<|Zs<|Zs<|Zr<|Zm Z<|Zv (Y.int (r := .bool true) Z Z Z)<|Zm Z<|Zo Z Z<|Zo Z Z<|Zo Z Z<|?_
    refine Zo Z Z<|Zo Z Z<|Zv (Y.pick_t Z Z Z)<|Ze<|Zg<|Tr.cond_t Z Z<|Zs<|Zr<|Zv (Y.buildS (l := []) Storesa_zo49 Storesa_pl49 Z Z)<|Run.store (s := [(b1,.cells #[.int .u32 0,.int .i64 0,.string ⟨#[]⟩,.int .i64 0,.int .i64 0,.int .i64 0,.int .i64 0,.int .i64 0] 49 (0,0))]) Z Z Storesa_sz49 (i := 1) Z Z (le Z) Z Z<|Za Z<|Ze<|Zg<|Zu<|Zn<|?_
    exact Ex.retCell2 [] rfl rfl rfl Storesa_ag49 (Kn.at 1 rfl) rfl ⟨by rw [Le.decE_bad (.inr (.inr hr9))]; rfl,rfl,rfl⟩
   ·refine Run.heapTo (H' := [q9,[(bl,.cells #[.int .u32 (val ((bs.drop 0).take (4 - 0))),.int .i64 ((bs.getD 4 0).toNat : Int),.string ⟨((bs.drop 36).take (bs.length - 36) : List UInt8).toArray⟩,.int .i64 (val ((bs.drop 5).take (11 - 5))),.int .i64 (val ((bs.drop 11).take (17 - 11))),.int .i64 (val ((bs.drop 17).take (23 - 17))),.int .i64 (val ((bs.drop 23).take (29 - 23))),.int .i64 (val ((bs.drop 29).take (35 - 29)))] 49 (0,0))],[(b1,.cells #[.int .u32 0,.int .i64 0,.string ⟨#[]⟩,.int .i64 0,.int .i64 0,.int .i64 0,.int .i64 0,.int .i64 0] 49 (0,0))]]) Z ?_
    refine Zm Z<|Zv (Y.extract Z Z)<|Zv (Y.extract Z Z)<|Za Z<|Za Z<|Ze<|Zg<|Zs<|Zs<|Zr<|Zm Z<|Zv (Y.int (r := .bool false) Z Z Z)<|Zm Z<|Zp Z<|Zm Z<|Zp Z<|?_
    refine Zv (Y.bytesStr (bs := (Le.encB (Le.dcd bs))) Z Storesa_es22 Storesa_tg5 Storesa_st9 (ho9.rd 0 Z))<|Zp Z<|Zm Z<|Zp Z<|Zv (Y.bytesStr (bs := bs) Z Storesa_es22 Storesa_tg5 Storesa_st9 hv.of_nil)<|Zp Z<|Zv (Y.neStr Z Z)<|Zv (Y.pick_f Z Z Z)<|Ze<|Zg<|?_
    rcases Zsplit ((⟨((Le.encB (Le.dcd bs)) : List UInt8).toArray⟩ : ByteArray).toList == (⟨(bs : List UInt8).toArray⟩ : ByteArray).toList) with ⟨h10,g10⟩ | ⟨h10,g10⟩ <;> try simp only [kb] at g10
    ·refine Tr.cond_f Z (congrArg Bool.not h10)<|Zt<|Zg<|Zs<|Zr<|Zv (Y.loadAgg Z Storesa_ag49 (Kn.at 1 Z) Z)<|Run.store (s := [(b1,.cells #[.int .u32 (val ((bs.drop 0).take (4 - 0))),.int .i64 ((bs.getD 4 0).toNat : Int),.string ⟨((bs.drop 36).take (bs.length - 36) : List UInt8).toArray⟩,.int .i64 (val ((bs.drop 5).take (11 - 5))),.int .i64 (val ((bs.drop 11).take (17 - 11))),.int .i64 (val ((bs.drop 17).take (23 - 17))),.int .i64 (val ((bs.drop 23).take (29 - 23))),.int .i64 (val ((bs.drop 29).take (35 - 29)))] 49 (0,0))]) Z Z Storesa_sz49 (i := 2) Z Z (le Z) Z Z<|?_
     refine Za Z<|Ze<|Zg<|Zu<|?_
     have h8 := h10
     rw [Msg.eq_bytes,decide_eq_true_eq] at h8
     exact Ex.retCell2 [] rfl rfl rfl Storesa_ag49 (Kn.at 2 rfl) rfl ⟨by rw [Le.decE_ok W ((Le.ref_dec W hr9).1 h8) hr9]; rfl,rfl,rfl⟩
    ·refine Tr.cond_t Z (congrArg Bool.not h10)<|Zs<|Zr<|Zv (Y.buildS (l := []) Storesa_zo49 Storesa_pl49 Z Z)<|Run.store (s := [(b1,.cells #[.int .u32 0,.int .i64 0,.string ⟨#[]⟩,.int .i64 0,.int .i64 0,.int .i64 0,.int .i64 0,.int .i64 0] 49 (0,0))]) Z Z Storesa_sz49 (i := 2) Z Z (le Z) Z Z<|Za Z<|Ze<|Zg<|Zu<|Zn<|?_
     have h8 := h10
     rw [Msg.eq_bytes,decide_eq_false_iff_not] at h8
     exact Ex.retCell2 [] rfl rfl rfl Storesa_ag49 (Kn.at 2 rfl) rfl ⟨by rw [Le.decE_bad (.inr (.inl (fun z => h8 ((Le.ref_dec W hr9).2 z))))]; rfl,rfl,rfl⟩
set_option maxHeartbeats 1000000 in
theorem dec_c {V : Vw} {bs : Bts} {p : Option Addr} {c : Nat} (hv : Rd V [] 1 (.slice p bs.length c) bs.length (bs.map byteV)) (hl : bs.length ≤ 1500000)  : Does Tryz.prog 146 [.slice p bs.length c] V [] (Pv (.tuple #[.agg (Le.decE bs).1.cells.toArray,.int .i64 (Le.decE bs).2]) V []) := by
 have hcp := hv.cap
 have hu4 := u8_lt (bs.getD 4 0)
 have hu35 := u8_lt (bs.getD 35 0)
 refine Does.intro Tryz.func146 rfl rfl (le rfl) (fun B => ?_)
 refine Zs<|Zr<|?_
 refine Run.alloc Storesa_zo49 (lt rfl) (fun b1 => ?_)
 refine Za Z<|Ze<|Zg<|Zs<|Zs<|Zr<|Zm Z<|Zv (Y.lenSl Z Storesa_es22)<|Zv (Y.int Z Z Z)<|Zm Z<|?_
 rcases Zsplit (decide (((bs.length : Nat) : Int) < 36)) with ⟨h2,g2⟩ | ⟨h2,g2⟩ <;> try simp only [kb] at g2
 ·refine Zo h2 Z<|Zo h2 Z<|Zo h2 Z<|Zo h2 Z<|Zo h2 Z<|Zo h2 Z<|Zo h2 Z<|Zo h2 Z<|Zv (Y.pick_t Z h2 Z)<|Ze<|Zg<|Tr.cond_t Z Z<|Zs<|Zr<|Zv (Y.buildS (l := []) Storesa_zo49 Storesa_pl49 Z Z)<|Run.store (s := [(b1,.cells #[.int .u32 0,.int .i64 0,.string ⟨#[]⟩,.int .i64 0,.int .i64 0,.int .i64 0,.int .i64 0,.int .i64 0] 49 (0,0))]) Z Z Storesa_sz49 (i := 0) Z Z (le Z) Z Z<|?_
  refine Za Z<|Ze<|Zg<|Zu<|Zn<|?_
  exact Ex.retCell2 [] rfl rfl rfl Storesa_ag49 (Kn.at 0 rfl) rfl ⟨by rw [Le.decE_bad (.inl W)]; rfl,rfl,rfl⟩
 ·have hdo := Le.dcd_ok (b := bs) W W
  obtain ⟨b5,o5,hk5,hvk⟩ := hv.flatB.vk W
  refine Zp h2<|Zm Z<|Zp h2<|Zv (Y.idxR 35 Z Z Storesa_es22 hv.flatB.of_nil W W)<|Zp h2<|Zv (Y.ldR Z Storesa_ts5 hv.flatB.of_nil (flatm_at0 nB_len W 0 WD rfl))<|Zp h2<|Zv (Y.conv ((((bs.getD 35 0).toNat : Nat) : Int)) rfl Storesa_it5_3 (wrap_i64 W))<|Zp h2<|Zm Z<|Zp h2<|Zv (Y.lenSl Z Storesa_es22)<|Zp h2<|Zv (Y.sub Z Z W)<|Zp h2<|Zv (Y.int Z Z Z)<|?_
  refine Zv (Y.pick_f Z h2 Z)<|Ze<|Zg<|?_
  rcases Zsplit ((((bs.getD 35 0).toNat : Nat) : Int) != (((bs.length : Nat) : Int) - 36)) with ⟨h3,g3⟩ | ⟨h3,g3⟩ <;> try simp only [kb] at g3
  ·refine Tr.cond_t Z h3<|Zs<|Zr<|Zv (Y.buildS (l := []) Storesa_zo49 Storesa_pl49 Z Z)<|Run.store (s := [(b1,.cells #[.int .u32 0,.int .i64 0,.string ⟨#[]⟩,.int .i64 0,.int .i64 0,.int .i64 0,.int .i64 0,.int .i64 0] 49 (0,0))]) Z Z Storesa_sz49 (i := 0) Z Z (le Z) Z Z<|Za Z<|Ze<|Zg<|Zu<|Zn<|?_
   exact Ex.retCell2 [] rfl rfl rfl Storesa_ag49 (Kn.at 0 rfl) rfl ⟨by rw [Le.decE_bad (.inr (.inl W))]; rfl,rfl,rfl⟩
  ·refine Tr.cond_f Z h3<|Zt<|Zg<|Zs<|Tr.anyL [(b5,o5)] 9 Storesa_mo<|RunL.pure (i := 0) rfl WK WK WK WK (fun _ _ _ h => h) (lt rfl) (KnAll.cons hk5.of_nil KnAll.nil) (fun _ => (Y.move rfl))<|RunL.take (i := 1) 0 rfl rfl WK WK WK WK (fun _ _ _ h => h) (lt rfl) (KnAll.cons hk5.of_nil KnAll.nil) (fun _ => (Y.idxR 4 rfl rfl Storesa_es22 hvk W W))<|?_
   refine RunL.take (i := 2) 0 rfl rfl WK WK WK WK (fun _ _ _ h => h) (lt rfl) (KnAll.cons hk5.of_nil KnAll.nil) (fun _ => (Y.ldR rfl Storesa_ts5 hvk (flatm_at0 nB_len W 0 WD rfl)))<|RunL.pure (i := 3) rfl WK WK WK WK (fun _ _ _ h => h) (lt rfl) (KnAll.cons hk5.of_nil KnAll.nil) (fun _ => (Y.conv ((((bs.getD 4 0).toNat : Nat) : Int)) rfl Storesa_it5_3 (wrap_i64 W)))<|?_
   refine RunL.pure (i := 4) rfl WK WK WK WK (fun _ _ _ h => h) (lt rfl) (KnAll.cons hk5.of_nil KnAll.nil) (fun _ => (Y.move rfl))<|RunL.pure (i := 5) rfl WK WK WK WK (fun _ _ _ h => h) (lt rfl) (KnAll.cons hk5.of_nil KnAll.nil) (fun _ => (Y.slice (l := 36) (m := bs.length) rfl Storesa_es22 rfl rfl W W))<|?_
   refine RunL.take (i := 6) 0 rfl rfl WK WK WK WK (fun _ _ _ h => h) (lt rfl) (KnAll.cons hk5.of_nil KnAll.nil) (fun _ => (Y.bytesStr (bs := (bs.drop 36).take (bs.length - 36)) rfl Storesa_es22 Storesa_tg5 Storesa_st9 ((Rd.cut nB_len hvk 36 bs.length W W).mapB.to (by rw [List.length_take,List.length_drop]; omega))))<|RunL.pure (i := 7) rfl WK WK WK WK (fun _ _ _ h => h) (lt rfl) (KnAll.cons hk5.of_nil KnAll.nil) (fun _ => (Y.buildS (l := [(1,.tmp 27),(2,.tmp 30)]) Storesa_zo49 Storesa_pl49 rfl rfl))<|?_
   refine RunL.one (i := 8) WK rfl  ?_
   refine Run.alloc Storesa_zo49 (lt rfl) (fun b4 => ?_)
   refine Ze<|Ex.anyL (KnAll.cons hk5.of_nil KnAll.nil)<|?_
   refine RunL.one (i := 9) WK rfl  ?_
   refine Run.store (s := [(b4,.cells #[.int .u32 0,.int .i64 (((bs.getD 4 0).toNat : Nat) : Int),.string ⟨((bs.drop 36).take (bs.length - 36) : List UInt8).toArray⟩,.int .i64 0,.int .i64 0,.int .i64 0,.int .i64 0,.int .i64 0] 49 (0,0))]) Z Z Storesa_sz49 (i := 0) Z Z (le Z) Z Z<|Ze<|Ex.anyLz Z<|RunL.done WK<|Zg<|Zs<|Zs<|Zr<|Zm Z<|Zv (Y.slice (l := 0) (m := 4) Z Storesa_es22 rfl rfl W W)<|?_
   refine Zv (Y.lenSl Z Storesa_es22)<|Zm Z<|Ze<|Zg<|Zb<|?_
   refine ZL (X := Nat) (fun z0 => V) (fun z0 => [[(b4,.cells #[.int .u32 (val ((Msg.sl bs 0 4).take z0)),.int .i64 ((bs.getD 4 0).toNat : Int),.string ⟨((bs.drop 36).take (bs.length - 36) : List UInt8).toArray⟩,.int .i64 0,.int .i64 0,.int .i64 0,.int .i64 0,.int .i64 0] 49 (0,0))],[(b1,.cells #[.int .u32 0,.int .i64 0,.string ⟨#[]⟩,.int .i64 0,.int .i64 0,.int .i64 0,.int .i64 0,.int .i64 0] 49 (0,0))]]) (fun z0 => [(0,.slice p bs.length c),(2,(pZ b1)),(4,(pZ b4)),(33,.slice (if c = 0 then p else p.map (·.add (0 * 1))) (4 - 0) (c - 0)),(34,.int .i64 (((4 - 0) : Nat) : Int)),(35,.int .i64 (z0 : Int))]) (fun z0 => z0 ≤ 4) (fun z0 => 4 - z0) (0 : Nat) (Nat.zero_le _) ?_
   rintro i1 hi
   have hu5 := u8_lt (bs.getD i1 0)
   have hl4 := sl_len bs (i := 0) (j := 4) W
   refine Zs<|Zr<|Zv (Y.int Z Z Z)<|Ze<|Zg<|Zs<|?_
   rcases Zsplit (decide ((i1 : Int) < (((4 - 0) : Nat) : Int))) with ⟨h5,g5⟩ | ⟨h5,g5⟩ <;> try simp only [kb] at g5
   ·refine Tr.cond_t Z h5<|Zt<|Zg<|Zs<|Zb<|Zs<|Zr<|?_
    have hl40 : ((bs.drop 0).take (4 - 0)).length = 4 := by rw [List.length_take,List.length_drop]; omega
    have hs1 := val_small3 (l := (Msg.sl bs 0 4).take i1) (by rw [List.length_take]; omega)
    have hg4 : ((bs.drop 0).take (4 - 0)).getD i1 0 = bs.getD i1 0 := (sl_getD (b := bs) (i := 0) (j := 4) W).trans (by rw [Nat.zero_add])
    refine Zv (Y.idxR i1 Z Z Storesa_es22 (Rd.cut nB_len hv.flatB.of_nil 0 4 W W) W W)<|Zv (Y.ldR Z Storesa_ts5 (Rd.cut nB_len hv.flatB.of_nil 0 4 W W) (flatm_at0 nB_len W 0 WD rfl))<|Za Z<|Ze<|Zg<|Zr<|Zv (Y.fieldAddr Z Storesa_fo49_0)<|Zv (Y.load Z Storesa_ts47 (Kn.at 0 Z) Z)<|Zv (Y.shl (val ((Msg.sl bs 0 4).take i1) * 256) rfl rfl WD (shl_byte32 hs1.1 hs1.2))<|?_
    refine Zm Z<|Zv (Y.conv (((bs.getD i1 0).toNat : Int)) rfl Storesa_it5_47 (by rw [wrap_u32 (by rw [hg4]; omega),hg4]))<|Zv (Y.int (r := .int .u32 (val ((Msg.sl bs 0 4).take (i1 + 1)))) rfl rfl (by simp only [intRes]; rw [or_byte32 hs1.1 hs1.2 W W,val_take (by rw [sl_len _ W]; omega),sl_getD W,Nat.zero_add]))<|Zv (Y.fieldAddr Z Storesa_fo49_0)<|Run.store (s := [(b4,.cells #[.int .u32 (val ((Msg.sl bs 0 4).take (i1 + 1))),.int .i64 ((bs.getD 4 0).toNat : Int),.string ⟨((bs.drop 36).take (bs.length - 36) : List UInt8).toArray⟩,.int .i64 0,.int .i64 0,.int .i64 0,.int .i64 0,.int .i64 0] 49 (0,0))]) Z Z Storesa_sz47 (i := 0) Z Z (le Z) Z Z<|?_
    refine Ze<|Zc<|Zg<|Zr<|Zv (Y.add Z Z W)<|Zm Z<|Ze<|Ex.keep [0,0]<|?_
    exact ZR (i1 + 1 : Nat) W W
   ·refine Tr.cond_f Z h5<|Zx<|Zy<|Zy<|Zi<|Zg<|Zs<|Zr<|?_
    obtain rfl : i1 = 4 := by omega
    rw [show (Msg.sl bs 0 4).take 4 = (Msg.sl bs 0 4) from List.take_of_length_le (by rw [hl4]; omega)]
    refine Za Z<|Ze<|Zg<|Zs<|Zs<|Zr<|Run.call0 (l := [.tmp 4]) Z Z Z (lt Z) times_c<|Zm Z<|Ze<|Zg<|Zb<|Tr.unroll 5<|Zs<|Zr<|Zv (Y.int (r := .bool true) Z Z Z)<|Ze<|?_
    refine Zg<|Zs<|Tr.cond_t Z Z<|Zt<|Zg<|Zs<|Zb<|Zs<|Zr<|Zv (Y.idxAgg Z Z Storesa_as243 WD WD rfl)<|Za Z<|Ze<|Zg<|Zs<|Zr<|Zm Z<|?_
    refine Ze<|Zg<|Zb<|?_
    refine ZL (X := Nat) (fun z0 => V) (fun z0 => [[(b4,.cells #[.int .u32 (val (Msg.sl bs 0 4)),.int .i64 ((bs.getD 4 0).toNat : Int),.string ⟨((bs.drop 36).take (bs.length - 36) : List UInt8).toArray⟩,.int .i64 (val ((Msg.sl bs 5 11).take z0)),.int .i64 0,.int .i64 0,.int .i64 0,.int .i64 0] 49 (0,0))],[(b1,.cells #[.int .u32 0,.int .i64 0,.string ⟨#[]⟩,.int .i64 0,.int .i64 0,.int .i64 0,.int .i64 0,.int .i64 0] 49 (0,0))]]) (fun z0 => [(0,.slice p bs.length c),(2,(pZ b1)),(4,(pZ b4)),(7,.int .i64 (5 + (z0 : Int))),(9,.pointer (some ⟨b4,3,none⟩)),(47,.agg #[.pointer (some ⟨b4,3,none⟩),.pointer (some ⟨b4,4,none⟩),.pointer (some ⟨b4,5,none⟩),.pointer (some ⟨b4,6,none⟩),.pointer (some ⟨b4,7,none⟩)]),(48,.int .i64 0),(51,.int .i64 (z0 : Int))]) (fun z0 => z0 ≤ 6) (fun z0 => 6 - z0) (0 : Nat) (Nat.zero_le _) ?_
    rintro ii0 hi0
    have hvs0 := val_small (l := (Msg.sl bs 5 11).take ii0) (by rw [List.length_take]; omega)
    have hu09 := u8_lt (bs.getD (5 + ii0) 0)
    refine Zs<|Zr<|Zv (Y.int Z Z Z)<|Ze<|Zg<|Zs<|?_
    rcases Zsplit (decide ((ii0 : Int) < 6)) with ⟨h6,g6⟩ | ⟨h6,g6⟩ <;> try simp only [kb] at g6
    ·refine Tr.cond_t Z h6<|Zt<|Zg<|Zs<|Zb<|Zs<|Tr.anyL [(b4,.cells #[.int .u32 (val (Msg.sl bs 0 4)),.int .i64 ((bs.getD 4 0).toNat : Int),.string ⟨((bs.drop 36).take (bs.length - 36) : List UInt8).toArray⟩,.int .i64 (val ((Msg.sl bs 5 11).take ii0)),.int .i64 0,.int .i64 0,.int .i64 0,.int .i64 0] 49 (0,0)),(b5,o5)] 12 Storesa_mo<|RunL.pure (i := 0) rfl WK WK WK WK (fun _ _ _ h => h) (lt rfl) (KnAll.cons (Kn.at 0 rfl) (KnAll.cons hk5.of_nil KnAll.nil)) (fun _ => (Y.move rfl))<|?_
     refine RunL.pure (i := 1) rfl WK WK WK WK (fun _ _ _ h => h) (lt rfl) (KnAll.cons (Kn.at 0 rfl) (KnAll.cons hk5.of_nil KnAll.nil)) (fun _ => (Y.move rfl))<|RunL.pure (i := 2) rfl WK WK WK WK (fun _ _ _ h => h) (lt rfl) (KnAll.cons (Kn.at 0 rfl) (KnAll.cons hk5.of_nil KnAll.nil)) (fun _ => (Y.nilCheck rfl))<|?_
     refine RunL.take (i := 3) 0 rfl rfl WK WK WK WK (fun _ _ _ h => h) (lt rfl) (KnAll.cons (Kn.at 0 rfl) (KnAll.cons hk5.of_nil KnAll.nil)) (fun _ => (Y.load rfl Storesa_ts3 Kn.vk1 rfl))<|RunL.pure (i := 4) rfl WK WK WK WK (fun _ _ _ h => h) (lt rfl) (KnAll.cons (Kn.at 0 rfl) (KnAll.cons hk5.of_nil KnAll.nil)) (fun _ => (Y.shl (val ((Msg.sl bs 5 11).take ii0) * 256) rfl rfl WD (shl_byte hvs0.1 hvs0.2)))<|?_
     refine RunL.pure (i := 5) rfl WK WK WK WK (fun _ _ _ h => h) (lt rfl) (KnAll.cons (Kn.at 0 rfl) (KnAll.cons hk5.of_nil KnAll.nil)) (fun _ => (Y.move rfl))<|RunL.pure (i := 6) rfl WK WK WK WK (fun _ _ _ h => h) (lt rfl) (KnAll.cons (Kn.at 0 rfl) (KnAll.cons hk5.of_nil KnAll.nil)) (fun _ => (Y.move rfl))<|RunL.take (i := 7) 1 rfl rfl WK WK WK WK (fun _ _ _ h => h) (lt rfl) (KnAll.cons (Kn.at 0 rfl) (KnAll.cons hk5.of_nil KnAll.nil)) (fun _ => (Y.idxR (5 + ii0) rfl rfl Storesa_es22 hvk W W))<|?_
     refine RunL.take (i := 8) 1 rfl rfl WK WK WK WK (fun _ _ _ h => h) (lt rfl) (KnAll.cons (Kn.at 0 rfl) (KnAll.cons hk5.of_nil KnAll.nil)) (fun _ => (Y.ldR rfl Storesa_ts5 hvk (flatm_at0 nB_len W 0 WD rfl)))<|RunL.pure (i := 9) rfl WK WK WK WK (fun _ _ _ h => h) (lt rfl) (KnAll.cons (Kn.at 0 rfl) (KnAll.cons hk5.of_nil KnAll.nil)) (fun _ => (Y.conv ((((bs.getD (5 + ii0) 0).toNat : Nat) : Int)) rfl Storesa_it5_3 (wrap_i64 W)))<|?_
     refine RunL.pure (i := 10) rfl WK WK WK WK (fun _ _ _ h => h) (lt rfl) (KnAll.cons (Kn.at 0 rfl) (KnAll.cons hk5.of_nil KnAll.nil)) (fun _ => (Y.int (r := .int .i64 (val ((Msg.sl bs 5 11).take (ii0 + 1)))) rfl rfl (by simp only [intRes]; rw [or_byte hvs0.1 hvs0.2 W W,val_take (by rw [sl_len _ W]; omega),sl_getD W]))) ?_
     refine RunL.pure (i := 11) rfl WK WK WK WK (fun _ _ _ h => h) (lt rfl) (KnAll.cons (Kn.at 0 rfl) (KnAll.cons hk5.of_nil KnAll.nil)) (fun _ => (Y.nilCheck rfl)) ?_
     refine RunL.one (i := 12) WK rfl  ?_
     refine Run.store (s := [(b4,.cells #[.int .u32 (val (Msg.sl bs 0 4)),.int .i64 ((bs.getD 4 0).toNat : Int),.string ⟨((bs.drop 36).take (bs.length - 36) : List UInt8).toArray⟩,.int .i64 (val ((Msg.sl bs 5 11).take (ii0 + 1))),.int .i64 0,.int .i64 0,.int .i64 0,.int .i64 0] 49 (0,0))]) Z Z Storesa_sz3 (i := 0) Z Z (le Z) Z Z<|Ze<|Ex.anyLz Z<|RunL.done WK<|Zg<|Zr<|Zm Z<|Zv (Y.add Z Z W)<|Za Z<|?_
     refine Ze<|Zc<|Zg<|Zr<|Zv (Y.add Z Z W)<|Zm Z<|Ze<|Ex.keep [0,0]<|?_
     exact ZR (ii0 + 1 : Nat) W W
    ·refine Tr.cond_f Z h6<|Zx<|Zy<|Zy<|Zi<|Zc<|Zg<|Zr<|?_
     obtain rfl : ii0 = 6 := by omega
     rw [show (Msg.sl bs 5 11).take 6 = Msg.sl bs 5 11 from List.take_of_length_le (by rw [sl_len _ W]; omega)]
     refine Run.sub [(0,.slice p bs.length c),(2,(pZ b1)),(4,(pZ b4)),(47,.agg #[.pointer (some ⟨b4,3,none⟩),.pointer (some ⟨b4,4,none⟩),.pointer (some ⟨b4,5,none⟩),.pointer (some ⟨b4,6,none⟩),.pointer (some ⟨b4,7,none⟩)]),(48,.int .i64 0),(7,.int .i64 11)] (subB_cons (by first | rfl | exact congrArg (fun z => some (Value.int _ z)) W) (subB_cons (by first | rfl | exact congrArg (fun z => some (Value.int _ z)) W) (subB_cons (by first | rfl | exact congrArg (fun z => some (Value.int _ z)) W) (subB_cons (by first | rfl | exact congrArg (fun z => some (Value.int _ z)) W) (subB_cons (by first | rfl | exact congrArg (fun z => some (Value.int _ z)) W) (subB_cons (by first | rfl | exact congrArg (fun z => some (Value.int _ z)) W) (subB_nil _))))))) ?_
     refine Zv (Y.int (r := .int .i64 1) Z Z Z)<|Zm Z<|Ze<|Ex.goU<|Zs<|Zr<|Zv (Y.int (r := .bool true) Z Z Z)<|Ze<|Zg<|Zs<|Tr.cond_t Z Z<|Zt<|Zg<|Zs<|Zb<|Zs<|?_
     refine Zr<|Zv (Y.idxAgg Z Z Storesa_as243 WD WD rfl)<|Za Z<|Ze<|Zg<|Zs<|Zr<|Zm Z<|Ze<|Zg<|Zb<|?_
     refine ZL (X := Nat) (fun z0 => V) (fun z0 => [[(b4,.cells #[.int .u32 (val (Msg.sl bs 0 4)),.int .i64 ((bs.getD 4 0).toNat : Int),.string ⟨((bs.drop 36).take (bs.length - 36) : List UInt8).toArray⟩,.int .i64 (val (Msg.sl bs 5 11)),.int .i64 (val ((Msg.sl bs 11 17).take z0)),.int .i64 0,.int .i64 0,.int .i64 0] 49 (0,0))],[(b1,.cells #[.int .u32 0,.int .i64 0,.string ⟨#[]⟩,.int .i64 0,.int .i64 0,.int .i64 0,.int .i64 0,.int .i64 0] 49 (0,0))]]) (fun z0 => [(0,.slice p bs.length c),(2,(pZ b1)),(4,(pZ b4)),(7,.int .i64 (11 + (z0 : Int))),(9,.pointer (some ⟨b4,4,none⟩)),(47,.agg #[.pointer (some ⟨b4,3,none⟩),.pointer (some ⟨b4,4,none⟩),.pointer (some ⟨b4,5,none⟩),.pointer (some ⟨b4,6,none⟩),.pointer (some ⟨b4,7,none⟩)]),(48,.int .i64 1),(51,.int .i64 (z0 : Int))]) (fun z0 => z0 ≤ 6) (fun z0 => 6 - z0) (0 : Nat) (Nat.zero_le _) ?_
     rintro ii1 hi1
     have hvs1 := val_small (l := (Msg.sl bs 11 17).take ii1) (by rw [List.length_take]; omega)
     have hu19 := u8_lt (bs.getD (11 + ii1) 0)
     refine Zs<|Zr<|Zv (Y.int Z Z Z)<|Ze<|Zg<|Zs<|?_
     rcases Zsplit (decide ((ii1 : Int) < 6)) with ⟨h7,g7⟩ | ⟨h7,g7⟩ <;> try simp only [kb] at g7
     ·refine Tr.cond_t Z h7<|Zt<|Zg<|Zs<|Zb<|Zs<|Tr.anyL [(b4,.cells #[.int .u32 (val (Msg.sl bs 0 4)),.int .i64 ((bs.getD 4 0).toNat : Int),.string ⟨((bs.drop 36).take (bs.length - 36) : List UInt8).toArray⟩,.int .i64 (val (Msg.sl bs 5 11)),.int .i64 (val ((Msg.sl bs 11 17).take ii1)),.int .i64 0,.int .i64 0,.int .i64 0] 49 (0,0)),(b5,o5)] 12 Storesa_mo<|RunL.pure (i := 0) rfl WK WK WK WK (fun _ _ _ h => h) (lt rfl) (KnAll.cons (Kn.at 0 rfl) (KnAll.cons hk5.of_nil KnAll.nil)) (fun _ => (Y.move rfl))<|?_
      refine RunL.pure (i := 1) rfl WK WK WK WK (fun _ _ _ h => h) (lt rfl) (KnAll.cons (Kn.at 0 rfl) (KnAll.cons hk5.of_nil KnAll.nil)) (fun _ => (Y.move rfl))<|RunL.pure (i := 2) rfl WK WK WK WK (fun _ _ _ h => h) (lt rfl) (KnAll.cons (Kn.at 0 rfl) (KnAll.cons hk5.of_nil KnAll.nil)) (fun _ => (Y.nilCheck rfl))<|?_
      refine RunL.take (i := 3) 0 rfl rfl WK WK WK WK (fun _ _ _ h => h) (lt rfl) (KnAll.cons (Kn.at 0 rfl) (KnAll.cons hk5.of_nil KnAll.nil)) (fun _ => (Y.load rfl Storesa_ts3 Kn.vk1 rfl))<|RunL.pure (i := 4) rfl WK WK WK WK (fun _ _ _ h => h) (lt rfl) (KnAll.cons (Kn.at 0 rfl) (KnAll.cons hk5.of_nil KnAll.nil)) (fun _ => (Y.shl (val ((Msg.sl bs 11 17).take ii1) * 256) rfl rfl WD (shl_byte hvs1.1 hvs1.2)))<|?_
      refine RunL.pure (i := 5) rfl WK WK WK WK (fun _ _ _ h => h) (lt rfl) (KnAll.cons (Kn.at 0 rfl) (KnAll.cons hk5.of_nil KnAll.nil)) (fun _ => (Y.move rfl))<|RunL.pure (i := 6) rfl WK WK WK WK (fun _ _ _ h => h) (lt rfl) (KnAll.cons (Kn.at 0 rfl) (KnAll.cons hk5.of_nil KnAll.nil)) (fun _ => (Y.move rfl))<|RunL.take (i := 7) 1 rfl rfl WK WK WK WK (fun _ _ _ h => h) (lt rfl) (KnAll.cons (Kn.at 0 rfl) (KnAll.cons hk5.of_nil KnAll.nil)) (fun _ => (Y.idxR (11 + ii1) rfl rfl Storesa_es22 hvk W W))<|?_
      refine RunL.take (i := 8) 1 rfl rfl WK WK WK WK (fun _ _ _ h => h) (lt rfl) (KnAll.cons (Kn.at 0 rfl) (KnAll.cons hk5.of_nil KnAll.nil)) (fun _ => (Y.ldR rfl Storesa_ts5 hvk (flatm_at0 nB_len W 0 WD rfl)))<|RunL.pure (i := 9) rfl WK WK WK WK (fun _ _ _ h => h) (lt rfl) (KnAll.cons (Kn.at 0 rfl) (KnAll.cons hk5.of_nil KnAll.nil)) (fun _ => (Y.conv ((((bs.getD (11 + ii1) 0).toNat : Nat) : Int)) rfl Storesa_it5_3 (wrap_i64 W)))<|?_
      refine RunL.pure (i := 10) rfl WK WK WK WK (fun _ _ _ h => h) (lt rfl) (KnAll.cons (Kn.at 0 rfl) (KnAll.cons hk5.of_nil KnAll.nil)) (fun _ => (Y.int (r := .int .i64 (val ((Msg.sl bs 11 17).take (ii1 + 1)))) rfl rfl (by simp only [intRes]; rw [or_byte hvs1.1 hvs1.2 W W,val_take (by rw [sl_len _ W]; omega),sl_getD W]))) ?_
      refine RunL.pure (i := 11) rfl WK WK WK WK (fun _ _ _ h => h) (lt rfl) (KnAll.cons (Kn.at 0 rfl) (KnAll.cons hk5.of_nil KnAll.nil)) (fun _ => (Y.nilCheck rfl)) ?_
      refine RunL.one (i := 12) WK rfl  ?_
      refine Run.store (s := [(b4,.cells #[.int .u32 (val (Msg.sl bs 0 4)),.int .i64 ((bs.getD 4 0).toNat : Int),.string ⟨((bs.drop 36).take (bs.length - 36) : List UInt8).toArray⟩,.int .i64 (val (Msg.sl bs 5 11)),.int .i64 (val ((Msg.sl bs 11 17).take (ii1 + 1))),.int .i64 0,.int .i64 0,.int .i64 0] 49 (0,0))]) Z Z Storesa_sz3 (i := 0) Z Z (le Z) Z Z<|Ze<|Ex.anyLz Z<|RunL.done WK<|Zg<|Zr<|Zm Z<|Zv (Y.add Z Z W)<|?_
      refine Za Z<|Ze<|Zc<|Zg<|Zr<|Zv (Y.add Z Z W)<|Zm Z<|Ze<|Ex.keep [0,0]<|?_
      exact ZR (ii1 + 1 : Nat) W W
     ·refine Tr.cond_f Z h7<|Zx<|Zy<|Zy<|Zi<|Zc<|Zg<|Zr<|?_
      obtain rfl : ii1 = 6 := by omega
      rw [show (Msg.sl bs 11 17).take 6 = Msg.sl bs 11 17 from List.take_of_length_le (by rw [sl_len _ W]; omega)]
      refine Run.sub [(0,.slice p bs.length c),(2,(pZ b1)),(4,(pZ b4)),(47,.agg #[.pointer (some ⟨b4,3,none⟩),.pointer (some ⟨b4,4,none⟩),.pointer (some ⟨b4,5,none⟩),.pointer (some ⟨b4,6,none⟩),.pointer (some ⟨b4,7,none⟩)]),(48,.int .i64 1),(7,.int .i64 17)] (subB_cons (by first | rfl | exact congrArg (fun z => some (Value.int _ z)) W) (subB_cons (by first | rfl | exact congrArg (fun z => some (Value.int _ z)) W) (subB_cons (by first | rfl | exact congrArg (fun z => some (Value.int _ z)) W) (subB_cons (by first | rfl | exact congrArg (fun z => some (Value.int _ z)) W) (subB_cons (by first | rfl | exact congrArg (fun z => some (Value.int _ z)) W) (subB_cons (by first | rfl | exact congrArg (fun z => some (Value.int _ z)) W) (subB_nil _))))))) ?_
      refine Zv (Y.int (r := .int .i64 2) Z Z Z)<|Zm Z<|Ze<|Ex.goU<|Zs<|Zr<|Zv (Y.int (r := .bool true) Z Z Z)<|Ze<|Zg<|Zs<|Tr.cond_t Z Z<|Zt<|Zg<|Zs<|Zb<|Zs<|?_
      refine Zr<|Zv (Y.idxAgg Z Z Storesa_as243 WD WD rfl)<|Za Z<|Ze<|Zg<|Zs<|Zr<|Zm Z<|Ze<|Zg<|Zb<|?_
      refine ZL (X := Nat) (fun z0 => V) (fun z0 => [[(b4,.cells #[.int .u32 (val (Msg.sl bs 0 4)),.int .i64 ((bs.getD 4 0).toNat : Int),.string ⟨((bs.drop 36).take (bs.length - 36) : List UInt8).toArray⟩,.int .i64 (val (Msg.sl bs 5 11)),.int .i64 (val (Msg.sl bs 11 17)),.int .i64 (val ((Msg.sl bs 17 23).take z0)),.int .i64 0,.int .i64 0] 49 (0,0))],[(b1,.cells #[.int .u32 0,.int .i64 0,.string ⟨#[]⟩,.int .i64 0,.int .i64 0,.int .i64 0,.int .i64 0,.int .i64 0] 49 (0,0))]]) (fun z0 => [(0,.slice p bs.length c),(2,(pZ b1)),(4,(pZ b4)),(7,.int .i64 (17 + (z0 : Int))),(9,.pointer (some ⟨b4,5,none⟩)),(47,.agg #[.pointer (some ⟨b4,3,none⟩),.pointer (some ⟨b4,4,none⟩),.pointer (some ⟨b4,5,none⟩),.pointer (some ⟨b4,6,none⟩),.pointer (some ⟨b4,7,none⟩)]),(48,.int .i64 2),(51,.int .i64 (z0 : Int))]) (fun z0 => z0 ≤ 6) (fun z0 => 6 - z0) (0 : Nat) (Nat.zero_le _) ?_
      rintro ii2 hi2
      have hvs2 := val_small (l := (Msg.sl bs 17 23).take ii2) (by rw [List.length_take]; omega)
      have hu29 := u8_lt (bs.getD (17 + ii2) 0)
      refine Zs<|Zr<|Zv (Y.int Z Z Z)<|Ze<|Zg<|Zs<|?_
      rcases Zsplit (decide ((ii2 : Int) < 6)) with ⟨h8,g8⟩ | ⟨h8,g8⟩ <;> try simp only [kb] at g8
      ·refine Tr.cond_t Z h8<|Zt<|Zg<|Zs<|Zb<|Zs<|Tr.anyL [(b4,.cells #[.int .u32 (val (Msg.sl bs 0 4)),.int .i64 ((bs.getD 4 0).toNat : Int),.string ⟨((bs.drop 36).take (bs.length - 36) : List UInt8).toArray⟩,.int .i64 (val (Msg.sl bs 5 11)),.int .i64 (val (Msg.sl bs 11 17)),.int .i64 (val ((Msg.sl bs 17 23).take ii2)),.int .i64 0,.int .i64 0] 49 (0,0)),(b5,o5)] 12 Storesa_mo<|RunL.pure (i := 0) rfl WK WK WK WK (fun _ _ _ h => h) (lt rfl) (KnAll.cons (Kn.at 0 rfl) (KnAll.cons hk5.of_nil KnAll.nil)) (fun _ => (Y.move rfl))<|?_
       refine RunL.pure (i := 1) rfl WK WK WK WK (fun _ _ _ h => h) (lt rfl) (KnAll.cons (Kn.at 0 rfl) (KnAll.cons hk5.of_nil KnAll.nil)) (fun _ => (Y.move rfl))<|RunL.pure (i := 2) rfl WK WK WK WK (fun _ _ _ h => h) (lt rfl) (KnAll.cons (Kn.at 0 rfl) (KnAll.cons hk5.of_nil KnAll.nil)) (fun _ => (Y.nilCheck rfl))<|?_
       refine RunL.take (i := 3) 0 rfl rfl WK WK WK WK (fun _ _ _ h => h) (lt rfl) (KnAll.cons (Kn.at 0 rfl) (KnAll.cons hk5.of_nil KnAll.nil)) (fun _ => (Y.load rfl Storesa_ts3 Kn.vk1 rfl))<|RunL.pure (i := 4) rfl WK WK WK WK (fun _ _ _ h => h) (lt rfl) (KnAll.cons (Kn.at 0 rfl) (KnAll.cons hk5.of_nil KnAll.nil)) (fun _ => (Y.shl (val ((Msg.sl bs 17 23).take ii2) * 256) rfl rfl WD (shl_byte hvs2.1 hvs2.2)))<|?_
       refine RunL.pure (i := 5) rfl WK WK WK WK (fun _ _ _ h => h) (lt rfl) (KnAll.cons (Kn.at 0 rfl) (KnAll.cons hk5.of_nil KnAll.nil)) (fun _ => (Y.move rfl))<|RunL.pure (i := 6) rfl WK WK WK WK (fun _ _ _ h => h) (lt rfl) (KnAll.cons (Kn.at 0 rfl) (KnAll.cons hk5.of_nil KnAll.nil)) (fun _ => (Y.move rfl))<|RunL.take (i := 7) 1 rfl rfl WK WK WK WK (fun _ _ _ h => h) (lt rfl) (KnAll.cons (Kn.at 0 rfl) (KnAll.cons hk5.of_nil KnAll.nil)) (fun _ => (Y.idxR (17 + ii2) rfl rfl Storesa_es22 hvk W W))<|?_
       refine RunL.take (i := 8) 1 rfl rfl WK WK WK WK (fun _ _ _ h => h) (lt rfl) (KnAll.cons (Kn.at 0 rfl) (KnAll.cons hk5.of_nil KnAll.nil)) (fun _ => (Y.ldR rfl Storesa_ts5 hvk (flatm_at0 nB_len W 0 WD rfl)))<|RunL.pure (i := 9) rfl WK WK WK WK (fun _ _ _ h => h) (lt rfl) (KnAll.cons (Kn.at 0 rfl) (KnAll.cons hk5.of_nil KnAll.nil)) (fun _ => (Y.conv ((((bs.getD (17 + ii2) 0).toNat : Nat) : Int)) rfl Storesa_it5_3 (wrap_i64 W)))<|?_
       refine RunL.pure (i := 10) rfl WK WK WK WK (fun _ _ _ h => h) (lt rfl) (KnAll.cons (Kn.at 0 rfl) (KnAll.cons hk5.of_nil KnAll.nil)) (fun _ => (Y.int (r := .int .i64 (val ((Msg.sl bs 17 23).take (ii2 + 1)))) rfl rfl (by simp only [intRes]; rw [or_byte hvs2.1 hvs2.2 W W,val_take (by rw [sl_len _ W]; omega),sl_getD W]))) ?_
       refine RunL.pure (i := 11) rfl WK WK WK WK (fun _ _ _ h => h) (lt rfl) (KnAll.cons (Kn.at 0 rfl) (KnAll.cons hk5.of_nil KnAll.nil)) (fun _ => (Y.nilCheck rfl)) ?_
       refine RunL.one (i := 12) WK rfl  ?_
       refine Run.store (s := [(b4,.cells #[.int .u32 (val (Msg.sl bs 0 4)),.int .i64 ((bs.getD 4 0).toNat : Int),.string ⟨((bs.drop 36).take (bs.length - 36) : List UInt8).toArray⟩,.int .i64 (val (Msg.sl bs 5 11)),.int .i64 (val (Msg.sl bs 11 17)),.int .i64 (val ((Msg.sl bs 17 23).take (ii2 + 1))),.int .i64 0,.int .i64 0] 49 (0,0))]) Z Z Storesa_sz3 (i := 0) Z Z (le Z) Z Z<|Ze<|Ex.anyLz Z<|RunL.done WK<|?_
       refine Zg<|Zr<|Zm Z<|Zv (Y.add Z Z W)<|Za Z<|Ze<|Zc<|Zg<|Zr<|Zv (Y.add Z Z W)<|Zm Z<|Ze<|Ex.keep [0,0]<|?_
       exact ZR (ii2 + 1 : Nat) W W
      ·refine Tr.cond_f Z h8<|Zx<|Zy<|Zy<|Zi<|Zc<|Zg<|Zr<|?_
       obtain rfl : ii2 = 6 := by omega
       rw [show (Msg.sl bs 17 23).take 6 = Msg.sl bs 17 23 from List.take_of_length_le (by rw [sl_len _ W]; omega)]
       refine Run.sub [(0,.slice p bs.length c),(2,(pZ b1)),(4,(pZ b4)),(47,.agg #[.pointer (some ⟨b4,3,none⟩),.pointer (some ⟨b4,4,none⟩),.pointer (some ⟨b4,5,none⟩),.pointer (some ⟨b4,6,none⟩),.pointer (some ⟨b4,7,none⟩)]),(48,.int .i64 2),(7,.int .i64 23)] (subB_cons (by first | rfl | exact congrArg (fun z => some (Value.int _ z)) W) (subB_cons (by first | rfl | exact congrArg (fun z => some (Value.int _ z)) W) (subB_cons (by first | rfl | exact congrArg (fun z => some (Value.int _ z)) W) (subB_cons (by first | rfl | exact congrArg (fun z => some (Value.int _ z)) W) (subB_cons (by first | rfl | exact congrArg (fun z => some (Value.int _ z)) W) (subB_cons (by first | rfl | exact congrArg (fun z => some (Value.int _ z)) W) (subB_nil _))))))) ?_
       refine Zv (Y.int (r := .int .i64 3) Z Z Z)<|Zm Z<|Ze<|Ex.goU<|Zs<|Zr<|Zv (Y.int (r := .bool true) Z Z Z)<|Ze<|Zg<|Zs<|Tr.cond_t Z Z<|Zt<|Zg<|Zs<|Zb<|Zs<|?_
       refine Zr<|Zv (Y.idxAgg Z Z Storesa_as243 WD WD rfl)<|Za Z<|Ze<|Zg<|Zs<|Zr<|Zm Z<|Ze<|Zg<|Zb<|?_
       refine ZL (X := Nat) (fun z0 => V) (fun z0 => [[(b4,.cells #[.int .u32 (val (Msg.sl bs 0 4)),.int .i64 ((bs.getD 4 0).toNat : Int),.string ⟨((bs.drop 36).take (bs.length - 36) : List UInt8).toArray⟩,.int .i64 (val (Msg.sl bs 5 11)),.int .i64 (val (Msg.sl bs 11 17)),.int .i64 (val (Msg.sl bs 17 23)),.int .i64 (val ((Msg.sl bs 23 29).take z0)),.int .i64 0] 49 (0,0))],[(b1,.cells #[.int .u32 0,.int .i64 0,.string ⟨#[]⟩,.int .i64 0,.int .i64 0,.int .i64 0,.int .i64 0,.int .i64 0] 49 (0,0))]]) (fun z0 => [(0,.slice p bs.length c),(2,(pZ b1)),(4,(pZ b4)),(7,.int .i64 (23 + (z0 : Int))),(9,.pointer (some ⟨b4,6,none⟩)),(47,.agg #[.pointer (some ⟨b4,3,none⟩),.pointer (some ⟨b4,4,none⟩),.pointer (some ⟨b4,5,none⟩),.pointer (some ⟨b4,6,none⟩),.pointer (some ⟨b4,7,none⟩)]),(48,.int .i64 3),(51,.int .i64 (z0 : Int))]) (fun z0 => z0 ≤ 6) (fun z0 => 6 - z0) (0 : Nat) (Nat.zero_le _) ?_
       rintro ii3 hi3
       have hvs3 := val_small (l := (Msg.sl bs 23 29).take ii3) (by rw [List.length_take]; omega)
       have hu39 := u8_lt (bs.getD (23 + ii3) 0)
       refine Zs<|Zr<|Zv (Y.int Z Z Z)<|Ze<|Zg<|Zs<|?_
       rcases Zsplit (decide ((ii3 : Int) < 6)) with ⟨h9,g9⟩ | ⟨h9,g9⟩ <;> try simp only [kb] at g9
       ·refine Tr.cond_t Z h9<|Zt<|Zg<|Zs<|Zb<|Zs<|Tr.anyL [(b4,.cells #[.int .u32 (val (Msg.sl bs 0 4)),.int .i64 ((bs.getD 4 0).toNat : Int),.string ⟨((bs.drop 36).take (bs.length - 36) : List UInt8).toArray⟩,.int .i64 (val (Msg.sl bs 5 11)),.int .i64 (val (Msg.sl bs 11 17)),.int .i64 (val (Msg.sl bs 17 23)),.int .i64 (val ((Msg.sl bs 23 29).take ii3)),.int .i64 0] 49 (0,0)),(b5,o5)] 12 Storesa_mo<|RunL.pure (i := 0) rfl WK WK WK WK (fun _ _ _ h => h) (lt rfl) (KnAll.cons (Kn.at 0 rfl) (KnAll.cons hk5.of_nil KnAll.nil)) (fun _ => (Y.move rfl))<|?_
        refine RunL.pure (i := 1) rfl WK WK WK WK (fun _ _ _ h => h) (lt rfl) (KnAll.cons (Kn.at 0 rfl) (KnAll.cons hk5.of_nil KnAll.nil)) (fun _ => (Y.move rfl))<|RunL.pure (i := 2) rfl WK WK WK WK (fun _ _ _ h => h) (lt rfl) (KnAll.cons (Kn.at 0 rfl) (KnAll.cons hk5.of_nil KnAll.nil)) (fun _ => (Y.nilCheck rfl))<|?_
        refine RunL.take (i := 3) 0 rfl rfl WK WK WK WK (fun _ _ _ h => h) (lt rfl) (KnAll.cons (Kn.at 0 rfl) (KnAll.cons hk5.of_nil KnAll.nil)) (fun _ => (Y.load rfl Storesa_ts3 Kn.vk1 rfl))<|RunL.pure (i := 4) rfl WK WK WK WK (fun _ _ _ h => h) (lt rfl) (KnAll.cons (Kn.at 0 rfl) (KnAll.cons hk5.of_nil KnAll.nil)) (fun _ => (Y.shl (val ((Msg.sl bs 23 29).take ii3) * 256) rfl rfl WD (shl_byte hvs3.1 hvs3.2)))<|?_
        refine RunL.pure (i := 5) rfl WK WK WK WK (fun _ _ _ h => h) (lt rfl) (KnAll.cons (Kn.at 0 rfl) (KnAll.cons hk5.of_nil KnAll.nil)) (fun _ => (Y.move rfl))<|RunL.pure (i := 6) rfl WK WK WK WK (fun _ _ _ h => h) (lt rfl) (KnAll.cons (Kn.at 0 rfl) (KnAll.cons hk5.of_nil KnAll.nil)) (fun _ => (Y.move rfl))<|RunL.take (i := 7) 1 rfl rfl WK WK WK WK (fun _ _ _ h => h) (lt rfl) (KnAll.cons (Kn.at 0 rfl) (KnAll.cons hk5.of_nil KnAll.nil)) (fun _ => (Y.idxR (23 + ii3) rfl rfl Storesa_es22 hvk W W))<|?_
        refine RunL.take (i := 8) 1 rfl rfl WK WK WK WK (fun _ _ _ h => h) (lt rfl) (KnAll.cons (Kn.at 0 rfl) (KnAll.cons hk5.of_nil KnAll.nil)) (fun _ => (Y.ldR rfl Storesa_ts5 hvk (flatm_at0 nB_len W 0 WD rfl)))<|RunL.pure (i := 9) rfl WK WK WK WK (fun _ _ _ h => h) (lt rfl) (KnAll.cons (Kn.at 0 rfl) (KnAll.cons hk5.of_nil KnAll.nil)) (fun _ => (Y.conv ((((bs.getD (23 + ii3) 0).toNat : Nat) : Int)) rfl Storesa_it5_3 (wrap_i64 W)))<|?_
        refine RunL.pure (i := 10) rfl WK WK WK WK (fun _ _ _ h => h) (lt rfl) (KnAll.cons (Kn.at 0 rfl) (KnAll.cons hk5.of_nil KnAll.nil)) (fun _ => (Y.int (r := .int .i64 (val ((Msg.sl bs 23 29).take (ii3 + 1)))) rfl rfl (by simp only [intRes]; rw [or_byte hvs3.1 hvs3.2 W W,val_take (by rw [sl_len _ W]; omega),sl_getD W]))) ?_
        refine RunL.pure (i := 11) rfl WK WK WK WK (fun _ _ _ h => h) (lt rfl) (KnAll.cons (Kn.at 0 rfl) (KnAll.cons hk5.of_nil KnAll.nil)) (fun _ => (Y.nilCheck rfl)) ?_
        refine RunL.one (i := 12) WK rfl  ?_
        refine Run.store (s := [(b4,.cells #[.int .u32 (val (Msg.sl bs 0 4)),.int .i64 ((bs.getD 4 0).toNat : Int),.string ⟨((bs.drop 36).take (bs.length - 36) : List UInt8).toArray⟩,.int .i64 (val (Msg.sl bs 5 11)),.int .i64 (val (Msg.sl bs 11 17)),.int .i64 (val (Msg.sl bs 17 23)),.int .i64 (val ((Msg.sl bs 23 29).take (ii3 + 1))),.int .i64 0] 49 (0,0))]) Z Z Storesa_sz3 (i := 0) Z Z (le Z) Z Z<|Ze<|Ex.anyLz Z<|?_
        refine RunL.done WK<|Zg<|Zr<|Zm Z<|Zv (Y.add Z Z W)<|Za Z<|Ze<|Zc<|Zg<|Zr<|Zv (Y.add Z Z W)<|Zm Z<|Ze<|Ex.keep [0,0]<|?_
        exact ZR (ii3 + 1 : Nat) W W
       ·refine Tr.cond_f Z h9<|Zx<|Zy<|Zy<|Zi<|Zc<|Zg<|Zr<|?_
        obtain rfl : ii3 = 6 := by omega
        rw [show (Msg.sl bs 23 29).take 6 = Msg.sl bs 23 29 from List.take_of_length_le (by rw [sl_len _ W]; omega)]
        refine Run.sub [(0,.slice p bs.length c),(2,(pZ b1)),(4,(pZ b4)),(47,.agg #[.pointer (some ⟨b4,3,none⟩),.pointer (some ⟨b4,4,none⟩),.pointer (some ⟨b4,5,none⟩),.pointer (some ⟨b4,6,none⟩),.pointer (some ⟨b4,7,none⟩)]),(48,.int .i64 3),(7,.int .i64 29)] (subB_cons (by first | rfl | exact congrArg (fun z => some (Value.int _ z)) W) (subB_cons (by first | rfl | exact congrArg (fun z => some (Value.int _ z)) W) (subB_cons (by first | rfl | exact congrArg (fun z => some (Value.int _ z)) W) (subB_cons (by first | rfl | exact congrArg (fun z => some (Value.int _ z)) W) (subB_cons (by first | rfl | exact congrArg (fun z => some (Value.int _ z)) W) (subB_cons (by first | rfl | exact congrArg (fun z => some (Value.int _ z)) W) (subB_nil _))))))) ?_
        refine Zv (Y.int (r := .int .i64 4) Z Z Z)<|Zm Z<|Ze<|Ex.goU<|Zs<|Zr<|Zv (Y.int (r := .bool true) Z Z Z)<|Ze<|Zg<|Zs<|Tr.cond_t Z Z<|Zt<|Zg<|Zs<|Zb<|Zs<|?_
        refine Zr<|Zv (Y.idxAgg Z Z Storesa_as243 WD WD rfl)<|Za Z<|Ze<|Zg<|Zs<|Zr<|Zm Z<|Ze<|Zg<|Zb<|?_
        refine ZL (X := Nat) (fun z0 => V) (fun z0 => [[(b4,.cells #[.int .u32 (val (Msg.sl bs 0 4)),.int .i64 ((bs.getD 4 0).toNat : Int),.string ⟨((bs.drop 36).take (bs.length - 36) : List UInt8).toArray⟩,.int .i64 (val (Msg.sl bs 5 11)),.int .i64 (val (Msg.sl bs 11 17)),.int .i64 (val (Msg.sl bs 17 23)),.int .i64 (val (Msg.sl bs 23 29)),.int .i64 (val ((Msg.sl bs 29 35).take z0))] 49 (0,0))],[(b1,.cells #[.int .u32 0,.int .i64 0,.string ⟨#[]⟩,.int .i64 0,.int .i64 0,.int .i64 0,.int .i64 0,.int .i64 0] 49 (0,0))]]) (fun z0 => [(0,.slice p bs.length c),(2,(pZ b1)),(4,(pZ b4)),(7,.int .i64 (29 + (z0 : Int))),(9,.pointer (some ⟨b4,7,none⟩)),(47,.agg #[.pointer (some ⟨b4,3,none⟩),.pointer (some ⟨b4,4,none⟩),.pointer (some ⟨b4,5,none⟩),.pointer (some ⟨b4,6,none⟩),.pointer (some ⟨b4,7,none⟩)]),(48,.int .i64 4),(51,.int .i64 (z0 : Int))]) (fun z0 => z0 ≤ 6) (fun z0 => 6 - z0) (0 : Nat) (Nat.zero_le _) ?_
        rintro ii4 hi4
        have hvs4 := val_small (l := (Msg.sl bs 29 35).take ii4) (by rw [List.length_take]; omega)
        have hu49 := u8_lt (bs.getD (29 + ii4) 0)
        refine Zs<|Zr<|Zv (Y.int Z Z Z)<|Ze<|Zg<|Zs<|?_
        rcases Zsplit (decide ((ii4 : Int) < 6)) with ⟨h10,g10⟩ | ⟨h10,g10⟩ <;> try simp only [kb] at g10
        ·refine Tr.cond_t Z h10<|Zt<|Zg<|Zs<|Zb<|Zs<|Tr.anyL [(b4,.cells #[.int .u32 (val (Msg.sl bs 0 4)),.int .i64 ((bs.getD 4 0).toNat : Int),.string ⟨((bs.drop 36).take (bs.length - 36) : List UInt8).toArray⟩,.int .i64 (val (Msg.sl bs 5 11)),.int .i64 (val (Msg.sl bs 11 17)),.int .i64 (val (Msg.sl bs 17 23)),.int .i64 (val (Msg.sl bs 23 29)),.int .i64 (val ((Msg.sl bs 29 35).take ii4))] 49 (0,0)),(b5,o5)] 12 Storesa_mo<|?_
         refine RunL.pure (i := 0) rfl WK WK WK WK (fun _ _ _ h => h) (lt rfl) (KnAll.cons (Kn.at 0 rfl) (KnAll.cons hk5.of_nil KnAll.nil)) (fun _ => (Y.move rfl))<|RunL.pure (i := 1) rfl WK WK WK WK (fun _ _ _ h => h) (lt rfl) (KnAll.cons (Kn.at 0 rfl) (KnAll.cons hk5.of_nil KnAll.nil)) (fun _ => (Y.move rfl))<|RunL.pure (i := 2) rfl WK WK WK WK (fun _ _ _ h => h) (lt rfl) (KnAll.cons (Kn.at 0 rfl) (KnAll.cons hk5.of_nil KnAll.nil)) (fun _ => (Y.nilCheck rfl))<|?_
         refine RunL.take (i := 3) 0 rfl rfl WK WK WK WK (fun _ _ _ h => h) (lt rfl) (KnAll.cons (Kn.at 0 rfl) (KnAll.cons hk5.of_nil KnAll.nil)) (fun _ => (Y.load rfl Storesa_ts3 Kn.vk1 rfl))<|RunL.pure (i := 4) rfl WK WK WK WK (fun _ _ _ h => h) (lt rfl) (KnAll.cons (Kn.at 0 rfl) (KnAll.cons hk5.of_nil KnAll.nil)) (fun _ => (Y.shl (val ((Msg.sl bs 29 35).take ii4) * 256) rfl rfl WD (shl_byte hvs4.1 hvs4.2)))<|?_
         refine RunL.pure (i := 5) rfl WK WK WK WK (fun _ _ _ h => h) (lt rfl) (KnAll.cons (Kn.at 0 rfl) (KnAll.cons hk5.of_nil KnAll.nil)) (fun _ => (Y.move rfl))<|RunL.pure (i := 6) rfl WK WK WK WK (fun _ _ _ h => h) (lt rfl) (KnAll.cons (Kn.at 0 rfl) (KnAll.cons hk5.of_nil KnAll.nil)) (fun _ => (Y.move rfl))<|RunL.take (i := 7) 1 rfl rfl WK WK WK WK (fun _ _ _ h => h) (lt rfl) (KnAll.cons (Kn.at 0 rfl) (KnAll.cons hk5.of_nil KnAll.nil)) (fun _ => (Y.idxR (29 + ii4) rfl rfl Storesa_es22 hvk W W))<|?_
         refine RunL.take (i := 8) 1 rfl rfl WK WK WK WK (fun _ _ _ h => h) (lt rfl) (KnAll.cons (Kn.at 0 rfl) (KnAll.cons hk5.of_nil KnAll.nil)) (fun _ => (Y.ldR rfl Storesa_ts5 hvk (flatm_at0 nB_len W 0 WD rfl)))<|RunL.pure (i := 9) rfl WK WK WK WK (fun _ _ _ h => h) (lt rfl) (KnAll.cons (Kn.at 0 rfl) (KnAll.cons hk5.of_nil KnAll.nil)) (fun _ => (Y.conv ((((bs.getD (29 + ii4) 0).toNat : Nat) : Int)) rfl Storesa_it5_3 (wrap_i64 W)))<|?_
         refine RunL.pure (i := 10) rfl WK WK WK WK (fun _ _ _ h => h) (lt rfl) (KnAll.cons (Kn.at 0 rfl) (KnAll.cons hk5.of_nil KnAll.nil)) (fun _ => (Y.int (r := .int .i64 (val ((Msg.sl bs 29 35).take (ii4 + 1)))) rfl rfl (by simp only [intRes]; rw [or_byte hvs4.1 hvs4.2 W W,val_take (by rw [sl_len _ W]; omega),sl_getD W]))) ?_
         refine RunL.pure (i := 11) rfl WK WK WK WK (fun _ _ _ h => h) (lt rfl) (KnAll.cons (Kn.at 0 rfl) (KnAll.cons hk5.of_nil KnAll.nil)) (fun _ => (Y.nilCheck rfl)) ?_
         refine RunL.one (i := 12) WK rfl  ?_
         refine Run.store (s := [(b4,.cells #[.int .u32 (val (Msg.sl bs 0 4)),.int .i64 ((bs.getD 4 0).toNat : Int),.string ⟨((bs.drop 36).take (bs.length - 36) : List UInt8).toArray⟩,.int .i64 (val (Msg.sl bs 5 11)),.int .i64 (val (Msg.sl bs 11 17)),.int .i64 (val (Msg.sl bs 17 23)),.int .i64 (val (Msg.sl bs 23 29)),.int .i64 (val ((Msg.sl bs 29 35).take (ii4 + 1)))] 49 (0,0))]) Z Z Storesa_sz3 (i := 0) Z Z (le Z) Z Z ?_
         refine Ze<|Ex.anyLz Z<|RunL.done WK<|Zg<|Zr<|Zm Z<|Zv (Y.add Z Z W)<|Za Z<|Ze<|Zc<|Zg<|Zr<|Zv (Y.add Z Z W)<|Zm Z<|Ze<|Ex.keep [0,0]<|?_
         exact ZR (ii4 + 1 : Nat) W W
        ·refine Tr.cond_f Z h10<|Zx<|Zy<|Zy<|Zi<|Zc<|Zg<|Zr<|?_
         obtain rfl : ii4 = 6 := by omega
         rw [show (Msg.sl bs 29 35).take 6 = Msg.sl bs 29 35 from List.take_of_length_le (by rw [sl_len _ W]; omega)]
         refine Run.sub [(0,.slice p bs.length c),(2,(pZ b1)),(4,(pZ b4)),(47,.agg #[.pointer (some ⟨b4,3,none⟩),.pointer (some ⟨b4,4,none⟩),.pointer (some ⟨b4,5,none⟩),.pointer (some ⟨b4,6,none⟩),.pointer (some ⟨b4,7,none⟩)]),(48,.int .i64 4),(7,.int .i64 35)] (subB_cons (by first | rfl | exact congrArg (fun z => some (Value.int _ z)) W) (subB_cons (by first | rfl | exact congrArg (fun z => some (Value.int _ z)) W) (subB_cons (by first | rfl | exact congrArg (fun z => some (Value.int _ z)) W) (subB_cons (by first | rfl | exact congrArg (fun z => some (Value.int _ z)) W) (subB_cons (by first | rfl | exact congrArg (fun z => some (Value.int _ z)) W) (subB_cons (by first | rfl | exact congrArg (fun z => some (Value.int _ z)) W) (subB_nil _))))))) ?_
         refine Zv (Y.int (r := .int .i64 5) Z Z Z)<|Zm Z<|Ze<|Ex.goU<|Zs<|Zr<|Zv (Y.int (r := .bool false) Z Z Z)<|Ze<|Zg<|Zs<|Tr.cond_f Z Z<|Zx<|Zy<|Zy<|Zi<|Zg<|?_
         refine Zs<|Zs<|Zr<|Zv (Y.loadAgg Z Storesa_ag49 (Kn.at 0 Z) Z)<|Run.call0 (l := [.tmp 69]) Z Z Z (lt Z) (right_h (q := Le.dcd bs) hdo.client)<|Zv (Y.not Z)<|Ze<|Zg<|?_
         rcases Zsplit (Le.right (Le.dcd bs)) with ⟨h11,g11⟩ | ⟨h11,g11⟩ <;> try simp only [kb] at g11
         ·refine Tr.cond_f Z (congrArg Bool.not h11)<|Zt<|Zg<|Zs<|Zr<|Zv (Y.loadAgg Z Storesa_ag49 (Kn.at 0 Z) Z)<|Run.store (s := [(b1,.cells #[.int .u32 (val (Msg.sl bs 0 4)),.int .i64 ((bs.getD 4 0).toNat : Int),.string ⟨((bs.drop 36).take (bs.length - 36) : List UInt8).toArray⟩,.int .i64 (val (Msg.sl bs 5 11)),.int .i64 (val (Msg.sl bs 11 17)),.int .i64 (val (Msg.sl bs 17 23)),.int .i64 (val (Msg.sl bs 23 29)),.int .i64 (val (Msg.sl bs 29 35))] 49 (0,0))]) Z Z Storesa_sz49 (i := 1) Z Z (le Z) Z Z<|?_
          refine Za Z<|Ze<|Zg<|Zu<|?_
          exact Ex.retCell2 [] rfl rfl rfl Storesa_ag49 (Kn.at 1 rfl) rfl ⟨by rw [Le.decE_ok W W h11]; rfl,rfl,rfl⟩
         ·refine Tr.cond_t Z (congrArg Bool.not h11)<|Zs<|Zr<|Zv (Y.buildS (l := []) Storesa_zo49 Storesa_pl49 Z Z)<|Run.store (s := [(b1,.cells #[.int .u32 0,.int .i64 0,.string ⟨#[]⟩,.int .i64 0,.int .i64 0,.int .i64 0,.int .i64 0,.int .i64 0] 49 (0,0))]) Z Z Storesa_sz49 (i := 1) Z Z (le Z) Z Z<|Za Z<|Ze<|Zg<|Zu<|Zn<|?_
          exact Ex.retCell2 [] rfl rfl rfl Storesa_ag49 (Kn.at 1 rfl) rfl ⟨by rw [Le.decE_bad (.inr (.inr h11))]; rfl,rfl,rfl⟩
theorem strec_c {V : Vw} {n : Int} (hn : 0 ≤ n ∧ n ≤ 8)  : Does Tryz.prog 87 [.int .i64 n] V [] (fun v V' H' => V' = V ∧ ∃ p c q2,v = .slice p (Sk.stR n).length c ∧ Ow 5 1 (.slice p (Sk.stR n).length c) (Sk.stR n).length ((Sk.stR n).map byteV) q2 ∧ H' = [q2]) := by
 refine Does.intro Tryz.func87 rfl rfl (le rfl) (fun B => ?_)
 refine Zs<|Zr<|Za Z<|Ze<|Zg<|Zs<|Zr<|Zm Z<|Zv (Y.conv (n) rfl Storesa_it3_5 (wrap_u8 W))<|?_
 refine Run.buildSlice (l := [(0,.const (.int .u8 83)),(1,.tmp 4)]) Storesa_es22 Storesa_zo5 rfl WD rfl rfl WD (lt rfl) (fun b1 => ?_)
 refine Za Z<|Ze<|Zg<|Zu<|Ex.keep [0]<|?_
 have h9 := Ow.lit (e := 5) (k := 1) (b := b1) (n := 2) (cur := #[.int .u8 83,.int .u8 n]) rfl WD
 rw [show (#[.int .u8 83,.int .u8 n] : Array Value).toList = (Sk.stR n).map byteV from Sk.stR_cells W] at h9
 exact Ex.ret1 rfl rfl  ⟨rfl,_,_,_,rfl,h9,rfl⟩
theorem lirec_c {V : Vw} {n : Int} (hn : 0 ≤ n ∧ n ≤ 536870912)  : Does Tryz.prog 88 [.int .i64 n] V [] (fun v V' H' => V' = V ∧ ∃ p c q2,v = .slice p (Sk.liR n).length c ∧ Ow 5 1 (.slice p (Sk.liR n).length c) (Sk.liR n).length ((Sk.liR n).map byteV) q2 ∧ H' = [q2]) := by
 refine Does.intro Tryz.func88 rfl rfl (le rfl) (fun B => ?_)
 refine Zs<|Zr<|Za Z<|Ze<|Zg<|Zs<|Zr<|Zm Z<|Zv (Y.shr (n / 16777216) rfl rfl WD (by show n.fdiv 16777216 = _; exact Int.fdiv_eq_ediv_of_nonneg _ WD))<|Zv (Y.conv (n / 16777216 % 256) Z Storesa_it3_5 (wrap_u8_mod _))<|Zm Z<|Zv (Y.shr (n / 65536) rfl rfl WD (by show n.fdiv 65536 = _; exact Int.fdiv_eq_ediv_of_nonneg _ WD))<|Zv (Y.conv (n / 65536 % 256) Z Storesa_it3_5 (wrap_u8_mod _))<|Zm Z<|Zv (Y.shr (n / 256) rfl rfl WD (by show n.fdiv 256 = _; exact Int.fdiv_eq_ediv_of_nonneg _ WD))<|?_
 refine Zv (Y.conv (n / 256 % 256) Z Storesa_it3_5 (wrap_u8_mod _))<|Zm Z<|Zv (Y.conv (n % 256) Z Storesa_it3_5 (wrap_u8_mod _))<|?_
 refine Run.buildSlice (l := [(0,.const (.int .u8 70)),(1,.tmp 5),(2,.tmp 8),(3,.tmp 11),(4,.tmp 13)]) (r := [.int .u8 70,.int .u8 (n / 16777216 % 256),.int .u8 (n / 65536 % 256),.int .u8 (n / 256 % 256),.int .u8 (n % 256)]) Storesa_es22 Storesa_zo5 rfl WD rfl rfl WD (lt rfl) (fun b1 => ?_)
 refine Za Z<|Ze<|Zg<|Zu<|Ex.keep [0]<|?_
 have h9 := Ow.lit (e := 5) (k := 1) (b := b1) (n := 5) (cur := #[.int .u8 70,.int .u8 (n / 16777216 % 256),.int .u8 (n / 65536 % 256),.int .u8 (n / 256 % 256),.int .u8 (n % 256)]) rfl WD
 rw [show (#[.int .u8 70,.int .u8 (n / 16777216 % 256),.int .u8 (n / 65536 % 256),.int .u8 (n / 256 % 256),.int .u8 (n % 256)] : Array Value).toList = (Sk.liR n).map byteV from Sk.liR_cells n] at h9
 exact Ex.ret1 rfl rfl  ⟨rfl,_,_,_,rfl,h9,rfl⟩
theorem rlirec_c {V : Vw} {n : Int} (hn : 0 ≤ n ∧ n ≤ 536870912)  : Does Tryz.prog 155 [.int .i64 n] V [] (fun v V' H' => V' = V ∧ ∃ p c q2,v = .slice p (Sk.liR n).length c ∧ Ow 5 1 (.slice p (Sk.liR n).length c) (Sk.liR n).length ((Sk.liR n).map byteV) q2 ∧ H' = [q2]) := by
 refine Does.intro Tryz.func155 rfl rfl (le rfl) (fun B => ?_)
 refine Zs<|Zr<|Za Z<|Ze<|Zg<|Zs<|Zr<|Zm Z<|Zv (Y.quo (n / 16777216) rfl rfl WD (by rw [Int.tdiv_eq_ediv_of_nonneg W,wrap_i64 W]))<|Zv (Y.conv (n / 16777216 % 256) Z Storesa_it3_5 (wrap_u8_mod _))<|Zm Z<|Zv (Y.quo (n / 65536) rfl rfl WD (by rw [Int.tdiv_eq_ediv_of_nonneg W,wrap_i64 W]))<|Zv (Y.conv (n / 65536 % 256) Z Storesa_it3_5 (wrap_u8_mod _))<|Zm Z<|Zv (Y.quo (n / 256) rfl rfl WD (by rw [Int.tdiv_eq_ediv_of_nonneg W,wrap_i64 W]))<|?_
 refine Zv (Y.conv (n / 256 % 256) Z Storesa_it3_5 (wrap_u8_mod _))<|Zm Z<|Zv (Y.conv (n % 256) Z Storesa_it3_5 (wrap_u8_mod _))<|?_
 refine Run.buildSlice (l := [(0,.const (.int .u8 70)),(1,.tmp 5),(2,.tmp 8),(3,.tmp 11),(4,.tmp 13)]) (r := [.int .u8 70,.int .u8 (n / 16777216 % 256),.int .u8 (n / 65536 % 256),.int .u8 (n / 256 % 256),.int .u8 (n % 256)]) Storesa_es22 Storesa_zo5 rfl WD rfl rfl WD (lt rfl) (fun b1 => ?_)
 refine Za Z<|Ze<|Zg<|Zu<|Ex.keep [0]<|?_
 have h9 := Ow.lit (e := 5) (k := 1) (b := b1) (n := 5) (cur := #[.int .u8 70,.int .u8 (n / 16777216 % 256),.int .u8 (n / 65536 % 256),.int .u8 (n / 256 % 256),.int .u8 (n % 256)]) rfl WD
 rw [show (#[.int .u8 70,.int .u8 (n / 16777216 % 256),.int .u8 (n / 65536 % 256),.int .u8 (n / 256 % 256),.int .u8 (n % 256)] : Array Value).toList = (Sk.liR n).map byteV from Sk.liR_cells n] at h9
 exact Ex.ret1 rfl rfl  ⟨rfl,_,_,_,rfl,h9,rfl⟩
theorem lerec_c {V : Vw} {q : Le} (hok : q.Ok)  : Does Tryz.prog 90 [.agg #[.int .u32 q.addr,.int .i64 q.bind,.string q.client,.int .i64 q.till,.int .i64 q.acked,.int .i64 q.told,.int .i64 q.at_,.int .i64 q.ver]] V [] (fun v V' H' => V' = V ∧ ∃ p c q2,v = .slice p (Sk.leR q).length c ∧ Ow 5 1 (.slice p (Sk.leR q).length c) (Sk.leR q).length ((Sk.leR q).map byteV) q2 ∧ H' = [q2]) := by
 have hel := Le.encB_len q
 refine Does.intro Tryz.func90 rfl rfl (le rfl) (fun B => ?_)
 refine Zs<|Zr<|?_
 refine Run.box rfl (lt rfl) (fun b1 => ?_)
 refine Za Z<|Ze<|Zg<|Zs<|Zr<|Zv (Y.loadAgg Z Storesa_ag49 (Kn.at 0 Z) Z)<|?_
 refine Run.callF (l := [.tmp 6]) rfl rfl rfl (lt rfl) (enc_c (q := q) hok) (fun v9 V9 H9 hle9 hR => ?_)
 obtain ⟨hV,⟨hr9,rfl,rfl⟩ | ⟨hr9,p9,c9,q9,rfl,ho9,rfl⟩⟩ := hR <;> (replace hV := hV.symm; subst hV)
 ·refine Run.heapTo (H' := [[(b1,.cells #[.int .u32 q.addr,.int .i64 q.bind,.string q.client,.int .i64 q.till,.int .i64 q.acked,.int .i64 q.told,.int .i64 q.at_,.int .i64 q.ver] 49 (0,0))]]) Z<|Zm Z<|Zv (Y.extract Z Z)<|Zv (Y.extract Z Z)<|Za Z<|Za Z<|Ze<|Zg<|Zs<|Zr<|?_
  refine Run.buildSlice (l := [(0,.const (.int .u8 76))]) Storesa_es22 Storesa_zo5 rfl WD rfl rfl WD (lt rfl) (fun b2 => ?_)
  refine Zm Z ?_
  refine Run.append (n := 1) (m := 0) (xs := [.int .u8 76]) (ys := []) rfl rfl Storesa_es22 Storesa_zi5 WD (j := 0) rfl (Ow.lit (cur := #[.int .u8 76]) rfl WD) (Src.of_rd Storesa_es22 (Rd.nil _ _ _)) W W rfl (lt rfl) (fun v3 s4 ho5 hf => ?_)
  obtain ⟨p3,c3,rfl⟩ := hf
  refine Za Z<|Ze<|Zg<|Zu<|Ex.keep [0]<|?_
  have h9 := ho5
  have e9 : (Sk.leR q).length = (1 + 0) := by rw [Sk.leR_wrong hr9]; simp <;> omega
  exact Ex.ret1 rfl rfl  ⟨rfl,p3,c3,_,by rw [e9],by rw [e9,Sk.leR_wrong hr9]; simpa [byteV] using h9,rfl⟩
 ·refine Run.heapTo (H' := [q9,[(b1,.cells #[.int .u32 q.addr,.int .i64 q.bind,.string q.client,.int .i64 q.till,.int .i64 q.acked,.int .i64 q.told,.int .i64 q.at_,.int .i64 q.ver] 49 (0,0))]]) Z<|Zm Z<|Zv (Y.extract Z Z)<|Zv (Y.extract Z Z)<|Za Z<|Za Z<|Ze<|Zg<|Zs<|Zr<|?_
  have hsz := Le.right_size hr9
  refine Run.buildSlice (l := [(0,.const (.int .u8 76))]) Storesa_es22 Storesa_zo5 rfl WD rfl rfl WD (lt rfl) (fun b6 => ?_)
  refine Zm Z ?_
  refine Run.append (n := 1) (m := (Le.encB q).length) (xs := [.int .u8 76]) (ys := (Le.encB q).map byteV) rfl rfl Storesa_es22 Storesa_zi5 WD (j := 0) rfl (Ow.lit (cur := #[.int .u8 76]) rfl WD) (Src.of_rd Storesa_es22 (ho9.rd 1 rfl)) W W (all_one_bytes _) (lt rfl) (fun v7 s8 ho9 hf => ?_)
  obtain ⟨p7,c7,rfl⟩ := hf
  refine Za Z<|Ze<|Zg<|Zu<|Ex.keep [0]<|?_
  have h9 := ho9
  have e9 : (Sk.leR q).length = (1 + (Le.encB q).length) := by rw [Sk.leR_right hr9]; simp <;> omega
  exact Ex.ret1 rfl rfl  ⟨rfl,p7,c7,_,by rw [e9],by rw [e9,Sk.leR_right hr9]; simpa [byteV] using h9,rfl⟩
theorem rlerec_c {V : Vw} {q : Le} (hok : q.Ok)  : Does Tryz.prog 154 [.agg #[.int .u32 q.addr,.int .i64 q.bind,.string q.client,.int .i64 q.till,.int .i64 q.acked,.int .i64 q.told,.int .i64 q.at_,.int .i64 q.ver]] V [] (fun v V' H' => V' = V ∧ ∃ p c q2,v = .slice p (Sk.leR q).length c ∧ Ow 5 1 (.slice p (Sk.leR q).length c) (Sk.leR q).length ((Sk.leR q).map byteV) q2 ∧ H' = [q2]) := by
 have hel := Le.encB_len q
 refine Does.intro Tryz.func154 rfl rfl (le rfl) (fun B => ?_)
 refine Zs<|Zr<|?_
 refine Run.box rfl (lt rfl) (fun b1 => ?_)
 refine Za Z<|Ze<|Zg<|Zs<|Zr<|Zv (Y.loadAgg Z Storesa_ag49 (Kn.at 0 Z) Z)<|?_
 refine Run.callF (l := [.tmp 6]) rfl rfl rfl (lt rfl) (renc_c (q := q) hok) (fun v9 V9 H9 hle9 hR => ?_)
 obtain ⟨hV,⟨hr9,rfl,rfl⟩ | ⟨hr9,p9,c9,q9,rfl,ho9,rfl⟩⟩ := hR <;> (replace hV := hV.symm; subst hV)
 ·refine Run.heapTo (H' := [[(b1,.cells #[.int .u32 q.addr,.int .i64 q.bind,.string q.client,.int .i64 q.till,.int .i64 q.acked,.int .i64 q.told,.int .i64 q.at_,.int .i64 q.ver] 49 (0,0))]]) Z<|Zm Z<|Zv (Y.extract Z Z)<|Zv (Y.extract Z Z)<|Za Z<|Za Z<|Ze<|Zg<|Zs<|Zr<|?_
  refine Run.buildSlice (l := [(0,.const (.int .u8 76))]) Storesa_es22 Storesa_zo5 rfl WD rfl rfl WD (lt rfl) (fun b2 => ?_)
  refine Zm Z ?_
  refine Run.append (n := 1) (m := 0) (xs := [.int .u8 76]) (ys := []) rfl rfl Storesa_es22 Storesa_zi5 WD (j := 0) rfl (Ow.lit (cur := #[.int .u8 76]) rfl WD) (Src.of_rd Storesa_es22 (Rd.nil _ _ _)) W W rfl (lt rfl) (fun v3 s4 ho5 hf => ?_)
  obtain ⟨p3,c3,rfl⟩ := hf
  refine Za Z<|Ze<|Zg<|Zu<|Ex.keep [0]<|?_
  have h9 := ho5
  have e9 : (Sk.leR q).length = (1 + 0) := by rw [Sk.leR_wrong hr9]; simp <;> omega
  exact Ex.ret1 rfl rfl  ⟨rfl,p3,c3,_,by rw [e9],by rw [e9,Sk.leR_wrong hr9]; simpa [byteV] using h9,rfl⟩
 ·refine Run.heapTo (H' := [q9,[(b1,.cells #[.int .u32 q.addr,.int .i64 q.bind,.string q.client,.int .i64 q.till,.int .i64 q.acked,.int .i64 q.told,.int .i64 q.at_,.int .i64 q.ver] 49 (0,0))]]) Z<|Zm Z<|Zv (Y.extract Z Z)<|Zv (Y.extract Z Z)<|Za Z<|Za Z<|Ze<|Zg<|Zs<|Zr<|?_
  have hsz := Le.right_size hr9
  refine Run.buildSlice (l := [(0,.const (.int .u8 76))]) Storesa_es22 Storesa_zo5 rfl WD rfl rfl WD (lt rfl) (fun b6 => ?_)
  refine Zm Z ?_
  refine Run.append (n := 1) (m := (Le.encB q).length) (xs := [.int .u8 76]) (ys := (Le.encB q).map byteV) rfl rfl Storesa_es22 Storesa_zi5 WD (j := 0) rfl (Ow.lit (cur := #[.int .u8 76]) rfl WD) (Src.of_rd Storesa_es22 (ho9.rd 1 rfl)) W W (all_one_bytes _) (lt rfl) (fun v7 s8 ho9 hf => ?_)
  obtain ⟨p7,c7,rfl⟩ := hf
  refine Za Z<|Ze<|Zg<|Zu<|Ex.keep [0]<|?_
  have h9 := ho9
  have e9 : (Sk.leR q).length = (1 + (Le.encB q).length) := by rw [Sk.leR_right hr9]; simp <;> omega
  exact Ex.ret1 rfl rfl  ⟨rfl,p7,c7,_,by rw [e9],by rw [e9,Sk.leR_right hr9]; simpa [byteV] using h9,rfl⟩
theorem wapp_c {V : Vw} {d : Dk} {dx : Nat} {sd : Sg} (hin : Dk.In 116 d dx sd) {lx : Nat} {bs : Bts} {p : Option Addr} {c : Nat} (hv : Rd V [] 1 (.slice p bs.length c) bs.length (bs.map byteV)) (hok : Fr.okR bs)  : Does Tryz.prog 217 [(pZ lx),.slice p bs.length c] V [(cL 187 lx dx),sd] (fun v V' H' => V.le V' ∧ v = .int .i64 (d.app (Fr.put bs)).2 ∧ ∃ s2,Dk.In 116 (d.app (Fr.put bs)).1 dx s2 ∧ H' = [(cL 187 lx dx),s2]) := by
 obtain ⟨hk1,hk2⟩ := id hok
 refine Does.intro Tryz.func217 rfl rfl (le rfl) (fun B => ?_)
 refine Zs<|Zr<|Za Z<|Ze<|Zg<|Zs<|Zr<|Zm Z<|?_
 refine Run.callF (l := [.tmp 8]) rfl rfl rfl (lt rfl) (fput_c (bs := bs) hv W hok) (fun v1 V1 H1 hle1 hR1 => ?_)
 obtain ⟨hV,p1,c1,q1,rfl,ho1,rfl⟩ := hR1; replace hV := hV.symm; subst hV
 have hpl1 := Fr.put_len bs
 refine Run.heapTo (H' := [q1,(cL 187 lx dx),sd]) Z<|Run.heapTo (H' := [q1,(cL 187 lx dx),sd]) Z<|Zm Z<|Zv (Y.extract Z Z)<|Zv (Y.extract Z Z)<|Za Z<|Za Z<|Ze<|Zg<|Zs<|Zs<|Zr<|Zm Z<|Zv (Y.int (r := .bool false) Z Z Z)<|Ze<|Zg<|?_
 refine Tr.cond_f Z Z<|Zt<|Zg<|Zs<|Zr<|Run.keepTo (H' := [q1,(cL 187 lx dx),sd]) [0,0,0] Z<|?_
 refine Run.show (fun V2 hle2 hsh2 => ?_)
 have hsh9 : Rd V2 [] 1 (.slice p1 (Fr.put bs).length c1) ((Fr.put bs).length) ((Fr.put bs).map byteV) := ho1.show hsh2
 replace hv := hv.le hle2
 have hVle := hle2
 refine Zm Z<|Zv (Y.nilCheck Z)<|Zv (Y.fieldAddr Z Storesa_fo187_0)<|Zv (Y.load Z Storesa_ts25 (Kn.at 0 Z) Z)<|Zm Z<|?_
 refine Run.call [1] (l := [.tmp 18,.tmp 19]) rfl rfl rfl (lt rfl) (dappend_o hin hsh9 W) (fun v3 V3 H3 hle3 hR3 => ?_)
 obtain ⟨hV,rfl,sd3,hin3,rfl⟩ := hR3; replace hV := hV.symm; subst hV
 refine Run.heapTo (H' := [(cL 187 lx dx),sd3]) Z<|Run.heapTo (H' := [(cL 187 lx dx),sd3]) Z<|Za Z<|Ze<|Zg<|Zu<|Ex.keep [0,0]<|?_
 exact Ex.ret1 rfl rfl  ⟨hVle,rfl,_,hin3,rfl⟩
theorem rwapp_c {V : Vw} {d : Dk} {dx : Nat} {sd : Sg} (hin : Dk.In 54 d dx sd) {lx : Nat} {bs : Bts} {p : Option Addr} {c : Nat} (hv : Rd V [] 1 (.slice p bs.length c) bs.length (bs.map byteV)) (hok : Fr.okR bs)  : Does Tryz.prog 224 [(pZ lx),.slice p bs.length c] V [(cL 193 lx dx),sd] (fun v V' H' => V.le V' ∧ v = .int .i64 (d.app (Fr.put bs)).2 ∧ ∃ s2,Dk.In 54 (d.app (Fr.put bs)).1 dx s2 ∧ H' = [(cL 193 lx dx),s2]) := by
 obtain ⟨hk1,hk2⟩ := id hok
 refine Does.intro Tryz.func224 rfl rfl (le rfl) (fun B => ?_)
 refine Zs<|Zr<|Za Z<|Ze<|Zg<|Zs<|Zr<|Zm Z<|?_
 refine Run.callF (l := [.tmp 8]) rfl rfl rfl (lt rfl) (rfput_c (bs := bs) hv W hok) (fun v1 V1 H1 hle1 hR1 => ?_)
 obtain ⟨hV,p1,c1,q1,rfl,ho1,rfl⟩ := hR1; replace hV := hV.symm; subst hV
 have hpl1 := Fr.put_len bs
 refine Run.heapTo (H' := [q1,(cL 193 lx dx),sd]) Z<|Run.heapTo (H' := [q1,(cL 193 lx dx),sd]) Z<|Zm Z<|Zv (Y.extract Z Z)<|Zv (Y.extract Z Z)<|Za Z<|Za Z<|Ze<|Zg<|Zs<|Zs<|Zr<|Zm Z<|Zv (Y.int (r := .bool false) Z Z Z)<|Ze<|Zg<|?_
 refine Tr.cond_f Z Z<|Zt<|Zg<|Zs<|Zr<|Run.keepTo (H' := [q1,(cL 193 lx dx),sd]) [0,0,0] Z<|?_
 refine Run.show (fun V2 hle2 hsh2 => ?_)
 have hsh9 : Rd V2 [] 1 (.slice p1 (Fr.put bs).length c1) ((Fr.put bs).length) ((Fr.put bs).map byteV) := ho1.show hsh2
 replace hv := hv.le hle2
 have hVle := hle2
 refine Zm Z<|Zv (Y.nilCheck Z)<|Zv (Y.fieldAddr Z Storesa_fo193_0)<|Zv (Y.load Z Storesa_ts29 (Kn.at 0 Z) Z)<|Zm Z<|?_
 refine Run.call [1] (l := [.tmp 18,.tmp 19]) rfl rfl rfl (lt rfl) (rdappend_o hin hsh9 W) (fun v3 V3 H3 hle3 hR3 => ?_)
 obtain ⟨hV,rfl,sd3,hin3,rfl⟩ := hR3; replace hV := hV.symm; subst hV
 refine Run.heapTo (H' := [(cL 193 lx dx),sd3]) Z<|Run.heapTo (H' := [(cL 193 lx dx),sd3]) Z<|Za Z<|Ze<|Zg<|Zu<|Ex.keep [0,0]<|?_
 exact Ex.ret1 rfl rfl  ⟨hVle,rfl,_,hin3,rfl⟩
theorem wrecs_c {V : Vw} {d : Dk} {dx : Nat} {sd : Sg} (hin : Dk.In 116 d dx sd) {lx : Nat}  : Does Tryz.prog 69 [(pZ lx)] V [(cL 187 lx dx),sd] (fun v V' H' => V.le V' ∧ ∃ xs p c q,v = .slice p xs.length c ∧ xs.map (·.b) = (Fr.scan d.bs).1 ∧ Rc.Rs V' xs ∧ Ow 22 1 (.slice p xs.length c) xs.length (xs.flatMap Rc.cell) q ∧ H' = [q,(cL 187 lx dx),sd]) := by
 refine Does.intro Tryz.func69 rfl rfl (le rfl) (fun B => ?_)
 refine Zs<|Zr<|Za Z<|Ze<|Zg<|Zs<|Zr<|Zm Z<|Zv (Y.nilCheck Z)<|Zv (Y.fieldAddr Z Storesa_fo187_0)<|Zv (Y.load Z Storesa_ts25 (Kn.at 0 Z) Z)<|?_
 refine Run.call [1] (l := [.tmp 9]) rfl rfl rfl (lt rfl) (dread_o hin) (fun v1 V1 H1 hle1 hR1 => ?_)
 obtain ⟨hV,q1,ho1,rfl⟩ := hR1; replace hV := hV.symm; subst hV; obtain ⟨p1,c1,rfl⟩ := ho1.form
 refine Run.heapTo (H' := [(cL 187 lx dx),q1,sd]) Z ?_
 have hdb1 := hin.1
 have hdr1 := hdb1.b
 have hdx1 := hdb1.r2
 refine Run.keepTo (H' := [q1,(cL 187 lx dx),sd]) [1,0,0] Z ?_
 refine Run.show (fun V2 hle2 hsh2 => ?_)
 have hbs1 : Rd V2 [] 1 (.slice p1 d.bs.length c1) (d.bs.length) (d.bs.map byteV) := ho1.show hsh2
 have hVle := hle2
 refine Run.heapTo (H' := [(cL 187 lx dx),sd]) Z ?_
 refine Run.callF (l := [.tmp 10]) rfl rfl rfl (lt rfl) (scan_c (bs := d.bs) hbs1 W) (fun v3 V3 H3 hle3 hR3 => ?_)
 obtain ⟨hle3b,xs3,w3,q3,rfl,hxs3,hrs3,ho3,rfl⟩ := hR3; obtain ⟨p3,c3,rfl⟩ := ho3.form
 replace hbs1 := hbs1.le hle3
 replace hVle := Vw.le_trans hVle hle3
 have hsl3 := Fr.scan_le d.bs
 refine Run.heapTo (H' := [q3,(cL 187 lx dx),sd]) Z<|Run.heapTo (H' := [q3,(cL 187 lx dx),sd]) Z<|Zm Z<|Zv (Y.extract Z Z)<|Zv (Y.extract Z Z)<|Za Z<|Za Z<|Ze<|Zg<|Zs<|Zr<|Zm Z<|Za Z<|Ze<|Zg<|Zu<|?_
 refine Ex.keep [0,0,0] ?_
 exact Ex.ret1 rfl rfl  ⟨hVle,xs3,_,_,_,rfl,hxs3,hrs3,ho3,rfl⟩
theorem rwrecs_c {V : Vw} {d : Dk} {dx : Nat} {pd : Option Addr} {cd : Nat} {qd : Sg} (hd : d.Ok) (ho : Ow 5 1 (.slice pd d.bs.length cd) d.bs.length (d.bs.map byteV) qd) {lx : Nat}  : Does Tryz.prog 73 [(pZ lx)] V [(cL 193 lx dx),(cD 54 dx d.room (.slice pd d.bs.length cd) ((d.lasts : Nat) : Int) d.inn),qd] (fun v V' H' => V.le V' ∧ ∃ xs p c q,v = .slice p xs.length c ∧ xs.map (·.b) = (Fr.scan d.bs).1 ∧ Rc.Rs V' xs ∧ Ow 22 1 (.slice p xs.length c) xs.length (xs.flatMap Rc.cell) q ∧ H' = [q,(cL 193 lx dx),([(cD 54 dx d.room (.slice pd d.bs.length cd) ((d.lasts : Nat) : Int) d.inn),qd] : Hp).flatten]) := by
 have hk1 := hd.r1
 have hk2 := hd.r2
 have hk3 := hd.b
 have hk4 := hd.l
 have hk5 := hd.i
 have hk6 := ho.cap
 refine Does.intro Tryz.func73 rfl rfl (le rfl) (fun B => ?_)
 refine Zs<|Zr<|Za Z<|Ze<|Zg<|Zs<|Zr<|Zm Z<|Zv (Y.nilCheck Z)<|Zv (Y.fieldAddr Z Storesa_fo193_0)<|Zv (Y.load Z Storesa_ts29 (Kn.at 0 Z) Z)<|Zv (Y.nilCheck Z)<|Zv (Y.fieldAddr Z Storesa_fo54_1)<|Zv (Y.load Z Storesa_ts22 (Kn.at 1 Z) Z)<|?_
 refine Run.call [2,0,0] (l := [.tmp 12]) rfl rfl rfl (lt rfl) (rscan_c (Hr := [qd,(cL 193 lx dx),(cD 54 dx d.room (.slice pd d.bs.length cd) ((d.lasts : Nat) : Int) d.inn)]) (bs := d.bs) (ho.rd 0 rfl) W) (fun v1 V1 H1 hle1 hR1 => ?_)
 obtain ⟨hle1b,xs1,w1,q1,rfl,hxs1,hrs1,ho1,rfl⟩ := hR1; obtain ⟨p1,c1,rfl⟩ := ho1.form
 have hVle := hle1
 have hsl1 := Fr.scan_le d.bs
 refine Run.heapTo (H' := [q1,qd,(cL 193 lx dx),(cD 54 dx d.room (.slice pd d.bs.length cd) ((d.lasts : Nat) : Int) d.inn)]) Z<|Run.heapTo (H' := [q1,qd,(cL 193 lx dx),(cD 54 dx d.room (.slice pd d.bs.length cd) ((d.lasts : Nat) : Int) d.inn)]) Z<|?_
 refine Zm Z<|Zv (Y.extract Z Z)<|Zv (Y.extract Z Z)<|Za Z<|Za Z<|Ze<|Zg<|Zs<|Zr<|Zm Z<|Za Z<|Ze<|Zg<|Zu<|Ex.keepTo (H' := [q1,(cL 193 lx dx),(cD 54 dx d.room (.slice pd d.bs.length cd) ((d.lasts : Nat) : Int) d.inn),qd]) [0,1,1,0] Z<|Ex.recut (H' := [q1,(cL 193 lx dx),([(cD 54 dx d.room (.slice pd d.bs.length cd) ((d.lasts : Nat) : Int) d.inn),qd] : Hp).flatten]) (List.Perm.of_eq (by simp))<|?_
 exact Ex.ret1 rfl rfl  ⟨hVle,xs1,_,_,_,rfl,hxs1,hrs1,ho1,rfl⟩
theorem wopen_c {V : Vw} {d : Dk} {dx : Nat} {sd : Sg} (hin : Dk.In 116 d dx sd)  : Does Tryz.prog 67 [(pZ dx)] V [sd] (fun v V' H' => V.le V' ∧ ∃ s2,Dk.In 116 (Sk.cutD d).1 dx s2 ∧ ((Sk.cutD d).2 ≠ 0 ∧ v = .tuple #[.pointer none,.int .i64 (Sk.cutD d).2] ∧ H' = [s2] ∨ (Sk.cutD d).2 = 0 ∧ ∃ lx,v = .tuple #[(pZ lx),.int .i64 0] ∧ H' = [(cL 187 lx dx),s2])) := by
 refine Does.intro Tryz.func67 rfl rfl (le rfl) (fun B => ?_)
 refine Zs<|Zr<|Za Z<|Za Z<|Ze<|Zg<|Zs<|Zs<|Zr<|Zm Z<|Zv (Y.eqNil Z Z Storesa_pt25)<|Ze<|Zg<|Tr.cond_f Z Z<|Zt<|Zg<|?_
 refine Zs<|Zr<|Zm Z<|?_
 refine Run.call [0] (l := [.tmp 10]) rfl rfl rfl (lt rfl) (dread_o hin) (fun v1 V1 H1 hle1 hR1 => ?_)
 obtain ⟨hV,q1,ho1,rfl⟩ := hR1; replace hV := hV.symm; subst hV; obtain ⟨p1,c1,rfl⟩ := ho1.form
 refine Run.heapTo (H' := [q1,sd]) Z ?_
 have hdb1 := hin.1
 have hdr1 := hdb1.b
 have hdx1 := hdb1.r2
 refine Run.keepTo (H' := [q1,sd]) [0,0] Z ?_
 refine Run.show (fun V2 hle2 hsh2 => ?_)
 have hbs1 : Rd V2 [] 1 (.slice p1 d.bs.length c1) (d.bs.length) (d.bs.map byteV) := ho1.show hsh2
 have hVle := hle2
 refine Run.heapTo (H' := [sd]) Z<|Za Z<|Ze<|Zg<|Zs<|Zs<|Zr<|Zm Z<|?_
 refine Run.callF (l := [.tmp 13]) rfl rfl rfl (lt rfl) (scan_c (bs := d.bs) hbs1 W) (fun v3 V3 H3 hle3 hR3 => ?_)
 obtain ⟨hle3b,xs3,w3,q3,rfl,hxs3,hrs3,ho3,rfl⟩ := hR3; obtain ⟨p3,c3,rfl⟩ := ho3.form
 replace hbs1 := hbs1.le hle3
 replace hVle := Vw.le_trans hVle hle3
 have hsl3 := Fr.scan_le d.bs
 refine Run.heapTo (H' := [q3,sd]) Z<|Run.heapTo (H' := [q3,sd]) Z<|Zm Z<|Zv (Y.extract Z Z)<|Zv (Y.extract Z Z)<|Za Z<|Za Z<|Ze<|Zg<|Zs<|Zr<|Zm Z<|Zm Z<|Zv (Y.lenSl Z Storesa_es22)<|Zv (Y.int Z Z Z)<|Ze<|?_
 refine Zg ?_
 rcases Zsplit (decide (((Fr.scan d.bs).2 : Int) < ((d.bs.length : Nat) : Int))) with ⟨h4,g4⟩ | ⟨h4,g4⟩ <;> try simp only [kb] at g4
 ·refine Tr.cond_t Z h4<|Zs<|Zr<|Zm Z<|Zm Z<|Zm Z<|?_
  have hc8 := hbs1.cap
  refine Zv (Y.slice (l := 0) (m := (Fr.scan d.bs).2) rfl Storesa_es22 rfl rfl W W) ?_
  refine Run.call [1] (l := [.tmp 21,.tmp 24]) rfl rfl rfl (lt rfl) (dswap_o hin (bs := d.bs.take (Fr.scan d.bs).2) ((hbs1.takeB (Fr.scan d.bs).2 W).to (by rw [List.length_take]; omega)) (by rw [List.length_take]; omega)) (fun v5 V5 H5 hle5 hR5 => ?_)
  obtain ⟨hV,rfl,sd5,hin5,rfl⟩ := hR5; replace hV := hV.symm; subst hV
  refine Run.heapTo (H' := [q3,sd5]) Z<|Run.heapTo (H' := [q3,sd5]) Z<|Za Z<|Ze<|Zg<|Zs<|Zr<|Zm Z<|Zv (Y.int Z Z Z)<|Ze<|Zg<|?_
  rcases Zsplit (((Dk.swap d (d.bs.take (Fr.scan d.bs).2)).2) != 0) with ⟨h6,g6⟩ | ⟨h6,g6⟩ <;> try simp only [kb] at g6
  ·refine Tr.cond_t Z h6<|Zs<|Zr<|Zm Z<|Za Z<|Za Z<|Ze<|Zg<|Zu<|Zn<|Ex.keep [1]<|?_
   have e9 : Sk.cutD d = _ := Sk.cut_yes W
   exact Ex.ret2 rfl rfl rfl  ⟨hVle,_,by rw [e9]; exact hin5,.inl ⟨by rw [e9]; omega,by rw [e9],rfl⟩⟩
  ·refine Tr.cond_f Z h6<|Zt<|Zg<|Zs<|Zr<|Zm Z<|Zv (Y.buildS (l := [(0,.tmp 29)]) Storesa_zo187 Storesa_pl187 Z Z)<|?_
   refine Run.box rfl (lt rfl) (fun b7 => ?_)
   refine Za Z<|Za Z<|Ze<|Zg<|Zu<|Ex.keep [0,1]<|?_
   have e9 : Sk.cutD d = _ := Sk.cut_yes W
   exact Ex.ret2 rfl rfl rfl  ⟨hVle,_,by rw [e9]; exact hin5,.inr ⟨by rw [e9]; omega,b7,rfl,rfl⟩⟩
 ·refine Tr.cond_f Z h4<|Zt<|Zg<|Zs<|Zr<|Zm Z<|Zv (Y.buildS (l := [(0,.tmp 29)]) Storesa_zo187 Storesa_pl187 Z Z)<|?_
  refine Run.box rfl (lt rfl) (fun b8 => ?_)
  refine Za Z<|Za Z<|Ze<|Zg<|Zu<|Ex.keep [0,1]<|?_
  have e9 : Sk.cutD d = _ := Sk.cut_no W
  exact Ex.ret2 rfl rfl rfl  ⟨hVle,_,by rw [e9]; exact hin,.inr ⟨by rw [e9],b8,rfl,rfl⟩⟩
theorem rdswap_s {V : Vw} {d : Dk} {dx : Nat} {pd : Option Addr} {cd : Nat} {qd : Sg} (hd : d.Ok) (ho : Ow 5 1 (.slice pd d.bs.length cd) d.bs.length (d.bs.map byteV) qd) {m : Nat} (hm : m ≤ d.bs.length)  : Does Tryz.prog 150 [(pZ dx),.slice (if cd = 0 then pd else pd.map (·.add (0 * 1))) (m - 0) (cd - 0)] V [(cD 54 dx d.room (.slice pd d.bs.length cd) ((d.lasts : Nat) : Int) d.inn),qd] (fun v V' H' => V' = V ∧ v = .int .i64 (d.swap (d.bs.take m)).2 ∧ ∃ s2,Dk.In 54 (d.swap (d.bs.take m)).1 dx s2 ∧ H' = [s2]) := by
 have hk1 := hd.r1
 have hk2 := hd.r2
 have hk3 := hd.b
 have hk4 := hd.l
 have hk5 := hd.i
 have hk6 := ho.cap
 have hk7 := Dk.dec_room d
 have hkt : (d.bs.take m).length = m := by rw [List.length_take]; omega
 refine Does.intro Tryz.func150 rfl rfl (le rfl) (fun B => ?_)
 refine Zs<|Zr<|Za Z<|Ze<|Zg<|Zs<|Zs<|Zr<|Zm Z<|?_
 refine Run.call [0] (l := [.tmp 5]) rfl rfl rfl (lt rfl) (fails_c hd) (fun v9 V2 H2 hle hR => ?_)
 obtain ⟨hV,rfl,rfl⟩ := hR; replace hV := hV.symm; subst hV
 refine Run.heapTo (H' := [qd,(cD 54 dx d.room (.slice pd d.bs.length cd) ((d.lasts : Nat) : Int) d.dec.inn)]) Z<|Run.heapTo (H' := [qd,(cD 54 dx d.room (.slice pd d.bs.length cd) ((d.lasts : Nat) : Int) d.dec.inn)]) Z<|Ze<|Zg<|?_
 rcases Zsplit (decide (d.inn = 0)) with ⟨h1,g1⟩ | ⟨h1,g1⟩ <;> try simp only [kb] at g1
 ·refine Tr.cond_t Z h1<|Zs<|Zr<|Za Z<|Ze<|Zg<|Zu<|Zn<|Ex.keepTo (H' := [(cD 54 dx d.room (.slice pd d.bs.length cd) ((d.lasts : Nat) : Int) d.dec.inn),qd]) [1,0] Z<|Ex.recut (H' := [([(cD 54 dx d.room (.slice pd d.bs.length cd) ((d.lasts : Nat) : Int) d.dec.inn),qd] : Hp).flatten]) (one_piece [(cD 54 dx d.room (.slice pd d.bs.length cd) ((d.lasts : Nat) : Int) d.dec.inn),qd])<|?_
  have e9 : d.swap (d.bs.take m) = (d,7) := Dk.change_down W
  have o9 : (d.swap (d.bs.take m)).1.Ok := hd.swap _
  rw [e9] at o9 ⊢
  have d9 : d.dec = d := Dk.dec_neg W
  exact Ex.ret1 rfl rfl  ⟨rfl,rfl,_,Dk.in_of o9 ho rfl rfl rfl rfl (by rw [d9]),rfl⟩
 ·refine Tr.cond_f Z h1<|Zt<|Zg<|Zs<|Zs<|Zr<|Zm Z<|Zv (Y.lenSl Z Storesa_es22)<|Zm Z<|Zv (Y.nilCheck Z)<|Zv (Y.fieldAddr Z Storesa_fo54_0)<|Zv (Y.load Z Storesa_ts3 (Kn.at 1 Z) Z)<|Zv (Y.int Z Z Z)<|Ze<|Zg<|?_
  rcases Zsplit (decide ((((m - 0) : Nat) : Int) > d.room)) with ⟨h2,g2⟩ | ⟨h2,g2⟩ <;> try simp only [kb] at g2
  ·refine Tr.cond_t Z h2<|Zs<|Zr<|Za Z<|Ze<|Zg<|Zu<|Zn<|Ex.keepTo (H' := [(cD 54 dx d.room (.slice pd d.bs.length cd) ((d.lasts : Nat) : Int) d.dec.inn),qd]) [1,0] Z<|Ex.recut (H' := [([(cD 54 dx d.room (.slice pd d.bs.length cd) ((d.lasts : Nat) : Int) d.dec.inn),qd] : Hp).flatten]) (one_piece [(cD 54 dx d.room (.slice pd d.bs.length cd) ((d.lasts : Nat) : Int) d.dec.inn),qd])<|?_
   have e9 : d.swap (d.bs.take m) = (d.dec,3) := Dk.change_full W W
   have o9 : (d.swap (d.bs.take m)).1.Ok := hd.swap _
   rw [e9] at o9 ⊢
   exact Ex.ret1 rfl rfl  ⟨rfl,rfl,_,(Dk.in_of o9 ho),rfl⟩
  ·refine Tr.cond_f Z h2<|Zt<|Zg<|Zs<|Zr<|Zm Z<|?_
   refine Run.buildSlice0 Storesa_es22 (lt rfl) (fun b3 => ?_)
   refine Zm Z ?_
   refine Run.append (n := 0) (m := m - 0) (xs := []) (ys := (d.bs.take m).map byteV) rfl rfl Storesa_es22 Storesa_zi5 WD (j := 0) rfl (Ow.lit (cur := #[]) rfl WD) (Src.of_rd Storesa_es22 ((ho.rd 1 rfl).takeB m hm)) W W (all_one_bytes _) (lt rfl) (fun v4 s5 ho6 hf => ?_)
   obtain ⟨p4,c4,rfl⟩ := hf
   refine Zv (Y.nilCheck Z)<|Zv (Y.fieldAddr Z Storesa_fo54_1)<|Run.store (s := (cD 54 dx d.room (.slice p4 (0 + m - 0) c4) ((d.lasts : Nat) : Int) d.dec.inn)) Z Z Storesa_sz22 (i := 2) Z Z (le Z) Z Z<|Ze<|Zg<|Zs<|Zr<|Zm Z<|Zm Z<|Zv (Y.lenSl Z Storesa_es22)<|Zv (Y.nilCheck Z)<|Zv (Y.fieldAddr Z Storesa_fo54_2)<|Run.store (s := (cD 54 dx d.room (.slice p4 (0 + m - 0) c4) (((m - 0) : Nat) : Int) d.dec.inn)) Z Z Storesa_sz3 (i := 2) Z Z (le Z) Z Z<|?_
   refine Ze<|Zg<|Zs<|Zr<|Za Z<|Ze<|Zg<|Zu<|Ex.keepTo (H' := [(cD 54 dx d.room (.slice p4 (0 + m - 0) c4) (((m - 0) : Nat) : Int) d.dec.inn),s5]) [2,0] Z<|Ex.recut (H' := [([(cD 54 dx d.room (.slice p4 (0 + m - 0) c4) (((m - 0) : Nat) : Int) d.dec.inn),s5] : Hp).flatten]) (one_piece [(cD 54 dx d.room (.slice p4 (0 + m - 0) c4) (((m - 0) : Nat) : Int) d.dec.inn),s5])<|?_
   have e9 : d.swap (d.bs.take m) = ({ d.dec with bs := d.bs.take m,lasts := (d.bs.take m).length },0) := Dk.change_ok0 W W
   have o9 : (d.swap (d.bs.take m)).1.Ok := hd.swap _
   rw [e9] at o9 ⊢
   exact Ex.ret1 rfl rfl  ⟨rfl,rfl,_,Dk.in_of o9 ho6 (by show _ = (d.bs.take m).length; omega) (by simp) (by simp [Dk.dec_room]) (by show _ = (((d.bs.take m).length : Nat) : Int); omega) rfl,rfl⟩
theorem rwopen_c {V : Vw} {d : Dk} {dx : Nat} {pd : Option Addr} {cd : Nat} {qd : Sg} (hd : d.Ok) (ho : Ow 5 1 (.slice pd d.bs.length cd) d.bs.length (d.bs.map byteV) qd)  : Does Tryz.prog 72 [(pZ dx)] V [(cD 54 dx d.room (.slice pd d.bs.length cd) ((d.lasts : Nat) : Int) d.inn),qd] (fun v V' H' => V.le V' ∧ ∃ s2,Dk.In 54 (Sk.cutD d).1 dx s2 ∧ ((Sk.cutD d).2 ≠ 0 ∧ v = .tuple #[.pointer none,.int .i64 (Sk.cutD d).2] ∧ H' = [s2] ∨ (Sk.cutD d).2 = 0 ∧ ∃ lx,v = .tuple #[(pZ lx),.int .i64 0] ∧ H' = [(cL 193 lx dx),s2])) := by
 have hk1 := hd.r1
 have hk2 := hd.r2
 have hk3 := hd.b
 have hk4 := hd.l
 have hk5 := hd.i
 have hk6 := ho.cap
 refine Does.intro Tryz.func72 rfl rfl (le rfl) (fun B => ?_)
 refine Zs<|Zr<|Za Z<|Za Z<|Ze<|Zg<|Zs<|Zs<|Zr<|Zm Z<|Zv (Y.eqNil Z Z Storesa_pt29)<|Ze<|Zg<|Tr.cond_f Z Z<|Zt<|Zg<|?_
 refine Zs<|Zr<|Zm Z<|Zv (Y.nilCheck Z)<|Zv (Y.fieldAddr Z Storesa_fo54_1)<|Zv (Y.load Z Storesa_ts22 (Kn.at 0 Z) Z)<|?_
 refine Run.call [1,0] (l := [.tmp 13]) rfl rfl rfl (lt rfl) (rscan_c (Hr := [qd,(cD 54 dx d.room (.slice pd d.bs.length cd) ((d.lasts : Nat) : Int) d.inn)]) (bs := d.bs) (ho.rd 0 rfl) W) (fun v1 V1 H1 hle1 hR1 => ?_)
 obtain ⟨hle1b,xs1,w1,q1,rfl,hxs1,hrs1,ho1,rfl⟩ := hR1; obtain ⟨p1,c1,rfl⟩ := ho1.form
 have hVle := hle1
 have hsl1 := Fr.scan_le d.bs
 refine Run.heapTo (H' := [q1,qd,(cD 54 dx d.room (.slice pd d.bs.length cd) ((d.lasts : Nat) : Int) d.inn)]) Z<|Run.heapTo (H' := [q1,qd,(cD 54 dx d.room (.slice pd d.bs.length cd) ((d.lasts : Nat) : Int) d.inn)]) Z<|Zm Z<|Zv (Y.extract Z Z)<|Zv (Y.extract Z Z)<|Za Z<|Za Z<|Ze<|Zg<|Zs<|Zs<|Zr<|Zm Z<|Zm Z<|Zv (Y.nilCheck Z)<|Zv (Y.fieldAddr Z Storesa_fo54_1)<|?_
 refine Zv (Y.load Z Storesa_ts22 (Kn.at 2 Z) Z)<|Zv (Y.lenSl Z Storesa_es22)<|Zv (Y.int Z Z Z)<|Ze<|Zg<|?_
 rcases Zsplit (((Fr.scan d.bs).2 : Int) != ((d.bs.length : Nat) : Int)) with ⟨h2,g2⟩ | ⟨h2,g2⟩ <;> try simp only [kb] at g2
 ·refine Tr.cond_t Z h2<|Zs<|Zr<|Zm Z<|Zm Z<|Zv (Y.nilCheck Z)<|Zv (Y.fieldAddr Z Storesa_fo54_1)<|Zv (Y.load Z Storesa_ts22 (Kn.at 2 Z) Z)<|Zm Z<|Zv (Y.slice (l := 0) (m := (Fr.scan d.bs).2) rfl Storesa_es22 rfl rfl W W)<|?_
  refine Run.call [2,1] (l := [.tmp 24,.tmp 30]) rfl rfl rfl (lt rfl) (rdswap_s (m := (Fr.scan d.bs).2) hd ho W) (fun v3 V3 H3 hle3 hR3 => ?_)
  obtain ⟨hV,rfl,sd3,hin3,rfl⟩ := hR3; replace hV := hV.symm; subst hV
  refine Run.heapTo (H' := [q1,sd3]) Z<|Run.heapTo (H' := [q1,sd3]) Z<|Za Z<|Ze<|Zg<|Zs<|Zr<|Zm Z<|Zv (Y.int Z Z Z)<|Ze<|Zg<|?_
  rcases Zsplit (((d.swap (d.bs.take (Fr.scan d.bs).2)).2) != 0) with ⟨h4,g4⟩ | ⟨h4,g4⟩ <;> try simp only [kb] at g4
  ·refine Tr.cond_t Z h4<|Zs<|Zr<|Zm Z<|Za Z<|Za Z<|Ze<|Zg<|Zu<|Zn<|Ex.keep [1]<|?_
   have e9 : Sk.cutD d = _ := Sk.cut_yes W
   exact Ex.ret2 rfl rfl rfl  ⟨hVle,_,by rw [e9]; exact hin3,.inl ⟨by rw [e9]; omega,by rw [e9],rfl⟩⟩
  ·refine Tr.cond_f Z h4<|Zt<|Zg<|Zs<|Zr<|Zm Z<|Zv (Y.buildS (l := [(0,.tmp 35)]) Storesa_zo193 Storesa_pl193 Z Z)<|?_
   refine Run.box rfl (lt rfl) (fun b5 => ?_)
   refine Za Z<|Za Z<|Ze<|Zg<|Zu<|Ex.keep [0,1]<|?_
   have e9 : Sk.cutD d = _ := Sk.cut_yes W
   exact Ex.ret2 rfl rfl rfl  ⟨hVle,_,by rw [e9]; exact hin3,.inr ⟨by rw [e9]; omega,b5,rfl,rfl⟩⟩
 ·refine Tr.cond_f Z h2<|Zt<|Zg<|Zs<|Zr<|Zm Z<|Zv (Y.buildS (l := [(0,.tmp 35)]) Storesa_zo193 Storesa_pl193 Z Z)<|?_
  refine Run.box rfl (lt rfl) (fun b6 => ?_)
  refine Za Z<|Za Z<|Ze<|Zg<|Zu<|Ex.keepTo (H' := [(cL 193 b6 dx),(cD 54 dx d.room (.slice pd d.bs.length cd) ((d.lasts : Nat) : Int) d.inn),qd]) [0,2,1] Z<|Ex.recut (H' := [(cL 193 b6 dx),([(cD 54 dx d.room (.slice pd d.bs.length cd) ((d.lasts : Nat) : Int) d.inn),qd] : Hp).flatten]) (List.Perm.of_eq (by simp))<|?_
  have e9 : Sk.cutD d = _ := Sk.cut_no W
  exact Ex.ret2 rfl rfl rfl  ⟨hVle,_,by rw [e9]; exact Dk.in_of hd ho rfl rfl rfl rfl rfl,.inr ⟨by rw [e9],b6,rfl,rfl⟩⟩
theorem fput_c_h {V : Vw} {bs : Bts} {v : Value} (hv : Rd V [] 1 v bs.length (bs.map byteV)) (hl : bs.length ≤ 1500000) (hok : Fr.okR bs) : Does Tryz.prog 165 [v] V [] (fun v V' H' => V' = V ∧ ∃ p c q,v = .tuple #[.slice p (Fr.put bs).length c,.int .i64 0] ∧ Ow 5 1 (.slice p (Fr.put bs).length c) (Fr.put bs).length ((Fr.put bs).map byteV) q ∧ H' = [q]) := by
  obtain ⟨p,c,rfl,_⟩ := hv.form
  exact fput_c hv hl hok
theorem rfput_c_h {V : Vw} {bs : Bts} {v : Value} (hv : Rd V [] 1 v bs.length (bs.map byteV)) (hl : bs.length ≤ 1500000) (hok : Fr.okR bs) : Does Tryz.prog 225 [v] V [] (fun v V' H' => V' = V ∧ ∃ p c q,v = .tuple #[.slice p (Fr.put bs).length c,.int .i64 0] ∧ Ow 5 1 (.slice p (Fr.put bs).length c) (Fr.put bs).length ((Fr.put bs).map byteV) q ∧ H' = [q]) := by
  obtain ⟨p,c,rfl,_⟩ := hv.form
  exact rfput_c hv hl hok
theorem wcomp_c {V : Vw} {d : Dk} {dx : Nat} {sd : Sg} (hin : Dk.In 116 d dx sd) {lx : Nat} {xs : List Rc} {p : Option Addr} {c : Nat} {qx : Sg} (hx : Ow 22 1 (.slice p xs.length c) xs.length (xs.flatMap Rc.cell) qx) (hrs : Rc.Rs V xs) (hok : ∀ b,b ∈ xs.map (·.b) → Fr.okR b) (hl : xs.length ≤ 1000)  : Does Tryz.prog 91 [(pZ lx),.slice p xs.length c] V [(cL 187 lx dx),sd,qx] (fun v V' H' => V.le V' ∧ v = .int .i64 (d.swap (Fr.fl (xs.map (·.b)))).2 ∧ ∃ s2,Dk.In 116 (d.swap (Fr.fl (xs.map (·.b)))).1 dx s2 ∧ H' = [(cL 187 lx dx),s2]) := by
 refine Does.intro Tryz.func91 rfl rfl (le rfl) (fun B => ?_)
 refine Zs<|Zr<|Za Z<|Ze<|Zg<|Zs<|Zr<|Run.nilseg<|Za Z<|Ze<|Zg<|Zs<|Zs<|Zr<|Zm Z<|Zv (Y.lenSl Z Storesa_es56)<|?_
 refine Zm Z<|Ze<|Zg<|Zb<|?_
 refine ZL (X := Nat × Option Addr × Nat × Nat × Sg) (fun z0 => V) (fun z0 => [z0.2.2.2.2,(cL 187 lx dx),sd,qx]) (fun z0 => [(0,(pZ lx)),(1,.slice p xs.length c),(5,.slice z0.2.1 z0.2.2.1 z0.2.2.2.1),(10,.slice p xs.length c),(11,.int .i64 ((xs.length : Nat) : Int)),(12,.int .i64 (z0.1 : Int))]) (fun z0 => Ow 5 1 (.slice z0.2.1 z0.2.2.1 z0.2.2.2.1) z0.2.2.1 ((Fr.fl ((xs.map (·.b)).take z0.1)).map byteV) z0.2.2.2.2 ∧ z0.2.2.1 = (Fr.fl ((xs.map (·.b)).take z0.1)).length ∧ z0.2.2.1 ≤ z0.1 * 1003 ∧ z0.1 ≤ xs.length) (fun z0 => xs.length - z0.1) (⟨0,none,0,0,[]⟩ : Nat × Option Addr × Nat × Nat × Sg) ⟨Ow.nil _ _,rfl,Nat.zero_le _,Nat.zero_le _⟩ ?_
 rintro ⟨i1,pa,na,ka,qa⟩ ⟨how,hna,hnb,hi⟩
 try dsimp only at how hna hnb hi ⊢
 refine Zs<|Zr<|Zv (Y.int Z Z Z)<|Ze<|Zg<|Zs<|?_
 rcases Zsplit (decide ((i1 : Int) < ((xs.length : Nat) : Int))) with ⟨h1,g1⟩ | ⟨h1,g1⟩ <;> try simp only [kb] at g1
 ·refine Tr.cond_t Z h1<|Zt<|Zg<|Zs<|Zb<|Zs<|Zr<|?_
  have hob := hok (xs.getD i1 Rc.dflt).b (by rw [← Rc.getD_b]; exact getD_mem' (by rw [List.length_map]; omega) _)
  obtain ⟨hob1,hob2⟩ := id hob
  refine Zv (Y.idxR i1 Z Z Storesa_es56 (hx.rd 3 rfl) W W)<|Zv (Y.ldR Z Storesa_ts22 (hx.rd 3 rfl) (flatm_at0 Rc.len W Rc.dflt WD rfl))<|Za Z<|Ze<|Zg<|Zs<|Zr<|?_
  have hob := hok (xs.getD i1 Rc.dflt).b (by rw [← Rc.getD_b]; exact getD_mem' (by rw [List.length_map]; omega) _)
  obtain ⟨hob1,hob2⟩ := id hob
  refine Zm Z ?_
  have hlb := (hrs.at (i := i1) W).lenB
  refine Run.callF (l := [.tmp 17]) rfl rfl rfl (lt rfl) (fput_c_h (bs := (xs.getD i1 Rc.dflt).b) ((hrs.at W).to hlb.symm) (by have := hob.2; omega) hob) (fun v2 V2 H2 hle2 hR2 => ?_)
  obtain ⟨hV,p2,c2,q2,rfl,ho2,rfl⟩ := hR2; replace hV := hV.symm; subst hV
  have hpl := Fr.put_len (xs.getD i1 Rc.dflt).b
  refine Run.heapTo (H' := [q2,qa,(cL 187 lx dx),sd,qx]) Z<|Run.heapTo (H' := [q2,qa,(cL 187 lx dx),sd,qx]) Z<|Zm Z<|Zv (Y.extract Z Z)<|Zv (Y.extract Z Z)<|Za Z<|Za Z<|Ze<|Zg<|Zs<|Zs<|Zr<|Zm Z<|Zv (Y.int (r := .bool false) Z Z Z)<|Ze<|Zg<|?_
  refine Tr.cond_f Z Z<|Zt<|Zg<|Zr<|Zm Z<|Zm Z<|?_
  refine Run.append (n := na) (m := (Fr.put (xs.getD i1 Rc.dflt).b).length) (xs := (Fr.fl ((xs.map (·.b)).take i1)).map byteV) (ys := (Fr.put (xs.getD i1 Rc.dflt).b).map byteV) rfl rfl Storesa_es22 Storesa_zi5 WD (j := 1) rfl how (Src.of_rd Storesa_es22 (ho2.rd 0 rfl)) W W (all_one_bytes _) (lt rfl) (fun v3 s4 ho5 hf => ?_)
  obtain ⟨p3,c3,rfl⟩ := hf
  refine Za Z<|Ze<|Zc<|Zg<|Zr<|Zv (Y.add Z Z W)<|Zm Z<|Ze<|Ex.keep [1,1,1,1]<|?_
  have er : Fr.fl ((xs.map (·.b)).take (i1 + 1)) = (Fr.fl ((xs.map (·.b)).take i1)) ++ Fr.put (xs.getD i1 Rc.dflt).b := by rw [take_succ_getD _ i1 [] (by rw [List.length_map]; omega),Fr.fl_snoc,Rc.getD_b]
  exact ZR (⟨i1 + 1,p3,(na + (Fr.put (xs.getD i1 Rc.dflt).b).length),c3,s4⟩ : Nat × Option Addr × Nat × Nat × Sg) ⟨by rw [er,List.map_append]; exact ho5,by rw [er,List.length_append,← hna],by dsimp only; rw [hpl]; omega,by omega⟩ (by dsimp only; omega)
 ·refine Tr.cond_f Z h1<|Zx<|Zy<|Zy<|Zi<|Zg<|Zs<|Zr<|?_
  obtain rfl : i1 = xs.length := by omega
  rw [List.take_of_length_le (by rw [List.length_map]; exact Nat.le_refl _)] at how hna
  subst hna
  refine Run.keepTo (H' := [qa,(cL 187 lx dx),sd,qx]) [0,0,0,0] Z ?_
  refine Run.show (fun V6 hle6 hsh6 => ?_)
  have hsh9 : Rd V6 [] 1 (.slice pa (Fr.fl (xs.map (·.b))).length ka) ((Fr.fl (xs.map (·.b))).length) ((Fr.fl (xs.map (·.b))).map byteV) := how.show hsh6
  have hVle := hle6
  refine Zm Z<|Zv (Y.nilCheck Z)<|Zv (Y.fieldAddr Z Storesa_fo187_0)<|Zv (Y.load Z Storesa_ts25 (Kn.at 0 Z) Z)<|Zm Z<|?_
  refine Run.call [1] (l := [.tmp 31,.tmp 32]) rfl rfl rfl (lt rfl) (dswap_o hin hsh9 W) (fun v7 V7 H7 hle7 hR7 => ?_)
  obtain ⟨hV,rfl,sd7,hin7,rfl⟩ := hR7; replace hV := hV.symm; subst hV
  refine Run.heapTo (H' := [(cL 187 lx dx),qx,sd7]) Z<|Run.heapTo (H' := [(cL 187 lx dx),qx,sd7]) Z<|Za Z<|Ze<|Zg<|Zu<|Ex.keep [0,1]<|?_
  exact Ex.ret1 rfl rfl  ⟨hVle,rfl,_,hin7,rfl⟩
theorem rwcomp_c {V : Vw} {d : Dk} {dx : Nat} {sd : Sg} (hin : Dk.In 54 d dx sd) {lx : Nat} {xs : List Rc} {p : Option Addr} {c : Nat} {qx : Sg} (hx : Ow 22 1 (.slice p xs.length c) xs.length (xs.flatMap Rc.cell) qx) (hrs : Rc.Rs V xs) (hok : ∀ b,b ∈ xs.map (·.b) → Fr.okR b) (hl : xs.length ≤ 1000)  : Does Tryz.prog 157 [(pZ lx),.slice p xs.length c] V [(cL 193 lx dx),sd,qx] (fun v V' H' => V.le V' ∧ v = .int .i64 (d.swap (Fr.fl (xs.map (·.b)))).2 ∧ ∃ s2,Dk.In 54 (d.swap (Fr.fl (xs.map (·.b)))).1 dx s2 ∧ H' = [(cL 193 lx dx),s2]) := by
 refine Does.intro Tryz.func157 rfl rfl (le rfl) (fun B => ?_)
 refine Zs<|Zr<|Za Z<|Ze<|Zg<|Zs<|Zr<|Run.nilseg<|Za Z<|Ze<|Zg<|Zs<|Zs<|Zr<|Za Z<|Ze<|?_
 refine Zg<|Zb<|?_
 refine ZL (X := Nat × Option Addr × Nat × Nat × Sg) (fun z0 => V) (fun z0 => [z0.2.2.2.2,(cL 193 lx dx),sd,qx]) (fun z0 => [(0,(pZ lx)),(1,.slice p xs.length c),(5,.slice z0.2.1 z0.2.2.1 z0.2.2.2.1),(6,.int .i64 (z0.1 : Int))]) (fun z0 => Ow 5 1 (.slice z0.2.1 z0.2.2.1 z0.2.2.2.1) z0.2.2.1 ((Fr.fl ((xs.map (·.b)).take z0.1)).map byteV) z0.2.2.2.2 ∧ z0.2.2.1 = (Fr.fl ((xs.map (·.b)).take z0.1)).length ∧ z0.2.2.1 ≤ z0.1 * 1003 ∧ z0.1 ≤ xs.length) (fun z0 => xs.length - z0.1) (⟨0,none,0,0,[]⟩ : Nat × Option Addr × Nat × Nat × Sg) ⟨Ow.nil _ _,rfl,Nat.zero_le _,Nat.zero_le _⟩ ?_
 rintro ⟨i1,pa,na,ka,qa⟩ ⟨how,hna,hnb,hi⟩
 try dsimp only at how hna hnb hi ⊢
 refine Zs<|Zs<|Zr<|Zm Z<|Zm Z<|Zv (Y.lenSl Z Storesa_es56)<|Zv (Y.int Z Z Z)<|Ze<|Zg<|?_
 rcases Zsplit (decide ((i1 : Int) < ((xs.length : Nat) : Int))) with ⟨h1,g1⟩ | ⟨h1,g1⟩ <;> try simp only [kb] at g1
 ·refine Tr.cond_t Z h1<|Zt<|Zg<|Zs<|Zb<|Zs<|Zr<|?_
  have hob := hok (xs.getD i1 Rc.dflt).b (by rw [← Rc.getD_b]; exact getD_mem' (by rw [List.length_map]; omega) _)
  obtain ⟨hob1,hob2⟩ := id hob
  refine Zm Z<|Zm Z<|Zv (Y.idxR i1 Z Z Storesa_es56 (hx.rd 3 rfl) W W)<|Zv (Y.ldR Z Storesa_ts22 (hx.rd 3 rfl) (flatm_at0 Rc.len W Rc.dflt WD rfl))<|?_
  have hlb := (hrs.at (i := i1) W).lenB
  refine Run.callF (l := [.tmp 19]) rfl rfl rfl (lt rfl) (rfput_c_h (bs := (xs.getD i1 Rc.dflt).b) ((hrs.at W).to hlb.symm) (by have := hob.2; omega) hob) (fun v2 V2 H2 hle2 hR2 => ?_)
  obtain ⟨hV,p2,c2,q2,rfl,ho2,rfl⟩ := hR2; replace hV := hV.symm; subst hV
  have hpl := Fr.put_len (xs.getD i1 Rc.dflt).b
  refine Run.heapTo (H' := [q2,qa,(cL 193 lx dx),sd,qx]) Z<|Run.heapTo (H' := [q2,qa,(cL 193 lx dx),sd,qx]) Z<|Zm Z<|Zv (Y.extract Z Z)<|Zv (Y.extract Z Z)<|Za Z<|Za Z<|Ze<|Zg<|Zs<|Zs<|Zr<|Zm Z<|Zv (Y.int (r := .bool false) Z Z Z)<|Ze<|Zg<|?_
  refine Tr.cond_f Z Z<|Zt<|Zg<|Zr<|Zm Z<|Zm Z<|?_
  refine Run.append (n := na) (m := (Fr.put (xs.getD i1 Rc.dflt).b).length) (xs := (Fr.fl ((xs.map (·.b)).take i1)).map byteV) (ys := (Fr.put (xs.getD i1 Rc.dflt).b).map byteV) rfl rfl Storesa_es22 Storesa_zi5 WD (j := 1) rfl how (Src.of_rd Storesa_es22 (ho2.rd 0 rfl)) W W (all_one_bytes _) (lt rfl) (fun v3 s4 ho5 hf => ?_)
  obtain ⟨p3,c3,rfl⟩ := hf
  refine Za Z<|Ze<|Zc<|Zg<|Zr<|?_
  have hob := hok (xs.getD i1 Rc.dflt).b (by rw [← Rc.getD_b]; exact getD_mem' (by rw [List.length_map]; omega) _)
  obtain ⟨hob1,hob2⟩ := id hob
  refine Zm Z<|Zv (Y.add Z Z W)<|Za Z<|Ze<|Ex.keep [1,1,1,1]<|?_
  have er : Fr.fl ((xs.map (·.b)).take (i1 + 1)) = (Fr.fl ((xs.map (·.b)).take i1)) ++ Fr.put (xs.getD i1 Rc.dflt).b := by rw [take_succ_getD _ i1 [] (by rw [List.length_map]; omega),Fr.fl_snoc,Rc.getD_b]
  exact ZR (⟨i1 + 1,p3,(na + (Fr.put (xs.getD i1 Rc.dflt).b).length),c3,s4⟩ : Nat × Option Addr × Nat × Nat × Sg) ⟨by rw [er,List.map_append]; exact ho5,by rw [er,List.length_append,← hna],by dsimp only; rw [hpl]; omega,by omega⟩ (by dsimp only; omega)
 ·refine Tr.cond_f Z h1<|Zx<|Zy<|Zy<|Zi<|Zg<|Zs<|Zr<|?_
  obtain rfl : i1 = xs.length := by omega
  rw [List.take_of_length_le (by rw [List.length_map]; exact Nat.le_refl _)] at how hna
  subst hna
  refine Run.keepTo (H' := [qa,(cL 193 lx dx),sd,qx]) [0,0,0,0] Z ?_
  refine Run.show (fun V6 hle6 hsh6 => ?_)
  have hsh9 : Rd V6 [] 1 (.slice pa (Fr.fl (xs.map (·.b))).length ka) ((Fr.fl (xs.map (·.b))).length) ((Fr.fl (xs.map (·.b))).map byteV) := how.show hsh6
  have hVle := hle6
  refine Zm Z<|Zv (Y.nilCheck Z)<|Zv (Y.fieldAddr Z Storesa_fo193_0)<|Zv (Y.load Z Storesa_ts29 (Kn.at 0 Z) Z)<|Zm Z<|?_
  refine Run.call [1] (l := [.tmp 31,.tmp 32]) rfl rfl rfl (lt rfl) (rdswap_o hin hsh9 W) (fun v7 V7 H7 hle7 hR7 => ?_)
  obtain ⟨hV,rfl,sd7,hin7,rfl⟩ := hR7; replace hV := hV.symm; subst hV
  refine Run.heapTo (H' := [(cL 193 lx dx),qx,sd7]) Z<|Run.heapTo (H' := [(cL 193 lx dx),qx,sd7]) Z<|Za Z<|Ze<|Zg<|Zu<|Ex.keep [0,1]<|?_
  exact Ex.ret1 rfl rfl  ⟨hVle,rfl,_,hin7,rfl⟩
theorem wlen_c {V : Vw} {d : Dk} {dx : Nat} {sd : Sg} (hin : Dk.In 116 d dx sd) {lx : Nat}  : Does Tryz.prog 92 [(pZ lx)] V [(cL 187 lx dx),sd] (fun v V' H' => V.le V' ∧ v = .int .i64 (((Fr.scan d.bs).1.length : Nat) : Int) ∧ H' = [(cL 187 lx dx),sd]) := by
 refine Does.intro Tryz.func92 rfl rfl (le rfl) (fun B => ?_)
 refine Zs<|Zr<|Za Z<|Ze<|Zg<|Zs<|Zr<|Zm Z<|?_
 refine Run.callW (l := [.tmp 3]) rfl rfl rfl (lt rfl) (wrecs_c hin) (fun v1 V1 H1 hle1 hR1 => ?_)
 obtain ⟨_,xs,p,c,q,rfl,hxs,hrs,ho,rfl⟩ := hR1
 have hVle := hle1
 refine Run.heapTo (H' := [q,(cL 187 lx dx),sd]) Z<|Run.heapTo (H' := [q,(cL 187 lx dx),sd]) Z<|Zv (Y.lenSl Z Storesa_es56)<|Za Z<|Ze<|Zg<|Zu<|Ex.keep [1,1]<|?_
 exact Ex.ret1 rfl rfl  ⟨hVle,by rw [← hxs,List.length_map],rfl⟩
end Go.Proofs.YtinkencbkcciiaaGreat
