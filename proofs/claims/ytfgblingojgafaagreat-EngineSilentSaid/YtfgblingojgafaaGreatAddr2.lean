/- The library's sort by a comparison, at leases, walked: its second half.
Conditions: as each theorem names them. -/
import Derived.Test.YtfgblingojgafaaGreatProg
import Derived.Test.YtfgblingojgafaaGreatSortl
import Derived.Test.YtfgblingojgafaaGreatSortnum
import Derived.Test.YtfgblingojgafaaGreatSA
import Derived.Test.YtfgblingojgafaaGreatBucket
import Derived.Test.YtfgblingojgafaaGreatRA
import Derived.Test.YtfgblingojgafaaGreatKD
import Derived.Test.YtfgblingojgafaaGreatAddr
set_option linter.unusedSimpArgs false
set_option linter.unusedVariables false
set_option maxRecDepth 4000
namespace Go.Proofs.YtfgblingojgafaaGreat
open Go Go.K
attribute [local irreducible] Code.wp wpList Calls wpQuiet
theorem Sortl2_mo : Tryz.prog.follows .mixedOrders = true := by kernel_rfl
theorem Sortl2_es22 : elemS Tryz.prog 22 = some (43,8) := by kernel_rfl
theorem Sortl2_ag43 : aggsz Tryz.prog 43 = some 8 := by kernel_rfl
theorem Sortl2_sz43 : sizeT Tryz.prog 43 = some 8 := by kernel_rfl
theorem Sortl2_ts3 : scal Tryz.prog 3 = true := by kernel_rfl
theorem Sortl2_sz3 : sizeT Tryz.prog 3 = some 1 := by kernel_rfl
theorem Sortl2_zo3 : zeroOf Tryz.prog 3 = some (.int .i64 0) := by kernel_rfl
theorem Sortl2_it3_222 : intT Tryz.prog 3 222 = some .u64 := by kernel_rfl
theorem Sortl2_zo222 : zeroOf Tryz.prog 222 = some (.int .u64 0) := by kernel_rfl
theorem Sortl2_sz222 : sizeT Tryz.prog 222 = some 1 := by kernel_rfl
theorem Sortl2_it195_3 : intT Tryz.prog 195 3 = some .i64 := by kernel_rfl
open Go.Sort
theorem pins_l {V : Vw} {n c b : Nat} {rest : List Value} {d0 : Array Le} {gf : FuncId} {caps : List Value} {cm : Le → Le → Int} {x y : Nat}  (hN : n ≤ 1073741824) (hd : d0.size = n) (hx : x < y) (hy : y ≤ n)  (hcmp : ∀ x y : Le,Does Tryz.prog gf (.agg (Le.cells x).toArray :: .agg (Le.cells y).toArray :: caps) V [] (Pv (.int .i64 (cm x y)) V [])) (hswo : SWO (ltc cm))  : Does Tryz.prog 215 [.slice (some ⟨b,0,none⟩) n c,.int .i64 ((x : Nat) : Int),.int .i64 ((y : Nat) : Int),.func (.func gf) #[] caps.toArray] V [sgD Le.cells 43 b rest d0] (fun v V' H' => V' = V ∧ v = .bool (partialInsertionSort (ltc cm) d0 x y).2 ∧ H' = [sgD Le.cells 43 b rest ((partialInsertionSort (ltc cm) d0 x y).1)]) := by
 refine Does.intro Tryz.func215 rfl rfl (le rfl) (fun B => ?_)
 refine Zs<|Zr<|Za Z<|Ze<|Zg<|Zs<|Zr<|Zm Z<|Zv (Y.addN ((x + 1 : Nat) : Int) rfl rfl W W)<|Za Z<|Ze<|Zg<|Zs<|Zs<|Zr<|Za Z<|?_
 refine Ze<|Zg<|Zb<|?_
 refine ZL (X := Nat × Nat × Array Le) (fun z0 => V) (fun z0 => [sgD Le.cells 43 b rest z0.2.2]) (fun z0 => [(0,.slice (some ⟨b,0,none⟩) n c),(1,.int .i64 ((x : Nat) : Int)),(2,.int .i64 ((y : Nat) : Int)),(3,.func (.func gf) #[] caps.toArray),(8,.bool false),(9,.int .i64 ((z0.2.1 : Nat) : Int)),(10,.int .i64 ((z0.1 : Nat) : Int))]) (fun z0 => partialIns (ltc cm) x y (5 - z0.1) z0.2.1 z0.2.2 = partialInsertionSort (ltc cm) d0 x y ∧ z0.2.2.size = n ∧ x < z0.2.1 ∧ z0.2.1 ≤ y ∧ z0.1 ≤ 5) (fun z0 => 5 - z0.1) (⟨0,x + 1,d0⟩ : Nat × Nat × Array Le) ⟨rfl,hd,by (try dsimp only); omega,by (try dsimp only); omega,by (try dsimp only); omega⟩ ?_
 rintro ⟨s,i,d⟩ ⟨r1,r2,r3,r4,r5⟩
 try dsimp only at r1 r2 r3 r4 r5 ⊢
 refine Zs<|Zs<|Zr<|Zm Z<|Zv (Y.int Z Z Z)<|Ze<|Zg<|?_
 rcases Zsplit (decide (((s : Nat) : Int) < 5)) with ⟨h1,g1⟩ | ⟨h1,g1⟩ <;> try simp only [kb] at g1
 ·refine Tr.cond_t Z h1<|Zt<|Zg<|Zs<|Zb<|?_
  refine Tr.cutx (X := Nat) (fun i2 => V) (fun i2 => [sgD Le.cells 43 b rest d]) (fun i2 => [(0,.slice (some ⟨b,0,none⟩) n c),(1,.int .i64 ((x : Nat) : Int)),(2,.int .i64 ((y : Nat) : Int)),(3,.func (.func gf) #[] caps.toArray),(8,.bool false),(9,.int .i64 ((i2 : Nat) : Int)),(10,.int .i64 ((s : Nat) : Int))]) (fun i2 => scanSorted (ltc cm) d y i = i2 ∧ i ≤ i2 ∧ i2 ≤ y) ?_ ?_
  ·refine Zb ?_
   refine ZL (X := Nat) (fun z0 => V) (fun z0 => [sgD Le.cells 43 b rest d]) (fun z0 => [(0,.slice (some ⟨b,0,none⟩) n c),(1,.int .i64 ((x : Nat) : Int)),(2,.int .i64 ((y : Nat) : Int)),(3,.func (.func gf) #[] caps.toArray),(8,.bool false),(9,.int .i64 ((z0 : Nat) : Int)),(10,.int .i64 ((s : Nat) : Int))]) (fun z0 => scanSorted (ltc cm) d y z0 = scanSorted (ltc cm) d y i ∧ i ≤ z0 ∧ z0 ≤ y) (fun z0 => y - z0) (i : Nat) ⟨rfl,Nat.le_refl _,by omega⟩ ?_
   rintro u ⟨m1,m2,m3⟩
   try dsimp only at m1 m2 m3 ⊢
   refine Zs<|Zs<|Tr.quiet Sortl2_mo WK<|ZM Z<|ZM Z<|ZV (Y.int Z Z Z)<|ZM Z<|?_
   rcases Zsplit (decide (((u : Nat) : Int) < ((y : Nat) : Int))) with ⟨h2,g2⟩ | ⟨h2,g2⟩ <;> try simp only [kb] at g2
   ·refine ZP h2<|ZM Z<|ZP h2<|ZM Z<|ZP h2<|ZM Z<|ZP h2<|ZV (Y.idxN u Z Z Sortl2_es22 W W)<|ZP h2<|ZV (Y.ldA (enc := Le.cells) (d := d) (rest := rest) (e := 43) (i := u) Z Sortl2_ag43 (Kn.at 0 rfl) Le.enc1 WB rfl)<|ZP h2<|ZM Z<|ZP h2<|ZM Z<|ZP h2<|ZV (Y.subN ((u - 1 : Nat) : Int) rfl rfl W W)<|?_
    refine ZP h2<|ZV (Y.idxN (u - 1) rfl rfl Sortl2_es22 W W)<|ZP h2<|ZV (Y.ldA (enc := Le.cells) (d := d) (rest := rest) (e := 43) (i := (u - 1)) rfl Sortl2_ag43 (Kn.at 0 rfl) Le.enc1 WB rfl)<|ZP h2<|RunQ.call0 (l := [.tmp 27,.tmp 32]) Z Z Z (lt Z) ((hcmp (d[u]!) (d[u - 1]!)).frame)<|ZP h2<|ZV (Y.int Z Z Z)<|ZP h2<|ZV (Y.not Z)<|ZV (Y.pick_t Z h2 Z)<|?_
    refine ZE<|Zg<|?_
    rcases Zsplit (decide ((cm (d[u]!) (d[u - 1]!)) < 0)) with ⟨h3,g3⟩ | ⟨h3,g3⟩ <;> try simp only [kb] at g3
    ·refine Tr.cond_f Z (congrArg Bool.not h3)<|Zx<|Zy<|Zy<|Zi<|?_
     exact ZX u ⟨m1.symm.trans (scanSorted_stop (by first | (left; omega) | (right; assumption))),m2,m3⟩
    ·refine Tr.cond_t Z (congrArg Bool.not h3)<|Zt<|Zg<|Zb<|Zr<|Zm Z<|Zv (Y.addN ((u + 1 : Nat) : Int) rfl rfl W W)<|Za Z<|Ze<|Zc<|?_
     exact ZR (u + 1 : Nat) ⟨(scanSorted_go W (by assumption)).trans m1,by omega,by omega⟩ W
   ·refine ZO h2 Z<|ZO h2 Z<|ZO h2 Z<|ZO h2 Z<|ZO h2 Z<|ZO h2 Z<|ZO h2 Z<|ZO h2 Z<|ZO h2 Z<|ZO h2 Z<|ZO h2 Z<|ZO h2 Z<|ZO h2 Z<|ZV (Y.pick_f Z h2 Z)<|ZE<|Zg<|?_
    refine Tr.cond_f Z Z<|Zx<|Zy<|Zy<|Zi<|?_
    exact ZX u ⟨m1.symm.trans (scanSorted_stop (by first | (left; omega) | (right; assumption))),m2,m3⟩
  ·rintro i2 ⟨f1,f2,f3⟩
   refine Zs<|Zs<|Zr<|Zm Z<|Zm Z<|Zv (Y.int Z Z Z)<|Ze<|Zg<|?_
   rcases Zsplit (((i2 : Nat) : Int) == ((y : Nat) : Int)) with ⟨h4,g4⟩ | ⟨h4,g4⟩ <;> try simp only [kb] at g4
   ·refine Tr.cond_t Z h4<|Zs<|Zr<|Za Z<|Ze<|Zg<|Zu<|Zn<|Zk<|Zn<|Zn<|Zk<|Zn<|Ex.keep [0]<|?_
    exact Ex.ret1 rfl rfl  ⟨rfl,by rw [← r1]; first | rw [pins_end W] | rw [pins_done W f1 W] | rw [pins_short W f1 W W],by rw [← r1]; (first | rw [pins_end W] | rw [pins_done W f1 W] | rw [pins_short W f1 W W]); rfl⟩
   ·refine Tr.cond_f Z h4<|Zt<|Zg<|Zs<|Zs<|Zr<|Zm Z<|Zm Z<|Zv (Y.subN ((y - x : Nat) : Int) rfl rfl W W)<|Zv (Y.int Z Z Z)<|Ze<|Zg<|?_
    rcases Zsplit (decide (((y - x : Nat) : Int) < 50)) with ⟨h5,g5⟩ | ⟨h5,g5⟩ <;> try simp only [kb] at g5
    ·refine Tr.cond_t Z h5<|Zs<|Zr<|Za Z<|Ze<|Zg<|Zu<|Zn<|Zk<|Zn<|Zn<|Zk<|Zn<|Ex.keep [0]<|?_
     exact Ex.ret1 rfl rfl  ⟨rfl,by rw [← r1]; first | rw [pins_end W] | rw [pins_done W f1 W] | rw [pins_short W f1 W W],by rw [← r1]; (first | rw [pins_end W] | rw [pins_done W f1 W] | rw [pins_short W f1 W W]); rfl⟩
    ·refine Tr.cond_f Z h5<|Zt<|Zg<|Zs<|Tr.anyT [(b,.cells (cel Le.cells d rest).toArray 43 (0,0))] 15 Sortl2_mo<|Zwm 0 Z Z (ZK 0 Z)<|Zwm 1 Z Z (ZK 0 Z)<|Zwm 2 Z Z (ZK 0 Z)<|Zwm 3 Z Z (ZK 0 Z)<|Zw 4 Z (ZK 0 Z) (fun _ => (Y.subN ((i2 - 1 : Nat) : Int) rfl rfl W W))<|Zwm 5 Z Z (ZK 0 Z)<|Zwm 6 Z Z (ZK 0 Z)<|Zw 7 Z (ZK 0 Z) (fun _ => (Y.subN ((i2 - 1 : Nat) : Int) rfl rfl W W))<|Zw 8 Z (ZK 0 Z) (fun _ => (Y.idxN (i2 - 1) rfl rfl Sortl2_es22 W W))<|?_
     refine ZT 9 0 Z Z (ZK 0 Z) (fun _ => (Y.ldA (enc := Le.cells) (d := d) (rest := rest) (e := 43) (i := (i2 - 1)) rfl Sortl2_ag43 Kn.vk1 Le.enc1 WB rfl))<|Zwm 10 Z Z (ZK 0 Z)<|Zwm 11 Z Z (ZK 0 Z)<|Zw 12 Z (ZK 0 Z) (fun _ => (Y.idxN i2 rfl rfl Sortl2_es22 W W))<|ZT 13 0 Z Z (ZK 0 Z) (fun _ => (Y.ldA (enc := Le.cells) (d := d) (rest := rest) (e := 43) (i := i2) rfl Sortl2_ag43 Kn.vk1 Le.enc1 WB rfl))<|?_
     refine Zw 14 Z (ZK 0 Z) (fun _ => (Y.idxN i2 rfl rfl Sortl2_es22 W W)) ?_
     refine RunT.one (i := 15) WK rfl  ?_
     refine Run.stD (enc := Le.cells) (d := d) (rest := rest) (e := 43) (i := i2) (s := 0) (d[i2 - 1]!) rfl rfl Sortl2_sz43 rfl Le.enc1 WB rfl<|Ze<|Zz 15<|?_
     refine RunT.one (i := 16) WK rfl  ?_
     refine Zv (Y.idxN (i2 - 1) rfl rfl Sortl2_es22 W W)<|Ze<|Zz 16<|?_
     refine RunT.one (i := 17) WK rfl  ?_
     refine Run.stD (enc := Le.cells) (d := (d).setIfInBounds i2 (d[i2 - 1]!)) (rest := rest) (e := 43) (i := (i2 - 1)) (s := 0) (d[i2]!) rfl rfl Sortl2_sz43 rfl Le.enc1 WB rfl<|Run.heapTo (H' := [sgD Le.cells 43 b rest (swp d i2 (i2 - 1))]) Z<|Ze<|Zz 17<|RunT.done WK<|Zg<|?_
     refine Tr.cutx (X := Array Le) (fun d2 => V) (fun d2 => [sgD Le.cells 43 b rest d2]) (fun d2 => [(0,.slice (some ⟨b,0,none⟩) n c),(1,.int .i64 ((x : Nat) : Int)),(2,.int .i64 ((y : Nat) : Int)),(3,.func (.func gf) #[] caps.toArray),(8,.bool false),(9,.int .i64 ((i2 : Nat) : Int)),(10,.int .i64 ((s : Nat) : Int))]) (fun d2 => fixDown (ltc cm) x i2 (swp d i2 (i2 - 1)) = d2 ∧ d2.size = n) ?_ ?_
     ·refine Zs<|Zr<|Zm Z<|Zm Z<|Zv (Y.subN ((i2 - x : Nat) : Int) rfl rfl W W)<|Zv (Y.int Z Z Z)<|Ze<|Zg<|?_
      rcases Zsplit (decide (((i2 - x : Nat) : Int) ≥ 2)) with ⟨h6,g6⟩ | ⟨h6,g6⟩ <;> try simp only [kb] at g6
      ·refine Tr.cond_t Z h6<|Zs<|Zr<|Zm Z<|Zv (Y.subN ((i2 - 1 : Nat) : Int) rfl rfl W W)<|Za Z<|Ze<|Zg<|Zb<|?_
       refine ZL (X := Nat × Array Le) (fun z0 => V) (fun z0 => [sgD Le.cells 43 b rest z0.2]) (fun z0 => [(0,.slice (some ⟨b,0,none⟩) n c),(1,.int .i64 ((x : Nat) : Int)),(2,.int .i64 ((y : Nat) : Int)),(3,.func (.func gf) #[] caps.toArray),(8,.bool false),(9,.int .i64 ((i2 : Nat) : Int)),(10,.int .i64 ((s : Nat) : Int)),(11,.int .i64 ((z0.1 : Nat) : Int))]) (fun z0 => shiftDown (ltc cm) z0.1 z0.2 = shiftDown (ltc cm) (i2 - 1) (swp d i2 (i2 - 1)) ∧ z0.2.size = n ∧ z0.1 < i2) (fun z0 => z0.1) (⟨i2 - 1,swp d i2 (i2 - 1)⟩ : Nat × Array Le) ⟨rfl,by simp only [swp_size]; exact r2,by (try dsimp only); omega⟩ ?_
       rintro ⟨j,f⟩ ⟨k1,k2,k3⟩
       try dsimp only at k1 k2 k3 ⊢
       refine Zs<|Zs<|Zr<|Zm Z<|Zv (Y.int Z Z Z)<|Ze<|Zg<|?_
       rcases Zsplit (decide (((j : Nat) : Int) ≥ 1)) with ⟨h7,g7⟩ | ⟨h7,g7⟩ <;> try simp only [kb] at g7
       ·refine Tr.cond_t Z h7<|Zt<|Zg<|Zs<|Zb<|Zs<|Zs<|Tr.quiet Sortl2_mo WK<|ZM Z<|ZM Z<|ZM Z<|ZV (Y.idxN j Z Z Sortl2_es22 W W)<|ZV (Y.ldA (enc := Le.cells) (d := f) (rest := rest) (e := 43) (i := j) Z Sortl2_ag43 (Kn.at 0 rfl) Le.enc1 WB rfl)<|ZM Z<|ZM Z<|ZV (Y.subN ((j - 1 : Nat) : Int) rfl rfl W W)<|?_
        refine ZV (Y.idxN (j - 1) rfl rfl Sortl2_es22 W W)<|ZV (Y.ldA (enc := Le.cells) (d := f) (rest := rest) (e := 43) (i := (j - 1)) rfl Sortl2_ag43 (Kn.at 0 rfl) Le.enc1 WB rfl)<|RunQ.call0 (l := [.tmp 76,.tmp 81]) Z Z Z (lt Z) ((hcmp (f[j]!) (f[j - 1]!)).frame)<|ZV (Y.int Z Z Z)<|ZV (Y.not Z)<|ZE<|Zg<|?_
        rcases Zsplit (decide ((cm (f[j]!) (f[j - 1]!)) < 0)) with ⟨h8,g8⟩ | ⟨h8,g8⟩ <;> try simp only [kb] at g8
        ·refine Tr.cond_f Z (congrArg Bool.not h8)<|Zt<|Zg<|Tr.anyT [(b,.cells (cel Le.cells f rest).toArray 43 (0,0))] 15 Sortl2_mo<|Zwm 0 Z Z (ZK 0 Z)<|Zwm 1 Z Z (ZK 0 Z)<|Zwm 2 Z Z (ZK 0 Z)<|Zwm 3 Z Z (ZK 0 Z)<|Zw 4 Z (ZK 0 Z) (fun _ => (Y.subN ((j - 1 : Nat) : Int) rfl rfl W W))<|Zwm 5 Z Z (ZK 0 Z)<|Zwm 6 Z Z (ZK 0 Z)<|Zw 7 Z (ZK 0 Z) (fun _ => (Y.subN ((j - 1 : Nat) : Int) rfl rfl W W))<|Zw 8 Z (ZK 0 Z) (fun _ => (Y.idxN (j - 1) rfl rfl Sortl2_es22 W W))<|?_
         refine ZT 9 0 Z Z (ZK 0 Z) (fun _ => (Y.ldA (enc := Le.cells) (d := f) (rest := rest) (e := 43) (i := (j - 1)) rfl Sortl2_ag43 Kn.vk1 Le.enc1 WB rfl))<|Zwm 10 Z Z (ZK 0 Z)<|Zwm 11 Z Z (ZK 0 Z)<|Zw 12 Z (ZK 0 Z) (fun _ => (Y.idxN j rfl rfl Sortl2_es22 W W))<|ZT 13 0 Z Z (ZK 0 Z) (fun _ => (Y.ldA (enc := Le.cells) (d := f) (rest := rest) (e := 43) (i := j) rfl Sortl2_ag43 Kn.vk1 Le.enc1 WB rfl))<|?_
         refine Zw 14 Z (ZK 0 Z) (fun _ => (Y.idxN j rfl rfl Sortl2_es22 W W)) ?_
         refine RunT.one (i := 15) WK rfl  ?_
         refine Run.stD (enc := Le.cells) (d := f) (rest := rest) (e := 43) (i := j) (s := 0) (f[j - 1]!) rfl rfl Sortl2_sz43 rfl Le.enc1 WB rfl<|Ze<|Zz 15<|?_
         refine RunT.one (i := 16) WK rfl  ?_
         refine Zv (Y.idxN (j - 1) rfl rfl Sortl2_es22 W W)<|Ze<|Zz 16<|?_
         refine RunT.one (i := 17) WK rfl  ?_
         refine Run.stD (enc := Le.cells) (d := (f).setIfInBounds j (f[j - 1]!)) (rest := rest) (e := 43) (i := (j - 1)) (s := 0) (f[j]!) rfl rfl Sortl2_sz43 rfl Le.enc1 WB rfl<|Run.heapTo (H' := [sgD Le.cells 43 b rest (swp f j (j - 1))]) Z<|Ze<|Zz 17<|RunT.done WK<|Zc<|Zg<|Zr<|Zm Z<|Zv (Y.subN ((j - 1 : Nat) : Int) rfl rfl W W)<|?_
         refine Za Z<|Ze<|?_
         exact ZR (⟨j - 1,swp f j (j - 1)⟩ : Nat × Array Le) ⟨(shiftDown_go W (by assumption)).trans k1,by simp only [swp_size]; exact k2,by (try dsimp only); omega⟩ (by dsimp only; omega)
        ·refine Tr.cond_t Z (congrArg Bool.not h8)<|Zx<|Zy<|Ex.exit_out Z<|Zy<|Zy<|Zi<|?_
         exact ZX f ⟨by unfold fixDown; first | rw [if_neg W] | (rw [if_pos W,← k1,shiftDown_stop (by first | (left; omega) | (right; assumption))]),by first | assumption | (simp only [swp_size]; assumption)⟩
       ·refine Tr.cond_f Z h7<|Zx<|Zy<|Zy<|Zi<|?_
        exact ZX f ⟨by unfold fixDown; first | rw [if_neg W] | (rw [if_pos W,← k1,shiftDown_stop (by first | (left; omega) | (right; assumption))]),by first | assumption | (simp only [swp_size]; assumption)⟩
      ·refine Tr.cond_f Z h6<|Zt<|?_
       exact ZX (swp d i2 (i2 - 1)) ⟨by unfold fixDown; first | rw [if_neg W] | (rw [if_pos W,← k1,shiftDown_stop (by first | (left; omega) | (right; assumption))]),by first | assumption | (simp only [swp_size]; assumption)⟩
     ·rintro d2 ⟨c1,c2⟩
      refine Zs<|Zr<|Zm Z<|Zm Z<|Zv (Y.subN ((y - i2 : Nat) : Int) rfl rfl W W)<|Zv (Y.int Z Z Z)<|Ze<|Zg<|?_
      rcases Zsplit (decide (((y - i2 : Nat) : Int) ≥ 2)) with ⟨h9,g9⟩ | ⟨h9,g9⟩ <;> try simp only [kb] at g9
      ·refine Tr.cond_t Z h9<|Zs<|Zr<|Zm Z<|Zv (Y.addN ((i2 + 1 : Nat) : Int) rfl rfl W W)<|Za Z<|Ze<|Zg<|Zb<|?_
       refine ZL (X := Nat × Array Le) (fun z0 => V) (fun z0 => [sgD Le.cells 43 b rest z0.2]) (fun z0 => [(0,.slice (some ⟨b,0,none⟩) n c),(1,.int .i64 ((x : Nat) : Int)),(2,.int .i64 ((y : Nat) : Int)),(3,.func (.func gf) #[] caps.toArray),(8,.bool false),(9,.int .i64 ((i2 : Nat) : Int)),(10,.int .i64 ((s : Nat) : Int)),(12,.int .i64 ((z0.1 : Nat) : Int))]) (fun z0 => shiftUp (ltc cm) y z0.1 z0.2 = shiftUp (ltc cm) y (i2 + 1) d2 ∧ z0.2.size = n ∧ i2 < z0.1) (fun z0 => y - z0.1) (⟨i2 + 1,d2⟩ : Nat × Array Le) ⟨rfl,c2,by (try dsimp only); omega⟩ ?_
       rintro ⟨j,f⟩ ⟨u1,u2,u3⟩
       try dsimp only at u1 u2 u3 ⊢
       refine Zs<|Zs<|Zr<|Zm Z<|Zm Z<|Zv (Y.int Z Z Z)<|Ze<|Zg<|?_
       rcases Zsplit (decide (((j : Nat) : Int) < ((y : Nat) : Int))) with ⟨h10,g10⟩ | ⟨h10,g10⟩ <;> try simp only [kb] at g10
       ·refine Tr.cond_t Z h10<|Zt<|Zg<|Zs<|Zb<|Zs<|Zs<|Tr.quiet Sortl2_mo WK<|ZM Z<|ZM Z<|ZM Z<|ZV (Y.idxN j Z Z Sortl2_es22 W W)<|ZV (Y.ldA (enc := Le.cells) (d := f) (rest := rest) (e := 43) (i := j) Z Sortl2_ag43 (Kn.at 0 rfl) Le.enc1 WB rfl)<|ZM Z<|ZM Z<|ZV (Y.subN ((j - 1 : Nat) : Int) rfl rfl W W)<|?_
        refine ZV (Y.idxN (j - 1) rfl rfl Sortl2_es22 W W)<|ZV (Y.ldA (enc := Le.cells) (d := f) (rest := rest) (e := 43) (i := (j - 1)) rfl Sortl2_ag43 (Kn.at 0 rfl) Le.enc1 WB rfl)<|RunQ.call0 (l := [.tmp 116,.tmp 121]) Z Z Z (lt Z) ((hcmp (f[j]!) (f[j - 1]!)).frame)<|ZV (Y.int Z Z Z)<|ZV (Y.not Z)<|ZE<|Zg<|?_
        rcases Zsplit (decide ((cm (f[j]!) (f[j - 1]!)) < 0)) with ⟨h11,g11⟩ | ⟨h11,g11⟩ <;> try simp only [kb] at g11
        ·refine Tr.cond_f Z (congrArg Bool.not h11)<|Zt<|Zg<|Tr.anyT [(b,.cells (cel Le.cells f rest).toArray 43 (0,0))] 15 Sortl2_mo<|Zwm 0 Z Z (ZK 0 Z)<|Zwm 1 Z Z (ZK 0 Z)<|Zwm 2 Z Z (ZK 0 Z)<|Zwm 3 Z Z (ZK 0 Z)<|Zw 4 Z (ZK 0 Z) (fun _ => (Y.subN ((j - 1 : Nat) : Int) rfl rfl W W))<|Zwm 5 Z Z (ZK 0 Z)<|Zwm 6 Z Z (ZK 0 Z)<|Zw 7 Z (ZK 0 Z) (fun _ => (Y.subN ((j - 1 : Nat) : Int) rfl rfl W W))<|Zw 8 Z (ZK 0 Z) (fun _ => (Y.idxN (j - 1) rfl rfl Sortl2_es22 W W))<|?_
         refine ZT 9 0 Z Z (ZK 0 Z) (fun _ => (Y.ldA (enc := Le.cells) (d := f) (rest := rest) (e := 43) (i := (j - 1)) rfl Sortl2_ag43 Kn.vk1 Le.enc1 WB rfl))<|Zwm 10 Z Z (ZK 0 Z)<|Zwm 11 Z Z (ZK 0 Z)<|Zw 12 Z (ZK 0 Z) (fun _ => (Y.idxN j rfl rfl Sortl2_es22 W W))<|ZT 13 0 Z Z (ZK 0 Z) (fun _ => (Y.ldA (enc := Le.cells) (d := f) (rest := rest) (e := 43) (i := j) rfl Sortl2_ag43 Kn.vk1 Le.enc1 WB rfl))<|?_
         refine Zw 14 Z (ZK 0 Z) (fun _ => (Y.idxN j rfl rfl Sortl2_es22 W W)) ?_
         refine RunT.one (i := 15) WK rfl  ?_
         refine Run.stD (enc := Le.cells) (d := f) (rest := rest) (e := 43) (i := j) (s := 0) (f[j - 1]!) rfl rfl Sortl2_sz43 rfl Le.enc1 WB rfl<|Ze<|Zz 15<|?_
         refine RunT.one (i := 16) WK rfl  ?_
         refine Zv (Y.idxN (j - 1) rfl rfl Sortl2_es22 W W)<|Ze<|Zz 16<|?_
         refine RunT.one (i := 17) WK rfl  ?_
         refine Run.stD (enc := Le.cells) (d := (f).setIfInBounds j (f[j - 1]!)) (rest := rest) (e := 43) (i := (j - 1)) (s := 0) (f[j]!) rfl rfl Sortl2_sz43 rfl Le.enc1 WB rfl<|Run.heapTo (H' := [sgD Le.cells 43 b rest (swp f j (j - 1))]) Z<|Ze<|Zz 17<|RunT.done WK<|Zc<|Zg<|Zr<|Zm Z<|Zv (Y.addN ((j + 1 : Nat) : Int) rfl rfl W W)<|?_
         refine Za Z<|Ze<|?_
         exact ZR (⟨j + 1,swp f j (j - 1)⟩ : Nat × Array Le) ⟨(shiftUp_go W (by assumption)).trans u1,by simp only [swp_size]; exact u2,by (try dsimp only); omega⟩ (by dsimp only; omega)
        ·refine Tr.cond_t Z (congrArg Bool.not h11)<|Zx<|Zy<|Ex.exit_out Z<|Zy<|Zy<|Zi<|Zc<|Zg<|Zr<|Zm Z<|Zv (Y.addN ((s + 1 : Nat) : Int) rfl rfl W W)<|Za Z<|Ze<|?_
         exact ZR (⟨s + 1,i2,f⟩ : Nat × Nat × Array Le) ⟨by dsimp only; rw [← r1,pins_go W f1 W W,c1]; unfold fixUp; first | rw [if_neg W] | (rw [if_pos W,← u1,shiftUp_stop (by first | (left; omega) | (right; assumption))]),by assumption,by (try dsimp only); omega,by (try dsimp only); omega,by (try dsimp only); omega⟩ (by dsimp only; omega)
       ·refine Tr.cond_f Z h10<|Zx<|Zy<|Zy<|Zi<|Zc<|Zg<|Zr<|Zm Z<|Zv (Y.addN ((s + 1 : Nat) : Int) rfl rfl W W)<|Za Z<|Ze<|?_
        exact ZR (⟨s + 1,i2,f⟩ : Nat × Nat × Array Le) ⟨by dsimp only; rw [← r1,pins_go W f1 W W,c1]; unfold fixUp; first | rw [if_neg W] | (rw [if_pos W,← u1,shiftUp_stop (by first | (left; omega) | (right; assumption))]),by assumption,by (try dsimp only); omega,by (try dsimp only); omega,by (try dsimp only); omega⟩ (by dsimp only; omega)
      ·refine Tr.cond_f Z h9<|Zt<|Zc<|Zg<|Zr<|Zm Z<|Zv (Y.addN ((s + 1 : Nat) : Int) rfl rfl W W)<|Za Z<|Ze<|?_
       exact ZR (⟨s + 1,i2,d2⟩ : Nat × Nat × Array Le) ⟨by dsimp only; rw [← r1,pins_go W f1 W W,c1]; unfold fixUp; first | rw [if_neg W] | (rw [if_pos W,← u1,shiftUp_stop (by first | (left; omega) | (right; assumption))]),by assumption,by (try dsimp only); omega,by (try dsimp only); omega,by (try dsimp only); omega⟩ (by dsimp only; omega)
 ·refine Tr.cond_f Z h1<|Zx<|Zy<|Zy<|Zi<|Zg<|Zs<|Zr<|Za Z<|Ze<|Zg<|Zu<|Ex.keep [0]<|?_
  exact Ex.ret1 rfl rfl  ⟨rfl,by rw [← r1]; first | rw [pins_end W] | rw [pins_done W f1 W] | rw [pins_short W f1 W W],by rw [← r1]; (first | rw [pins_end W] | rw [pins_done W f1 W] | rw [pins_short W f1 W W]); rfl⟩
theorem ord2_l {V : Vw} {n c b : Nat} {rest : List Value} {d0 : Array Le} {gf : FuncId} {caps : List Value} {cm : Le → Le → Int} {i j s bs : Nat}  (hN : n ≤ 1073741824) (hd : d0.size = n) (hi : i < n) (hj : j < n) (hs : s ≤ 1000)  (hcmp : ∀ x y : Le,Does Tryz.prog gf (.agg (Le.cells x).toArray :: .agg (Le.cells y).toArray :: caps) V [] (Pv (.int .i64 (cm x y)) V [])) (hswo : SWO (ltc cm))  : Does Tryz.prog 221 [.slice (some ⟨b,0,none⟩) n c,.int .i64 ((i : Nat) : Int),.int .i64 ((j : Nat) : Int),(pZ bs),.func (.func gf) #[] caps.toArray] V [sgD Le.cells 43 b rest d0,[(bs,.cells #[.int .i64 ((s : Nat) : Int)] 3 (0,0))]] (fun v V' H' => V' = V ∧ ∃ p q s' : Nat,v = .tuple #[.int .i64 (p : Int),.int .i64 (q : Int)] ∧ ((p = i ∧ q = j) ∨ (p = j ∧ q = i)) ∧ s' ≤ s + 1 ∧ H' = [sgD Le.cells 43 b rest d0,[(bs,.cells #[.int .i64 ((s' : Nat) : Int)] 3 (0,0))]]) := by
 refine Does.intro Tryz.func221 rfl rfl (le rfl) (fun B => ?_)
 refine Zs<|Zr<|Za Z<|Za Z<|Ze<|Zg<|Zs<|Zs<|Tr.quiet Sortl2_mo WK<|ZM Z<|ZM Z<|ZM Z<|ZV (Y.idxN j Z Z Sortl2_es22 W W)<|ZV (Y.ldA (enc := Le.cells) (d := d0) (rest := rest) (e := 43) (i := j) Z Sortl2_ag43 (Kn.at 0 rfl) Le.enc1 WB rfl)<|ZM Z<|ZM Z<|?_
 refine ZV (Y.idxN i Z Z Sortl2_es22 W W)<|ZV (Y.ldA (enc := Le.cells) (d := d0) (rest := rest) (e := 43) (i := i) Z Sortl2_ag43 (Kn.at 0 rfl) Le.enc1 WB rfl)<|RunQ.call0 (l := [.tmp 16,.tmp 20]) Z Z Z (lt Z) ((hcmp (d0[j]!) (d0[i]!)).frame)<|ZV (Y.int Z Z Z)<|ZE<|Zg<|?_
 rcases Zsplit (decide ((cm (d0[j]!) (d0[i]!)) < 0)) with ⟨h1,g1⟩ | ⟨h1,g1⟩ <;> try simp only [kb] at g1
 ·refine Tr.cond_t Z h1<|Zs<|Zr<|Zm Z<|Zv (Y.nilCheck Z)<|Zv (Y.load Z Sortl2_ts3 (Kn.at 1 Z) Z)<|Zv (Y.addN ((s + 1 : Nat) : Int) rfl rfl W W)<|Zv (Y.nilCheck Z)<|Run.store (s := [(bs,.cells #[.int .i64 ((s + 1 : Nat) : Int)] 3 (0,0))]) Z Z Sortl2_sz3 (i := 1) Z Z (le Z) Z Z<|Ze<|Zg<|Zs<|Zr<|Zm Z<|Zm Z<|Za Z<|?_
  refine Za Z<|Ze<|Zg<|Zu<|Zn<|Ex.keep [0,0]<|?_
  exact Ex.ret2 rfl rfl rfl  ⟨rfl,_,_,_,rfl,.inr ⟨rfl,rfl⟩,Nat.le_refl _,rfl⟩
 ·refine Tr.cond_f Z h1<|Zt<|Zg<|Zs<|Zr<|Zm Z<|Zm Z<|Za Z<|Za Z<|Ze<|Zg<|Zu<|Ex.keep [0,0]<|?_
  exact Ex.ret2 rfl rfl rfl  ⟨rfl,_,_,_,rfl,.inl ⟨rfl,rfl⟩,by omega,rfl⟩
theorem med_l {V : Vw} {n c b : Nat} {rest : List Value} {d0 : Array Le} {gf : FuncId} {caps : List Value} {cm : Le → Le → Int} {i j k s bs : Nat}  (hN : n ≤ 1073741824) (hd : d0.size = n) (hi : i < n) (hj : j < n) (hk : k < n) (hs : s ≤ 900)  (hcmp : ∀ x y : Le,Does Tryz.prog gf (.agg (Le.cells x).toArray :: .agg (Le.cells y).toArray :: caps) V [] (Pv (.int .i64 (cm x y)) V [])) (hswo : SWO (ltc cm))  : Does Tryz.prog 220 [.slice (some ⟨b,0,none⟩) n c,.int .i64 ((i : Nat) : Int),.int .i64 ((j : Nat) : Int),.int .i64 ((k : Nat) : Int),(pZ bs),.func (.func gf) #[] caps.toArray] V [sgD Le.cells 43 b rest d0,[(bs,.cells #[.int .i64 ((s : Nat) : Int)] 3 (0,0))]] (fun v V' H' => V' = V ∧ ∃ m s' : Nat,v = .int .i64 (m : Int) ∧ (m = i ∨ m = j ∨ m = k) ∧ s' ≤ s + 3 ∧ H' = [sgD Le.cells 43 b rest d0,[(bs,.cells #[.int .i64 ((s' : Nat) : Int)] 3 (0,0))]]) := by
 refine Does.intro Tryz.func220 rfl rfl (le rfl) (fun B => ?_)
 refine Zs<|Zr<|Za Z<|Ze<|Zg<|Zs<|Zr<|Zm Z<|Zm Z<|Zm Z<|Zm Z<|Zm Z<|?_
 refine Run.call [0,0] (l := [.tmp 14,.tmp 15,.tmp 16,.tmp 17,.tmp 18]) rfl rfl rfl (lt rfl) (ord2_l (i := i) (j := j) (s := s) hN hd W W W hcmp hswo) (fun v1 V2 H2 hle2 hR => ?_)
 obtain ⟨hV,m6,m7,s3,rfl,hq5,hs4,rfl⟩ := hR; replace hV := hV.symm; subst hV
 refine Run.heapTo (H' := [sgD Le.cells 43 b rest d0,[(bs,.cells #[.int .i64 ((s3 : Nat) : Int)] 3 (0,0))]]) Z<|Zm Z<|Zv (Y.extract Z Z)<|Zv (Y.extract Z Z)<|Za Z<|Za Z<|Ze<|Zg<|Zs<|Zr<|Zm Z<|Zm Z<|Zm Z<|Zm Z<|Zm Z<|?_
 refine Run.call [0,0] (l := [.tmp 23,.tmp 24,.tmp 25,.tmp 26,.tmp 27]) rfl rfl rfl (lt rfl) (ord2_l (i := m7) (j := k) (s := s3) hN hd W W W hcmp hswo) (fun v8 V2 H2 hle9 hR => ?_)
 obtain ⟨hV,m13,m14,s10,rfl,hq12,hs11,rfl⟩ := hR; replace hV := hV.symm; subst hV
 refine Run.heapTo (H' := [sgD Le.cells 43 b rest d0,[(bs,.cells #[.int .i64 ((s10 : Nat) : Int)] 3 (0,0))]]) Z<|Zm Z<|Zv (Y.extract Z Z)<|Zv (Y.extract Z Z)<|Za Z<|Za Z<|Ze<|Zg<|Zs<|Zr<|Zm Z<|Zm Z<|Zm Z<|Zm Z<|Zm Z<|?_
 refine Run.call [0,0] (l := [.tmp 32,.tmp 33,.tmp 34,.tmp 35,.tmp 36]) rfl rfl rfl (lt rfl) (ord2_l (i := m6) (j := m13) (s := s10) hN hd W W W hcmp hswo) (fun v15 V2 H2 hle16 hR => ?_)
 obtain ⟨hV,m20,m21,s17,rfl,hq19,hs18,rfl⟩ := hR; replace hV := hV.symm; subst hV
 refine Run.heapTo (H' := [sgD Le.cells 43 b rest d0,[(bs,.cells #[.int .i64 ((s17 : Nat) : Int)] 3 (0,0))]]) Z<|Zm Z<|Zv (Y.extract Z Z)<|Zv (Y.extract Z Z)<|Za Z<|Za Z<|Ze<|Zg<|Zs<|Zr<|Zm Z<|Za Z<|Ze<|Zg<|Zu<|Ex.keep [0,0]<|?_
 exact Ex.ret1 rfl rfl  ⟨rfl,_,_,rfl,by omega,by omega,rfl⟩
theorem meda_l {V : Vw} {n c b : Nat} {rest : List Value} {d0 : Array Le} {gf : FuncId} {caps : List Value} {cm : Le → Le → Int} {i s bs : Nat}  (hN : n ≤ 1073741824) (hd : d0.size = n) (h1 : 1 ≤ i) (hi : i + 1 < n) (hs : s ≤ 900)  (hcmp : ∀ x y : Le,Does Tryz.prog gf (.agg (Le.cells x).toArray :: .agg (Le.cells y).toArray :: caps) V [] (Pv (.int .i64 (cm x y)) V [])) (hswo : SWO (ltc cm))  : Does Tryz.prog 219 [.slice (some ⟨b,0,none⟩) n c,.int .i64 ((i : Nat) : Int),(pZ bs),.func (.func gf) #[] caps.toArray] V [sgD Le.cells 43 b rest d0,[(bs,.cells #[.int .i64 ((s : Nat) : Int)] 3 (0,0))]] (fun v V' H' => V' = V ∧ ∃ m s' : Nat,v = .int .i64 (m : Int) ∧ (m = i - 1 ∨ m = i ∨ m = i + 1) ∧ s' ≤ s + 3 ∧ H' = [sgD Le.cells 43 b rest d0,[(bs,.cells #[.int .i64 ((s' : Nat) : Int)] 3 (0,0))]]) := by
 refine Does.intro Tryz.func219 rfl rfl (le rfl) (fun B => ?_)
 refine Zs<|Zr<|Za Z<|Ze<|Zg<|Zs<|Zr<|Zm Z<|Zm Z<|Zv (Y.subN ((i - 1 : Nat) : Int) rfl rfl W W)<|Zm Z<|Zm Z<|Zv (Y.addN ((i + 1 : Nat) : Int) rfl rfl W W)<|Zm Z<|Zm Z<|?_
 refine Run.call [0,0] (l := [.tmp 9,.tmp 11,.tmp 12,.tmp 14,.tmp 15,.tmp 16]) rfl rfl rfl (lt rfl) (med_l (i := i - 1) (j := i) (k := i + 1) (s := s) hN hd W W W W hcmp hswo) (fun v1 V2 H2 hle2 hR => ?_)
 obtain ⟨hV,m6,s3,rfl,hq5,hs4,rfl⟩ := hR; replace hV := hV.symm; subst hV
 refine Run.heapTo (H' := [sgD Le.cells 43 b rest d0,[(bs,.cells #[.int .i64 ((s3 : Nat) : Int)] 3 (0,0))]]) Z<|Za Z<|Ze<|Zg<|Zu<|Ex.keep [0,0]<|?_
 exact Ex.ret1 rfl rfl  ⟨rfl,_,_,rfl,by omega,by omega,rfl⟩
set_option maxHeartbeats 2000000 in
theorem pivot_l {V : Vw} {n c b : Nat} {rest : List Value} {d0 : Array Le} {gf : FuncId} {caps : List Value} {cm : Le → Le → Int} {x y : Nat}  (hN : n ≤ 1073741824) (hd : d0.size = n) (hx : x < y) (hy : y ≤ n)  (hcmp : ∀ x y : Le,Does Tryz.prog gf (.agg (Le.cells x).toArray :: .agg (Le.cells y).toArray :: caps) V [] (Pv (.int .i64 (cm x y)) V [])) (hswo : SWO (ltc cm))  : Does Tryz.prog 213 [.slice (some ⟨b,0,none⟩) n c,.int .i64 ((x : Nat) : Int),.int .i64 ((y : Nat) : Int),.func (.func gf) #[] caps.toArray] V [sgD Le.cells 43 b rest d0] (fun v V' H' => V' = V ∧ ∃ (p : Nat) (h : Int),v = .tuple #[.int .i64 (p : Int),.int .i64 h] ∧ x ≤ p ∧ p < y ∧ H' = [sgD Le.cells 43 b rest d0]) := by
 refine Does.intro Tryz.func213 rfl rfl (le rfl) (fun B => ?_)
 refine Zs<|Zr<|Za Z<|Za Z<|Ze<|Zg<|Zs<|Zr<|Zm Z<|Zm Z<|Zv (Y.subN ((y - x : Nat) : Int) rfl rfl W W)<|Za Z<|Ze<|Zg<|Zs<|Zr<|?_
 refine Run.alloc Sortl2_zo3 (lt rfl) (fun b1 => ?_)
 refine Ze<|Zg<|Zs<|Zr<|Zm Z<|Zm Z<|Zv (Y.quoN (m := y - x) (n := 4) Z Z W W)<|Zv (Y.mulN ((((y - x) / 4) * 1 : Nat) : Int) rfl rfl W W)<|Zv (Y.addN ((x + (((y - x) / 4) * 1) : Nat) : Int) rfl rfl W W)<|Za Z<|Ze<|Zg<|Zs<|Zr<|Zm Z<|Zm Z<|?_
 refine Zv (Y.quoN (m := y - x) (n := 4) Z Z W W)<|Zv (Y.mulN ((((y - x) / 4) * 2 : Nat) : Int) rfl rfl W W)<|Zv (Y.addN ((x + (((y - x) / 4) * 2) : Nat) : Int) rfl rfl W W)<|Za Z<|Ze<|Zg<|Zs<|Zr<|Zm Z<|Zm Z<|Zv (Y.quoN (m := y - x) (n := 4) Z Z W W)<|Zv (Y.mulN ((((y - x) / 4) * 3 : Nat) : Int) rfl rfl W W)<|Zv (Y.addN ((x + (((y - x) / 4) * 3) : Nat) : Int) rfl rfl W W)<|?_
 refine Za Z<|Ze<|Zg<|Zs<|Zs<|Zr<|Zm Z<|Zv (Y.int Z Z Z)<|Ze<|Zg<|?_
 rcases Zsplit (decide (((y - x : Nat) : Int) ≥ 8)) with ⟨h2,g2⟩ | ⟨h2,g2⟩ <;> try simp only [kb] at g2
 ·refine Tr.cond_t Z h2<|Zs<|Zs<|Zr<|Zm Z<|Zv (Y.int Z Z Z)<|Ze<|Zg<|?_
  rcases Zsplit (decide (((y - x : Nat) : Int) ≥ 50)) with ⟨h3,g3⟩ | ⟨h3,g3⟩ <;> try simp only [kb] at g3
  ·refine Tr.cond_t Z h3<|Zs<|Zr<|Zm Z<|Zm Z<|Zm Z<|?_
   refine Run.call [1,0] (l := [.tmp 37,.tmp 38,.tmp 11,.tmp 39]) rfl rfl rfl (lt rfl) (meda_l (i := x + (((y - x) / 4) * 1)) (s := 0) hN hd W W W hcmp hswo) (fun v4 V2 H2 hle5 hR => ?_)
   obtain ⟨hV,m9,s6,rfl,hq8,hs7,rfl⟩ := hR; replace hV := hV.symm; subst hV
   refine Run.heapTo (H' := [sgD Le.cells 43 b rest d0,[(b1,.cells #[.int .i64 ((s6 : Nat) : Int)] 3 (0,0))]]) Z<|Za Z<|Ze<|Zg<|Zs<|Zr<|Zm Z<|Zm Z<|Zm Z<|?_
   refine Run.call [0,0] (l := [.tmp 41,.tmp 42,.tmp 11,.tmp 43]) rfl rfl rfl (lt rfl) (meda_l (i := x + (((y - x) / 4) * 2)) (s := s6) hN hd W W W hcmp hswo) (fun v10 V2 H2 hle11 hR => ?_)
   obtain ⟨hV,m15,s12,rfl,hq14,hs13,rfl⟩ := hR; replace hV := hV.symm; subst hV
   refine Run.heapTo (H' := [sgD Le.cells 43 b rest d0,[(b1,.cells #[.int .i64 ((s12 : Nat) : Int)] 3 (0,0))]]) Z<|Za Z<|Ze<|Zg<|Zr<|Zm Z<|Zm Z<|Zm Z<|?_
   refine Run.call [0,0] (l := [.tmp 45,.tmp 46,.tmp 11,.tmp 47]) rfl rfl rfl (lt rfl) (meda_l (i := x + (((y - x) / 4) * 3)) (s := s12) hN hd W W W hcmp hswo) (fun v16 V2 H2 hle17 hR => ?_)
   obtain ⟨hV,m21,s18,rfl,hq20,hs19,rfl⟩ := hR; replace hV := hV.symm; subst hV
   refine Run.heapTo (H' := [sgD Le.cells 43 b rest d0,[(b1,.cells #[.int .i64 ((s18 : Nat) : Int)] 3 (0,0))]]) Z<|Za Z<|Ze<|Zg<|Zr<|Zm Z<|Zm Z<|Zm Z<|Zm Z<|Zm Z<|?_
   refine Run.call [0,0] (l := [.tmp 49,.tmp 50,.tmp 51,.tmp 52,.tmp 11,.tmp 53]) rfl rfl rfl (lt rfl) (med_l (i := m9) (j := m15) (k := m21) (s := s18) hN hd W W W W hcmp hswo) (fun v22 V2 H2 hle23 hR => ?_)
   obtain ⟨hV,m27,s24,rfl,hq26,hs25,rfl⟩ := hR; replace hV := hV.symm; subst hV
   refine Run.heapTo (H' := [sgD Le.cells 43 b rest d0,[(b1,.cells #[.int .i64 ((s24 : Nat) : Int)] 3 (0,0))]]) Z<|Za Z<|Ze<|Zg<|Zs<|Zr<|Zv (Y.load Z Sortl2_ts3 (Kn.at 1 Z) Z)<|Ze<|Zg<|Zb<|Zs<|Zr<|Zv (Y.int Z Z Z)<|Za Z<|Ze<|Zg<|?_
   rcases Zsplit (((s24 : Nat) : Int) == 0) with ⟨h28,g28⟩ | ⟨h28,g28⟩ <;> try simp only [kb] at g28
   ·refine Tr.cond_t Z h28<|Zs<|Zr<|Zm Z<|Za Z<|Za Z<|Ze<|Zg<|Zu<|Zk<|Ex.keep [0]<|?_
    exact Ex.ret2 rfl rfl rfl  ⟨rfl,_,_,rfl,by omega,by omega,rfl⟩
   ·refine Tr.cond_f Z h28<|Zs<|Zr<|Zv (Y.int Z Z Z)<|Za Z<|Ze<|Zg<|?_
    rcases Zsplit (((s24 : Nat) : Int) == 12) with ⟨h29,g29⟩ | ⟨h29,g29⟩ <;> try simp only [kb] at g29
    ·refine Tr.cond_t Z h29<|Zs<|Zr<|Zm Z<|Za Z<|Za Z<|Ze<|Zg<|Zu<|Zk<|Ex.keep [0]<|?_
     exact Ex.ret2 rfl rfl rfl  ⟨rfl,_,_,rfl,by omega,by omega,rfl⟩
    ·refine Tr.cond_f Z h29<|Zs<|Zr<|Zm Z<|Za Z<|Za Z<|Ze<|Zg<|Zu<|Zk<|Ex.keep [0]<|?_
     exact Ex.ret2 rfl rfl rfl  ⟨rfl,_,_,rfl,by omega,by omega,rfl⟩
  ·refine Tr.cond_f Z h3<|Zt<|Zg<|Zr<|Zm Z<|Zm Z<|Zm Z<|Zm Z<|Zm Z<|?_
   refine Run.call [1,0] (l := [.tmp 49,.tmp 50,.tmp 51,.tmp 52,.tmp 11,.tmp 53]) rfl rfl rfl (lt rfl) (med_l (i := x + (((y - x) / 4) * 1)) (j := x + (((y - x) / 4) * 2)) (k := x + (((y - x) / 4) * 3)) (s := 0) hN hd W W W W hcmp hswo) (fun v30 V2 H2 hle31 hR => ?_)
   obtain ⟨hV,m35,s32,rfl,hq34,hs33,rfl⟩ := hR; replace hV := hV.symm; subst hV
   refine Run.heapTo (H' := [sgD Le.cells 43 b rest d0,[(b1,.cells #[.int .i64 ((s32 : Nat) : Int)] 3 (0,0))]]) Z<|Za Z<|Ze<|Zg<|Zs<|Zr<|Zv (Y.load Z Sortl2_ts3 (Kn.at 1 Z) Z)<|Ze<|Zg<|Zb<|Zs<|Zr<|Zv (Y.int Z Z Z)<|Za Z<|Ze<|Zg<|?_
   rcases Zsplit (((s32 : Nat) : Int) == 0) with ⟨h36,g36⟩ | ⟨h36,g36⟩ <;> try simp only [kb] at g36
   ·refine Tr.cond_t Z h36<|Zs<|Zr<|Zm Z<|Za Z<|Za Z<|Ze<|Zg<|Zu<|Zk<|Ex.keep [0]<|?_
    exact Ex.ret2 rfl rfl rfl  ⟨rfl,_,_,rfl,by omega,by omega,rfl⟩
   ·refine Tr.cond_f Z h36<|Zs<|Zr<|Zv (Y.int Z Z Z)<|Za Z<|Ze<|Zg<|?_
    rcases Zsplit (((s32 : Nat) : Int) == 12) with ⟨h37,g37⟩ | ⟨h37,g37⟩ <;> try simp only [kb] at g37
    ·refine Tr.cond_t Z h37<|Zs<|Zr<|Zm Z<|Za Z<|Za Z<|Ze<|Zg<|Zu<|Zk<|Ex.keep [0]<|?_
     exact Ex.ret2 rfl rfl rfl  ⟨rfl,_,_,rfl,by omega,by omega,rfl⟩
    ·refine Tr.cond_f Z h37<|Zs<|Zr<|Zm Z<|Za Z<|Za Z<|Ze<|Zg<|Zu<|Zk<|Ex.keep [0]<|?_
     exact Ex.ret2 rfl rfl rfl  ⟨rfl,_,_,rfl,by omega,by omega,rfl⟩
 ·refine Tr.cond_f Z h2<|Zt<|Zg<|Zs<|Zr<|Zv (Y.load Z Sortl2_ts3 (Kn.at 0 Z) Z)<|Ze<|Zg<|Zb<|Zs<|Zr<|Zv (Y.int (r := .bool true) Z Z Z)<|Za Z<|Ze<|Zg<|Tr.cond_t Z Z<|?_
  refine Zs<|Zr<|Zm Z<|Za Z<|Za Z<|Ze<|Zg<|Zu<|Zk<|Ex.keep [1]<|?_
  exact Ex.ret2 rfl rfl rfl  ⟨rfl,_,_,rfl,by omega,by omega,rfl⟩
theorem brk_l {V : Vw} {n c b : Nat} {rest : List Value} {d0 : Array Le} {gf : FuncId} {caps : List Value} {cm : Le → Le → Int} {x y : Nat}  (hN : n ≤ 1073741824) (hd : d0.size = n) (hx : x < y) (hy : y ≤ n)  (hcmp : ∀ x y : Le,Does Tryz.prog gf (.agg (Le.cells x).toArray :: .agg (Le.cells y).toArray :: caps) V [] (Pv (.int .i64 (cm x y)) V [])) (hswo : SWO (ltc cm))  : Does Tryz.prog 212 [.slice (some ⟨b,0,none⟩) n c,.int .i64 ((x : Nat) : Int),.int .i64 ((y : Nat) : Int),.func (.func gf) #[] caps.toArray] V [sgD Le.cells 43 b rest d0] (fun v V' H' => V' = V ∧ v = .tuple #[] ∧ ∃ d1,PermIn x y d0 d1 ∧ H' = [sgD Le.cells 43 b rest d1]) := by
 refine Does.intro Tryz.func212 rfl rfl (le rfl) (fun B => ?_)
 refine Zs<|Zr<|Zm Z<|Zm Z<|Zv (Y.subN ((y - x : Nat) : Int) rfl rfl W W)<|Za Z<|Ze<|Zg<|Zs<|Zr<|Zm Z<|Zv (Y.int Z Z Z)<|Ze<|Zg<|?_
 rcases Zsplit (decide (((y - x : Nat) : Int) ≥ 8)) with ⟨h1,g1⟩ | ⟨h1,g1⟩ <;> try simp only [kb] at g1
 ·refine Tr.cond_t Z h1<|Zs<|Zr<|Zm Z<|Zv (Y.conv (((y - x : Nat) : Int)) rfl Sortl2_it3_222 (wrap_u64 W))<|?_
  refine Run.alloc Sortl2_zo222 (lt rfl) (fun b2 => ?_)
  refine Run.store (s := [(b2,.cells #[.int .u64 ((y - x : Nat) : Int)] 222 (0,0))]) Z Z Sortl2_sz222 (i := 0) Z Z (le Z) Z Z<|Ze<|Zg<|Zs<|Zr<|Zm Z<|?_
  refine Run.call [] (l := [.tmp 20]) rfl rfl rfl (lt rfl) (npow_0 (m := y - x) W W) (fun v V2 H2 hle hR => ?_)
  obtain ⟨hV,⟨M,rfl,hM1,hM2⟩,rfl⟩ := hR; replace hV := hV.symm; subst hV
  refine Run.heapTo (H' := [[(b2,.cells #[.int .u64 ((y - x : Nat) : Int)] 222 (0,0))],sgD Le.cells 43 b rest d0]) Z<|Za Z<|Ze<|Zg<|Zs<|Zr<|Zm Z<|Zm Z<|Zv (Y.quoN (m := y - x) (n := 4) Z Z W W)<|Zv (Y.mulN ((((y - x) / 4) * 2 : Nat) : Int) rfl rfl W W)<|Zv (Y.addN ((x + (((y - x) / 4) * 2) : Nat) : Int) rfl rfl W W)<|Zv (Y.subN (((x + (((y - x) / 4) * 2)) - 1 : Nat) : Int) rfl rfl W W)<|?_
  refine Za Z<|Ze<|Zg<|Zb<|?_
  refine ZL (X := Nat × Int × Array Le) (fun z0 => V) (fun z0 => [[(b2,.cells #[.int .u64 z0.2.1] 222 (0,0))],sgD Le.cells 43 b rest z0.2.2]) (fun z0 => [(0,.slice (some ⟨b,0,none⟩) n c),(1,.int .i64 ((x : Nat) : Int)),(2,.int .i64 ((y : Nat) : Int)),(3,.func (.func gf) #[] caps.toArray),(8,.int .i64 ((y - x : Nat) : Int)),(9,(pZ b2)),(10,.int .u64 ((M : Nat) : Int)),(11,.int .i64 ((z0.1 : Nat) : Int))]) (fun z0 => PermIn x y d0 z0.2.2 ∧ z0.2.2.size = n ∧ x + (y - x) / 4 * 2 ≤ z0.1 + 1 ∧ z0.1 ≤ x + (y - x) / 4 * 2 + 2) (fun z0 => x + (y - x) / 4 * 2 + 2 - z0.1) (⟨(x + ((y - x) / 4) * 2) - 1,((y - x : Nat) : Int),d0⟩ : Nat × Int × Array Le) ⟨permIn_refl _ _ _,hd,by (try dsimp only); omega,by (try dsimp only); omega⟩ ?_
  rintro ⟨i,r,d⟩ ⟨r1,k2,r3,r4⟩
  try dsimp only at r1 k2 r3 r4 ⊢
  refine Zs<|Zs<|Zr<|Zm Z<|Zm Z<|Zm Z<|Zv (Y.quoN (m := y - x) (n := 4) Z Z W W)<|Zv (Y.mulN ((((y - x) / 4) * 2 : Nat) : Int) rfl rfl W W)<|Zv (Y.addN ((x + (((y - x) / 4) * 2) : Nat) : Int) rfl rfl W W)<|Zv (Y.addN (((x + (((y - x) / 4) * 2)) + 1 : Nat) : Int) rfl rfl W W)<|Zv (Y.int Z Z Z)<|Ze<|Zg<|?_
  rcases Zsplit (decide (((i : Nat) : Int) ≤ (((x + (((y - x) / 4) * 2)) + 1 : Nat) : Int))) with ⟨h3,g3⟩ | ⟨h3,g3⟩ <;> try simp only [kb] at g3
  ·refine Tr.cond_t Z h3<|Zt<|Zg<|Zs<|Zb<|Zs<|Zr<|?_
   refine Run.call [0] (l := [.tmp 9]) rfl rfl rfl (lt rfl) next_0 (fun v V2 H2 hle hR => ?_)
   obtain ⟨hV,r2,rfl,rfl⟩ := hR; replace hV := hV.symm; subst hV
   refine Run.heapTo (H' := [sgD Le.cells 43 b rest d,[(b2,.cells #[.int .u64 r2] 222 (0,0))]]) Z<|Zm Z<|Zv (Y.int (r := .int .u64 ((M - 1 : Nat) : Int)) rfl rfl (subU W W))<|?_
   obtain ⟨o,ho1,ho2⟩ := andU_nat (a := r2) (m := M - 1) W
   refine Zv (Y.int (r := .int .u64 ((o : Nat) : Int)) rfl rfl (congrArg (fun z => some (Value.int .u64 z)) ho1))<|Zv (Y.conv (((o : Nat) : Int)) rfl Sortl2_it195_3 (wrap_i64 W))<|Za Z<|Ze<|Zg<|Zs<|Zs<|Zr<|Zm Z<|Zm Z<|Zv (Y.int Z Z Z)<|Ze<|Zg<|?_
   rcases Zsplit (decide (((o : Nat) : Int) ≥ ((y - x : Nat) : Int))) with ⟨h4,g4⟩ | ⟨h4,g4⟩ <;> try simp only [kb] at g4
   ·refine Tr.cond_t Z h4<|Zr<|Zm Z<|Zm Z<|Zv (Y.subN ((o - (y - x) : Nat) : Int) rfl rfl W W)<|Za Z<|Ze<|Zg<|Tr.anyT [(b,.cells (cel Le.cells d rest).toArray 43 (0,0))] 17 Sortl2_mo<|Zwm 0 Z Z (ZK 0 Z)<|Zwm 1 Z Z (ZK 0 Z)<|Zwm 2 Z Z (ZK 0 Z)<|Zwm 3 Z Z (ZK 0 Z)<|Zwm 4 Z Z (ZK 0 Z)<|Zw 5 Z (ZK 0 Z) (fun _ => (Y.addN ((x + (o - (y - x)) : Nat) : Int) rfl rfl W W))<|Zwm 6 Z Z (ZK 0 Z)<|?_
    refine Zwm 7 Z Z (ZK 0 Z)<|Zwm 8 Z Z (ZK 0 Z)<|Zw 9 Z (ZK 0 Z) (fun _ => (Y.addN ((x + (o - (y - x)) : Nat) : Int) rfl rfl W W))<|Zw 10 Z (ZK 0 Z) (fun _ => (Y.idxN (x + (o - (y - x))) rfl rfl Sortl2_es22 W W))<|ZT 11 0 Z Z (ZK 0 Z) (fun _ => (Y.ldA (enc := Le.cells) (d := d) (rest := rest) (e := 43) (i := (x + (o - (y - x)))) rfl Sortl2_ag43 Kn.vk1 Le.enc1 WB rfl))<|?_
    refine Zwm 12 Z Z (ZK 0 Z)<|Zwm 13 Z Z (ZK 0 Z)<|Zw 14 Z (ZK 0 Z) (fun _ => (Y.idxN i rfl rfl Sortl2_es22 W W))<|ZT 15 0 Z Z (ZK 0 Z) (fun _ => (Y.ldA (enc := Le.cells) (d := d) (rest := rest) (e := 43) (i := i) rfl Sortl2_ag43 Kn.vk1 Le.enc1 WB rfl))<|Zw 16 Z (ZK 0 Z) (fun _ => (Y.idxN i rfl rfl Sortl2_es22 W W))<|?_
    refine RunT.one (i := 17) WK rfl  ?_
    refine Run.stD (enc := Le.cells) (d := d) (rest := rest) (e := 43) (i := i) (s := 0) (d[x + (o - (y - x))]!) rfl rfl Sortl2_sz43 rfl Le.enc1 WB rfl<|Ze<|Zz 17<|?_
    refine RunT.one (i := 18) WK rfl  ?_
    refine Zv (Y.idxN (x + (o - (y - x))) rfl rfl Sortl2_es22 W W)<|Ze<|Zz 18<|?_
    refine RunT.one (i := 19) WK rfl  ?_
    refine Run.stD (enc := Le.cells) (d := (d).setIfInBounds i (d[x + (o - (y - x))]!)) (rest := rest) (e := 43) (i := (x + (o - (y - x)))) (s := 0) (d[i]!) rfl rfl Sortl2_sz43 rfl Le.enc1 WB rfl<|Run.heapTo (H' := [sgD Le.cells 43 b rest (swp d i (x + (o - (y - x)))),[(b2,.cells #[.int .u64 r2] 222 (0,0))]]) Z<|Ze<|Zz 19<|RunT.done WK<|?_
    refine Zc<|Zg<|Zr<|Zm Z<|Zv (Y.addN ((i + 1 : Nat) : Int) rfl rfl W W)<|Za Z<|Ze<|Ex.keep [1,0]<|?_
    exact ZR (⟨i + 1,r2,swp d i (x + (o - (y - x)))⟩ : Nat × Int × Array Le) ⟨permIn_trans _ _ _ _ _ r1 (swp_permIn _ x y _ _ W W W W W),by simp only [swp_size]; exact k2,by (try dsimp only); omega,by (try dsimp only); omega⟩ (by dsimp only; omega)
   ·refine Tr.cond_f Z h4<|Zt<|Zg<|Tr.anyT [(b,.cells (cel Le.cells d rest).toArray 43 (0,0))] 17 Sortl2_mo<|Zwm 0 Z Z (ZK 0 Z)<|Zwm 1 Z Z (ZK 0 Z)<|Zwm 2 Z Z (ZK 0 Z)<|Zwm 3 Z Z (ZK 0 Z)<|Zwm 4 Z Z (ZK 0 Z)<|Zw 5 Z (ZK 0 Z) (fun _ => (Y.addN ((x + o : Nat) : Int) rfl rfl W W))<|Zwm 6 Z Z (ZK 0 Z)<|Zwm 7 Z Z (ZK 0 Z)<|Zwm 8 Z Z (ZK 0 Z)<|Zw 9 Z (ZK 0 Z) (fun _ => (Y.addN ((x + o : Nat) : Int) rfl rfl W W))<|?_
    refine Zw 10 Z (ZK 0 Z) (fun _ => (Y.idxN (x + o) rfl rfl Sortl2_es22 W W))<|ZT 11 0 Z Z (ZK 0 Z) (fun _ => (Y.ldA (enc := Le.cells) (d := d) (rest := rest) (e := 43) (i := (x + o)) rfl Sortl2_ag43 Kn.vk1 Le.enc1 WB rfl))<|Zwm 12 Z Z (ZK 0 Z)<|Zwm 13 Z Z (ZK 0 Z)<|Zw 14 Z (ZK 0 Z) (fun _ => (Y.idxN i rfl rfl Sortl2_es22 W W))<|?_
    refine ZT 15 0 Z Z (ZK 0 Z) (fun _ => (Y.ldA (enc := Le.cells) (d := d) (rest := rest) (e := 43) (i := i) rfl Sortl2_ag43 Kn.vk1 Le.enc1 WB rfl))<|Zw 16 Z (ZK 0 Z) (fun _ => (Y.idxN i rfl rfl Sortl2_es22 W W))<|?_
    refine RunT.one (i := 17) WK rfl  ?_
    refine Run.stD (enc := Le.cells) (d := d) (rest := rest) (e := 43) (i := i) (s := 0) (d[x + o]!) rfl rfl Sortl2_sz43 rfl Le.enc1 WB rfl<|Ze<|Zz 17<|?_
    refine RunT.one (i := 18) WK rfl  ?_
    refine Zv (Y.idxN (x + o) rfl rfl Sortl2_es22 W W)<|Ze<|Zz 18<|?_
    refine RunT.one (i := 19) WK rfl  ?_
    refine Run.stD (enc := Le.cells) (d := (d).setIfInBounds i (d[x + o]!)) (rest := rest) (e := 43) (i := (x + o)) (s := 0) (d[i]!) rfl rfl Sortl2_sz43 rfl Le.enc1 WB rfl<|Run.heapTo (H' := [sgD Le.cells 43 b rest (swp d i (x + o)),[(b2,.cells #[.int .u64 r2] 222 (0,0))]]) Z<|Ze<|Zz 19<|RunT.done WK<|Zc<|Zg<|Zr<|Zm Z<|Zv (Y.addN ((i + 1 : Nat) : Int) rfl rfl W W)<|?_
    refine Za Z<|Ze<|Ex.keep [1,0]<|?_
    exact ZR (⟨i + 1,r2,swp d i (x + o)⟩ : Nat × Int × Array Le) ⟨permIn_trans _ _ _ _ _ r1 (swp_permIn _ x y _ _ W W W W W),by simp only [swp_size]; exact k2,by (try dsimp only); omega,by (try dsimp only); omega⟩ (by dsimp only; omega)
  ·refine Tr.cond_f Z h3<|Zx<|Zy<|Zy<|Zi<|Ex.keep [1]<|?_
   exact Ex.end0 rfl ⟨rfl,rfl,_,r1,rfl⟩
 ·refine Tr.cond_f Z h1<|Zt<|Ex.keep [0]<|?_
  exact Ex.end0 rfl ⟨rfl,rfl,_,permIn_refl _ _ _,rfl⟩
set_option maxHeartbeats 2000000 in
theorem pdq1_l {V : Vw} {n c b : Nat} {rest : List Value} {d0 : Array Le} {gf : FuncId} {caps : List Value} {cm : Le → Le → Int} {x y l : Nat}  (hN : n ≤ 1073741824) (hd : d0.size = n) (hxy : x ≤ y) (hy : y ≤ n) (hB : Below (ltc cm) x y d0) (hl : l ≤ 1000) (ih : ∀ (d : Array Le) (x2 y2 l2 : Nat),y2 - x2 < y - x → x2 ≤ y2 → y2 ≤ n → d.size = n → Below (ltc cm) x2 y2 d → l2 ≤ 1000 → Does Tryz.prog 208 [.slice (some ⟨b,0,none⟩) n c,.int .i64 ((x2 : Nat) : Int),.int .i64 ((y2 : Nat) : Int),.int .i64 ((l2 : Nat) : Int),.func (.func gf) #[] caps.toArray] V [sgD Le.cells 43 b rest d] (fun v V' H' => V' = V ∧ v = .tuple #[] ∧ ∃ d1,PermIn x2 y2 d d1 ∧ SortedIn (ltc cm) x2 y2 d1 ∧ H' = [sgD Le.cells 43 b rest d1]))  (hcmp : ∀ x y : Le,Does Tryz.prog gf (.agg (Le.cells x).toArray :: .agg (Le.cells y).toArray :: caps) V [] (Pv (.int .i64 (cm x y)) V [])) (hswo : SWO (ltc cm))  : Does Tryz.prog 208 [.slice (some ⟨b,0,none⟩) n c,.int .i64 ((x : Nat) : Int),.int .i64 ((y : Nat) : Int),.int .i64 ((l : Nat) : Int),.func (.func gf) #[] caps.toArray] V [sgD Le.cells 43 b rest d0] (fun v V' H' => V' = V ∧ v = .tuple #[] ∧ ∃ d1,PermIn x y d0 d1 ∧ SortedIn (ltc cm) x y d1 ∧ H' = [sgD Le.cells 43 b rest d1]) := by
 refine Does.intro Tryz.func208 rfl rfl (le rfl) (fun B => ?_)
 refine Zs<|Zr<|Za Z<|Ze<|Zg<|Zs<|Zr<|Za Z<|Ze<|Zg<|Zb<|?_
 refine ZL (X := Nat × Nat × Nat × Bool × Bool × Array Le) (fun z0 => V) (fun z0 => [sgD Le.cells 43 b rest z0.2.2.2.2.2]) (fun z0 => [(0,.slice (some ⟨b,0,none⟩) n c),(1,.int .i64 ((z0.1 : Nat) : Int)),(2,.int .i64 ((z0.2.1 : Nat) : Int)),(3,.int .i64 ((z0.2.2.1 : Nat) : Int)),(4,.func (.func gf) #[] caps.toArray),(10,.bool z0.2.2.2.1),(11,.bool z0.2.2.2.2.1)]) (fun z0 => PInv (ltc cm) x y n d0 z0.1 z0.2.1 z0.2.2.2.2.2 ∧ z0.2.2.1 ≤ 1000) (fun z0 => z0.2.1 - z0.1) (⟨x,y,l,true,true,d0⟩ : Nat × Nat × Nat × Bool × Bool × Array Le) ⟨PInv.new hd hxy hy hB,hl⟩ ?_
 rintro ⟨a,e,m,wb,wp,d⟩ ⟨i1,hm⟩
 have iab : a ≤ e := i1.ab
 have ibn : e ≤ n := i1.bn
 try dsimp only at i1 hm ⊢
 refine Zb<|Zs<|Zr<|Zm Z<|Zm Z<|Zv (Y.subN ((e - a : Nat) : Int) rfl rfl W W)<|Za Z<|Ze<|Zg<|Zs<|Zs<|Zr<|Zm Z<|Zv (Y.int Z Z Z)<|Ze<|Zg<|?_
 rcases Zsplit (decide (((e - a : Nat) : Int) ≤ 12)) with ⟨h1,g1⟩ | ⟨h1,g1⟩ <;> try simp only [kb] at g1
 ·refine Tr.cond_t Z h1<|Zs<|Zr<|Zm Z<|Zm Z<|Zm Z<|Zm Z<|?_
  refine Run.call [0] (l := [.tmp 26,.tmp 27,.tmp 28,.tmp 29]) rfl rfl rfl (lt rfl) (ins_l (x := a) (y := e) hN i1.sz (by have := i1.ab; have := i1.bn; omega) i1.bn hcmp hswo) (fun v2 V2 H2 hle3 hR => ?_)
  obtain ⟨hV,rfl,rfl⟩ := hR; replace hV := hV.symm; subst hV
  refine Run.heapTo (H' := [sgD Le.cells 43 b rest (insertionSort (ltc cm) d a e)]) Z<|Ze<|Zg<|Zu<|Zn<|Zk<|Zn<|Zk<|Ex.keep [0]<|?_
  exact Ex.ret0 rfl ⟨rfl,rfl,_,(i1.k _ (insertionSort_holds  hswo d a e i1.ab (by rw [i1.sz]; exact i1.bn)).1 (insertionSort_holds  hswo d a e i1.ab (by rw [i1.sz]; exact i1.bn)).2).1,(i1.k _ (insertionSort_holds  hswo d a e i1.ab (by rw [i1.sz]; exact i1.bn)).1 (insertionSort_holds  hswo d a e i1.ab (by rw [i1.sz]; exact i1.bn)).2).2,rfl⟩
 ·refine Tr.cond_f Z h1<|Zt<|Zg<|Zs<|Zs<|Zr<|Zm Z<|Zv (Y.int Z Z Z)<|Ze<|Zg<|?_
  rcases Zsplit (((m : Nat) : Int) == 0) with ⟨h4,g4⟩ | ⟨h4,g4⟩ <;> try simp only [kb] at g4
  ·refine Tr.cond_t Z h4<|Zs<|Zr<|Zm Z<|Zm Z<|Zm Z<|Zm Z<|?_
   refine Run.call [0] (l := [.tmp 33,.tmp 34,.tmp 35,.tmp 36]) rfl rfl rfl (lt rfl) (heap_l (x := a) (y := e) hN i1.sz W i1.bn hcmp hswo) (fun v5 V2 H2 hle6 hR => ?_)
   obtain ⟨hV,rfl,rfl⟩ := hR; replace hV := hV.symm; subst hV
   refine Run.heapTo (H' := [sgD Le.cells 43 b rest (heapSort (ltc cm) d a e)]) Z<|Ze<|Zg<|Zu<|Zn<|Zk<|Zn<|Zk<|Ex.keep [0]<|?_
   exact Ex.ret0 rfl ⟨rfl,rfl,_,(i1.k _ (heapSort_holds  hswo d a e i1.ab (by rw [i1.sz]; exact i1.bn)).1 (heapSort_holds  hswo d a e i1.ab (by rw [i1.sz]; exact i1.bn)).2).1,(i1.k _ (heapSort_holds  hswo d a e i1.ab (by rw [i1.sz]; exact i1.bn)).1 (heapSort_holds  hswo d a e i1.ab (by rw [i1.sz]; exact i1.bn)).2).2,rfl⟩
  ·refine Tr.cond_f Z h4<|Zt<|Zg<|?_
   refine Tr.cutx (X := Nat × Array Le) (fun z0 => V) (fun z0 => [sgD Le.cells 43 b rest z0.2]) (fun z0 => [(0,.slice (some ⟨b,0,none⟩) n c),(1,.int .i64 ((a : Nat) : Int)),(2,.int .i64 ((e : Nat) : Int)),(3,.int .i64 ((z0.1 : Nat) : Int)),(4,.func (.func gf) #[] caps.toArray),(10,.bool wb),(11,.bool wp),(12,.int .i64 ((e - a : Nat) : Int))]) (fun z0 => PInv (ltc cm) x y n d0 a e z0.2 ∧ z0.1 ≤ 1000) ?_ ?_
   ·refine Zs<|Zr<|Zm Z<|Zv (Y.not Z)<|Ze<|Zg<|?_
    rcases Zsplit (wb) with ⟨h7,g7⟩ | ⟨h7,g7⟩ <;> try simp only [kb] at g7
    ·refine Tr.cond_f Z (congrArg Bool.not h7)<|Zt<|?_
     exact ZX ⟨m,d⟩ ⟨i1,hm⟩
    ·refine Tr.cond_t Z (congrArg Bool.not h7)<|Zs<|Zr<|Zm Z<|Zm Z<|Zm Z<|Zm Z<|?_
     refine Run.call [0] (l := [.tmp 40,.tmp 41,.tmp 42,.tmp 43]) rfl rfl rfl (lt rfl) (brk_l (x := a) (y := e) hN i1.sz W i1.bn hcmp hswo) (fun v V2 H2 hle hR => ?_)
     obtain ⟨hV,rfl,dk,hdk,rfl⟩ := hR; replace hV := hV.symm; subst hV
     refine Run.heapTo (H' := [sgD Le.cells 43 b rest dk]) Z<|Ze<|Zg<|Zr<|Zm Z<|Zv (Y.subN ((m - 1 : Nat) : Int) rfl rfl W W)<|Za Z<|Ze<|?_
     exact ZX ⟨m - 1,dk⟩ ⟨i1.perm hdk,by (try dsimp only); omega⟩
   ·rintro z0 ⟨i2,hm1⟩
    obtain ⟨m1,d1⟩ := z0
    try dsimp only at i2 hm1 ⊢
    refine Zs<|Zr<|Zm Z<|Zm Z<|Zm Z<|Zm Z<|?_
    refine Run.call [0] (l := [.tmp 48,.tmp 49,.tmp 50,.tmp 51]) rfl rfl rfl (lt rfl) (pivot_l (x := a) (y := e) hN i2.sz W i2.bn hcmp hswo) (fun v V2 H2 hle hR => ?_)
    obtain ⟨hV,p1,hh,rfl,hp1,hp2,rfl⟩ := hR; replace hV := hV.symm; subst hV
    refine Run.heapTo (H' := [sgD Le.cells 43 b rest d1]) Z<|Zm Z<|Zv (Y.extract Z Z)<|Zv (Y.extract Z Z)<|Za Z<|Za Z<|Ze<|Zg<|?_
    refine Tr.cutx (X := Nat × Int × Array Le) (fun z0 => V) (fun z0 => [sgD Le.cells 43 b rest z0.2.2]) (fun z0 => [(0,.slice (some ⟨b,0,none⟩) n c),(1,.int .i64 ((a : Nat) : Int)),(2,.int .i64 ((e : Nat) : Int)),(3,.int .i64 ((m1 : Nat) : Int)),(4,.func (.func gf) #[] caps.toArray),(10,.bool wb),(11,.bool wp),(12,.int .i64 ((e - a : Nat) : Int)),(13,.int .i64 ((z0.1 : Nat) : Int)),(14,.int .i64 z0.2.1)]) (fun z0 => PInv (ltc cm) x y n d0 a e z0.2.2 ∧ a ≤ z0.1 ∧ z0.1 < e) ?_ ?_
    ·refine Zs<|Zr<|Zm Z<|Zv (Y.int Z Z Z)<|Ze<|Zg<|?_
     rcases Zsplit (hh == 2) with ⟨h8,g8⟩ | ⟨h8,g8⟩ <;> try simp only [kb] at g8
     ·refine Tr.cond_t Z h8<|Zs<|Zr<|Zm Z<|Zm Z<|Zm Z<|Zm Z<|?_
      refine Run.call [0] (l := [.tmp 57,.tmp 58,.tmp 59,.tmp 60]) rfl rfl rfl (lt rfl) (rev_l (x := a) (y := e) hN i2.sz W i2.bn hcmp hswo) (fun v9 V2 H2 hle10 hR => ?_)
      obtain ⟨hV,rfl,rfl⟩ := hR; replace hV := hV.symm; subst hV
      refine Run.heapTo (H' := [sgD Le.cells 43 b rest (reverseRange d1 a e)]) Z<|Ze<|Zg<|Zs<|Zr<|Zm Z<|Zv (Y.subN ((e - 1 : Nat) : Int) rfl rfl W W)<|Zm Z<|Zm Z<|Zv (Y.subN ((p1 - a : Nat) : Int) rfl rfl W W)<|Zv (Y.subN (((e - 1) - (p1 - a) : Nat) : Int) rfl rfl W W)<|Za Z<|Ze<|Zg<|Zr<|Za Z<|?_
      refine Ze ?_
      exact ZX ⟨(e - 1) - (p1 - a),1,reverseRange d1 a e⟩ ⟨i2.perm (reverseRange_holds _ a e i2.ab (by rw [i2.sz]; exact i2.bn)),by (try dsimp only); omega,by (try dsimp only); omega⟩
     ·refine Tr.cond_f Z h8<|Zt<|?_
      exact ZX ⟨p1,hh,d1⟩ ⟨i2,by (try dsimp only); omega,by (try dsimp only); omega⟩
    ·rintro z0 ⟨i3,hp3,hp4⟩
     obtain ⟨p2,h2,d2⟩ := z0
     try dsimp only at i3 hp3 hp4 ⊢
     refine Tr.cutx (X := Array Le) (fun d3 => V) (fun d3 => [sgD Le.cells 43 b rest d3]) (fun d3 => [(0,.slice (some ⟨b,0,none⟩) n c),(1,.int .i64 ((a : Nat) : Int)),(2,.int .i64 ((e : Nat) : Int)),(3,.int .i64 ((m1 : Nat) : Int)),(4,.func (.func gf) #[] caps.toArray),(10,.bool wb),(11,.bool wp),(12,.int .i64 ((e - a : Nat) : Int)),(13,.int .i64 ((p2 : Nat) : Int)),(14,.int .i64 h2)]) (fun d3 => PInv (ltc cm) x y n d0 a e d3) ?_ ?_
     ·refine Zs<|Zr<|Zm Z<|Zm Z<|?_
      rcases Zsplit (wb) with ⟨h11,g11⟩ | ⟨h11,g11⟩ <;> try simp only [kb] at g11
      ·refine Zp h11<|Zm Z<|Zv (Y.pick_t Z h11 Z)<|Zm Z<|?_
       rcases Zsplit (wp) with ⟨h12,g12⟩ | ⟨h12,g12⟩ <;> try simp only [kb] at g12
       ·refine Zp h12<|Zm Z<|Zp h12<|Zv (Y.int Z Z Z)<|Zv (Y.pick_t Z h12 Z)<|Ze<|Zg<|?_
        rcases Zsplit (h2 == 1) with ⟨h13,g13⟩ | ⟨h13,g13⟩ <;> try simp only [kb] at g13
        ·refine Tr.cond_t Z h13<|Zs<|Zr<|Zm Z<|Zm Z<|Zm Z<|Zm Z<|?_
         refine Run.call [0] (l := [.tmp 76,.tmp 77,.tmp 78,.tmp 79]) rfl rfl rfl (lt rfl) (pins_l (x := a) (y := e) hN i3.sz W i3.bn hcmp hswo) (fun v V2 H2 hle hR => ?_)
         obtain ⟨hV,rfl,rfl⟩ := hR; replace hV := hV.symm; subst hV
         refine Run.heapTo (H' := [sgD Le.cells 43 b rest ((partialInsertionSort (ltc cm) d2 a e).1)]) Z ?_
         obtain ⟨hq1,hq2⟩ := partialInsertionSort_holds  hswo d2 a e W (by rw [i3.sz]; exact i3.bn) i3.bel
         refine Ze<|Zg<|?_
         rcases Zsplit ((partialInsertionSort (ltc cm) d2 a e).2) with ⟨h14,g14⟩ | ⟨h14,g14⟩ <;> try simp only [kb] at g14
         ·refine Tr.cond_t Z h14<|Zu<|Zn<|Zk<|Zn<|Zk<|Ex.keep [0]<|?_
          exact Ex.ret0 rfl ⟨rfl,rfl,_,(i3.k _ hq1 (hq2 (by assumption))).1,(i3.k _ hq1 (hq2 (by assumption))).2,rfl⟩
         ·refine Tr.cond_f Z h14<|Zt<|?_
          exact ZX ((partialInsertionSort (ltc cm) d2 a e).1) (i3.perm hq1)
        ·refine Tr.cond_f Z h13<|Zt<|?_
         exact ZX d2 i3
       ·refine Zo h12 Z<|Zo h12 Z<|Zv (Y.pick_f Z h12 Z)<|Ze<|Zg<|Tr.cond_f Z Z<|Zt<|?_
        exact ZX d2 i3
      ·refine Zo h11 Z<|Zv (Y.pick_f Z h11 Z)<|Zm Z<|Zo Z Z<|Zo Z Z<|Zv (Y.pick_f Z Z Z)<|Ze<|Zg<|Tr.cond_f Z Z<|Zt<|?_
       exact ZX d2 i3
     ·rintro d3 i4
      have s4 := i4.sz
      refine Zs<|Zs<|Tr.quiet Sortl2_mo WK<|ZM Z<|ZV (Y.int Z Z Z)<|ZM Z<|?_
      rcases Zsplit (decide (((a : Nat) : Int) > 0)) with ⟨h15,g15⟩ | ⟨h15,g15⟩ <;> try simp only [kb] at g15
      ·refine ZP h15<|ZM Z<|ZP h15<|ZM Z<|ZP h15<|ZM Z<|ZP h15<|ZV (Y.subN ((a - 1 : Nat) : Int) rfl rfl W W)<|ZP h15<|ZV (Y.idxN (a - 1) rfl rfl Sortl2_es22 W W)<|ZP h15<|ZV (Y.ldA (enc := Le.cells) (d := d3) (rest := rest) (e := 43) (i := (a - 1)) rfl Sortl2_ag43 (Kn.at 0 rfl) Le.enc1 WB rfl)<|ZP h15<|ZM Z<|ZP h15<|ZM Z<|?_
       refine ZP h15<|ZV (Y.idxN p2 Z Z Sortl2_es22 W W)<|ZP h15<|ZV (Y.ldA (enc := Le.cells) (d := d3) (rest := rest) (e := 43) (i := p2) Z Sortl2_ag43 (Kn.at 0 rfl) Le.enc1 WB rfl)<|ZP h15<|RunQ.call0 (l := [.tmp 89,.tmp 93]) Z Z Z (lt Z) ((hcmp (d3[a - 1]!) (d3[p2]!)).frame)<|ZP h15<|ZV (Y.int Z Z Z)<|ZP h15<|ZV (Y.not Z)<|ZV (Y.pick_t Z h15 Z)<|?_
       refine ZE<|Zg<|?_
       rcases Zsplit (decide ((cm (d3[a - 1]!) (d3[p2]!)) < 0)) with ⟨h16,g16⟩ | ⟨h16,g16⟩ <;> try simp only [kb] at g16
       ·refine Tr.cond_f Z (congrArg Bool.not h16)<|Zt<|Zg<|Zs<|Zr<|Zm Z<|Zm Z<|Zm Z<|Zm Z<|Zm Z<|?_
        refine Run.call [0] (l := [.tmp 106,.tmp 107,.tmp 108,.tmp 109,.tmp 110]) rfl rfl rfl (lt rfl) (part_l (x := a) (y := e) (p := p2) hN i4.sz W W i4.bn hcmp hswo) (fun v V2 H2 hle hR => ?_)
        obtain ⟨mid,ap,d4,hpe⟩ : ∃ m k q,partition (ltc cm) d3 a e p2 = (m,k,q) := ⟨_,_,_,rfl⟩
        rw [hpe] at hR; dsimp only at hR
        obtain ⟨hV,rfl,rfl⟩ := hR; replace hV := hV.symm; subst hV
        refine Run.heapTo (H' := [sgD Le.cells 43 b rest d4]) Z ?_
        obtain ⟨w1,w2,w3,w4,w5,w6,w7⟩ := i4.part hswo W W hpe
        refine Zm Z<|Zv (Y.extract Z Z)<|Zv (Y.extract Z Z)<|Za Z<|Za Z<|Ze<|Zg<|Zs<|Zr<|Zm Z<|Za Z<|Ze<|Zg<|Zs<|Zr<|Zm Z<|?_
        refine Zm Z<|Zv (Y.subN ((mid - a : Nat) : Int) rfl rfl W W)<|Zm Z<|Zm Z<|Zv (Y.subN ((e - mid : Nat) : Int) rfl rfl W W)<|Za Z<|Za Z<|Ze<|Zg<|Zs<|Zr<|Zm Z<|Zv (Y.quoN (m := e - a) (n := 8) Z Z W W)<|Za Z<|Ze<|Zg<|?_
        refine Zs<|Zr<|Zm Z<|Zm Z<|Zv (Y.int Z Z Z)<|Ze<|Zg<|?_
        rcases Zsplit (decide (((mid - a : Nat) : Int) < ((e - mid : Nat) : Int))) with ⟨h17,g17⟩ | ⟨h17,g17⟩ <;> try simp only [kb] at g17
        ·refine Tr.cond_t Z h17<|Zs<|Zr<|Zm Z<|Zm Z<|Zv (Y.int Z Z Z)<|Za Z<|Ze<|Zg<|Zs<|Zr<|Zm Z<|Zm Z<|Zm Z<|Zm Z<|Zm Z<|?_
         refine Run.call [0] (l := [.tmp 129,.tmp 130,.tmp 131,.tmp 132,.tmp 133]) rfl rfl rfl (lt rfl) (ih d4 (a) (mid) m1 (by have := i4.len; omega) W (by have := i4.bn; omega) w3 w4 hm1) (fun v V2 H2 hle hR => ?_)
         obtain ⟨hV,rfl,d5,hp5,hs5,rfl⟩ := hR; replace hV := hV.symm; subst hV
         refine Run.heapTo (H' := [sgD Le.cells 43 b rest d5]) Z ?_
         have i5 := w6 d5 hp5 hs5
         refine Ze<|Zg<|Zr<|Zm Z<|Zv (Y.addN ((mid + 1 : Nat) : Int) rfl rfl W W)<|Za Z<|Ze<|Zc<|?_
         exact ZR (⟨mid + 1,e,m1,decide (((mid - a : Nat) : Int) ≥ (((e - a) / 8 : Nat) : Int)),ap,d5⟩ : Nat × Nat × Nat × Bool × Bool × Array Le) ⟨i5,hm1⟩ (by dsimp only; omega)
        ·refine Tr.cond_f Z h17<|Zs<|Zr<|Zm Z<|Zm Z<|Zv (Y.int Z Z Z)<|Za Z<|Ze<|Zg<|Zs<|Zr<|Zm Z<|Zm Z<|Zv (Y.addN ((mid + 1 : Nat) : Int) rfl rfl W W)<|Zm Z<|Zm Z<|?_
         refine Zm Z ?_
         refine Run.call [0] (l := [.tmp 140,.tmp 142,.tmp 143,.tmp 144,.tmp 145]) rfl rfl rfl (lt rfl) (ih d4 (mid + 1) (e) m1 (by have := i4.len; omega) W (by have := i4.bn; omega) w3 w5 hm1) (fun v V2 H2 hle hR => ?_)
         obtain ⟨hV,rfl,d5,hp5,hs5,rfl⟩ := hR; replace hV := hV.symm; subst hV
         refine Run.heapTo (H' := [sgD Le.cells 43 b rest d5]) Z ?_
         have i5 := w7 d5 hp5 hs5
         refine Ze<|Zg<|Zr<|Zm Z<|Za Z<|Ze<|Zc<|?_
         exact ZR (⟨a,mid,m1,decide (((e - mid : Nat) : Int) ≥ (((e - a) / 8 : Nat) : Int)),ap,d5⟩ : Nat × Nat × Nat × Bool × Bool × Array Le) ⟨i5,hm1⟩ (by dsimp only; omega)
       ·refine Tr.cond_t Z (congrArg Bool.not h16)<|Zs<|Zr<|Zm Z<|Zm Z<|Zm Z<|Zm Z<|Zm Z<|?_
        refine Run.call [0] (l := [.tmp 98,.tmp 99,.tmp 100,.tmp 101,.tmp 102]) rfl rfl rfl (lt rfl) (pareq_l (x := a) (y := e) (p := p2) hN i4.sz W W i4.bn hcmp hswo) (fun v V2 H2 hle hR => ?_)
        obtain ⟨mid,d4,hpe⟩ : ∃ m q,partitionEqual (ltc cm) d3 a e p2 = (m,q) := ⟨_,_,rfl⟩
        rw [hpe] at hR; dsimp only at hR
        obtain ⟨hV,rfl,rfl⟩ := hR; replace hV := hV.symm; subst hV
        refine Run.heapTo (H' := [sgD Le.cells 43 b rest d4]) Z ?_
        obtain ⟨w1,i5⟩ := i4.eqs hswo W W W (by assumption) hpe
        refine Za Z<|Ze<|Zg<|Zs<|Zr<|Zm Z<|Za Z<|Ze<|Zg<|Zx<|Zy<|Zi<|?_
        exact ZR (⟨mid,e,m1,wb,wp,d4⟩ : Nat × Nat × Nat × Bool × Bool × Array Le) ⟨i5,hm1⟩ (by dsimp only; omega)
      ·refine ZO h15 Z<|ZO h15 Z<|ZO h15 Z<|ZO h15 Z<|ZO h15 Z<|ZO h15 Z<|ZO h15 Z<|ZO h15 Z<|ZO h15 Z<|ZO h15 Z<|ZO h15 Z<|ZO h15 Z<|ZO h15 Z<|ZV (Y.pick_f Z h15 Z)<|ZE<|Zg<|?_
       refine Tr.cond_f Z Z<|Zt<|Zg<|Zs<|Zr<|Zm Z<|Zm Z<|Zm Z<|Zm Z<|Zm Z<|?_
       refine Run.call [0] (l := [.tmp 106,.tmp 107,.tmp 108,.tmp 109,.tmp 110]) rfl rfl rfl (lt rfl) (part_l (x := a) (y := e) (p := p2) hN i4.sz W W i4.bn hcmp hswo) (fun v V2 H2 hle hR => ?_)
       obtain ⟨mid,ap,d4,hpe⟩ : ∃ m k q,partition (ltc cm) d3 a e p2 = (m,k,q) := ⟨_,_,_,rfl⟩
       rw [hpe] at hR; dsimp only at hR
       obtain ⟨hV,rfl,rfl⟩ := hR; replace hV := hV.symm; subst hV
       refine Run.heapTo (H' := [sgD Le.cells 43 b rest d4]) Z ?_
       obtain ⟨w1,w2,w3,w4,w5,w6,w7⟩ := i4.part hswo W W hpe
       refine Zm Z<|Zv (Y.extract Z Z)<|Zv (Y.extract Z Z)<|Za Z<|Za Z<|Ze<|Zg<|Zs<|Zr<|Zm Z<|Za Z<|Ze<|Zg<|Zs<|Zr<|Zm Z<|?_
       refine Zm Z<|Zv (Y.subN ((mid - a : Nat) : Int) rfl rfl W W)<|Zm Z<|Zm Z<|Zv (Y.subN ((e - mid : Nat) : Int) rfl rfl W W)<|Za Z<|Za Z<|Ze<|Zg<|Zs<|Zr<|Zm Z<|Zv (Y.quoN (m := e - a) (n := 8) Z Z W W)<|Za Z<|Ze<|Zg<|?_
       refine Zs<|Zr<|Zm Z<|Zm Z<|Zv (Y.int Z Z Z)<|Ze<|Zg<|?_
       rcases Zsplit (decide (((mid - a : Nat) : Int) < ((e - mid : Nat) : Int))) with ⟨h18,g18⟩ | ⟨h18,g18⟩ <;> try simp only [kb] at g18
       ·refine Tr.cond_t Z h18<|Zs<|Zr<|Zm Z<|Zm Z<|Zv (Y.int Z Z Z)<|Za Z<|Ze<|Zg<|Zs<|Zr<|Zm Z<|Zm Z<|Zm Z<|Zm Z<|Zm Z<|?_
        refine Run.call [0] (l := [.tmp 129,.tmp 130,.tmp 131,.tmp 132,.tmp 133]) rfl rfl rfl (lt rfl) (ih d4 (a) (mid) m1 (by have := i4.len; omega) W (by have := i4.bn; omega) w3 w4 hm1) (fun v V2 H2 hle hR => ?_)
        obtain ⟨hV,rfl,d5,hp5,hs5,rfl⟩ := hR; replace hV := hV.symm; subst hV
        refine Run.heapTo (H' := [sgD Le.cells 43 b rest d5]) Z ?_
        have i5 := w6 d5 hp5 hs5
        refine Ze<|Zg<|Zr<|Zm Z<|Zv (Y.addN ((mid + 1 : Nat) : Int) rfl rfl W W)<|Za Z<|Ze<|Zc<|?_
        exact ZR (⟨mid + 1,e,m1,decide (((mid - a : Nat) : Int) ≥ (((e - a) / 8 : Nat) : Int)),ap,d5⟩ : Nat × Nat × Nat × Bool × Bool × Array Le) ⟨i5,hm1⟩ (by dsimp only; omega)
       ·refine Tr.cond_f Z h18<|Zs<|Zr<|Zm Z<|Zm Z<|Zv (Y.int Z Z Z)<|Za Z<|Ze<|Zg<|Zs<|Zr<|Zm Z<|Zm Z<|Zv (Y.addN ((mid + 1 : Nat) : Int) rfl rfl W W)<|Zm Z<|Zm Z<|?_
        refine Zm Z ?_
        refine Run.call [0] (l := [.tmp 140,.tmp 142,.tmp 143,.tmp 144,.tmp 145]) rfl rfl rfl (lt rfl) (ih d4 (mid + 1) (e) m1 (by have := i4.len; omega) W (by have := i4.bn; omega) w3 w5 hm1) (fun v V2 H2 hle hR => ?_)
        obtain ⟨hV,rfl,d5,hp5,hs5,rfl⟩ := hR; replace hV := hV.symm; subst hV
        refine Run.heapTo (H' := [sgD Le.cells 43 b rest d5]) Z ?_
        have i5 := w7 d5 hp5 hs5
        refine Ze<|Zg<|Zr<|Zm Z<|Za Z<|Ze<|Zc<|?_
        exact ZR (⟨a,mid,m1,decide (((e - mid : Nat) : Int) ≥ (((e - a) / 8 : Nat) : Int)),ap,d5⟩ : Nat × Nat × Nat × Bool × Bool × Array Le) ⟨i5,hm1⟩ (by dsimp only; omega)
theorem pdq_l {V : Vw} {n c b : Nat} {rest : List Value} {d0 : Array Le} {gf : FuncId} {caps : List Value} {cm : Le → Le → Int}  (hN : n ≤ 1073741824) (hd : d0.size = n) {x y l : Nat} (hxy : x ≤ y) (hy : y ≤ n) (hB : Below (ltc cm) x y d0) (hl : l ≤ 1000)  (hcmp : ∀ x y : Le,Does Tryz.prog gf (.agg (Le.cells x).toArray :: .agg (Le.cells y).toArray :: caps) V [] (Pv (.int .i64 (cm x y)) V [])) (hswo : SWO (ltc cm)) : Does Tryz.prog 208 [.slice (some ⟨b,0,none⟩) n c,.int .i64 ((x : Nat) : Int),.int .i64 ((y : Nat) : Int),.int .i64 ((l : Nat) : Int),.func (.func gf) #[] caps.toArray] V [sgD Le.cells 43 b rest d0] (fun v V' H' => V' = V ∧ v = .tuple #[] ∧ ∃ d1,PermIn x y d0 d1 ∧ SortedIn (ltc cm) x y d1 ∧ H' = [sgD Le.cells 43 b rest d1]) := by
  obtain ⟨k,hk⟩ : ∃ k,y - x = k := ⟨_,rfl⟩
  induction k using Nat.strongRecOn generalizing x y l d0 with
  | _ k ih => exact pdq1_l hN hd hxy hy hB hl (fun d x2 y2 l2 h1 h2 h3 h4 h5 h6 => ih (y2 - x2) W h4 h2 h3 h5 h6 rfl) hcmp hswo
end Go.Proofs.YtfgblingojgafaaGreat
namespace Go.Proofs.YtfgblingojgafaaGreat
open Go Go.K
attribute [local irreducible] Code.wp wpList Calls wpQuiet
theorem Sortl3_es22 : elemS Tryz.prog 22 = some (43,8) := by kernel_rfl
theorem Sortl3_it3_195 : intT Tryz.prog 3 195 = some .u64 := by kernel_rfl
open Go.Sort
theorem insn_l {gf : FuncId} {caps : List Value}  {V : Vw} : Does Tryz.prog 210 [.slice none 0 0,.int .i64 0,.int .i64 0,.func (.func gf) #[] caps.toArray] V [] (Pv (.tuple #[]) V []) := by
 refine Does.intro Tryz.func210 rfl rfl (le rfl) (fun B => ?_)
 refine Zs<|Zr<|Zm Z<|Zv (Y.addN ((0 + 1 : Nat) : Int) rfl rfl W W)<|Za Z<|Ze<|Zg<|Zb<|?_
 refine ZL (X := Unit) (fun _ => V) (fun _ => []) (fun _ => [(0,.slice none 0 0),(1,.int .i64 0),(2,.int .i64 0),(3,.func (.func gf) #[] caps.toArray),(8,.int .i64 ((0 + 1 : Nat) : Int))]) (fun _ => True) (fun _ => 0) () trivial ?_
 rintro _ _
 refine Zs<|Zs<|Zr<|Zm Z<|Zm Z<|Zv (Y.int Z Z Z)<|Ze<|Zg<|Tr.cond_f rfl (show (decide (((0 + 1 : Nat) : Int) < 0)) = false from by decide +kernel)<|Zx<|Zy<|Zy<|Zi<|?_
 exact Ex.end0 rfl ⟨rfl,rfl,rfl⟩
theorem insn_l_h {gf : FuncId} {caps : List Value}  {V : Vw} {H : Hp} : Does Tryz.prog 210 [.slice none 0 0,.int .i64 0,.int .i64 0,.func (.func gf) #[] caps.toArray] V H (Pv (.tuple #[]) V H) := insn_l.frame
theorem pdqn_l {l : Nat} {gf : FuncId} {caps : List Value}  {V : Vw} : Does Tryz.prog 208 [.slice none 0 0,.int .i64 0,.int .i64 0,.int .i64 ((l : Nat) : Int),.func (.func gf) #[] caps.toArray] V [] (Pv (.tuple #[]) V []) := by
 refine Does.intro Tryz.func208 rfl rfl (le rfl) (fun B => ?_)
 refine Zs<|Zr<|Za Z<|Ze<|Zg<|Zs<|Zr<|Za Z<|Ze<|Zg<|Zb<|?_
 refine ZL (X := Unit) (fun _ => V) (fun _ => []) (fun _ => [(0,.slice none 0 0),(1,.int .i64 0),(2,.int .i64 0),(3,.int .i64 ((l : Nat) : Int)),(4,.func (.func gf) #[] caps.toArray),(10,.bool true),(11,.bool true)]) (fun _ => True) (fun _ => 0) () trivial ?_
 rintro _ _
 refine Zb<|Zs<|Zr<|Zm Z<|Zm Z<|Zv (Y.subN ((0 - 0 : Nat) : Int) rfl rfl W W)<|Za Z<|Ze<|Zg<|Zs<|Zs<|Zr<|Zm Z<|Zv (Y.int Z Z Z)<|Ze<|Zg<|?_
 refine Tr.cond_t rfl (show (decide (((0 - 0 : Nat) : Int) ≤ 12)) = true from by decide +kernel)<|Zs<|Zr<|Zm Z<|Zm Z<|Zm Z<|Zm Z<|Run.call0 (l := [.tmp 26,.tmp 27,.tmp 28,.tmp 29]) Z Z Z (lt Z) insn_l_h<|Ze<|Zg<|Zu<|Zn<|Zk<|Zn<|Zk<|?_
 exact Ex.ret0 rfl ⟨rfl,rfl,rfl⟩
theorem pdqn_l_h {l : Nat} {gf : FuncId} {caps : List Value}  {V : Vw} {H : Hp} : Does Tryz.prog 208 [.slice none 0 0,.int .i64 0,.int .i64 0,.int .i64 ((l : Nat) : Int),.func (.func gf) #[] caps.toArray] V H (Pv (.tuple #[]) V H) := pdqn_l.frame
theorem sortn_l {gf : FuncId} {caps : List Value}  {V : Vw} : Does Tryz.prog 200 [.slice none 0 0,.func (.func gf) #[] caps.toArray] V [] (Pv (.tuple #[]) V []) := by
 refine Does.intro Tryz.func200 rfl rfl (le rfl) (fun B => ?_)
 refine Zs<|Zr<|Zm Z<|Zv (Y.lenSl Z Sortl3_es22)<|Za Z<|Ze<|Zg<|Zr<|Zm Z<|Zm Z<|Zm Z<|Zv (Y.conv (0) rfl Sortl3_it3_195 (wrap_u64 W))<|?_
 refine Run.call [] (l := [.tmp 10]) rfl rfl rfl (lt rfl) (len_0 (m := 0) W) (fun v V2 H2 hle hR => ?_)
 obtain ⟨hV,⟨k1,rfl,hk1,hk2⟩,rfl⟩ := hR; replace hV := hV.symm; subst hV
 refine Run.heapTo (H' := []) Z<|Zm Z<|Run.call0 (l := [.tmp 7,.const (.int .i64 0),.tmp 8,.tmp 11,.tmp 12]) Z Z Z (lt Z) pdqn_l_h<|Ze<|?_
 exact Ex.end0 rfl ⟨rfl,rfl,rfl⟩
theorem sortn_l_h {gf : FuncId} {caps : List Value}  {V : Vw} {H : Hp} : Does Tryz.prog 200 [.slice none 0 0,.func (.func gf) #[] caps.toArray] V H (Pv (.tuple #[]) V H) := sortn_l.frame
theorem sorts_l {V : Vw} {n c b : Nat} {rest : List Value} {d0 : Array Le} {gf : FuncId} {caps : List Value} {cm : Le → Le → Int}  (hN : n ≤ 1073741824) (hd : d0.size = n) (hcmp : ∀ x y : Le,Does Tryz.prog gf (.agg (Le.cells x).toArray :: .agg (Le.cells y).toArray :: caps) V [] (Pv (.int .i64 (cm x y)) V [])) (hswo : SWO (ltc cm))  : Does Tryz.prog 200 [.slice (some ⟨b,0,none⟩) n c,.func (.func gf) #[] caps.toArray] V [sgD Le.cells 43 b rest d0] (fun v V' H' => V' = V ∧ v = .tuple #[] ∧ ∃ d1,PermIn 0 n d0 d1 ∧ SortedIn (ltc cm) 0 n d1 ∧ H' = [sgD Le.cells 43 b rest d1]) := by
 refine Does.intro Tryz.func200 rfl rfl (le rfl) (fun B => ?_)
 refine Zs<|Zr<|Zm Z<|Zv (Y.lenSl Z Sortl3_es22)<|Za Z<|Ze<|Zg<|Zr<|Zm Z<|Zm Z<|Zm Z<|Zv (Y.conv (((n : Nat) : Int)) rfl Sortl3_it3_195 (wrap_u64 W))<|?_
 refine Run.call [] (l := [.tmp 10]) rfl rfl rfl (lt rfl) (len_0 (m := n) W) (fun v V2 H2 hle hR => ?_)
 obtain ⟨hV,⟨k1,rfl,hk1,hk2⟩,rfl⟩ := hR; replace hV := hV.symm; subst hV
 refine Run.heapTo (H' := [sgD Le.cells 43 b rest d0]) Z<|Zm Z<|?_
 refine Run.call [0] (l := [.tmp 7,.const (.int .i64 0),.tmp 8,.tmp 11,.tmp 12]) rfl rfl rfl (lt rfl) (pdq_l (x := 0) (y := n) (l := k1) hN hd (Nat.zero_le _) (Nat.le_refl _) (.inl rfl) W hcmp hswo) (fun v V2 H2 hle hR => ?_)
 obtain ⟨hV,rfl,d1,hp1,hs1,rfl⟩ := hR; replace hV := hV.symm; subst hV
 refine Run.heapTo (H' := [sgD Le.cells 43 b rest d1]) Z<|Ze<|Ex.keep [0]<|?_
 exact Ex.end0 rfl ⟨rfl,rfl,d1,hp1,hs1,rfl⟩
theorem sort_l {V : Vw} {v : Value} {l : List Le} {s : Sg} {gf : FuncId} {caps : List Value} {cm : Le → Le → Int}  (hcmp : ∀ x y : Le,Does Tryz.prog gf (.agg (Le.cells x).toArray :: .agg (Le.cells y).toArray :: caps) V [] (Pv (.int .i64 (cm x y)) V [])) (hswo : SWO (ltc cm)) (ho : Ow 43 8 v l.length (l.flatMap Le.cells) s) (hn : l.length ≤ 1073741824) : Does Tryz.prog 200 [v,.func (.func gf) #[] caps.toArray] V [s] (fun u V' H' => V' = V ∧ u = .tuple #[] ∧ ∃ l' s',l'.Perm l ∧ Srt (ltc cm) l' ∧ Ow 43 8 v l'.length (l'.flatMap Le.cells) s' ∧ H' = [s']) := by
  rcases ho.toD Le.enc1 with ⟨rfl,rfl,rfl⟩ | ⟨b,cap,rest,rfl,rfl,h1,h2,h3⟩
  · refine (sortn_l_h (H := [[]])).mono ?_
    rintro v V' H' ⟨rfl,rfl,rfl⟩
    exact ⟨rfl,rfl,[],[],List.Perm.refl _,List.Pairwise.nil,Ow.nil _ _,rfl⟩
  · refine (sorts_l (n := l.length) (c := cap) (b := b) (rest := rest) (d0 := l.toArray) hn (by simp) hcmp hswo).mono ?_
    rintro v V' H' ⟨rfl,rfl,d1,hp,hs,rfl⟩
    have hz : d1.size = l.length := by have := hp.1; simpa using this
    have hp2 : PermIn 0 l.toArray.size l.toArray d1 := by simpa using hp
    have hs2 : SortedIn (ltc cm) 0 d1.size d1 := by rw [hz]; exact hs
    have hw := Ow.ofD (e := 43) (b := b) (rest := rest) (l := d1.toList) (cap := cap) Le.enc1 (by simp [hz]; exact h1) h2 (by simp [hz]; simpa using h3)
    refine ⟨rfl,rfl,d1.toList,_,by simpa using perm_of hp2,srt_of hs2,?_,rfl⟩
    have e1 : d1.toList.length = l.length := by simp [hz]
    rw [show d1.toList.toArray = d1 by simp,e1] at hw; rw [e1]; exact hw
end Go.Proofs.YtfgblingojgafaaGreat
namespace Go.Proofs.YtfgblingojgafaaGreat
open Go Go.K
attribute [local irreducible] Code.wp wpList Calls wpQuiet
theorem Table2_zo43 : zeroOf Tryz.prog 43 = some (.agg #[.int .u32 0,.int .i64 0,.string ⟨#[]⟩,.int .i64 0,.int .i64 0,.int .i64 0,.int .i64 0,.int .i64 0]) := by kernel_rfl
theorem Table2_sz43 : sizeT Tryz.prog 43 = some 8 := by kernel_rfl
theorem Table2_ts22 : scal Tryz.prog 22 = true := by kernel_rfl
theorem Table2_ag43 : aggsz Tryz.prog 43 = some 8 := by kernel_rfl
theorem Table2_es22 : elemS Tryz.prog 22 = some (43,8) := by kernel_rfl
theorem Table2_zi43 : zeroInfo Tryz.prog 43 = some (8,72,.agg #[.int .u32 0,.int .i64 0,.string ⟨#[]⟩,.int .i64 0,.int .i64 0,.int .i64 0,.int .i64 0,.int .i64 0]) := by kernel_rfl
theorem Table2_sz22 : sizeT Tryz.prog 22 = some 1 := by kernel_rfl
theorem Table2_ts38 : scal Tryz.prog 38 = true := by kernel_rfl
theorem Table2_fo99_0 : fieldOff Tryz.prog 99 0 = some 0 := by kernel_rfl
theorem Table2_ts97 : scal Tryz.prog 97 = true := by kernel_rfl
theorem Table2_mt97 : mapT Tryz.prog 97 = some (.u32,24,43) := by kernel_rfl
theorem Table2_ts94 : scal Tryz.prog 94 = true := by kernel_rfl
theorem Table2_mo : Tryz.prog.follows .mixedOrders = true := by kernel_rfl
theorem Table2_ts102 : scal Tryz.prog 102 = true := by kernel_rfl
theorem Table2_fo43_0 : fieldOff Tryz.prog 43 0 = some 0 := by kernel_rfl
theorem Table2_ts24 : scal Tryz.prog 24 = true := by kernel_rfl
theorem Table2_es148 : elemS Tryz.prog 148 = some (3,1) := by kernel_rfl
theorem Table2_zo3 : zeroOf Tryz.prog 3 = some (.int .i64 0) := by kernel_rfl
open Go.Sort
theorem appseq_l {V : Vw} {Hs : Hp} {gf : FuncId} {caps : List Value} {S Sp : List Le → Prop} {N : Nat} (hit : Iterates Tryz.prog gf caps V Hs Le.yv S Sp N) (hNb : N ≤ 1000000000)  : Does Tryz.prog 207 [.slice none 0 0,.func (.func gf) #[] caps.toArray] V Hs (fun v V' H' => V' = V ∧ ∃ xs q,S xs ∧ Ow 43 8 v xs.length (xs.flatMap Le.cells) q ∧ H' = q :: Hs) := by
 refine Does.introM Tryz.func207 rfl rfl (le rfl) (fun B => ?_)
 refine Zs<|Zr<|?_
 refine Run.box rfl (lt rfl) (fun b1 => ?_)
 refine Za Z<|Ze<|Zg<|Zs<|Zs<|Zr<|Run.nilseg<|Zm Z<|Ze<|Zg<|Zb<|?_
 refine Tr.range1 [] Hs [[],[(b1,.cells #[.slice none 0 0] 22 (0,0))]] (List.perm_append_comm (l₁ := ([[],[(b1,.cells #[.slice none 0 0] 22 (0,0))]] : Hp))) rfl (hit) (fun xs (H : Hp) => ∃ p1 n1 k1 q1,H = [q1,[(b1,.cells #[.slice p1 n1 k1] 22 (0,0))]] ∧ Ow 43 8 (.slice p1 n1 k1) n1 (xs.flatMap Le.cells) q1 ∧ n1 = xs.length) (fun c xs (H : Hp) => False) ⟨none,0,0,[],rfl,Ow.nil _ _,rfl⟩ (fun lp3 rr4 xs5 x6 H hLI hf hJ hN => ?_) (fun D2 xs5 H hS hJ => ?_) (fun D2 c xs5 H hS hJ => ?_)
 ·obtain ⟨p1,n1,k1,q1,rfl,how,hn⟩ := hJ
  refine YDoes.intro hLI rfl (env_par1 (lt rfl)) (fun Blp3 => ?_)
  refine TrR.region Z ?_
  refine Run.alloc Table2_zo43 (lt rfl) (fun b7 => ?_)
  refine Run.store (s := [(b7,.cells #[.int .u32 x6.addr,.int .i64 x6.bind,.string x6.client,.int .i64 x6.till,.int .i64 x6.acked,.int .i64 x6.told,.int .i64 x6.at_,.int .i64 x6.ver] 43 (0,0))]) Z Z Table2_sz43 (i := 0) Z Z (le Z) Z Z<|Ze<|Ex.keep [1,0,0,0]<|Ex.begin hf.1<|TrR.block<|TrR.region Z<|Zv (Y.load Z Table2_ts22 (Kn.at 3 Z) Z)<|Zv (Y.loadAgg Z Table2_ag43 (Kn.at 1 Z) Z)<|?_
  refine Run.buildSlice (l := [(0,.tmp 9)]) (r := [.int .u32 x6.addr,.int .i64 x6.bind,.string x6.client,.int .i64 x6.till,.int .i64 x6.acked,.int .i64 x6.told,.int .i64 x6.at_,.int .i64 x6.ver]) Table2_es22 Table2_zo43 rfl WD rfl rfl WD (lt rfl) (fun b8 => ?_)
  refine Run.append (n := n1) (m := 1) (xs := (xs5).flatMap Le.cells) (ys := [.int .u32 x6.addr,.int .i64 x6.bind,.string x6.client,.int .i64 x6.till,.int .i64 x6.acked,.int .i64 x6.told,.int .i64 x6.at_,.int .i64 x6.ver]) rfl rfl Table2_es22 Table2_zi43 WD (j := 3) rfl how (Src.of_rd Table2_es22 (Rd.one (Kn.at 0 rfl) rfl)) W W rfl (lt rfl) (fun v9 s10 ho11 hf => ?_)
  obtain ⟨p9,c9,rfl⟩ := hf
  replace ho11 := Ow.app1 (f := Le.cells) (l := xs5) (x := x6) ho11
  refine Run.store (s := [(b1,.cells #[.slice p9 (n1 + 1) c9] 22 (0,0))]) Z Z Table2_sz22 (i := 4) Z Z (le Z) Z Z<|Ze<|Zc<|Ex.keepTo (H' := [rec_ lp3 { rr4 with state := .busy },s10,[(b1,.cells #[.slice p9 (n1 + 1) c9] 22 (0,0))]]) [1,2,2] Z<|?_
  exact Ex.next ⟨rfl,.inl ⟨rfl,_,_,hLI.with _ _,⟨rfl,rfl⟩,rfl,⟨_,_,_,_,rfl,ho11,by rw [List.length_append,List.length_singleton]; omega⟩⟩⟩
 ·obtain ⟨p1,n1,k1,q1,rfl,how,hn⟩ := hJ
  subst hn
  refine Ex.perm (H' := defd D2 :: [(b1,.cells #[.slice p1 xs5.length k1] 22 (0,0))] :: q1 :: Hs) (List.Perm.cons _ ((List.Perm.swap _ _ _).trans (List.perm_append_comm (l₁ := [q1,[(b1,.cells #[.slice p1 xs5.length k1] 22 (0,0))]]))))<|Zc<|Zg<|Zs<|Zr<|Zv (Y.load Z Table2_ts22 (Kn.at 1 Z) Z)<|Za Z<|Ze<|Zg<|Zu<|Ex.unmark (.inl Z)<|Ex.bodyM (.inl Z)<|Ex.drop<|?_
  exact Ex.ret1 rfl rfl  ⟨rfl,xs5,q1,hS,how,rfl⟩
 ·exact hJ.elim
theorem collect_l {V : Vw} {Hs : Hp} {gf : FuncId} {caps : List Value} {S Sp : List Le → Prop} {N : Nat} (hit : Iterates Tryz.prog gf caps V Hs Le.yv S Sp N) (hNb : N ≤ 1000000000)  : Does Tryz.prog 199 [.func (.func gf) #[] caps.toArray] V Hs (fun v V' H' => V' = V ∧ ∃ xs q,S xs ∧ Ow 43 8 v xs.length (xs.flatMap Le.cells) q ∧ H' = q :: Hs) := by
 refine Does.intro Tryz.func199 rfl rfl (le rfl) (fun B => ?_)
 refine Zs<|Zr<|Za Z<|Ze<|Zg<|Zs<|Zr<|Zm Z<|?_
 refine Run.callW (l := [.const (.slice none 0 0),.tmp 3]) rfl rfl rfl (lt rfl) (appseq_l hit hNb) (fun v3 V2 H2 hle hR => ?_)
 obtain ⟨hV,xs,q,hS,ho,rfl⟩ := hR; replace hV := hV.symm; subst hV
 refine Za Z<|Ze<|Zg<|Zu<|?_
 exact Ex.ret1 rfl rfl  ⟨rfl,xs,q,hS,ho,rfl⟩
theorem sortedf_l {V : Vw} {Hs : Hp} {gf : FuncId} {caps : List Value} {S Sp : List Le → Prop} {N : Nat} (hit : Iterates Tryz.prog gf caps V Hs Le.yv S Sp N) (hNb : N ≤ 1000000000) (hlen : ∀ xs,S xs → xs.length ≤ 1000000000) {gf2 : FuncId} {caps2 : List Value} {cm : Le → Le → Int} (hcmp : ∀ x y : Le,Does Tryz.prog gf2 (.agg (Le.cells x).toArray :: .agg (Le.cells y).toArray :: caps2) V [] (Pv (.int .i64 (cm x y)) V [])) (hswo : SWO (ltc cm))  : Does Tryz.prog 183 [.func (.func gf) #[] caps.toArray,.func (.func gf2) #[] caps2.toArray] V Hs (fun v V' H' => V' = V ∧ ∃ xs ys q,S xs ∧ ys.Perm xs ∧ Srt (ltc cm) ys ∧ Ow 43 8 v ys.length (ys.flatMap Le.cells) q ∧ H' = q :: Hs) := by
 refine Does.intro Tryz.func183 rfl rfl (le rfl) (fun B => ?_)
 refine Zs<|Zr<|Za Z<|Ze<|Zg<|Zs<|Zr<|Zm Z<|?_
 refine Run.callW (l := [.tmp 6]) rfl rfl rfl (lt rfl) (collect_l hit hNb) (fun v3 V2 H2 hle hR => ?_)
 obtain ⟨hV,xs,q,hS,ho,rfl⟩ := hR; replace hV := hV.symm; subst hV
 have hxl := hlen xs hS
 refine Za Z<|Ze<|Zg<|Zs<|Zr<|Zm Z<|Zm Z<|?_
 refine Run.call [0] (l := [.tmp 8,.tmp 9]) rfl rfl rfl (lt rfl) (sort_l hcmp hswo ho W) (fun v4 V3 H3 hle3 hR3 => ?_)
 obtain ⟨hV,rfl,l2,q2,hp2,hs2,ho2,rfl⟩ := hR3; replace hV := hV.symm; subst hV
 refine Run.perm (H' := q2 :: Hs) (List.perm_append_comm (l₁ := [q2]))<|Ze<|Zg<|Zs<|Zr<|Zm Z<|Za Z<|Ze<|Zg<|Zu<|?_
 exact Ex.ret1 rfl rfl  ⟨rfl,xs,l2,q2,hS,hp2,hs2,ho2,rfl⟩
theorem those_1 {V : Vw} {l : List Le} {tx bm c1 c2 clock : Nat} {es : Array MapEntry} (hmi : MapIs .u32 (Le.mt l) es clock) {fi : FuncId} {ci : List Value} {f : Le → Bool} (his : ∀ x : Le,Does Tryz.prog fi (.agg x.cells.toArray :: ci) V [] (Pv (.bool (f x)) V [])) {N : Nat} (hNl : l.length ≤ N) {lp : Nat} {J Jx : List Le → Hp → Prop} {Hy : Hp} (hy : ∀ xs x H,J xs H → xs.length < N → YDoes Tryz.prog lp (Le.yv x) V H (fun u V' H' => V' = V ∧ (u = .bool true ∧ J (xs ++ [x]) H' ∨ u = .bool false ∧ Jx (xs ++ [x]) H'))) (h0 : J [] Hy)  : Does Tryz.prog 187 [yv lp,(pZ c1),(pZ c2)] V ([(cL 38 c1 tx),[(c2,.cells #[.func (.func fi) #[] ci.toArray] 94 (0,0))],[(tx,.cells #[.map (some bm)] 99 (0,0))],[(bm,.map es clock)]] ++ Hy) (fun _ V' H' => V' = V ∧ ∃ xs Hy',H' = [(cL 38 c1 tx),[(c2,.cells #[.func (.func fi) #[] ci.toArray] 94 (0,0))],[(tx,.cells #[.map (some bm)] 99 (0,0))],[(bm,.map es clock)]] ++ Hy' ∧ (xs.Perm (l.filter f) ∧ J xs Hy' ∨ True ∧ Jx xs Hy')) := by
 refine Does.intro Tryz.func187 rfl rfl (le rfl) (fun B => ?_)
 refine Zs<|Zr<|Zv (Y.load Z Table2_ts38 (Kn.at 0 Z) Z)<|Zv (Y.nilCheck Z)<|Zv (Y.fieldAddr Z Table2_fo99_0)<|Zv (Y.load Z Table2_ts97 (Kn.at 2 Z) Z)<|?_
 refine Run.rangeMap (kk := .u32) (l := Le.mt l) (j := 3) rfl Table2_mt97 rfl (lt rfl) (fun vi si hit => ?_)
 refine Ze<|Zg<|Zb<|?_
 refine ZL (X := Sg × Hp × List Le) (fun z0 => V) (fun z0 => z0.1 :: (cL 38 c1 tx) :: [(c2,.cells #[.func (.func fi) #[] ci.toArray] 94 (0,0))] :: [(tx,.cells #[.map (some bm)] 99 (0,0))] :: [(bm,.map es clock)] :: z0.2.1) (fun z0 => [(0,yv lp),(2,(pZ c2)),(10,vi)]) (fun z0 => It bm es clock (Le.mt l) (Le.mt z0.2.2) vi z0.1 ∧ J (z0.2.2.filter f) z0.2.1) (fun z0 => l.length - z0.2.2.length) (⟨si,Hy,[]⟩ : Sg × Hp × List Le) ⟨hit,h0⟩ ?_
 rintro ⟨s1,Hy1,dl⟩ ⟨hit1,hJ⟩
 try dsimp only at hit1 hJ ⊢
 refine Zs<|Zr<|?_
 refine Run.nextMap (j := 4) (j2 := 0) rfl hmi rfl hit1 rfl (lt rfl) (fun hdone => ?_) (fun kx ux s2 hin hfew hit2 hat => ?_)
 ·refine Zv (Y.extract Z Z)<|Ze<|Zg<|Zs<|Tr.cond_f Z Z<|Zx<|Zy<|Zy<|Zi<|Ex.drop<|?_
  exact Ex.end0 rfl ⟨rfl,dl.filter f,Hy1,rfl,.inl ⟨(Le.mt_perm hdone).filter f,hJ⟩⟩
 ·obtain ⟨x,hxl,rfl,rfl⟩ := Le.mt_mem hin
  refine Zv (Y.extract Z Z)<|Ze<|Zg<|Zs<|Tr.cond_t Z Z<|Zt<|Zg<|Zb<|Zs<|Zr<|Zv (Y.entry (j := 4) (j2 := 0) Z hmi Z hat Z)<|Zv (Y.extract Z Z)<|?_
  refine Run.alloc Table2_zo43 (lt rfl) (fun b1 => ?_)
  refine Run.store (s := [(b1,.cells #[.int .u32 x.addr,.int .i64 x.bind,.string x.client,.int .i64 x.till,.int .i64 x.acked,.int .i64 x.told,.int .i64 x.at_,.int .i64 x.ver] 43 (0,0))]) Z Z Table2_sz43 (i := 0) Z Z (le Z) Z Z<|Ze<|Zg<|Zs<|Tr.regionI<|RunI.op Z<|Zv (Y.load Z Table2_ts94 (Kn.at 3 Z) Z)<|Ze<|Ex.goI<|RunI.op Z<|Zv (Y.loadAgg Z Table2_ag43 (Kn.at 0 Z) Z)<|Ze<|Ex.goI<|RunI.op Z<|Run.call0 (l := [.tmp 16]) Z Z Z (lt Z) ((his x).frame)<|?_
  refine Ze<|Ex.goI<|RunI.op Z<|Zm Z<|Ze<|Ex.goI<|?_
  rcases Zsplit (f x) with ⟨h2,g2⟩ | ⟨h2,g2⟩ <;> try simp only [kb] at g2
  ·refine RunI.on Z Z Z h2<|RunI.op Z<|Zm Z<|Ze<|Ex.goI<|RunI.on Z Z Z h2<|RunI.op Z<|Zv (Y.loadAgg Z Table2_ag43 (Kn.at 0 Z) Z)<|Ze<|Ex.goI<|RunI.on Z Z Z h2<|?_
   have hfx := h2
   refine RunI.callY [[(b1,.cells #[.int .u32 x.addr,.int .i64 x.bind,.string x.client,.int .i64 x.till,.int .i64 x.acked,.int .i64 x.told,.int .i64 x.at_,.int .i64 x.ver] 43 (0,0))],s2,(cL 38 c1 tx),[(c2,.cells #[.func (.func fi) #[] ci.toArray] 94 (0,0))],[(tx,.cells #[.map (some bm)] 99 (0,0))],[(bm,.map es clock)]] Hy1 rfl rfl rfl (lt rfl) (hy (dl.filter f) x _ hJ (by have := Le.fil_le f dl; rw [Le.mt_len,Le.mt_len] at hfew; omega)) (fun u V2 Hy2 hle hR => ?_)
   obtain ⟨hV,⟨rfl,hJ2⟩ | ⟨rfl,hJ2⟩⟩ := hR <;> (replace hV := hV.symm; subst hV)
   ·refine RunI.on Z Z Z h2<|RunI.op Z<|Zv (Y.not Z)<|Ze<|Ex.goI<|RunI.op Z<|Zv (Y.pick_t Z h2 Z)<|Ze<|Ex.goI<|RunI.nil<|Zg<|Tr.cond_f Z Z<|Zt<|Zc<|Ex.perm (H' := [(b1,.cells #[.int .u32 x.addr,.int .i64 x.bind,.string x.client,.int .i64 x.till,.int .i64 x.acked,.int .i64 x.told,.int .i64 x.at_,.int .i64 x.ver] 43 (0,0))] :: s2 :: (cL 38 c1 tx) :: [(c2,.cells #[.func (.func fi) #[] ci.toArray] 94 (0,0))] :: [(tx,.cells #[.map (some bm)] 99 (0,0))] :: [(bm,.map es clock)] :: Hy2) (List.Perm.refl _)<|?_
    refine Ex.drop ?_
    exact ZR (⟨s2,Hy2,dl ++ [x]⟩ : Sg × Hp × List Le) ⟨by rw [Le.mt_snoc]; exact hit2,by rw [Le.fil_yes hfx]; exact hJ2⟩ (by dsimp only; rw [List.length_append,List.length_singleton]; rw [Le.mt_len,Le.mt_len] at hfew; omega)
   ·refine RunI.on Z Z Z h2<|RunI.op Z<|Zv (Y.not Z)<|Ze<|Ex.goI<|RunI.op Z<|Zv (Y.pick_t Z h2 Z)<|Ze<|Ex.goI<|RunI.nil<|Zg<|Tr.cond_t Z Z<|Zu<|Zk<|Zn<|Zk<|?_
    refine Ex.drop<|Ex.drop<|?_
    exact Ex.ret0 rfl ⟨rfl,dl.filter f ++ [x],Hy2,rfl,.inr ⟨trivial,hJ2⟩⟩
  ·have hfx := h2
   refine RunI.off Z Z Z h2 Z (lt Z)<|RunI.off Z Z Z h2 Z (lt Z)<|RunI.off Z Z Z h2 Z (lt Z)<|RunI.off Z Z Z h2 Z (lt Z)<|RunI.op Z<|Zv (Y.pick_f Z h2 Z)<|Ze<|Ex.goI<|RunI.nil<|Zg<|Tr.cond_f Z Z<|Zt<|Zc<|Ex.perm (H' := [(b1,.cells #[.int .u32 x.addr,.int .i64 x.bind,.string x.client,.int .i64 x.till,.int .i64 x.acked,.int .i64 x.told,.int .i64 x.at_,.int .i64 x.ver] 43 (0,0))] :: s2 :: (cL 38 c1 tx) :: [(c2,.cells #[.func (.func fi) #[] ci.toArray] 94 (0,0))] :: [(tx,.cells #[.map (some bm)] 99 (0,0))] :: [(bm,.map es clock)] :: Hy1) (List.Perm.refl _)<|?_
   refine Ex.drop ?_
   exact ZR (⟨s2,Hy1,dl ++ [x]⟩ : Sg × Hp × List Le) ⟨by rw [Le.mt_snoc]; exact hit2,by rw [Le.fil_no hfx]; exact hJ⟩ (by dsimp only; rw [List.length_append,List.length_singleton]; rw [Le.mt_len,Le.mt_len] at hfew; omega)
theorem those_it {V : Vw} {l : List Le} {tx bm c1 c2 clock : Nat} {es : Array MapEntry} (hmi : MapIs .u32 (Le.mt l) es clock) {fi : FuncId} {ci : List Value} {f : Le → Bool} (his : ∀ x : Le,Does Tryz.prog fi (.agg x.cells.toArray :: ci) V [] (Pv (.bool (f x)) V [])) : Iterates Tryz.prog 187 [(pZ c1),(pZ c2)] V [(cL 38 c1 tx),[(c2,.cells #[.func (.func fi) #[] ci.toArray] 94 (0,0))],[(tx,.cells #[.map (some bm)] 99 (0,0))],[(bm,.map es clock)]] Le.yv (fun xs => xs.Perm (l.filter f)) (fun _ => True) l.length := fun lp J Jx hy Hy h0 => those_1 hmi his (Nat.le_refl _) hy h0
theorem those_top {V : Vw} {tx : Nat} {fi : FuncId} {ci : List Value}  : Does Tryz.prog 172 [(pZ tx),.func (.func fi) #[] ci.toArray] V [] (fun v V' H' => V' = V ∧ ∃ c1 c2,v = .func (.func 187) #[] [(pZ c1),(pZ c2)].toArray ∧ H' = [(cL 38 c1 tx),[(c2,.cells #[.func (.func fi) #[] ci.toArray] 94 (0,0))]]) := by
 refine Does.intro Tryz.func172 rfl rfl (le rfl) (fun B => ?_)
 refine Zs<|Zr<|?_
 refine Run.box rfl (lt rfl) (fun b1 => ?_)
 refine Run.box rfl (lt rfl) (fun b2 => ?_)
 refine Za Z<|Ze<|Zg<|Zs<|Zr<|Zv (Y.makeFunc (l := []) (l' := [.tmp 2,.tmp 3]) Z Z)<|Za Z<|Ze<|Zg<|Zu<|Ex.keep [1,0]<|?_
 exact Ex.ret1 rfl rfl  ⟨rfl,b1,b2,rfl,rfl⟩
theorem sorted_1 {V : Vw} {b : Nat} {x y : Le} {gb : FuncId} {cb : List Value} {k : Le → Int} (hk : V b = some (.cells #[.func (.func gb) #[] cb.toArray] 102 (0,0))) (hby : ∀ x : Le,Does Tryz.prog gb (.agg x.cells.toArray :: cb) V [] (Pv (.int .i64 (k x)) V []))  : Does Tryz.prog 184 [.agg #[.int .u32 x.addr,.int .i64 x.bind,.string x.client,.int .i64 x.till,.int .i64 x.acked,.int .i64 x.told,.int .i64 x.at_,.int .i64 x.ver],.agg #[.int .u32 y.addr,.int .i64 y.bind,.string y.client,.int .i64 y.till,.int .i64 y.acked,.int .i64 y.told,.int .i64 y.at_,.int .i64 y.ver],(pZ b)] V [] (Pv (.int .i64 (Le.cmpBy k x y)) V []) := by
 refine Does.intro Tryz.func184 rfl rfl (le rfl) (fun B => ?_)
 refine Zs<|Zr<|?_
 refine Run.box rfl (lt rfl) (fun b1 => ?_)
 refine Run.box rfl (lt rfl) (fun b2 => ?_)
 refine Za Z<|Ze<|Zg<|Zs<|Tr.tail 12 Table2_mo WK<|ZV (Y.load Z Table2_ts102 (.inl hk) Z)<|ZV (Y.loadAgg Z Table2_ag43 (Kn.at 1 Z) Z)<|RunQ.call0 (l := [.tmp 7]) rfl rfl rfl (lt rfl) ((hby x).frame)<|ZV (Y.load Z Table2_ts102 (.inl hk) Z)<|ZV (Y.loadAgg Z Table2_ag43 (Kn.at 0 Z) Z)<|RunQ.call0 (l := [.tmp 10]) rfl rfl rfl (lt rfl) ((hby y).frame)<|RunQ.call0 (l := [.tmp 8,.tmp 11]) Z Z Z (lt Z) cmp_n_h<|ZV (Y.fieldAddr Z Table2_fo43_0)<|?_
 refine ZV (Y.load Z Table2_ts24 (Kn.at 1 Z) Z)<|ZV (Y.fieldAddr Z Table2_fo43_0)<|ZV (Y.load Z Table2_ts24 (Kn.at 0 Z) Z)<|RunQ.call0 (l := [.tmp 14,.tmp 16]) Z Z Z (lt Z) cmp_u_h<|RunQ.nil_run<|?_
 refine Run.buildSlice (l := [(0,.tmp 12),(1,.tmp 17)]) Table2_es148 Table2_zo3 rfl WD rfl rfl WD (lt rfl) (fun b3 => ?_)
 refine Run.call0 (l := [.tmp 18]) Z Z Z (lt Z) (or_c (x := Rg.cmp3 (k x) (k y)) (y := Rg.cmp3 x.addr y.addr) (Rd.one (Kn.at 0 Z) Z))<|Za Z<|Ze<|Zg<|Zu<|Ex.keep []<|?_
 exact Ex.ret1 rfl rfl  ⟨rfl,rfl,rfl⟩
theorem tsorted_c {V : Vw} {Hs : Hp} {gf : FuncId} {caps : List Value} {S Sp : List Le → Prop} {N : Nat} (hit : ∀ V',V.le V' → Iterates Tryz.prog gf caps V' Hs Le.yv S Sp N) (hNb : N ≤ 1000000000) (hlen : ∀ xs,S xs → xs.length ≤ 1000000000) {gb : FuncId} {cb : List Value} {k : Le → Int} (hby : ∀ V',V.le V' → ∀ x : Le,Does Tryz.prog gb (.agg x.cells.toArray :: cb) V' [] (Pv (.int .i64 (k x)) V' []))  : Does Tryz.prog 171 [.func (.func gf) #[] caps.toArray,.func (.func gb) #[] cb.toArray] V Hs (fun v V' H' => V.le V' ∧ ∃ xs ys q,S xs ∧ ys.Perm xs ∧ Srt (ltc (Le.cmpBy k)) ys ∧ Ow 43 8 v ys.length (ys.flatMap Le.cells) q ∧ H' = q :: Hs) := by
 refine Does.intro Tryz.func171 rfl rfl (le rfl) (fun B => ?_)
 refine Zs<|Zr<|?_
 refine Run.box rfl (lt rfl) (fun b1 => ?_)
 refine Za Z<|Ze<|Zg<|Zs<|Zr<|?_
 refine Run.show (s := [(b1,.cells #[.func (.func gb) #[] cb.toArray] 102 (0,0))]) (H := Hs) (fun V9 hle9 hsh9 => ?_)
 have hk9 : V9 b1 = some (.cells #[.func (.func gb) #[] cb.toArray] 102 (0,0)) := hsh9 _ _ (by simp [List.lookup])
 refine Zm Z<|Zv (Y.makeFunc (l := []) (l' := [.tmp 3]) Z Z)<|?_
 refine Run.callW (l := [.tmp 5,.tmp 6]) rfl rfl rfl (lt rfl) (sortedf_l (caps2 := [(pZ b1)]) (cm := Le.cmpBy k) (hit V9 hle9) hNb hlen (fun x y => sorted_1 hk9 (hby V9 hle9)) (Le.swoBy k)) (fun v3 V3 H3 hle3 hR => ?_)
 obtain ⟨hV,xs,ys,q,hS,hp,hs,ho,rfl⟩ := hR; replace hV := hV.symm; subst hV
 refine Za Z<|Ze<|Zg<|Zu<|?_
 exact Ex.ret1 rfl rfl  ⟨hle9,xs,ys,q,hS,hp,hs,ho,rfl⟩
end Go.Proofs.YtfgblingojgafaaGreat
namespace Go.Proofs.YtfgblingojgafaaGreat
open Go Go.K
attribute [local irreducible] Code.wp wpList Calls wpQuiet
theorem Addr2_ts33 : scal Tryz.prog 33 = true := by kernel_rfl
theorem Addr2_es33 : elemS Tryz.prog 33 = some (66,2) := by kernel_rfl
theorem Addr2_ag66 : aggsz Tryz.prog 66 = some 2 := by kernel_rfl
theorem Addr2_zo66 : zeroOf Tryz.prog 66 = some (.agg #[.int .u32 0,.int .u32 0]) := by kernel_rfl
theorem Addr2_sz66 : sizeT Tryz.prog 66 = some 2 := by kernel_rfl
theorem Addr2_fo66_0 : fieldOff Tryz.prog 66 0 = some 0 := by kernel_rfl
theorem Addr2_ts24 : scal Tryz.prog 24 = true := by kernel_rfl
theorem Addr2_it3_24 : intT Tryz.prog 3 24 = some .u32 := by kernel_rfl
theorem Addr2_zo24 : zeroOf Tryz.prog 24 = some (.int .u32 0) := by kernel_rfl
theorem Addr2_zo50 : zeroOf Tryz.prog 50 = some (.int .i64 0) := by kernel_rfl
theorem Addr2_ts3 : scal Tryz.prog 3 = true := by kernel_rfl
theorem Addr2_sz24 : sizeT Tryz.prog 24 = some 1 := by kernel_rfl
theorem Addr2_sz50 : sizeT Tryz.prog 50 = some 1 := by kernel_rfl
theorem Addr2_ts50 : scal Tryz.prog 50 = true := by kernel_rfl
theorem all1_c {V : Vw} {l : List Rg} {p : Option Addr} {c b N : Nat} (hv : Rd V [] 2 (.slice p l.length c) l.length (l.flatMap Rg.cells)) (hlm : l.length ≤ 1000) (hok : Rg.Oks l) (hNl : (Rg.adr l).length ≤ N) {lp : Nat} {J Jx : List (Int × Int) → Hp → Prop} {Hy : Hp} (hy : ∀ xs x H,J xs H → xs.length < N → YDoes Tryz.prog lp (Rg.iv x) V H (fun u V' H' => V' = V ∧ (u = .bool true ∧ J (xs ++ [x]) H' ∨ u = .bool false ∧ Jx (xs ++ [x]) H'))) (h0 : J [] Hy)  : Does Tryz.prog 169 [yv lp,(pZ b)] V ([[(b,.cells #[.slice p l.length c] 33 (0,0))]] ++ Hy) (fun _ V' H' => V' = V ∧ ∃ xs Hy',H' = [[(b,.cells #[.slice p l.length c] 33 (0,0))]] ++ Hy' ∧ (xs = Rg.ix (Rg.adr l) ∧ J xs Hy' ∨ (∃ k,k < (Rg.adr l).length ∧ xs = (Rg.ix (Rg.adr l)).take (k + 1)) ∧ Jx xs Hy')) := by
 refine Does.intro Tryz.func169 rfl rfl (le rfl) (fun B => ?_)
 refine Zs<|Zr<|Za Z<|Ze<|Zg<|Zs<|Zr<|Zv (Y.load Z Addr2_ts33 (Kn.at 0 Z) Z)<|Zv (Y.lenSl Z Addr2_es33)<|Zm Z<|Ze<|Zg<|Zb<|?_
 refine ZL (X := Nat × Hp) (fun z0 => V) (fun z0 => [(b,.cells #[.slice p l.length c] 33 (0,0))] :: z0.2) (fun z0 => [(0,yv lp),(3,.int .i64 (((Rg.adr (l.take z0.1)).length : Nat) : Int)),(7,.slice p l.length c),(8,.int .i64 ((l.length : Nat) : Int)),(9,.int .i64 (z0.1 : Int))]) (fun z0 => z0.1 ≤ l.length ∧ J ((Rg.ix (Rg.adr l)).take ((Rg.adr (l.take z0.1)).length)) z0.2) (fun z0 => l.length - z0.1) (⟨0,Hy⟩ : Nat × Hp) ⟨Nat.zero_le _,h0⟩ ?_
 rintro ⟨i1,Hy1⟩ ⟨hi,hJ⟩
 try dsimp only at hi hJ ⊢
 have hbd := hok.bd i1
 have hsd : Rg.size (l.getD i1 Rg.dflt) = (l.getD i1 Rg.dflt).high - (l.getD i1 Rg.dflt).low + 1 := rfl
 have hal := Rg.adr_len_le (hok.take i1)
 rw [List.length_take] at hal
 refine Zs<|Zr<|Zv (Y.int Z Z Z)<|Ze<|Zg<|Zs<|?_
 rcases Zsplit (decide ((i1 : Int) < ((l.length : Nat) : Int))) with ⟨h1,g1⟩ | ⟨h1,g1⟩ <;> try simp only [kb] at g1
 ·refine Tr.cond_t Z h1<|Zt<|Zg<|Zs<|Zb<|Zs<|Zr<|Zv (Y.idxR i1 Z Z Addr2_es33 hv.of_nil W W)<|Zv (Y.ldRA (vs := [.int .u32 ((l.getD i1 Rg.dflt).low),.int .u32 ((l.getD i1 Rg.dflt).high)]) rfl Addr2_ag66 hv.of_nil rfl WD (fun o ho => flatm_atA Rg.len W Rg.dflt o ho))<|?_
  refine Run.alloc Addr2_zo66 (lt rfl) (fun b2 => ?_)
  refine Run.store (s := [(b2,.cells #[.int .u32 ((l.getD i1 Rg.dflt).low),.int .u32 ((l.getD i1 Rg.dflt).high)] 66 (0,0))]) Z Z Addr2_sz66 (i := 0) Z Z (le Z) Z Z<|Ze<|Zg<|Zs<|Zr<|Zv (Y.loadAgg Z Addr2_ag66 (Kn.at 0 Z) Z)<|Run.call0 (l := [.tmp 13]) Z Z Z (lt Z) (size_h (hok.at i1))<|Zm Z<|Ze<|Zg<|Zb<|?_
  refine ZL (X := Nat × Hp) (fun z0 => V) (fun z0 => [(b2,.cells #[.int .u32 ((l.getD i1 Rg.dflt).low),.int .u32 ((l.getD i1 Rg.dflt).high)] 66 (0,0))] :: [(b,.cells #[.slice p l.length c] 33 (0,0))] :: z0.2) (fun z0 => [(0,yv lp),(3,.int .i64 (((Rg.adr (l.take i1)).length + z0.1 : Nat) : Int)),(7,.slice p l.length c),(8,.int .i64 ((l.length : Nat) : Int)),(9,.int .i64 (i1 : Int)),(5,(pZ b2)),(14,.int .i64 (Rg.size (l.getD i1 Rg.dflt))),(15,.int .i64 (z0.1 : Int))]) (fun z0 => z0.1 ≤ (Rg.size (l.getD i1 Rg.dflt)).toNat ∧ J ((Rg.ix (Rg.adr l)).take ((Rg.adr (l.take i1)).length + z0.1)) z0.2) (fun z0 => (Rg.size (l.getD i1 Rg.dflt)).toNat - z0.1) (⟨0,Hy1⟩ : Nat × Hp) ⟨Nat.zero_le _,hJ⟩ ?_
  rintro ⟨j1,Hy3⟩ ⟨hj,hJ3⟩
  try dsimp only at hj hJ3 ⊢
  refine Zs<|Zr<|Zv (Y.int Z Z Z)<|Ze<|Zg<|Zs<|?_
  rcases Zsplit (decide ((j1 : Int) < (Rg.size (l.getD i1 Rg.dflt)))) with ⟨h3,g3⟩ | ⟨h3,g3⟩ <;> try simp only [kb] at g3
  ·refine Tr.cond_t Z h3<|Zt<|Zg<|Zs<|Zb<|Zs<|Zr<|Zm Z<|Za Z<|Ze<|Zg<|Zs<|Zs<|Tr.regionI<|RunI.op Z<|Zm Z<|?_
   refine Ze<|Ex.goI<|RunI.op Z<|Zm Z<|Ze<|Ex.goI<|RunI.op Z<|Zv (Y.fieldAddr Z Addr2_fo66_0)<|Ze<|Ex.goI<|RunI.op Z<|Zv (Y.load Z Addr2_ts24 (Kn.at 0 Z) Z)<|Ze<|Ex.goI<|RunI.op Z<|Zm Z<|?_
   refine Ze<|Ex.goI<|RunI.op Z<|Zv (Y.conv ((j1 : Int)) rfl Addr2_it3_24 (wrap_u32 W))<|Ze<|Ex.goI<|RunI.op Z<|Zv (Y.int (r := .int .u32 ((l.getD i1 Rg.dflt).low + (j1 : Int))) rfl rfl (by simp only [intRes]; rw [wrap_u32 W]))<|Ze<|Ex.goI<|?_
   have ea := Rg.adr_at (l := l) (i := i1) (j := j1) W W
   refine RunI.callY [[(b2,.cells #[.int .u32 ((l.getD i1 Rg.dflt).low),.int .u32 ((l.getD i1 Rg.dflt).high)] 66 (0,0))],[(b,.cells #[.slice p l.length c] 33 (0,0))]] Hy3 rfl rfl rfl (lt rfl) (hy ((Rg.ix (Rg.adr l)).take ((Rg.adr (l.take i1)).length + j1)) ((((Rg.adr (l.take i1)).length + j1 : Nat) : Int),(l.getD i1 Rg.dflt).low + (j1 : Int)) _ hJ3 (by rw [List.length_take,Rg.ix_len]; omega)) (fun u V2 Hy4 hle hR => ?_)
   rw [← ea.2,← Rg.ix_take ea.1] at hR
   obtain ⟨hV,⟨rfl,hJ4⟩ | ⟨rfl,hJ4⟩⟩ := hR <;> (replace hV := hV.symm; subst hV)
   ·refine RunI.op Z<|Zv (Y.not Z)<|Ze<|Ex.goI<|RunI.nil<|Zg<|Tr.cond_f Z Z<|Zt<|Zg<|Zr<|Zm Z<|Zv (Y.add Z Z W)<|Za Z<|Ze<|Zc<|Zg<|?_
    refine Zr<|Zv (Y.add Z Z W)<|Zm Z<|Ze<|?_
    exact ZR (⟨j1 + 1,Hy4⟩ : Nat × Hp) ⟨by omega,hJ4⟩ (by dsimp only; omega) (by repeat (first | exact subB_nil _ | refine subB_cons (by first | rfl | exact congrArg (fun z => some (Value.int _ z)) W | exact congrArg (fun z => some (Value.int _ z)) W) ?_))
   ·refine RunI.op Z<|Zv (Y.not Z)<|Ze<|Ex.goI<|RunI.nil<|Zg<|Tr.cond_t Z Z<|Zu<|Zn<|Zk<|Zn<|Zn<|Zk<|Zk<|Zn<|Zn<|?_
    refine Zk<|Ex.drop<|?_
    exact Ex.ret0 rfl ⟨rfl,_,Hy4,rfl,.inr ⟨⟨_,ea.1,rfl⟩,hJ4⟩⟩
  ·refine Tr.cond_f Z h3<|Zx<|Zy<|Zy<|Zi<|Zc<|Zg<|Zr<|Zv (Y.add Z Z W)<|Zm Z<|Ze<|Ex.drop<|?_
   have el := Rg.adr_len_take (l := l) (i := i1) W
   have ej : (Rg.adr (l.take i1)).length + j1 = (Rg.adr (l.take (i1 + 1))).length := by omega
   exact ZR (⟨i1 + 1,Hy3⟩ : Nat × Hp) ⟨by omega,by rw [← ej]; exact hJ3⟩ (by dsimp only; omega) (by repeat (first | exact subB_nil _ | refine subB_cons (by first | rfl | exact congrArg (fun z => some (Value.int _ z)) W | exact congrArg (fun z => some (Value.int _ z)) (by dsimp only; omega)) ?_))
 ·refine Tr.cond_f Z h1<|Zx<|Zy<|Zy<|Zi<|?_
  obtain rfl : i1 = l.length := by omega
  rw [List.take_length,Rg.ix_full] at hJ
  exact Ex.end0 rfl ⟨rfl,_,Hy1,rfl,.inl ⟨rfl,hJ⟩⟩
theorem all_it {V : Vw} {l : List Rg} {p : Option Addr} {c b : Nat} (hv : Rd V [] 2 (.slice p l.length c) l.length (l.flatMap Rg.cells)) (hlm : l.length ≤ 1000) (hok : Rg.Oks l) : Iterates Tryz.prog 169 [(pZ b)] V [[(b,.cells #[.slice p l.length c] 33 (0,0))]] Rg.iv (fun xs => xs = Rg.ix (Rg.adr l)) (fun xs => ∃ k,k < (Rg.adr l).length ∧ xs = (Rg.ix (Rg.adr l)).take (k + 1)) (Rg.adr l).length := fun lp J Jx hy Hy h0 => all1_c hv hlm hok (Nat.le_refl _) hy h0
theorem all_top {V : Vw} {l : List Rg} {p : Option Addr} {c : Nat}  : Does Tryz.prog 134 [.slice p l.length c] V [] (fun v V' H' => V' = V ∧ ∃ b,v = .func (.func 169) #[] [(pZ b)].toArray ∧ H' = [[(b,.cells #[.slice p l.length c] 33 (0,0))]]) := by
 refine Does.intro Tryz.func134 rfl rfl (le rfl) (fun B => ?_)
 refine Zs<|Zr<|?_
 refine Run.box rfl (lt rfl) (fun b1 => ?_)
 refine Za Z<|Ze<|Zg<|Zs<|Zr<|Zv (Y.makeFunc (l := []) (l' := [.tmp 1]) Z Z)<|Za Z<|Ze<|Zg<|Zu<|Ex.keep [0]<|?_
 exact Ex.ret1 rfl rfl  ⟨rfl,b1,rfl,rfl⟩
theorem at_a {V : Vw} {l : List Rg} {p : Option Addr} {c : Nat} (hv : Rd V [] 2 (.slice p l.length c) l.length (l.flatMap Rg.cells)) (hlm : l.length ≤ 1000) (hok : Rg.Oks l) {n : Int}  : Does Tryz.prog 72 [.slice p l.length c,.int .i64 n] V [] (Pv (.tuple #[.int .u32 ((Rg.at_ (Rg.adr l) n).1),.int .i64 ((Rg.at_ (Rg.adr l) n).2)]) V []) := by
 refine Does.introM Tryz.func72 rfl rfl (le rfl) (fun B => ?_)
 refine Zs<|Zr<|?_
 refine Run.box rfl (lt rfl) (fun b1 => ?_)
 refine Run.alloc Addr2_zo24 (lt rfl) (fun b2 => ?_)
 refine Run.alloc Addr2_zo50 (lt rfl) (fun b3 => ?_)
 refine Ze<|Zg<|Zs<|Zs<|Zr<|Zm Z<|?_
 refine Run.call [] (l := [.tmp 8]) rfl rfl rfl (lt rfl) (all_top (l := l) (p := p) (c := c)) (fun v4 V2 H2 hle hR => ?_)
 obtain ⟨hV,bk,rfl,rfl⟩ := hR; replace hV := hV.symm; subst hV
 refine Run.heapTo (H' := [[(b3,.cells #[.int .i64 0] 50 (0,0))],[(b2,.cells #[.int .u32 0] 24 (0,0))],[(b1,.cells #[.int .i64 n] 3 (0,0))],[(bk,.cells #[.slice p l.length c] 33 (0,0))]]) Z<|Ze<|Zg<|Zb<|?_
 refine Tr.range1 [] [[(bk,.cells #[.slice p l.length c] 33 (0,0))]] [[(b3,.cells #[.int .i64 0] 50 (0,0))],[(b2,.cells #[.int .u32 0] 24 (0,0))],[(b1,.cells #[.int .i64 n] 3 (0,0))]] ((pull_perm [3,0,0,0] [[(b3,.cells #[.int .i64 0] 50 (0,0))],[(b2,.cells #[.int .u32 0] 24 (0,0))],[(b1,.cells #[.int .i64 n] 3 (0,0))],[(bk,.cells #[.slice p l.length c] 33 (0,0))]]).symm) rfl (all_it hv hlm hok) (fun xs (H : Hp) => H = [[(b3,.cells #[.int .i64 0] 50 (0,0))],[(b2,.cells #[.int .u32 0] 24 (0,0))],[(b1,.cells #[.int .i64 n] 3 (0,0))]] ∧ ∀ q ∈ xs,q.1 ≠ n) (fun c xs (H : Hp) => c = .ret ∧ ∃ ys q,xs = ys ++ [q] ∧ (q.1 = n) ∧ H = [[(b3,.cells #[.int .i64 0] 50 (0,0))],[(b2,.cells #[.int .u32 q.2] 24 (0,0))],[(b1,.cells #[.int .i64 n] 3 (0,0))]]) ⟨rfl,fun q h => by cases h⟩ (fun lp5 rr6 xs7 x8 H hLI hf hJ hN => ?_) (fun D4 xs7 H hS hJ => ?_) (fun D4 c xs7 H hS hJ => ?_)
 ·obtain ⟨rfl,hn⟩ := hJ
  refine YDoes.intro hLI rfl (env_par2 (lt rfl) (lt rfl)) (fun Blp5 => ?_)
  refine TrR.seq<|TrR.region Z<|Za Z<|Ze<|Ex.goR<|TrR.region Z<|Za Z<|Ze<|Ex.begin hf.1<|TrR.block<|TrR.seq<|TrR.region Z<|Zm Z<|Zv (Y.load Z Addr2_ts3 (Kn.at 3 Z) Z)<|Zv (Y.int Z Z Z)<|Ze<|?_
  refine Ex.goR ?_
  rcases Zsplit (x8.1 == n) with ⟨h9,g9⟩ | ⟨h9,g9⟩ <;> try simp only [kb] at g9
  ·refine TrR.cond_t Z h9<|TrR.seq<|TrR.region Z<|Zm Z<|Run.store (s := [(b2,.cells #[.int .u32 x8.2] 24 (0,0))]) Z Z Addr2_sz24 (i := 2) Z Z (le Z) Z Z<|Run.store (s := [(b3,.cells #[.int .i64 0] 50 (0,0))]) Z Z Addr2_sz50 (i := 1) Z Z (le Z) Z Z<|Ze<|Ex.goR<|TrR.to_ret<|Zk<|?_
   exact Ex.stopRet ⟨rfl,.inr ⟨rfl,_,_,_,rfl,rfl,rfl,⟨rfl,xs7,x8,rfl,by omega,rfl⟩⟩⟩
  ·refine TrR.cond_f Z h9<|TrR.to_end<|Zc<|?_
   exact Ex.next ⟨rfl,.inl ⟨rfl,_,_,hLI.with _ _,⟨rfl,rfl⟩,rfl,⟨rfl,Rg.snoc_all hn W⟩⟩⟩
 ·obtain ⟨rfl,hn⟩ := hJ
  refine Zc<|Zg<|Zs<|Zr<|Run.store (s := [(b2,.cells #[.int .u32 0] 24 (0,0))]) Z Z Addr2_sz24 (i := 3) Z Z (le Z) Z Z<|Run.store (s := [(b3,.cells #[.int .i64 4] 50 (0,0))]) Z Z Addr2_sz50 (i := 2) Z Z (le Z) Z Z<|Ze<|Zg<|Zu<|Ex.unmark (.inl Z)<|Ex.bodyM (.inl Z)<|?_
  exact Ex.retS2 [] rfl rfl rfl Addr2_ts24 Addr2_ts50 (Kn.at 2 rfl) (Kn.at 1 rfl) rfl rfl ⟨by rw [Rg.at_none (by rw [← hS]; exact hn)]; rfl,rfl,rfl⟩
 ·obtain ⟨rfl,ys,qz,hxs,hqz,rfl⟩ := hJ
  refine Zk<|Zn<|Ex.unmark (.inl Z)<|Ex.bodyM (.inl Z)<|?_
  exact Ex.retS2 [] rfl rfl rfl Addr2_ts24 Addr2_ts50 (Kn.at 2 rfl) (Kn.at 1 rfl) rfl rfl ⟨by rw [Rg.at_some hS hxs hqz]; rfl,rfl,rfl⟩
theorem at_h {V : Vw} {l : List Rg} {v : Value} {n : Int} (hv : Rd V [] 2 v l.length (l.flatMap Rg.cells)) (hlm : l.length ≤ 1000) (hok : Rg.Oks l) {H : Hp} : Does Tryz.prog 72 [v,.int .i64 n] V H (Pv (.tuple #[.int .u32 ((Rg.at_ (Rg.adr l) n).1),.int .i64 ((Rg.at_ (Rg.adr l) n).2)]) V H) := by
  obtain ⟨p,c,rfl,_⟩ := hv.form
  exact (at_a hv hlm hok).frame
end Go.Proofs.YtfgblingojgafaaGreat
