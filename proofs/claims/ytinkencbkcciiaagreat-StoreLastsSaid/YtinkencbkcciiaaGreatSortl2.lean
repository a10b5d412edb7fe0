/- The library's sort by a comparison, at leases, walked: its second half.
Conditions: as each theorem names them. -/
import Derived.Test.YtinkencbkcciiaaGreatProg
import Derived.Test.YtinkencbkcciiaaGreatSortl
import Derived.Test.YtinkencbkcciiaaGreatSortnum
import Derived.Test.YtinkencbkcciiaaGreatZG
set_option linter.unusedSimpArgs false
set_option linter.unusedVariables false
set_option maxRecDepth 4000
namespace Go.Proofs.YtinkencbkcciiaaGreat
open Go Go.K
attribute [local irreducible] Code.wp wpList Calls wpQuiet
theorem Sortl2_mo : Tryz.prog.follows .mixedOrders = true := by kernel_rfl
theorem Sortl2_es59 : elemS Tryz.prog 59 = some (49,8) := by kernel_rfl
theorem Sortl2_ag49 : aggsz Tryz.prog 49 = some 8 := by kernel_rfl
theorem Sortl2_sz49 : sizeT Tryz.prog 49 = some 8 := by kernel_rfl
theorem Sortl2_ts3 : scal Tryz.prog 3 = true := by kernel_rfl
theorem Sortl2_sz3 : sizeT Tryz.prog 3 = some 1 := by kernel_rfl
theorem Sortl2_zo3 : zeroOf Tryz.prog 3 = some (.int .i64 0) := by kernel_rfl
theorem Sortl2_it3_295 : intT Tryz.prog 3 295 = some .u64 := by kernel_rfl
theorem Sortl2_zo295 : zeroOf Tryz.prog 295 = some (.int .u64 0) := by kernel_rfl
theorem Sortl2_sz295 : sizeT Tryz.prog 295 = some 1 := by kernel_rfl
theorem Sortl2_it191_3 : intT Tryz.prog 191 3 = some .i64 := by kernel_rfl
open Go.Sort
theorem pins_l {V : Vw} {n c b : Nat} {rest : List Value} {d0 : Array Le} {gf : FuncId} {caps : List Value} {cm : Le → Le → Int} {x y : Nat}  (hN : n ≤ 1073741824) (hd : d0.size = n) (hx : x < y) (hy : y ≤ n)  (hcmp : ∀ x y : Le,Does Tryz.prog gf (.agg (Le.cells x).toArray :: .agg (Le.cells y).toArray :: caps) V [] (Pv (.int .i64 (cm x y)) V [])) (hswo : SWO (ltc cm))  : Does Tryz.prog 275 [.slice (some ⟨b,0,none⟩) n c,.int .i64 ((x : Nat) : Int),.int .i64 ((y : Nat) : Int),.func (.func gf) #[] caps.toArray] V [sgD Le.cells 49 b rest d0] (fun v V' H' => V' = V ∧ v = .bool (partialInsertionSort (ltc cm) d0 x y).2 ∧ H' = [sgD Le.cells 49 b rest ((partialInsertionSort (ltc cm) d0 x y).1)]) := by
 refine Does.intro Tryz.func275 rfl rfl (le rfl) (fun B => ?_)
 refine Zs<|Zr<|Za Z<|Ze<|Zg<|Zs<|Zr<|Zm Z<|Zv (Y.addN ((x + 1 : Nat) : Int) rfl rfl W W)<|Za Z<|Ze<|Zg<|Zs<|Zs<|Zr<|Za Z<|?_
 refine Ze<|Zg<|Zb<|?_
 refine ZL (X := Nat × Nat × Array Le) (fun z0 => V) (fun z0 => [sgD Le.cells 49 b rest z0.2.2]) (fun z0 => [(0,.slice (some ⟨b,0,none⟩) n c),(1,.int .i64 ((x : Nat) : Int)),(2,.int .i64 ((y : Nat) : Int)),(3,.func (.func gf) #[] caps.toArray),(8,.bool false),(9,.int .i64 ((z0.2.1 : Nat) : Int)),(10,.int .i64 ((z0.1 : Nat) : Int))]) (fun z0 => partialIns (ltc cm) x y (5 - z0.1) z0.2.1 z0.2.2 = partialInsertionSort (ltc cm) d0 x y ∧ z0.2.2.size = n ∧ x < z0.2.1 ∧ z0.2.1 ≤ y ∧ z0.1 ≤ 5) (fun z0 => 5 - z0.1) (⟨0,x + 1,d0⟩ : Nat × Nat × Array Le) ⟨rfl,hd,by (try dsimp only); omega,by (try dsimp only); omega,by (try dsimp only); omega⟩ ?_
 rintro ⟨s,i,d⟩ ⟨r1,r2,r3,r4,r5⟩
 try dsimp only at r1 r2 r3 r4 r5 ⊢
 refine Zs<|Zs<|Zr<|Zm Z<|Zv (Y.int Z Z Z)<|Ze<|Zg<|?_
 rcases Zsplit (decide (((s : Nat) : Int) < 5)) with ⟨h1,g1⟩ | ⟨h1,g1⟩ <;> try simp only [kb] at g1
 ·refine Tr.cond_t Z h1<|Zt<|Zg<|Zs<|Zb<|?_
  refine Tr.cutx (X := Nat) (fun i2 => V) (fun i2 => [sgD Le.cells 49 b rest d]) (fun i2 => [(0,.slice (some ⟨b,0,none⟩) n c),(1,.int .i64 ((x : Nat) : Int)),(2,.int .i64 ((y : Nat) : Int)),(3,.func (.func gf) #[] caps.toArray),(8,.bool false),(9,.int .i64 ((i2 : Nat) : Int)),(10,.int .i64 ((s : Nat) : Int))]) (fun i2 => scanSorted (ltc cm) d y i = i2 ∧ i ≤ i2 ∧ i2 ≤ y) ?_ ?_
  ·refine Zb ?_
   refine ZL (X := Nat) (fun z0 => V) (fun z0 => [sgD Le.cells 49 b rest d]) (fun z0 => [(0,.slice (some ⟨b,0,none⟩) n c),(1,.int .i64 ((x : Nat) : Int)),(2,.int .i64 ((y : Nat) : Int)),(3,.func (.func gf) #[] caps.toArray),(8,.bool false),(9,.int .i64 ((z0 : Nat) : Int)),(10,.int .i64 ((s : Nat) : Int))]) (fun z0 => scanSorted (ltc cm) d y z0 = scanSorted (ltc cm) d y i ∧ i ≤ z0 ∧ z0 ≤ y) (fun z0 => y - z0) (i : Nat) ⟨rfl,Nat.le_refl _,by omega⟩ ?_
   rintro u ⟨m1,m2,m3⟩
   try dsimp only at m1 m2 m3 ⊢
   refine Zs<|Zs<|Tr.quiet Sortl2_mo WK<|ZM Z<|ZM Z<|ZV (Y.int Z Z Z)<|ZM Z<|?_
   rcases Zsplit (decide (((u : Nat) : Int) < ((y : Nat) : Int))) with ⟨h2,g2⟩ | ⟨h2,g2⟩ <;> try simp only [kb] at g2
   ·refine ZP h2<|ZM Z<|ZP h2<|ZM Z<|ZP h2<|ZM Z<|ZP h2<|ZV (Y.idxN u Z Z Sortl2_es59 W W)<|ZP h2<|ZV (Y.ldA (enc := Le.cells) (d := d) (rest := rest) (e := 49) (i := u) Z Sortl2_ag49 (Kn.at 0 rfl) Le.enc1 WB rfl)<|ZP h2<|ZM Z<|ZP h2<|ZM Z<|ZP h2<|ZV (Y.subN ((u - 1 : Nat) : Int) rfl rfl W W)<|?_
    refine ZP h2<|ZV (Y.idxN (u - 1) rfl rfl Sortl2_es59 W W)<|ZP h2<|ZV (Y.ldA (enc := Le.cells) (d := d) (rest := rest) (e := 49) (i := (u - 1)) rfl Sortl2_ag49 (Kn.at 0 rfl) Le.enc1 WB rfl)<|ZP h2<|RunQ.call0 (l := [.tmp 27,.tmp 32]) Z Z Z (lt Z) ((hcmp (d[u]!) (d[u - 1]!)).frame)<|ZP h2<|ZV (Y.int Z Z Z)<|ZP h2<|ZV (Y.not Z)<|ZV (Y.pick_t Z h2 Z)<|?_
    refine ZE<|Zg<|?_
    rcases Zsplit (decide ((cm (d[u]!) (d[u - 1]!)) < 0)) with ⟨h3,g3⟩ | ⟨h3,g3⟩ <;> try simp only [kb] at g3
    ·refine Tr.cond_f Z (congrArg Bool.not h3)<|Zx<|Zy<|Zy<|Zi<|?_
     exact ZX u ⟨m1.symm.trans (scanSorted_stop (by first | (left; omega) | (right; assumption))),m2,m3⟩
    ·refine Tr.cond_t Z (congrArg Bool.not h3)<|Zt<|Zg<|Zb<|Zr<|Zm Z<|Zv (Y.addN ((u + 1 : Nat) : Int) rfl rfl W W)<|Za Z<|Ze<|Zc<|?_
     exact ZR (u + 1 : Nat) ⟨(scanSorted_go W (by assumption)).trans m1,by omega,by omega⟩ W
   ·refine ZO h2 Z<|ZO h2 Z<|ZO h2 Z<|ZO h2 Z<|ZO h2 Z<|ZO h2 Z<|ZO h2 Z<|ZO h2 Z<|ZO h2 Z<|ZO h2 Z<|ZO h2 Z<|ZO h2 Z<|ZO h2 Z<|ZV (Y.pick_f Z h2 Z)<|ZE<|Zg<|?_
    refine Tr.cond_f Z Z<|Zx<|Zy<|Zy<|Zi<|?_
    exact ZX u ⟨m1.symm.trans (scanSorted_stop (by first | (left; omega) | (right; assumption))),m2,m3⟩
  ·rintro i2 ⟨f1,f2,f3⟩
   refine Zs<|Zs<|Zr<|Zm Z<|Zm Z<|Zv (Y.int Z Z Z)<|Ze<|Zg<|?_
   rcases Zsplit (((i2 : Nat) : Int) == ((y : Nat) : Int)) with ⟨h4,g4⟩ | ⟨h4,g4⟩ <;> try simp only [kb] at g4
   ·refine Tr.cond_t Z h4<|Zs<|Zr<|Za Z<|Ze<|Zg<|Zu<|Zn<|Zk<|Zn<|Zn<|Zk<|Zn<|Ex.keep [0]<|?_
    exact Ex.ret1 rfl rfl  ⟨rfl,by rw [← r1]; first | rw [pins_end W] | rw [pins_done W f1 W] | rw [pins_short W f1 W W],by rw [← r1]; (first | rw [pins_end W] | rw [pins_done W f1 W] | rw [pins_short W f1 W W]); rfl⟩
   ·refine Tr.cond_f Z h4<|Zt<|Zg<|Zs<|Zs<|Zr<|Zm Z<|Zm Z<|Zv (Y.subN ((y - x : Nat) : Int) rfl rfl W W)<|Zv (Y.int Z Z Z)<|Ze<|Zg<|?_
    rcases Zsplit (decide (((y - x : Nat) : Int) < 50)) with ⟨h5,g5⟩ | ⟨h5,g5⟩ <;> try simp only [kb] at g5
    ·refine Tr.cond_t Z h5<|Zs<|Zr<|Za Z<|Ze<|Zg<|Zu<|Zn<|Zk<|Zn<|Zn<|Zk<|Zn<|Ex.keep [0]<|?_
     exact Ex.ret1 rfl rfl  ⟨rfl,by rw [← r1]; first | rw [pins_end W] | rw [pins_done W f1 W] | rw [pins_short W f1 W W],by rw [← r1]; (first | rw [pins_end W] | rw [pins_done W f1 W] | rw [pins_short W f1 W W]); rfl⟩
    ·refine Tr.cond_f Z h5<|Zt<|Zg<|Zs<|Tr.anyT [(b,.cells (cel Le.cells d rest).toArray 49 (0,0))] 15 Sortl2_mo<|Zwm 0 Z Z (ZK 0 Z)<|Zwm 1 Z Z (ZK 0 Z)<|Zwm 2 Z Z (ZK 0 Z)<|Zwm 3 Z Z (ZK 0 Z)<|Zw 4 Z (ZK 0 Z) (fun _ => (Y.subN ((i2 - 1 : Nat) : Int) rfl rfl W W))<|Zwm 5 Z Z (ZK 0 Z)<|Zwm 6 Z Z (ZK 0 Z)<|Zw 7 Z (ZK 0 Z) (fun _ => (Y.subN ((i2 - 1 : Nat) : Int) rfl rfl W W))<|Zw 8 Z (ZK 0 Z) (fun _ => (Y.idxN (i2 - 1) rfl rfl Sortl2_es59 W W))<|?_
     refine ZT 9 0 Z Z (ZK 0 Z) (fun _ => (Y.ldA (enc := Le.cells) (d := d) (rest := rest) (e := 49) (i := (i2 - 1)) rfl Sortl2_ag49 Kn.vk1 Le.enc1 WB rfl))<|Zwm 10 Z Z (ZK 0 Z)<|Zwm 11 Z Z (ZK 0 Z)<|Zw 12 Z (ZK 0 Z) (fun _ => (Y.idxN i2 rfl rfl Sortl2_es59 W W))<|ZT 13 0 Z Z (ZK 0 Z) (fun _ => (Y.ldA (enc := Le.cells) (d := d) (rest := rest) (e := 49) (i := i2) rfl Sortl2_ag49 Kn.vk1 Le.enc1 WB rfl))<|?_
     refine Zw 14 Z (ZK 0 Z) (fun _ => (Y.idxN i2 rfl rfl Sortl2_es59 W W)) ?_
     refine RunT.one (i := 15) WK rfl  ?_
     refine Run.stD (enc := Le.cells) (d := d) (rest := rest) (e := 49) (i := i2) (s := 0) (d[i2 - 1]!) rfl rfl Sortl2_sz49 rfl Le.enc1 WB rfl<|Ze<|Zz 15<|?_
     refine RunT.one (i := 16) WK rfl  ?_
     refine Zv (Y.idxN (i2 - 1) rfl rfl Sortl2_es59 W W)<|Ze<|Zz 16<|?_
     refine RunT.one (i := 17) WK rfl  ?_
     refine Run.stD (enc := Le.cells) (d := (d).setIfInBounds i2 (d[i2 - 1]!)) (rest := rest) (e := 49) (i := (i2 - 1)) (s := 0) (d[i2]!) rfl rfl Sortl2_sz49 rfl Le.enc1 WB rfl<|Run.heapTo (H' := [sgD Le.cells 49 b rest (swp d i2 (i2 - 1))]) Z<|Ze<|Zz 17<|RunT.done WK<|Zg<|?_
     refine Tr.cutx (X := Array Le) (fun d2 => V) (fun d2 => [sgD Le.cells 49 b rest d2]) (fun d2 => [(0,.slice (some ⟨b,0,none⟩) n c),(1,.int .i64 ((x : Nat) : Int)),(2,.int .i64 ((y : Nat) : Int)),(3,.func (.func gf) #[] caps.toArray),(8,.bool false),(9,.int .i64 ((i2 : Nat) : Int)),(10,.int .i64 ((s : Nat) : Int))]) (fun d2 => fixDown (ltc cm) x i2 (swp d i2 (i2 - 1)) = d2 ∧ d2.size = n) ?_ ?_
     ·refine Zs<|Zr<|Zm Z<|Zm Z<|Zv (Y.subN ((i2 - x : Nat) : Int) rfl rfl W W)<|Zv (Y.int Z Z Z)<|Ze<|Zg<|?_
      rcases Zsplit (decide (((i2 - x : Nat) : Int) ≥ 2)) with ⟨h6,g6⟩ | ⟨h6,g6⟩ <;> try simp only [kb] at g6
      ·refine Tr.cond_t Z h6<|Zs<|Zr<|Zm Z<|Zv (Y.subN ((i2 - 1 : Nat) : Int) rfl rfl W W)<|Za Z<|Ze<|Zg<|Zb<|?_
       refine ZL (X := Nat × Array Le) (fun z0 => V) (fun z0 => [sgD Le.cells 49 b rest z0.2]) (fun z0 => [(0,.slice (some ⟨b,0,none⟩) n c),(1,.int .i64 ((x : Nat) : Int)),(2,.int .i64 ((y : Nat) : Int)),(3,.func (.func gf) #[] caps.toArray),(8,.bool false),(9,.int .i64 ((i2 : Nat) : Int)),(10,.int .i64 ((s : Nat) : Int)),(11,.int .i64 ((z0.1 : Nat) : Int))]) (fun z0 => shiftDown (ltc cm) z0.1 z0.2 = shiftDown (ltc cm) (i2 - 1) (swp d i2 (i2 - 1)) ∧ z0.2.size = n ∧ z0.1 < i2) (fun z0 => z0.1) (⟨i2 - 1,swp d i2 (i2 - 1)⟩ : Nat × Array Le) ⟨rfl,by simp only [swp_size]; exact r2,by (try dsimp only); omega⟩ ?_
       rintro ⟨j,f⟩ ⟨k1,k2,k3⟩
       try dsimp only at k1 k2 k3 ⊢
       refine Zs<|Zs<|Zr<|Zm Z<|Zv (Y.int Z Z Z)<|Ze<|Zg<|?_
       rcases Zsplit (decide (((j : Nat) : Int) ≥ 1)) with ⟨h7,g7⟩ | ⟨h7,g7⟩ <;> try simp only [kb] at g7
       ·refine Tr.cond_t Z h7<|Zt<|Zg<|Zs<|Zb<|Zs<|Zs<|Tr.quiet Sortl2_mo WK<|ZM Z<|ZM Z<|ZM Z<|ZV (Y.idxN j Z Z Sortl2_es59 W W)<|ZV (Y.ldA (enc := Le.cells) (d := f) (rest := rest) (e := 49) (i := j) Z Sortl2_ag49 (Kn.at 0 rfl) Le.enc1 WB rfl)<|ZM Z<|ZM Z<|ZV (Y.subN ((j - 1 : Nat) : Int) rfl rfl W W)<|?_
        refine ZV (Y.idxN (j - 1) rfl rfl Sortl2_es59 W W)<|ZV (Y.ldA (enc := Le.cells) (d := f) (rest := rest) (e := 49) (i := (j - 1)) rfl Sortl2_ag49 (Kn.at 0 rfl) Le.enc1 WB rfl)<|RunQ.call0 (l := [.tmp 76,.tmp 81]) Z Z Z (lt Z) ((hcmp (f[j]!) (f[j - 1]!)).frame)<|ZV (Y.int Z Z Z)<|ZV (Y.not Z)<|ZE<|Zg<|?_
        rcases Zsplit (decide ((cm (f[j]!) (f[j - 1]!)) < 0)) with ⟨h8,g8⟩ | ⟨h8,g8⟩ <;> try simp only [kb] at g8
        ·refine Tr.cond_f Z (congrArg Bool.not h8)<|Zt<|Zg<|Tr.anyT [(b,.cells (cel Le.cells f rest).toArray 49 (0,0))] 15 Sortl2_mo<|Zwm 0 Z Z (ZK 0 Z)<|Zwm 1 Z Z (ZK 0 Z)<|Zwm 2 Z Z (ZK 0 Z)<|Zwm 3 Z Z (ZK 0 Z)<|Zw 4 Z (ZK 0 Z) (fun _ => (Y.subN ((j - 1 : Nat) : Int) rfl rfl W W))<|Zwm 5 Z Z (ZK 0 Z)<|Zwm 6 Z Z (ZK 0 Z)<|Zw 7 Z (ZK 0 Z) (fun _ => (Y.subN ((j - 1 : Nat) : Int) rfl rfl W W))<|Zw 8 Z (ZK 0 Z) (fun _ => (Y.idxN (j - 1) rfl rfl Sortl2_es59 W W))<|?_
         refine ZT 9 0 Z Z (ZK 0 Z) (fun _ => (Y.ldA (enc := Le.cells) (d := f) (rest := rest) (e := 49) (i := (j - 1)) rfl Sortl2_ag49 Kn.vk1 Le.enc1 WB rfl))<|Zwm 10 Z Z (ZK 0 Z)<|Zwm 11 Z Z (ZK 0 Z)<|Zw 12 Z (ZK 0 Z) (fun _ => (Y.idxN j rfl rfl Sortl2_es59 W W))<|ZT 13 0 Z Z (ZK 0 Z) (fun _ => (Y.ldA (enc := Le.cells) (d := f) (rest := rest) (e := 49) (i := j) rfl Sortl2_ag49 Kn.vk1 Le.enc1 WB rfl))<|?_
         refine Zw 14 Z (ZK 0 Z) (fun _ => (Y.idxN j rfl rfl Sortl2_es59 W W)) ?_
         refine RunT.one (i := 15) WK rfl  ?_
         refine Run.stD (enc := Le.cells) (d := f) (rest := rest) (e := 49) (i := j) (s := 0) (f[j - 1]!) rfl rfl Sortl2_sz49 rfl Le.enc1 WB rfl<|Ze<|Zz 15<|?_
         refine RunT.one (i := 16) WK rfl  ?_
         refine Zv (Y.idxN (j - 1) rfl rfl Sortl2_es59 W W)<|Ze<|Zz 16<|?_
         refine RunT.one (i := 17) WK rfl  ?_
         refine Run.stD (enc := Le.cells) (d := (f).setIfInBounds j (f[j - 1]!)) (rest := rest) (e := 49) (i := (j - 1)) (s := 0) (f[j]!) rfl rfl Sortl2_sz49 rfl Le.enc1 WB rfl<|Run.heapTo (H' := [sgD Le.cells 49 b rest (swp f j (j - 1))]) Z<|Ze<|Zz 17<|RunT.done WK<|Zc<|Zg<|Zr<|Zm Z<|Zv (Y.subN ((j - 1 : Nat) : Int) rfl rfl W W)<|?_
         refine Za Z<|Ze<|?_
         exact ZR (⟨j - 1,swp f j (j - 1)⟩ : Nat × Array Le) ⟨(shiftDown_go W (by assumption)).trans k1,by simp only [swp_size]; exact k2,by (try dsimp only); omega⟩ (by dsimp only; omega)
        ·refine Tr.cond_t Z (congrArg Bool.not h8)<|Zx<|Zy<|Ex.exit_out Z<|Zy<|Zy<|Zi<|?_
         exact ZX f ⟨by unfold fixDown; first | rw [if_neg W] | (rw [if_pos W,← k1,shiftDown_stop (by first | (left; omega) | (right; assumption))]),by first | assumption | (simp only [swp_size]; assumption)⟩
       ·refine Tr.cond_f Z h7<|Zx<|Zy<|Zy<|Zi<|?_
        exact ZX f ⟨by unfold fixDown; first | rw [if_neg W] | (rw [if_pos W,← k1,shiftDown_stop (by first | (left; omega) | (right; assumption))]),by first | assumption | (simp only [swp_size]; assumption)⟩
      ·refine Tr.cond_f Z h6<|Zt<|?_
       exact ZX (swp d i2 (i2 - 1)) ⟨by unfold fixDown; first | rw [if_neg W] | (rw [if_pos W,← k1,shiftDown_stop (by first | (left; omega) | (right; assumption))]),by first | assumption | (simp only [swp_size]; assumption)⟩
     ·rintro d2 ⟨c1,c2⟩
      refine Zs<|Zr<|Zm Z<|Zm Z<|Zv (Y.subN ((y - i2 : Nat) : Int) rfl rfl W W)<|Zv (Y.int Z Z Z)<|Ze<|Zg<|?_
      rcases Zsplit (decide (((y - i2 : Nat) : Int) ≥ 2)) with ⟨h9,g9⟩ | ⟨h9,g9⟩ <;> try simp only [kb] at g9
      ·refine Tr.cond_t Z h9<|Zs<|Zr<|Zm Z<|Zv (Y.addN ((i2 + 1 : Nat) : Int) rfl rfl W W)<|Za Z<|Ze<|Zg<|Zb<|?_
       refine ZL (X := Nat × Array Le) (fun z0 => V) (fun z0 => [sgD Le.cells 49 b rest z0.2]) (fun z0 => [(0,.slice (some ⟨b,0,none⟩) n c),(1,.int .i64 ((x : Nat) : Int)),(2,.int .i64 ((y : Nat) : Int)),(3,.func (.func gf) #[] caps.toArray),(8,.bool false),(9,.int .i64 ((i2 : Nat) : Int)),(10,.int .i64 ((s : Nat) : Int)),(12,.int .i64 ((z0.1 : Nat) : Int))]) (fun z0 => shiftUp (ltc cm) y z0.1 z0.2 = shiftUp (ltc cm) y (i2 + 1) d2 ∧ z0.2.size = n ∧ i2 < z0.1) (fun z0 => y - z0.1) (⟨i2 + 1,d2⟩ : Nat × Array Le) ⟨rfl,c2,by (try dsimp only); omega⟩ ?_
       rintro ⟨j,f⟩ ⟨u1,u2,u3⟩
       try dsimp only at u1 u2 u3 ⊢
       refine Zs<|Zs<|Zr<|Zm Z<|Zm Z<|Zv (Y.int Z Z Z)<|Ze<|Zg<|?_
       rcases Zsplit (decide (((j : Nat) : Int) < ((y : Nat) : Int))) with ⟨h10,g10⟩ | ⟨h10,g10⟩ <;> try simp only [kb] at g10
       ·refine Tr.cond_t Z h10<|Zt<|Zg<|Zs<|Zb<|Zs<|Zs<|Tr.quiet Sortl2_mo WK<|ZM Z<|ZM Z<|ZM Z<|ZV (Y.idxN j Z Z Sortl2_es59 W W)<|ZV (Y.ldA (enc := Le.cells) (d := f) (rest := rest) (e := 49) (i := j) Z Sortl2_ag49 (Kn.at 0 rfl) Le.enc1 WB rfl)<|ZM Z<|ZM Z<|ZV (Y.subN ((j - 1 : Nat) : Int) rfl rfl W W)<|?_
        refine ZV (Y.idxN (j - 1) rfl rfl Sortl2_es59 W W)<|ZV (Y.ldA (enc := Le.cells) (d := f) (rest := rest) (e := 49) (i := (j - 1)) rfl Sortl2_ag49 (Kn.at 0 rfl) Le.enc1 WB rfl)<|RunQ.call0 (l := [.tmp 116,.tmp 121]) Z Z Z (lt Z) ((hcmp (f[j]!) (f[j - 1]!)).frame)<|ZV (Y.int Z Z Z)<|ZV (Y.not Z)<|ZE<|Zg<|?_
        rcases Zsplit (decide ((cm (f[j]!) (f[j - 1]!)) < 0)) with ⟨h11,g11⟩ | ⟨h11,g11⟩ <;> try simp only [kb] at g11
        ·refine Tr.cond_f Z (congrArg Bool.not h11)<|Zt<|Zg<|Tr.anyT [(b,.cells (cel Le.cells f rest).toArray 49 (0,0))] 15 Sortl2_mo<|Zwm 0 Z Z (ZK 0 Z)<|Zwm 1 Z Z (ZK 0 Z)<|Zwm 2 Z Z (ZK 0 Z)<|Zwm 3 Z Z (ZK 0 Z)<|Zw 4 Z (ZK 0 Z) (fun _ => (Y.subN ((j - 1 : Nat) : Int) rfl rfl W W))<|Zwm 5 Z Z (ZK 0 Z)<|Zwm 6 Z Z (ZK 0 Z)<|Zw 7 Z (ZK 0 Z) (fun _ => (Y.subN ((j - 1 : Nat) : Int) rfl rfl W W))<|Zw 8 Z (ZK 0 Z) (fun _ => (Y.idxN (j - 1) rfl rfl Sortl2_es59 W W))<|?_
         refine ZT 9 0 Z Z (ZK 0 Z) (fun _ => (Y.ldA (enc := Le.cells) (d := f) (rest := rest) (e := 49) (i := (j - 1)) rfl Sortl2_ag49 Kn.vk1 Le.enc1 WB rfl))<|Zwm 10 Z Z (ZK 0 Z)<|Zwm 11 Z Z (ZK 0 Z)<|Zw 12 Z (ZK 0 Z) (fun _ => (Y.idxN j rfl rfl Sortl2_es59 W W))<|ZT 13 0 Z Z (ZK 0 Z) (fun _ => (Y.ldA (enc := Le.cells) (d := f) (rest := rest) (e := 49) (i := j) rfl Sortl2_ag49 Kn.vk1 Le.enc1 WB rfl))<|?_
         refine Zw 14 Z (ZK 0 Z) (fun _ => (Y.idxN j rfl rfl Sortl2_es59 W W)) ?_
         refine RunT.one (i := 15) WK rfl  ?_
         refine Run.stD (enc := Le.cells) (d := f) (rest := rest) (e := 49) (i := j) (s := 0) (f[j - 1]!) rfl rfl Sortl2_sz49 rfl Le.enc1 WB rfl<|Ze<|Zz 15<|?_
         refine RunT.one (i := 16) WK rfl  ?_
         refine Zv (Y.idxN (j - 1) rfl rfl Sortl2_es59 W W)<|Ze<|Zz 16<|?_
         refine RunT.one (i := 17) WK rfl  ?_
         refine Run.stD (enc := Le.cells) (d := (f).setIfInBounds j (f[j - 1]!)) (rest := rest) (e := 49) (i := (j - 1)) (s := 0) (f[j]!) rfl rfl Sortl2_sz49 rfl Le.enc1 WB rfl<|Run.heapTo (H' := [sgD Le.cells 49 b rest (swp f j (j - 1))]) Z<|Ze<|Zz 17<|RunT.done WK<|Zc<|Zg<|Zr<|Zm Z<|Zv (Y.addN ((j + 1 : Nat) : Int) rfl rfl W W)<|?_
         refine Za Z<|Ze<|?_
         exact ZR (⟨j + 1,swp f j (j - 1)⟩ : Nat × Array Le) ⟨(shiftUp_go W (by assumption)).trans u1,by simp only [swp_size]; exact u2,by (try dsimp only); omega⟩ (by dsimp only; omega)
        ·refine Tr.cond_t Z (congrArg Bool.not h11)<|Zx<|Zy<|Ex.exit_out Z<|Zy<|Zy<|Zi<|Zc<|Zg<|Zr<|Zm Z<|Zv (Y.addN ((s + 1 : Nat) : Int) rfl rfl W W)<|Za Z<|Ze<|?_
         exact ZR (⟨s + 1,i2,f⟩ : Nat × Nat × Array Le) ⟨by dsimp only; rw [← r1,pins_go W f1 W W,c1]; unfold fixUp; first | rw [if_neg W] | (rw [if_pos W,← u1,shiftUp_stop (by first | (left; omega) | (right; assumption))]),by assumption,by (try dsimp only); omega,by (try dsimp only); omega,by (try dsimp only); omega⟩ (by dsimp only; omega)
       ·refine Tr.cond_f Z h10<|Zx<|Zy<|Zy<|Zi<|Zc<|Zg<|Zr<|Zm Z<|Zv (Y.addN ((s + 1 : Nat) : Int) rfl rfl W W)<|Za Z<|Ze<|?_
        exact ZR (⟨s + 1,i2,f⟩ : Nat × Nat × Array Le) ⟨by dsimp only; rw [← r1,pins_go W f1 W W,c1]; unfold fixUp; first | rw [if_neg W] | (rw [if_pos W,← u1,shiftUp_stop (by first | (left; omega) | (right; assumption))]),by assumption,by (try dsimp only); omega,by (try dsimp only); omega,by (try dsimp only); omega⟩ (by dsimp only; omega)
      ·refine Tr.cond_f Z h9<|Zt<|Zc<|Zg<|Zr<|Zm Z<|Zv (Y.addN ((s + 1 : Nat) : Int) rfl rfl W W)<|Za Z<|Ze<|?_
       exact ZR (⟨s + 1,i2,d2⟩ : Nat × Nat × Array Le) ⟨by dsimp only; rw [← r1,pins_go W f1 W W,c1]; unfold fixUp; first | rw [if_neg W] | (rw [if_pos W,← u1,shiftUp_stop (by first | (left; omega) | (right; assumption))]),by assumption,by (try dsimp only); omega,by (try dsimp only); omega,by (try dsimp only); omega⟩ (by dsimp only; omega)
 ·refine Tr.cond_f Z h1<|Zx<|Zy<|Zy<|Zi<|Zg<|Zs<|Zr<|Za Z<|Ze<|Zg<|Zu<|Ex.keep [0]<|?_
  exact Ex.ret1 rfl rfl  ⟨rfl,by rw [← r1]; first | rw [pins_end W] | rw [pins_done W f1 W] | rw [pins_short W f1 W W],by rw [← r1]; (first | rw [pins_end W] | rw [pins_done W f1 W] | rw [pins_short W f1 W W]); rfl⟩
theorem ord2_l {V : Vw} {n c b : Nat} {rest : List Value} {d0 : Array Le} {gf : FuncId} {caps : List Value} {cm : Le → Le → Int} {i j s bs : Nat}  (hN : n ≤ 1073741824) (hd : d0.size = n) (hi : i < n) (hj : j < n) (hs : s ≤ 1000)  (hcmp : ∀ x y : Le,Does Tryz.prog gf (.agg (Le.cells x).toArray :: .agg (Le.cells y).toArray :: caps) V [] (Pv (.int .i64 (cm x y)) V [])) (hswo : SWO (ltc cm))  : Does Tryz.prog 297 [.slice (some ⟨b,0,none⟩) n c,.int .i64 ((i : Nat) : Int),.int .i64 ((j : Nat) : Int),.pointer (some ⟨bs,0,none⟩),.func (.func gf) #[] caps.toArray] V [sgD Le.cells 49 b rest d0,[(bs,.cells #[.int .i64 ((s : Nat) : Int)] 3 (0,0))]] (fun v V' H' => V' = V ∧ ∃ p q s' : Nat,v = .tuple #[.int .i64 (p : Int),.int .i64 (q : Int)] ∧ ((p = i ∧ q = j) ∨ (p = j ∧ q = i)) ∧ s' ≤ s + 1 ∧ H' = [sgD Le.cells 49 b rest d0,[(bs,.cells #[.int .i64 ((s' : Nat) : Int)] 3 (0,0))]]) := by
 refine Does.intro Tryz.func297 rfl rfl (le rfl) (fun B => ?_)
 refine Zs<|Zr<|Za Z<|Za Z<|Ze<|Zg<|Zs<|Zs<|Tr.quiet Sortl2_mo WK<|ZM Z<|ZM Z<|ZM Z<|ZV (Y.idxN j Z Z Sortl2_es59 W W)<|ZV (Y.ldA (enc := Le.cells) (d := d0) (rest := rest) (e := 49) (i := j) Z Sortl2_ag49 (Kn.at 0 rfl) Le.enc1 WB rfl)<|ZM Z<|ZM Z<|?_
 refine ZV (Y.idxN i Z Z Sortl2_es59 W W)<|ZV (Y.ldA (enc := Le.cells) (d := d0) (rest := rest) (e := 49) (i := i) Z Sortl2_ag49 (Kn.at 0 rfl) Le.enc1 WB rfl)<|RunQ.call0 (l := [.tmp 16,.tmp 20]) Z Z Z (lt Z) ((hcmp (d0[j]!) (d0[i]!)).frame)<|ZV (Y.int Z Z Z)<|ZE<|Zg<|?_
 rcases Zsplit (decide ((cm (d0[j]!) (d0[i]!)) < 0)) with ⟨h1,g1⟩ | ⟨h1,g1⟩ <;> try simp only [kb] at g1
 ·refine Tr.cond_t Z h1<|Zs<|Zr<|Zm Z<|Zv (Y.nilCheck Z)<|Zv (Y.load Z Sortl2_ts3 (Kn.at 1 Z) Z)<|Zv (Y.addN ((s + 1 : Nat) : Int) rfl rfl W W)<|Zv (Y.nilCheck Z)<|Run.store (s := [(bs,.cells #[.int .i64 ((s + 1 : Nat) : Int)] 3 (0,0))]) Z Z Sortl2_sz3 (i := 1) Z Z (le Z) Z Z<|Ze<|Zg<|Zs<|Zr<|Zm Z<|Zm Z<|Za Z<|?_
  refine Za Z<|Ze<|Zg<|Zu<|Zn<|Ex.keep [0,0]<|?_
  exact Ex.ret2 rfl rfl rfl  ⟨rfl,_,_,_,rfl,.inr ⟨rfl,rfl⟩,Nat.le_refl _,rfl⟩
 ·refine Tr.cond_f Z h1<|Zt<|Zg<|Zs<|Zr<|Zm Z<|Zm Z<|Za Z<|Za Z<|Ze<|Zg<|Zu<|Ex.keep [0,0]<|?_
  exact Ex.ret2 rfl rfl rfl  ⟨rfl,_,_,_,rfl,.inl ⟨rfl,rfl⟩,by omega,rfl⟩
theorem med_l {V : Vw} {n c b : Nat} {rest : List Value} {d0 : Array Le} {gf : FuncId} {caps : List Value} {cm : Le → Le → Int} {i j k s bs : Nat}  (hN : n ≤ 1073741824) (hd : d0.size = n) (hi : i < n) (hj : j < n) (hk : k < n) (hs : s ≤ 900)  (hcmp : ∀ x y : Le,Does Tryz.prog gf (.agg (Le.cells x).toArray :: .agg (Le.cells y).toArray :: caps) V [] (Pv (.int .i64 (cm x y)) V [])) (hswo : SWO (ltc cm))  : Does Tryz.prog 293 [.slice (some ⟨b,0,none⟩) n c,.int .i64 ((i : Nat) : Int),.int .i64 ((j : Nat) : Int),.int .i64 ((k : Nat) : Int),.pointer (some ⟨bs,0,none⟩),.func (.func gf) #[] caps.toArray] V [sgD Le.cells 49 b rest d0,[(bs,.cells #[.int .i64 ((s : Nat) : Int)] 3 (0,0))]] (fun v V' H' => V' = V ∧ ∃ m s' : Nat,v = .int .i64 (m : Int) ∧ (m = i ∨ m = j ∨ m = k) ∧ s' ≤ s + 3 ∧ H' = [sgD Le.cells 49 b rest d0,[(bs,.cells #[.int .i64 ((s' : Nat) : Int)] 3 (0,0))]]) := by
 refine Does.intro Tryz.func293 rfl rfl (le rfl) (fun B => ?_)
 refine Zs<|Zr<|Za Z<|Ze<|Zg<|Zs<|Zr<|Zm Z<|Zm Z<|Zm Z<|Zm Z<|Zm Z<|?_
 refine Run.call [0,0] (l := [.tmp 14,.tmp 15,.tmp 16,.tmp 17,.tmp 18]) rfl rfl rfl (lt rfl) (ord2_l (i := i) (j := j) (s := s) hN hd W W W hcmp hswo) (fun v1 V2 H2 hle2 hR => ?_)
 obtain ⟨hV,m6,m7,s3,rfl,hq5,hs4,rfl⟩ := hR; replace hV := hV.symm; subst hV
 refine Run.heapTo (H' := [sgD Le.cells 49 b rest d0,[(bs,.cells #[.int .i64 ((s3 : Nat) : Int)] 3 (0,0))]]) Z<|Zm Z<|Zv (Y.extract Z Z)<|Zv (Y.extract Z Z)<|Za Z<|Za Z<|Ze<|Zg<|Zs<|Zr<|Zm Z<|Zm Z<|Zm Z<|Zm Z<|Zm Z<|?_
 refine Run.call [0,0] (l := [.tmp 23,.tmp 24,.tmp 25,.tmp 26,.tmp 27]) rfl rfl rfl (lt rfl) (ord2_l (i := m7) (j := k) (s := s3) hN hd W W W hcmp hswo) (fun v8 V2 H2 hle9 hR => ?_)
 obtain ⟨hV,m13,m14,s10,rfl,hq12,hs11,rfl⟩ := hR; replace hV := hV.symm; subst hV
 refine Run.heapTo (H' := [sgD Le.cells 49 b rest d0,[(bs,.cells #[.int .i64 ((s10 : Nat) : Int)] 3 (0,0))]]) Z<|Zm Z<|Zv (Y.extract Z Z)<|Zv (Y.extract Z Z)<|Za Z<|Za Z<|Ze<|Zg<|Zs<|Zr<|Zm Z<|Zm Z<|Zm Z<|Zm Z<|Zm Z<|?_
 refine Run.call [0,0] (l := [.tmp 32,.tmp 33,.tmp 34,.tmp 35,.tmp 36]) rfl rfl rfl (lt rfl) (ord2_l (i := m6) (j := m13) (s := s10) hN hd W W W hcmp hswo) (fun v15 V2 H2 hle16 hR => ?_)
 obtain ⟨hV,m20,m21,s17,rfl,hq19,hs18,rfl⟩ := hR; replace hV := hV.symm; subst hV
 refine Run.heapTo (H' := [sgD Le.cells 49 b rest d0,[(bs,.cells #[.int .i64 ((s17 : Nat) : Int)] 3 (0,0))]]) Z<|Zm Z<|Zv (Y.extract Z Z)<|Zv (Y.extract Z Z)<|Za Z<|Za Z<|Ze<|Zg<|Zs<|Zr<|Zm Z<|Za Z<|Ze<|Zg<|Zu<|Ex.keep [0,0]<|?_
 exact Ex.ret1 rfl rfl  ⟨rfl,_,_,rfl,by omega,by omega,rfl⟩
theorem meda_l {V : Vw} {n c b : Nat} {rest : List Value} {d0 : Array Le} {gf : FuncId} {caps : List Value} {cm : Le → Le → Int} {i s bs : Nat}  (hN : n ≤ 1073741824) (hd : d0.size = n) (h1 : 1 ≤ i) (hi : i + 1 < n) (hs : s ≤ 900)  (hcmp : ∀ x y : Le,Does Tryz.prog gf (.agg (Le.cells x).toArray :: .agg (Le.cells y).toArray :: caps) V [] (Pv (.int .i64 (cm x y)) V [])) (hswo : SWO (ltc cm))  : Does Tryz.prog 292 [.slice (some ⟨b,0,none⟩) n c,.int .i64 ((i : Nat) : Int),.pointer (some ⟨bs,0,none⟩),.func (.func gf) #[] caps.toArray] V [sgD Le.cells 49 b rest d0,[(bs,.cells #[.int .i64 ((s : Nat) : Int)] 3 (0,0))]] (fun v V' H' => V' = V ∧ ∃ m s' : Nat,v = .int .i64 (m : Int) ∧ (m = i - 1 ∨ m = i ∨ m = i + 1) ∧ s' ≤ s + 3 ∧ H' = [sgD Le.cells 49 b rest d0,[(bs,.cells #[.int .i64 ((s' : Nat) : Int)] 3 (0,0))]]) := by
 refine Does.intro Tryz.func292 rfl rfl (le rfl) (fun B => ?_)
 refine Zs<|Zr<|Za Z<|Ze<|Zg<|Zs<|Zr<|Zm Z<|Zm Z<|Zv (Y.subN ((i - 1 : Nat) : Int) rfl rfl W W)<|Zm Z<|Zm Z<|Zv (Y.addN ((i + 1 : Nat) : Int) rfl rfl W W)<|Zm Z<|Zm Z<|?_
 refine Run.call [0,0] (l := [.tmp 9,.tmp 11,.tmp 12,.tmp 14,.tmp 15,.tmp 16]) rfl rfl rfl (lt rfl) (med_l (i := i - 1) (j := i) (k := i + 1) (s := s) hN hd W W W W hcmp hswo) (fun v1 V2 H2 hle2 hR => ?_)
 obtain ⟨hV,m6,s3,rfl,hq5,hs4,rfl⟩ := hR; replace hV := hV.symm; subst hV
 refine Run.heapTo (H' := [sgD Le.cells 49 b rest d0,[(bs,.cells #[.int .i64 ((s3 : Nat) : Int)] 3 (0,0))]]) Z<|Za Z<|Ze<|Zg<|Zu<|Ex.keep [0,0]<|?_
 exact Ex.ret1 rfl rfl  ⟨rfl,_,_,rfl,by omega,by omega,rfl⟩
set_option maxHeartbeats 2000000 in
theorem pivot_l {V : Vw} {n c b : Nat} {rest : List Value} {d0 : Array Le} {gf : FuncId} {caps : List Value} {cm : Le → Le → Int} {x y : Nat}  (hN : n ≤ 1073741824) (hd : d0.size = n) (hx : x < y) (hy : y ≤ n)  (hcmp : ∀ x y : Le,Does Tryz.prog gf (.agg (Le.cells x).toArray :: .agg (Le.cells y).toArray :: caps) V [] (Pv (.int .i64 (cm x y)) V [])) (hswo : SWO (ltc cm))  : Does Tryz.prog 273 [.slice (some ⟨b,0,none⟩) n c,.int .i64 ((x : Nat) : Int),.int .i64 ((y : Nat) : Int),.func (.func gf) #[] caps.toArray] V [sgD Le.cells 49 b rest d0] (fun v V' H' => V' = V ∧ ∃ (p : Nat) (h : Int),v = .tuple #[.int .i64 (p : Int),.int .i64 h] ∧ x ≤ p ∧ p < y ∧ H' = [sgD Le.cells 49 b rest d0]) := by
 refine Does.intro Tryz.func273 rfl rfl (le rfl) (fun B => ?_)
 refine Zs<|Zr<|Za Z<|Za Z<|Ze<|Zg<|Zs<|Zr<|Zm Z<|Zm Z<|Zv (Y.subN ((y - x : Nat) : Int) rfl rfl W W)<|Za Z<|Ze<|Zg<|Zs<|Zr<|?_
 refine Run.alloc Sortl2_zo3 (lt rfl) (fun b1 => ?_)
 refine Ze<|Zg<|Zs<|Zr<|Zm Z<|Zm Z<|Zv (Y.quoN (m := y - x) (n := 4) Z Z W W)<|Zv (Y.mulN ((((y - x) / 4) * 1 : Nat) : Int) rfl rfl W W)<|Zv (Y.addN ((x + (((y - x) / 4) * 1) : Nat) : Int) rfl rfl W W)<|Za Z<|Ze<|Zg<|Zs<|Zr<|Zm Z<|Zm Z<|?_
 refine Zv (Y.quoN (m := y - x) (n := 4) Z Z W W)<|Zv (Y.mulN ((((y - x) / 4) * 2 : Nat) : Int) rfl rfl W W)<|Zv (Y.addN ((x + (((y - x) / 4) * 2) : Nat) : Int) rfl rfl W W)<|Za Z<|Ze<|Zg<|Zs<|Zr<|Zm Z<|Zm Z<|Zv (Y.quoN (m := y - x) (n := 4) Z Z W W)<|Zv (Y.mulN ((((y - x) / 4) * 3 : Nat) : Int) rfl rfl W W)<|Zv (Y.addN ((x + (((y - x) / 4) * 3) : Nat) : Int) rfl rfl W W)<|?_
 refine Za Z<|Ze<|Zg<|Zs<|Zs<|Zr<|Zm Z<|Zv (Y.int Z Z Z)<|Ze<|Zg<|?_
 rcases Zsplit (decide (((y - x : Nat) : Int) ≥ 8)) with ⟨h2,g2⟩ | ⟨h2,g2⟩ <;> try simp only [kb] at g2
 ·refine Tr.cond_t Z h2<|Zs<|Zs<|Zr<|Zm Z<|Zv (Y.int Z Z Z)<|Ze<|Zg<|?_
  rcases Zsplit (decide (((y - x : Nat) : Int) ≥ 50)) with ⟨h3,g3⟩ | ⟨h3,g3⟩ <;> try simp only [kb] at g3
  ·refine Tr.cond_t Z h3<|Zs<|Zr<|Zm Z<|Zm Z<|Zm Z<|?_
   refine Run.call [1,0] (l := [.tmp 37,.tmp 38,.tmp 11,.tmp 39]) rfl rfl rfl (lt rfl) (meda_l (i := x + (((y - x) / 4) * 1)) (s := 0) hN hd W W W hcmp hswo) (fun v4 V2 H2 hle5 hR => ?_)
   obtain ⟨hV,m9,s6,rfl,hq8,hs7,rfl⟩ := hR; replace hV := hV.symm; subst hV
   refine Run.heapTo (H' := [sgD Le.cells 49 b rest d0,[(b1,.cells #[.int .i64 ((s6 : Nat) : Int)] 3 (0,0))]]) Z<|Za Z<|Ze<|Zg<|Zs<|Zr<|Zm Z<|Zm Z<|Zm Z<|?_
   refine Run.call [0,0] (l := [.tmp 41,.tmp 42,.tmp 11,.tmp 43]) rfl rfl rfl (lt rfl) (meda_l (i := x + (((y - x) / 4) * 2)) (s := s6) hN hd W W W hcmp hswo) (fun v10 V2 H2 hle11 hR => ?_)
   obtain ⟨hV,m15,s12,rfl,hq14,hs13,rfl⟩ := hR; replace hV := hV.symm; subst hV
   refine Run.heapTo (H' := [sgD Le.cells 49 b rest d0,[(b1,.cells #[.int .i64 ((s12 : Nat) : Int)] 3 (0,0))]]) Z<|Za Z<|Ze<|Zg<|Zr<|Zm Z<|Zm Z<|Zm Z<|?_
   refine Run.call [0,0] (l := [.tmp 45,.tmp 46,.tmp 11,.tmp 47]) rfl rfl rfl (lt rfl) (meda_l (i := x + (((y - x) / 4) * 3)) (s := s12) hN hd W W W hcmp hswo) (fun v16 V2 H2 hle17 hR => ?_)
   obtain ⟨hV,m21,s18,rfl,hq20,hs19,rfl⟩ := hR; replace hV := hV.symm; subst hV
   refine Run.heapTo (H' := [sgD Le.cells 49 b rest d0,[(b1,.cells #[.int .i64 ((s18 : Nat) : Int)] 3 (0,0))]]) Z<|Za Z<|Ze<|Zg<|Zr<|Zm Z<|Zm Z<|Zm Z<|Zm Z<|Zm Z<|?_
   refine Run.call [0,0] (l := [.tmp 49,.tmp 50,.tmp 51,.tmp 52,.tmp 11,.tmp 53]) rfl rfl rfl (lt rfl) (med_l (i := m9) (j := m15) (k := m21) (s := s18) hN hd W W W W hcmp hswo) (fun v22 V2 H2 hle23 hR => ?_)
   obtain ⟨hV,m27,s24,rfl,hq26,hs25,rfl⟩ := hR; replace hV := hV.symm; subst hV
   refine Run.heapTo (H' := [sgD Le.cells 49 b rest d0,[(b1,.cells #[.int .i64 ((s24 : Nat) : Int)] 3 (0,0))]]) Z<|Za Z<|Ze<|Zg<|Zs<|Zr<|Zv (Y.load Z Sortl2_ts3 (Kn.at 1 Z) Z)<|Ze<|Zg<|Zb<|Zs<|Zr<|Zv (Y.int Z Z Z)<|Za Z<|Ze<|Zg<|?_
   rcases Zsplit (((s24 : Nat) : Int) == 0) with ⟨h28,g28⟩ | ⟨h28,g28⟩ <;> try simp only [kb] at g28
   ·refine Tr.cond_t Z h28<|Zs<|Zr<|Zm Z<|Za Z<|Za Z<|Ze<|Zg<|Zu<|Zk<|Ex.keep [0]<|?_
    exact Ex.ret2 rfl rfl rfl  ⟨rfl,_,_,rfl,by omega,by omega,rfl⟩
   ·refine Tr.cond_f Z h28<|Zs<|Zr<|Zv (Y.int Z Z Z)<|Za Z<|Ze<|Zg<|?_
    rcases Zsplit (((s24 : Nat) : Int) == 12) with ⟨h29,g29⟩ | ⟨h29,g29⟩ <;> try simp only [kb] at g29
    ·refine Tr.cond_t Z h29<|Zs<|Zr<|Zm Z<|Za Z<|Za Z<|Ze<|Zg<|Zu<|Zk<|Ex.keep [0]<|?_
     exact Ex.ret2 rfl rfl rfl  ⟨rfl,_,_,rfl,by omega,by omega,rfl⟩
    ·refine Tr.cond_f Z h29<|Zs<|Zr<|Zm Z<|Za Z<|Za Z<|Ze<|Zg<|Zu<|Zk<|Ex.keep [0]<|?_
     exact Ex.ret2 rfl rfl rfl  ⟨rfl,_,_,rfl,by omega,by omega,rfl⟩
  ·refine Tr.cond_f Z h3<|Zt<|Zg<|Zr<|Zm Z<|Zm Z<|Zm Z<|Zm Z<|Zm Z<|?_
   refine Run.call [1,0] (l := [.tmp 49,.tmp 50,.tmp 51,.tmp 52,.tmp 11,.tmp 53]) rfl rfl rfl (lt rfl) (med_l (i := x + (((y - x) / 4) * 1)) (j := x + (((y - x) / 4) * 2)) (k := x + (((y - x) / 4) * 3)) (s := 0) hN hd W W W W hcmp hswo) (fun v30 V2 H2 hle31 hR => ?_)
   obtain ⟨hV,m35,s32,rfl,hq34,hs33,rfl⟩ := hR; replace hV := hV.symm; subst hV
   refine Run.heapTo (H' := [sgD Le.cells 49 b rest d0,[(b1,.cells #[.int .i64 ((s32 : Nat) : Int)] 3 (0,0))]]) Z<|Za Z<|Ze<|Zg<|Zs<|Zr<|Zv (Y.load Z Sortl2_ts3 (Kn.at 1 Z) Z)<|Ze<|Zg<|Zb<|Zs<|Zr<|Zv (Y.int Z Z Z)<|Za Z<|Ze<|Zg<|?_
   rcases Zsplit (((s32 : Nat) : Int) == 0) with ⟨h36,g36⟩ | ⟨h36,g36⟩ <;> try simp only [kb] at g36
   ·refine Tr.cond_t Z h36<|Zs<|Zr<|Zm Z<|Za Z<|Za Z<|Ze<|Zg<|Zu<|Zk<|Ex.keep [0]<|?_
    exact Ex.ret2 rfl rfl rfl  ⟨rfl,_,_,rfl,by omega,by omega,rfl⟩
   ·refine Tr.cond_f Z h36<|Zs<|Zr<|Zv (Y.int Z Z Z)<|Za Z<|Ze<|Zg<|?_
    rcases Zsplit (((s32 : Nat) : Int) == 12) with ⟨h37,g37⟩ | ⟨h37,g37⟩ <;> try simp only [kb] at g37
    ·refine Tr.cond_t Z h37<|Zs<|Zr<|Zm Z<|Za Z<|Za Z<|Ze<|Zg<|Zu<|Zk<|Ex.keep [0]<|?_
     exact Ex.ret2 rfl rfl rfl  ⟨rfl,_,_,rfl,by omega,by omega,rfl⟩
    ·refine Tr.cond_f Z h37<|Zs<|Zr<|Zm Z<|Za Z<|Za Z<|Ze<|Zg<|Zu<|Zk<|Ex.keep [0]<|?_
     exact Ex.ret2 rfl rfl rfl  ⟨rfl,_,_,rfl,by omega,by omega,rfl⟩
 ·refine Tr.cond_f Z h2<|Zt<|Zg<|Zs<|Zr<|Zv (Y.load Z Sortl2_ts3 (Kn.at 0 Z) Z)<|Ze<|Zg<|Zb<|Zs<|Zr<|Zv (Y.int (r := .bool true) Z Z Z)<|Za Z<|Ze<|Zg<|Tr.cond_t Z Z<|?_
  refine Zs<|Zr<|Zm Z<|Za Z<|Za Z<|Ze<|Zg<|Zu<|Zk<|Ex.keep [1]<|?_
  exact Ex.ret2 rfl rfl rfl  ⟨rfl,_,_,rfl,by omega,by omega,rfl⟩
theorem brk_l {V : Vw} {n c b : Nat} {rest : List Value} {d0 : Array Le} {gf : FuncId} {caps : List Value} {cm : Le → Le → Int} {x y : Nat}  (hN : n ≤ 1073741824) (hd : d0.size = n) (hx : x < y) (hy : y ≤ n)  (hcmp : ∀ x y : Le,Does Tryz.prog gf (.agg (Le.cells x).toArray :: .agg (Le.cells y).toArray :: caps) V [] (Pv (.int .i64 (cm x y)) V [])) (hswo : SWO (ltc cm))  : Does Tryz.prog 272 [.slice (some ⟨b,0,none⟩) n c,.int .i64 ((x : Nat) : Int),.int .i64 ((y : Nat) : Int),.func (.func gf) #[] caps.toArray] V [sgD Le.cells 49 b rest d0] (fun v V' H' => V' = V ∧ v = .tuple #[] ∧ ∃ d1,PermIn x y d0 d1 ∧ H' = [sgD Le.cells 49 b rest d1]) := by
 refine Does.intro Tryz.func272 rfl rfl (le rfl) (fun B => ?_)
 refine Zs<|Zr<|Zm Z<|Zm Z<|Zv (Y.subN ((y - x : Nat) : Int) rfl rfl W W)<|Za Z<|Ze<|Zg<|Zs<|Zr<|Zm Z<|Zv (Y.int Z Z Z)<|Ze<|Zg<|?_
 rcases Zsplit (decide (((y - x : Nat) : Int) ≥ 8)) with ⟨h1,g1⟩ | ⟨h1,g1⟩ <;> try simp only [kb] at g1
 ·refine Tr.cond_t Z h1<|Zs<|Zr<|Zm Z<|Zv (Y.conv (((y - x : Nat) : Int)) rfl Sortl2_it3_295 (wrap_u64 W))<|?_
  refine Run.alloc Sortl2_zo295 (lt rfl) (fun b2 => ?_)
  refine Run.store (s := [(b2,.cells #[.int .u64 ((y - x : Nat) : Int)] 295 (0,0))]) Z Z Sortl2_sz295 (i := 0) Z Z (le Z) Z Z<|Ze<|Zg<|Zs<|Zr<|Zm Z<|?_
  refine Run.call [] (l := [.tmp 20]) rfl rfl rfl (lt rfl) (npow_0 (m := y - x) W W) (fun v V2 H2 hle hR => ?_)
  obtain ⟨hV,⟨M,rfl,hM1,hM2⟩,rfl⟩ := hR; replace hV := hV.symm; subst hV
  refine Run.heapTo (H' := [[(b2,.cells #[.int .u64 ((y - x : Nat) : Int)] 295 (0,0))],sgD Le.cells 49 b rest d0]) Z<|Za Z<|Ze<|Zg<|Zs<|Zr<|Zm Z<|Zm Z<|Zv (Y.quoN (m := y - x) (n := 4) Z Z W W)<|Zv (Y.mulN ((((y - x) / 4) * 2 : Nat) : Int) rfl rfl W W)<|Zv (Y.addN ((x + (((y - x) / 4) * 2) : Nat) : Int) rfl rfl W W)<|Zv (Y.subN (((x + (((y - x) / 4) * 2)) - 1 : Nat) : Int) rfl rfl W W)<|?_
  refine Za Z<|Ze<|Zg<|Zb<|?_
  refine ZL (X := Nat × Int × Array Le) (fun z0 => V) (fun z0 => [[(b2,.cells #[.int .u64 z0.2.1] 295 (0,0))],sgD Le.cells 49 b rest z0.2.2]) (fun z0 => [(0,.slice (some ⟨b,0,none⟩) n c),(1,.int .i64 ((x : Nat) : Int)),(2,.int .i64 ((y : Nat) : Int)),(3,.func (.func gf) #[] caps.toArray),(8,.int .i64 ((y - x : Nat) : Int)),(9,.pointer (some ⟨b2,0,none⟩)),(10,.int .u64 ((M : Nat) : Int)),(11,.int .i64 ((z0.1 : Nat) : Int))]) (fun z0 => PermIn x y d0 z0.2.2 ∧ z0.2.2.size = n ∧ x + (y - x) / 4 * 2 ≤ z0.1 + 1 ∧ z0.1 ≤ x + (y - x) / 4 * 2 + 2) (fun z0 => x + (y - x) / 4 * 2 + 2 - z0.1) (⟨(x + ((y - x) / 4) * 2) - 1,((y - x : Nat) : Int),d0⟩ : Nat × Int × Array Le) ⟨permIn_refl _ _ _,hd,by (try dsimp only); omega,by (try dsimp only); omega⟩ ?_
  rintro ⟨i,r,d⟩ ⟨r1,k2,r3,r4⟩
  try dsimp only at r1 k2 r3 r4 ⊢
  refine Zs<|Zs<|Zr<|Zm Z<|Zm Z<|Zm Z<|Zv (Y.quoN (m := y - x) (n := 4) Z Z W W)<|Zv (Y.mulN ((((y - x) / 4) * 2 : Nat) : Int) rfl rfl W W)<|Zv (Y.addN ((x + (((y - x) / 4) * 2) : Nat) : Int) rfl rfl W W)<|Zv (Y.addN (((x + (((y - x) / 4) * 2)) + 1 : Nat) : Int) rfl rfl W W)<|Zv (Y.int Z Z Z)<|Ze<|Zg<|?_
  rcases Zsplit (decide (((i : Nat) : Int) ≤ (((x + (((y - x) / 4) * 2)) + 1 : Nat) : Int))) with ⟨h3,g3⟩ | ⟨h3,g3⟩ <;> try simp only [kb] at g3
  ·refine Tr.cond_t Z h3<|Zt<|Zg<|Zs<|Zb<|Zs<|Zr<|?_
   refine Run.call [0] (l := [.tmp 9]) rfl rfl rfl (lt rfl) next_0 (fun v V2 H2 hle hR => ?_)
   obtain ⟨hV,r2,rfl,rfl⟩ := hR; replace hV := hV.symm; subst hV
   refine Run.heapTo (H' := [sgD Le.cells 49 b rest d,[(b2,.cells #[.int .u64 r2] 295 (0,0))]]) Z<|Zm Z<|Zv (Y.int (r := .int .u64 ((M - 1 : Nat) : Int)) rfl rfl (subU W W))<|?_
   obtain ⟨o,ho1,ho2⟩ := andU_nat (a := r2) (m := M - 1) W
   refine Zv (Y.int (r := .int .u64 ((o : Nat) : Int)) rfl rfl (congrArg (fun z => some (Value.int .u64 z)) ho1))<|Zv (Y.conv (((o : Nat) : Int)) rfl Sortl2_it191_3 (wrap_i64 W))<|Za Z<|Ze<|Zg<|Zs<|Zs<|Zr<|Zm Z<|Zm Z<|Zv (Y.int Z Z Z)<|Ze<|Zg<|?_
   rcases Zsplit (decide (((o : Nat) : Int) ≥ ((y - x : Nat) : Int))) with ⟨h4,g4⟩ | ⟨h4,g4⟩ <;> try simp only [kb] at g4
   ·refine Tr.cond_t Z h4<|Zr<|Zm Z<|Zm Z<|Zv (Y.subN ((o - (y - x) : Nat) : Int) rfl rfl W W)<|Za Z<|Ze<|Zg<|Tr.anyT [(b,.cells (cel Le.cells d rest).toArray 49 (0,0))] 17 Sortl2_mo<|Zwm 0 Z Z (ZK 0 Z)<|Zwm 1 Z Z (ZK 0 Z)<|Zwm 2 Z Z (ZK 0 Z)<|Zwm 3 Z Z (ZK 0 Z)<|Zwm 4 Z Z (ZK 0 Z)<|Zw 5 Z (ZK 0 Z) (fun _ => (Y.addN ((x + (o - (y - x)) : Nat) : Int) rfl rfl W W))<|Zwm 6 Z Z (ZK 0 Z)<|?_
    refine Zwm 7 Z Z (ZK 0 Z)<|Zwm 8 Z Z (ZK 0 Z)<|Zw 9 Z (ZK 0 Z) (fun _ => (Y.addN ((x + (o - (y - x)) : Nat) : Int) rfl rfl W W))<|Zw 10 Z (ZK 0 Z) (fun _ => (Y.idxN (x + (o - (y - x))) rfl rfl Sortl2_es59 W W))<|ZT 11 0 Z Z (ZK 0 Z) (fun _ => (Y.ldA (enc := Le.cells) (d := d) (rest := rest) (e := 49) (i := (x + (o - (y - x)))) rfl Sortl2_ag49 Kn.vk1 Le.enc1 WB rfl))<|?_
    refine Zwm 12 Z Z (ZK 0 Z)<|Zwm 13 Z Z (ZK 0 Z)<|Zw 14 Z (ZK 0 Z) (fun _ => (Y.idxN i rfl rfl Sortl2_es59 W W))<|ZT 15 0 Z Z (ZK 0 Z) (fun _ => (Y.ldA (enc := Le.cells) (d := d) (rest := rest) (e := 49) (i := i) rfl Sortl2_ag49 Kn.vk1 Le.enc1 WB rfl))<|Zw 16 Z (ZK 0 Z) (fun _ => (Y.idxN i rfl rfl Sortl2_es59 W W))<|?_
    refine RunT.one (i := 17) WK rfl  ?_
    refine Run.stD (enc := Le.cells) (d := d) (rest := rest) (e := 49) (i := i) (s := 0) (d[x + (o - (y - x))]!) rfl rfl Sortl2_sz49 rfl Le.enc1 WB rfl<|Ze<|Zz 17<|?_
    refine RunT.one (i := 18) WK rfl  ?_
    refine Zv (Y.idxN (x + (o - (y - x))) rfl rfl Sortl2_es59 W W)<|Ze<|Zz 18<|?_
    refine RunT.one (i := 19) WK rfl  ?_
    refine Run.stD (enc := Le.cells) (d := (d).setIfInBounds i (d[x + (o - (y - x))]!)) (rest := rest) (e := 49) (i := (x + (o - (y - x)))) (s := 0) (d[i]!) rfl rfl Sortl2_sz49 rfl Le.enc1 WB rfl<|Run.heapTo (H' := [sgD Le.cells 49 b rest (swp d i (x + (o - (y - x)))),[(b2,.cells #[.int .u64 r2] 295 (0,0))]]) Z<|Ze<|Zz 19<|RunT.done WK<|?_
    refine Zc<|Zg<|Zr<|Zm Z<|Zv (Y.addN ((i + 1 : Nat) : Int) rfl rfl W W)<|Za Z<|Ze<|Ex.keep [1,0]<|?_
    exact ZR (⟨i + 1,r2,swp d i (x + (o - (y - x)))⟩ : Nat × Int × Array Le) ⟨permIn_trans _ _ _ _ _ r1 (swp_permIn _ x y _ _ W W W W W),by simp only [swp_size]; exact k2,by (try dsimp only); omega,by (try dsimp only); omega⟩ (by dsimp only; omega)
   ·refine Tr.cond_f Z h4<|Zt<|Zg<|Tr.anyT [(b,.cells (cel Le.cells d rest).toArray 49 (0,0))] 17 Sortl2_mo<|Zwm 0 Z Z (ZK 0 Z)<|Zwm 1 Z Z (ZK 0 Z)<|Zwm 2 Z Z (ZK 0 Z)<|Zwm 3 Z Z (ZK 0 Z)<|Zwm 4 Z Z (ZK 0 Z)<|Zw 5 Z (ZK 0 Z) (fun _ => (Y.addN ((x + o : Nat) : Int) rfl rfl W W))<|Zwm 6 Z Z (ZK 0 Z)<|Zwm 7 Z Z (ZK 0 Z)<|Zwm 8 Z Z (ZK 0 Z)<|Zw 9 Z (ZK 0 Z) (fun _ => (Y.addN ((x + o : Nat) : Int) rfl rfl W W))<|?_
    refine Zw 10 Z (ZK 0 Z) (fun _ => (Y.idxN (x + o) rfl rfl Sortl2_es59 W W))<|ZT 11 0 Z Z (ZK 0 Z) (fun _ => (Y.ldA (enc := Le.cells) (d := d) (rest := rest) (e := 49) (i := (x + o)) rfl Sortl2_ag49 Kn.vk1 Le.enc1 WB rfl))<|Zwm 12 Z Z (ZK 0 Z)<|Zwm 13 Z Z (ZK 0 Z)<|Zw 14 Z (ZK 0 Z) (fun _ => (Y.idxN i rfl rfl Sortl2_es59 W W))<|?_
    refine ZT 15 0 Z Z (ZK 0 Z) (fun _ => (Y.ldA (enc := Le.cells) (d := d) (rest := rest) (e := 49) (i := i) rfl Sortl2_ag49 Kn.vk1 Le.enc1 WB rfl))<|Zw 16 Z (ZK 0 Z) (fun _ => (Y.idxN i rfl rfl Sortl2_es59 W W))<|?_
    refine RunT.one (i := 17) WK rfl  ?_
    refine Run.stD (enc := Le.cells) (d := d) (rest := rest) (e := 49) (i := i) (s := 0) (d[x + o]!) rfl rfl Sortl2_sz49 rfl Le.enc1 WB rfl<|Ze<|Zz 17<|?_
    refine RunT.one (i := 18) WK rfl  ?_
    refine Zv (Y.idxN (x + o) rfl rfl Sortl2_es59 W W)<|Ze<|Zz 18<|?_
    refine RunT.one (i := 19) WK rfl  ?_
    refine Run.stD (enc := Le.cells) (d := (d).setIfInBounds i (d[x + o]!)) (rest := rest) (e := 49) (i := (x + o)) (s := 0) (d[i]!) rfl rfl Sortl2_sz49 rfl Le.enc1 WB rfl<|Run.heapTo (H' := [sgD Le.cells 49 b rest (swp d i (x + o)),[(b2,.cells #[.int .u64 r2] 295 (0,0))]]) Z<|Ze<|Zz 19<|RunT.done WK<|Zc<|Zg<|Zr<|Zm Z<|Zv (Y.addN ((i + 1 : Nat) : Int) rfl rfl W W)<|?_
    refine Za Z<|Ze<|Ex.keep [1,0]<|?_
    exact ZR (⟨i + 1,r2,swp d i (x + o)⟩ : Nat × Int × Array Le) ⟨permIn_trans _ _ _ _ _ r1 (swp_permIn _ x y _ _ W W W W W),by simp only [swp_size]; exact k2,by (try dsimp only); omega,by (try dsimp only); omega⟩ (by dsimp only; omega)
  ·refine Tr.cond_f Z h3<|Zx<|Zy<|Zy<|Zi<|Ex.keep [1]<|?_
   exact Ex.end0 rfl ⟨rfl,rfl,_,r1,rfl⟩
 ·refine Tr.cond_f Z h1<|Zt<|Ex.keep [0]<|?_
  exact Ex.end0 rfl ⟨rfl,rfl,_,permIn_refl _ _ _,rfl⟩
set_option maxHeartbeats 2000000 in
theorem pdq1_l {V : Vw} {n c b : Nat} {rest : List Value} {d0 : Array Le} {gf : FuncId} {caps : List Value} {cm : Le → Le → Int} {x y l : Nat}  (hN : n ≤ 1073741824) (hd : d0.size = n) (hxy : x ≤ y) (hy : y ≤ n) (hB : Below (ltc cm) x y d0) (hl : l ≤ 1000) (ih : ∀ (d : Array Le) (x2 y2 l2 : Nat),y2 - x2 < y - x → x2 ≤ y2 → y2 ≤ n → d.size = n → Below (ltc cm) x2 y2 d → l2 ≤ 1000 → Does Tryz.prog 260 [.slice (some ⟨b,0,none⟩) n c,.int .i64 ((x2 : Nat) : Int),.int .i64 ((y2 : Nat) : Int),.int .i64 ((l2 : Nat) : Int),.func (.func gf) #[] caps.toArray] V [sgD Le.cells 49 b rest d] (fun v V' H' => V' = V ∧ v = .tuple #[] ∧ ∃ d1,PermIn x2 y2 d d1 ∧ SortedIn (ltc cm) x2 y2 d1 ∧ H' = [sgD Le.cells 49 b rest d1]))  (hcmp : ∀ x y : Le,Does Tryz.prog gf (.agg (Le.cells x).toArray :: .agg (Le.cells y).toArray :: caps) V [] (Pv (.int .i64 (cm x y)) V [])) (hswo : SWO (ltc cm))  : Does Tryz.prog 260 [.slice (some ⟨b,0,none⟩) n c,.int .i64 ((x : Nat) : Int),.int .i64 ((y : Nat) : Int),.int .i64 ((l : Nat) : Int),.func (.func gf) #[] caps.toArray] V [sgD Le.cells 49 b rest d0] (fun v V' H' => V' = V ∧ v = .tuple #[] ∧ ∃ d1,PermIn x y d0 d1 ∧ SortedIn (ltc cm) x y d1 ∧ H' = [sgD Le.cells 49 b rest d1]) := by
 refine Does.intro Tryz.func260 rfl rfl (le rfl) (fun B => ?_)
 refine Zs<|Zr<|Za Z<|Ze<|Zg<|Zs<|Zr<|Za Z<|Ze<|Zg<|Zb<|?_
 refine ZL (X := Nat × Nat × Nat × Bool × Bool × Array Le) (fun z0 => V) (fun z0 => [sgD Le.cells 49 b rest z0.2.2.2.2.2]) (fun z0 => [(0,.slice (some ⟨b,0,none⟩) n c),(1,.int .i64 ((z0.1 : Nat) : Int)),(2,.int .i64 ((z0.2.1 : Nat) : Int)),(3,.int .i64 ((z0.2.2.1 : Nat) : Int)),(4,.func (.func gf) #[] caps.toArray),(10,.bool z0.2.2.2.1),(11,.bool z0.2.2.2.2.1)]) (fun z0 => PInv (ltc cm) x y n d0 z0.1 z0.2.1 z0.2.2.2.2.2 ∧ z0.2.2.1 ≤ 1000) (fun z0 => z0.2.1 - z0.1) (⟨x,y,l,true,true,d0⟩ : Nat × Nat × Nat × Bool × Bool × Array Le) ⟨PInv.new hd hxy hy hB,hl⟩ ?_
 rintro ⟨a,e,m,wb,wp,d⟩ ⟨i1,hm⟩
 have iab : a ≤ e := i1.ab
 have ibn : e ≤ n := i1.bn
 try dsimp only at i1 hm ⊢
 refine Zb<|Zs<|Zr<|Zm Z<|Zm Z<|Zv (Y.subN ((e - a : Nat) : Int) rfl rfl W W)<|Za Z<|Ze<|Zg<|Zs<|Zs<|Zr<|Zm Z<|Zv (Y.int Z Z Z)<|Ze<|Zg<|?_
 rcases Zsplit (decide (((e - a : Nat) : Int) ≤ 12)) with ⟨h1,g1⟩ | ⟨h1,g1⟩ <;> try simp only [kb] at g1
 ·refine Tr.cond_t Z h1<|Zs<|Zr<|Zm Z<|Zm Z<|Zm Z<|Zm Z<|?_
  refine Run.call [0] (l := [.tmp 26,.tmp 27,.tmp 28,.tmp 29]) rfl rfl rfl (lt rfl) (ins_l (x := a) (y := e) hN i1.sz (by have := i1.ab; have := i1.bn; omega) i1.bn hcmp hswo) (fun v2 V2 H2 hle3 hR => ?_)
  obtain ⟨hV,rfl,rfl⟩ := hR; replace hV := hV.symm; subst hV
  refine Run.heapTo (H' := [sgD Le.cells 49 b rest (insertionSort (ltc cm) d a e)]) Z<|Ze<|Zg<|Zu<|Zn<|Zk<|Zn<|Zk<|Ex.keep [0]<|?_
  exact Ex.ret0 rfl ⟨rfl,rfl,_,(i1.k _ (insertionSort_holds  hswo d a e i1.ab (by rw [i1.sz]; exact i1.bn)).1 (insertionSort_holds  hswo d a e i1.ab (by rw [i1.sz]; exact i1.bn)).2).1,(i1.k _ (insertionSort_holds  hswo d a e i1.ab (by rw [i1.sz]; exact i1.bn)).1 (insertionSort_holds  hswo d a e i1.ab (by rw [i1.sz]; exact i1.bn)).2).2,rfl⟩
 ·refine Tr.cond_f Z h1<|Zt<|Zg<|Zs<|Zs<|Zr<|Zm Z<|Zv (Y.int Z Z Z)<|Ze<|Zg<|?_
  rcases Zsplit (((m : Nat) : Int) == 0) with ⟨h4,g4⟩ | ⟨h4,g4⟩ <;> try simp only [kb] at g4
  ·refine Tr.cond_t Z h4<|Zs<|Zr<|Zm Z<|Zm Z<|Zm Z<|Zm Z<|?_
   refine Run.call [0] (l := [.tmp 33,.tmp 34,.tmp 35,.tmp 36]) rfl rfl rfl (lt rfl) (heap_l (x := a) (y := e) hN i1.sz W i1.bn hcmp hswo) (fun v5 V2 H2 hle6 hR => ?_)
   obtain ⟨hV,rfl,rfl⟩ := hR; replace hV := hV.symm; subst hV
   refine Run.heapTo (H' := [sgD Le.cells 49 b rest (heapSort (ltc cm) d a e)]) Z<|Ze<|Zg<|Zu<|Zn<|Zk<|Zn<|Zk<|Ex.keep [0]<|?_
   exact Ex.ret0 rfl ⟨rfl,rfl,_,(i1.k _ (heapSort_holds  hswo d a e i1.ab (by rw [i1.sz]; exact i1.bn)).1 (heapSort_holds  hswo d a e i1.ab (by rw [i1.sz]; exact i1.bn)).2).1,(i1.k _ (heapSort_holds  hswo d a e i1.ab (by rw [i1.sz]; exact i1.bn)).1 (heapSort_holds  hswo d a e i1.ab (by rw [i1.sz]; exact i1.bn)).2).2,rfl⟩
  ·refine Tr.cond_f Z h4<|Zt<|Zg<|?_
   refine Tr.cutx (X := Nat × Array Le) (fun z0 => V) (fun z0 => [sgD Le.cells 49 b rest z0.2]) (fun z0 => [(0,.slice (some ⟨b,0,none⟩) n c),(1,.int .i64 ((a : Nat) : Int)),(2,.int .i64 ((e : Nat) : Int)),(3,.int .i64 ((z0.1 : Nat) : Int)),(4,.func (.func gf) #[] caps.toArray),(10,.bool wb),(11,.bool wp),(12,.int .i64 ((e - a : Nat) : Int))]) (fun z0 => PInv (ltc cm) x y n d0 a e z0.2 ∧ z0.1 ≤ 1000) ?_ ?_
   ·refine Zs<|Zr<|Zm Z<|Zv (Y.not Z)<|Ze<|Zg<|?_
    rcases Zsplit (wb) with ⟨h7,g7⟩ | ⟨h7,g7⟩ <;> try simp only [kb] at g7
    ·refine Tr.cond_f Z (congrArg Bool.not h7)<|Zt<|?_
     exact ZX ⟨m,d⟩ ⟨i1,hm⟩
    ·refine Tr.cond_t Z (congrArg Bool.not h7)<|Zs<|Zr<|Zm Z<|Zm Z<|Zm Z<|Zm Z<|?_
     refine Run.call [0] (l := [.tmp 40,.tmp 41,.tmp 42,.tmp 43]) rfl rfl rfl (lt rfl) (brk_l (x := a) (y := e) hN i1.sz W i1.bn hcmp hswo) (fun v V2 H2 hle hR => ?_)
     obtain ⟨hV,rfl,dk,hdk,rfl⟩ := hR; replace hV := hV.symm; subst hV
     refine Run.heapTo (H' := [sgD Le.cells 49 b rest dk]) Z<|Ze<|Zg<|Zr<|Zm Z<|Zv (Y.subN ((m - 1 : Nat) : Int) rfl rfl W W)<|Za Z<|Ze<|?_
     exact ZX ⟨m - 1,dk⟩ ⟨i1.perm hdk,by (try dsimp only); omega⟩
   ·rintro z0 ⟨i2,hm1⟩
    obtain ⟨m1,d1⟩ := z0
    try dsimp only at i2 hm1 ⊢
    refine Zs<|Zr<|Zm Z<|Zm Z<|Zm Z<|Zm Z<|?_
    refine Run.call [0] (l := [.tmp 48,.tmp 49,.tmp 50,.tmp 51]) rfl rfl rfl (lt rfl) (pivot_l (x := a) (y := e) hN i2.sz W i2.bn hcmp hswo) (fun v V2 H2 hle hR => ?_)
    obtain ⟨hV,p1,hh,rfl,hp1,hp2,rfl⟩ := hR; replace hV := hV.symm; subst hV
    refine Run.heapTo (H' := [sgD Le.cells 49 b rest d1]) Z<|Zm Z<|Zv (Y.extract Z Z)<|Zv (Y.extract Z Z)<|Za Z<|Za Z<|Ze<|Zg<|?_
    refine Tr.cutx (X := Nat × Int × Array Le) (fun z0 => V) (fun z0 => [sgD Le.cells 49 b rest z0.2.2]) (fun z0 => [(0,.slice (some ⟨b,0,none⟩) n c),(1,.int .i64 ((a : Nat) : Int)),(2,.int .i64 ((e : Nat) : Int)),(3,.int .i64 ((m1 : Nat) : Int)),(4,.func (.func gf) #[] caps.toArray),(10,.bool wb),(11,.bool wp),(12,.int .i64 ((e - a : Nat) : Int)),(13,.int .i64 ((z0.1 : Nat) : Int)),(14,.int .i64 z0.2.1)]) (fun z0 => PInv (ltc cm) x y n d0 a e z0.2.2 ∧ a ≤ z0.1 ∧ z0.1 < e) ?_ ?_
    ·refine Zs<|Zr<|Zm Z<|Zv (Y.int Z Z Z)<|Ze<|Zg<|?_
     rcases Zsplit (hh == 2) with ⟨h8,g8⟩ | ⟨h8,g8⟩ <;> try simp only [kb] at g8
     ·refine Tr.cond_t Z h8<|Zs<|Zr<|Zm Z<|Zm Z<|Zm Z<|Zm Z<|?_
      refine Run.call [0] (l := [.tmp 57,.tmp 58,.tmp 59,.tmp 60]) rfl rfl rfl (lt rfl) (rev_l (x := a) (y := e) hN i2.sz W i2.bn hcmp hswo) (fun v9 V2 H2 hle10 hR => ?_)
      obtain ⟨hV,rfl,rfl⟩ := hR; replace hV := hV.symm; subst hV
      refine Run.heapTo (H' := [sgD Le.cells 49 b rest (reverseRange d1 a e)]) Z<|Ze<|Zg<|Zs<|Zr<|Zm Z<|Zv (Y.subN ((e - 1 : Nat) : Int) rfl rfl W W)<|Zm Z<|Zm Z<|Zv (Y.subN ((p1 - a : Nat) : Int) rfl rfl W W)<|Zv (Y.subN (((e - 1) - (p1 - a) : Nat) : Int) rfl rfl W W)<|Za Z<|Ze<|Zg<|Zr<|Za Z<|?_
      refine Ze ?_
      exact ZX ⟨(e - 1) - (p1 - a),1,reverseRange d1 a e⟩ ⟨i2.perm (reverseRange_holds _ a e i2.ab (by rw [i2.sz]; exact i2.bn)),by (try dsimp only); omega,by (try dsimp only); omega⟩
     ·refine Tr.cond_f Z h8<|Zt<|?_
      exact ZX ⟨p1,hh,d1⟩ ⟨i2,by (try dsimp only); omega,by (try dsimp only); omega⟩
    ·rintro z0 ⟨i3,hp3,hp4⟩
     obtain ⟨p2,h2,d2⟩ := z0
     try dsimp only at i3 hp3 hp4 ⊢
     refine Tr.cutx (X := Array Le) (fun d3 => V) (fun d3 => [sgD Le.cells 49 b rest d3]) (fun d3 => [(0,.slice (some ⟨b,0,none⟩) n c),(1,.int .i64 ((a : Nat) : Int)),(2,.int .i64 ((e : Nat) : Int)),(3,.int .i64 ((m1 : Nat) : Int)),(4,.func (.func gf) #[] caps.toArray),(10,.bool wb),(11,.bool wp),(12,.int .i64 ((e - a : Nat) : Int)),(13,.int .i64 ((p2 : Nat) : Int)),(14,.int .i64 h2)]) (fun d3 => PInv (ltc cm) x y n d0 a e d3) ?_ ?_
     ·refine Zs<|Zr<|Zm Z<|Zm Z<|?_
      rcases Zsplit (wb) with ⟨h11,g11⟩ | ⟨h11,g11⟩ <;> try simp only [kb] at g11
      ·refine Zp h11<|Zm Z<|Zv (Y.pick_t Z h11 Z)<|Zm Z<|?_
       rcases Zsplit (wp) with ⟨h12,g12⟩ | ⟨h12,g12⟩ <;> try simp only [kb] at g12
       ·refine Zp h12<|Zm Z<|Zp h12<|Zv (Y.int Z Z Z)<|Zv (Y.pick_t Z h12 Z)<|Ze<|Zg<|?_
        rcases Zsplit (h2 == 1) with ⟨h13,g13⟩ | ⟨h13,g13⟩ <;> try simp only [kb] at g13
        ·refine Tr.cond_t Z h13<|Zs<|Zr<|Zm Z<|Zm Z<|Zm Z<|Zm Z<|?_
         refine Run.call [0] (l := [.tmp 76,.tmp 77,.tmp 78,.tmp 79]) rfl rfl rfl (lt rfl) (pins_l (x := a) (y := e) hN i3.sz W i3.bn hcmp hswo) (fun v V2 H2 hle hR => ?_)
         obtain ⟨hV,rfl,rfl⟩ := hR; replace hV := hV.symm; subst hV
         refine Run.heapTo (H' := [sgD Le.cells 49 b rest ((partialInsertionSort (ltc cm) d2 a e).1)]) Z ?_
         obtain ⟨hq1,hq2⟩ := partialInsertionSort_holds  hswo d2 a e W (by rw [i3.sz]; exact i3.bn) i3.bel
         refine Ze<|Zg<|?_
         rcases Zsplit ((partialInsertionSort (ltc cm) d2 a e).2) with ⟨h14,g14⟩ | ⟨h14,g14⟩ <;> try simp only [kb] at g14
         ·refine Tr.cond_t Z h14<|Zu<|Zn<|Zk<|Zn<|Zk<|Ex.keep [0]<|?_
          exact Ex.ret0 rfl ⟨rfl,rfl,_,(i3.k _ hq1 (hq2 (by assumption))).1,(i3.k _ hq1 (hq2 (by assumption))).2,rfl⟩
         ·refine Tr.cond_f Z h14<|Zt<|?_
          exact ZX ((partialInsertionSort (ltc cm) d2 a e).1) (i3.perm hq1)
        ·refine Tr.cond_f Z h13<|Zt<|?_
         exact ZX d2 i3
       ·refine Zo h12 Z<|Zo h12 Z<|Zv (Y.pick_f Z h12 Z)<|Ze<|Zg<|Tr.cond_f Z Z<|Zt<|?_
        exact ZX d2 i3
      ·refine Zo h11 Z<|Zv (Y.pick_f Z h11 Z)<|Zm Z<|Zo Z Z<|Zo Z Z<|Zv (Y.pick_f Z Z Z)<|Ze<|Zg<|Tr.cond_f Z Z<|Zt<|?_
       exact ZX d2 i3
     ·rintro d3 i4
      have s4 := i4.sz
      refine Zs<|Zs<|Tr.quiet Sortl2_mo WK<|ZM Z<|ZV (Y.int Z Z Z)<|ZM Z<|?_
      rcases Zsplit (decide (((a : Nat) : Int) > 0)) with ⟨h15,g15⟩ | ⟨h15,g15⟩ <;> try simp only [kb] at g15
      ·refine ZP h15<|ZM Z<|ZP h15<|ZM Z<|ZP h15<|ZM Z<|ZP h15<|ZV (Y.subN ((a - 1 : Nat) : Int) rfl rfl W W)<|ZP h15<|ZV (Y.idxN (a - 1) rfl rfl Sortl2_es59 W W)<|ZP h15<|ZV (Y.ldA (enc := Le.cells) (d := d3) (rest := rest) (e := 49) (i := (a - 1)) rfl Sortl2_ag49 (Kn.at 0 rfl) Le.enc1 WB rfl)<|ZP h15<|ZM Z<|ZP h15<|ZM Z<|?_
       refine ZP h15<|ZV (Y.idxN p2 Z Z Sortl2_es59 W W)<|ZP h15<|ZV (Y.ldA (enc := Le.cells) (d := d3) (rest := rest) (e := 49) (i := p2) Z Sortl2_ag49 (Kn.at 0 rfl) Le.enc1 WB rfl)<|ZP h15<|RunQ.call0 (l := [.tmp 89,.tmp 93]) Z Z Z (lt Z) ((hcmp (d3[a - 1]!) (d3[p2]!)).frame)<|ZP h15<|ZV (Y.int Z Z Z)<|ZP h15<|ZV (Y.not Z)<|ZV (Y.pick_t Z h15 Z)<|?_
       refine ZE<|Zg<|?_
       rcases Zsplit (decide ((cm (d3[a - 1]!) (d3[p2]!)) < 0)) with ⟨h16,g16⟩ | ⟨h16,g16⟩ <;> try simp only [kb] at g16
       ·refine Tr.cond_f Z (congrArg Bool.not h16)<|Zt<|Zg<|Zs<|Zr<|Zm Z<|Zm Z<|Zm Z<|Zm Z<|Zm Z<|?_
        refine Run.call [0] (l := [.tmp 106,.tmp 107,.tmp 108,.tmp 109,.tmp 110]) rfl rfl rfl (lt rfl) (part_l (x := a) (y := e) (p := p2) hN i4.sz W W i4.bn hcmp hswo) (fun v V2 H2 hle hR => ?_)
        obtain ⟨mid,ap,d4,hpe⟩ : ∃ m k q,partition (ltc cm) d3 a e p2 = (m,k,q) := ⟨_,_,_,rfl⟩
        rw [hpe] at hR; dsimp only at hR
        obtain ⟨hV,rfl,rfl⟩ := hR; replace hV := hV.symm; subst hV
        refine Run.heapTo (H' := [sgD Le.cells 49 b rest d4]) Z ?_
        obtain ⟨w1,w2,w3,w4,w5,w6,w7⟩ := i4.part hswo W W hpe
        refine Zm Z<|Zv (Y.extract Z Z)<|Zv (Y.extract Z Z)<|Za Z<|Za Z<|Ze<|Zg<|Zs<|Zr<|Zm Z<|Za Z<|Ze<|Zg<|Zs<|Zr<|Zm Z<|?_
        refine Zm Z<|Zv (Y.subN ((mid - a : Nat) : Int) rfl rfl W W)<|Zm Z<|Zm Z<|Zv (Y.subN ((e - mid : Nat) : Int) rfl rfl W W)<|Za Z<|Za Z<|Ze<|Zg<|Zs<|Zr<|Zm Z<|Zv (Y.quoN (m := e - a) (n := 8) Z Z W W)<|Za Z<|Ze<|Zg<|?_
        refine Zs<|Zr<|Zm Z<|Zm Z<|Zv (Y.int Z Z Z)<|Ze<|Zg<|?_
        rcases Zsplit (decide (((mid - a : Nat) : Int) < ((e - mid : Nat) : Int))) with ⟨h17,g17⟩ | ⟨h17,g17⟩ <;> try simp only [kb] at g17
        ·refine Tr.cond_t Z h17<|Zs<|Zr<|Zm Z<|Zm Z<|Zv (Y.int Z Z Z)<|Za Z<|Ze<|Zg<|Zs<|Zr<|Zm Z<|Zm Z<|Zm Z<|Zm Z<|Zm Z<|?_
         refine Run.call [0] (l := [.tmp 129,.tmp 130,.tmp 131,.tmp 132,.tmp 133]) rfl rfl rfl (lt rfl) (ih d4 (a) (mid) m1 (by have := i4.len; omega) W (by have := i4.bn; omega) w3 w4 hm1) (fun v V2 H2 hle hR => ?_)
         obtain ⟨hV,rfl,d5,hp5,hs5,rfl⟩ := hR; replace hV := hV.symm; subst hV
         refine Run.heapTo (H' := [sgD Le.cells 49 b rest d5]) Z ?_
         have i5 := w6 d5 hp5 hs5
         refine Ze<|Zg<|Zr<|Zm Z<|Zv (Y.addN ((mid + 1 : Nat) : Int) rfl rfl W W)<|Za Z<|Ze<|Zc<|?_
         exact ZR (⟨mid + 1,e,m1,decide (((mid - a : Nat) : Int) ≥ (((e - a) / 8 : Nat) : Int)),ap,d5⟩ : Nat × Nat × Nat × Bool × Bool × Array Le) ⟨i5,hm1⟩ (by dsimp only; omega)
        ·refine Tr.cond_f Z h17<|Zs<|Zr<|Zm Z<|Zm Z<|Zv (Y.int Z Z Z)<|Za Z<|Ze<|Zg<|Zs<|Zr<|Zm Z<|Zm Z<|Zv (Y.addN ((mid + 1 : Nat) : Int) rfl rfl W W)<|Zm Z<|Zm Z<|?_
         refine Zm Z ?_
         refine Run.call [0] (l := [.tmp 140,.tmp 142,.tmp 143,.tmp 144,.tmp 145]) rfl rfl rfl (lt rfl) (ih d4 (mid + 1) (e) m1 (by have := i4.len; omega) W (by have := i4.bn; omega) w3 w5 hm1) (fun v V2 H2 hle hR => ?_)
         obtain ⟨hV,rfl,d5,hp5,hs5,rfl⟩ := hR; replace hV := hV.symm; subst hV
         refine Run.heapTo (H' := [sgD Le.cells 49 b rest d5]) Z ?_
         have i5 := w7 d5 hp5 hs5
         refine Ze<|Zg<|Zr<|Zm Z<|Za Z<|Ze<|Zc<|?_
         exact ZR (⟨a,mid,m1,decide (((e - mid : Nat) : Int) ≥ (((e - a) / 8 : Nat) : Int)),ap,d5⟩ : Nat × Nat × Nat × Bool × Bool × Array Le) ⟨i5,hm1⟩ (by dsimp only; omega)
       ·refine Tr.cond_t Z (congrArg Bool.not h16)<|Zs<|Zr<|Zm Z<|Zm Z<|Zm Z<|Zm Z<|Zm Z<|?_
        refine Run.call [0] (l := [.tmp 98,.tmp 99,.tmp 100,.tmp 101,.tmp 102]) rfl rfl rfl (lt rfl) (pareq_l (x := a) (y := e) (p := p2) hN i4.sz W W i4.bn hcmp hswo) (fun v V2 H2 hle hR => ?_)
        obtain ⟨mid,d4,hpe⟩ : ∃ m q,partitionEqual (ltc cm) d3 a e p2 = (m,q) := ⟨_,_,rfl⟩
        rw [hpe] at hR; dsimp only at hR
        obtain ⟨hV,rfl,rfl⟩ := hR; replace hV := hV.symm; subst hV
        refine Run.heapTo (H' := [sgD Le.cells 49 b rest d4]) Z ?_
        obtain ⟨w1,i5⟩ := i4.eqs hswo W W W (by assumption) hpe
        refine Za Z<|Ze<|Zg<|Zs<|Zr<|Zm Z<|Za Z<|Ze<|Zg<|Zx<|Zy<|Zi<|?_
        exact ZR (⟨mid,e,m1,wb,wp,d4⟩ : Nat × Nat × Nat × Bool × Bool × Array Le) ⟨i5,hm1⟩ (by dsimp only; omega)
      ·refine ZO h15 Z<|ZO h15 Z<|ZO h15 Z<|ZO h15 Z<|ZO h15 Z<|ZO h15 Z<|ZO h15 Z<|ZO h15 Z<|ZO h15 Z<|ZO h15 Z<|ZO h15 Z<|ZO h15 Z<|ZO h15 Z<|ZV (Y.pick_f Z h15 Z)<|ZE<|Zg<|?_
       refine Tr.cond_f Z Z<|Zt<|Zg<|Zs<|Zr<|Zm Z<|Zm Z<|Zm Z<|Zm Z<|Zm Z<|?_
       refine Run.call [0] (l := [.tmp 106,.tmp 107,.tmp 108,.tmp 109,.tmp 110]) rfl rfl rfl (lt rfl) (part_l (x := a) (y := e) (p := p2) hN i4.sz W W i4.bn hcmp hswo) (fun v V2 H2 hle hR => ?_)
       obtain ⟨mid,ap,d4,hpe⟩ : ∃ m k q,partition (ltc cm) d3 a e p2 = (m,k,q) := ⟨_,_,_,rfl⟩
       rw [hpe] at hR; dsimp only at hR
       obtain ⟨hV,rfl,rfl⟩ := hR; replace hV := hV.symm; subst hV
       refine Run.heapTo (H' := [sgD Le.cells 49 b rest d4]) Z ?_
       obtain ⟨w1,w2,w3,w4,w5,w6,w7⟩ := i4.part hswo W W hpe
       refine Zm Z<|Zv (Y.extract Z Z)<|Zv (Y.extract Z Z)<|Za Z<|Za Z<|Ze<|Zg<|Zs<|Zr<|Zm Z<|Za Z<|Ze<|Zg<|Zs<|Zr<|Zm Z<|?_
       refine Zm Z<|Zv (Y.subN ((mid - a : Nat) : Int) rfl rfl W W)<|Zm Z<|Zm Z<|Zv (Y.subN ((e - mid : Nat) : Int) rfl rfl W W)<|Za Z<|Za Z<|Ze<|Zg<|Zs<|Zr<|Zm Z<|Zv (Y.quoN (m := e - a) (n := 8) Z Z W W)<|Za Z<|Ze<|Zg<|?_
       refine Zs<|Zr<|Zm Z<|Zm Z<|Zv (Y.int Z Z Z)<|Ze<|Zg<|?_
       rcases Zsplit (decide (((mid - a : Nat) : Int) < ((e - mid : Nat) : Int))) with ⟨h18,g18⟩ | ⟨h18,g18⟩ <;> try simp only [kb] at g18
       ·refine Tr.cond_t Z h18<|Zs<|Zr<|Zm Z<|Zm Z<|Zv (Y.int Z Z Z)<|Za Z<|Ze<|Zg<|Zs<|Zr<|Zm Z<|Zm Z<|Zm Z<|Zm Z<|Zm Z<|?_
        refine Run.call [0] (l := [.tmp 129,.tmp 130,.tmp 131,.tmp 132,.tmp 133]) rfl rfl rfl (lt rfl) (ih d4 (a) (mid) m1 (by have := i4.len; omega) W (by have := i4.bn; omega) w3 w4 hm1) (fun v V2 H2 hle hR => ?_)
        obtain ⟨hV,rfl,d5,hp5,hs5,rfl⟩ := hR; replace hV := hV.symm; subst hV
        refine Run.heapTo (H' := [sgD Le.cells 49 b rest d5]) Z ?_
        have i5 := w6 d5 hp5 hs5
        refine Ze<|Zg<|Zr<|Zm Z<|Zv (Y.addN ((mid + 1 : Nat) : Int) rfl rfl W W)<|Za Z<|Ze<|Zc<|?_
        exact ZR (⟨mid + 1,e,m1,decide (((mid - a : Nat) : Int) ≥ (((e - a) / 8 : Nat) : Int)),ap,d5⟩ : Nat × Nat × Nat × Bool × Bool × Array Le) ⟨i5,hm1⟩ (by dsimp only; omega)
       ·refine Tr.cond_f Z h18<|Zs<|Zr<|Zm Z<|Zm Z<|Zv (Y.int Z Z Z)<|Za Z<|Ze<|Zg<|Zs<|Zr<|Zm Z<|Zm Z<|Zv (Y.addN ((mid + 1 : Nat) : Int) rfl rfl W W)<|Zm Z<|Zm Z<|?_
        refine Zm Z ?_
        refine Run.call [0] (l := [.tmp 140,.tmp 142,.tmp 143,.tmp 144,.tmp 145]) rfl rfl rfl (lt rfl) (ih d4 (mid + 1) (e) m1 (by have := i4.len; omega) W (by have := i4.bn; omega) w3 w5 hm1) (fun v V2 H2 hle hR => ?_)
        obtain ⟨hV,rfl,d5,hp5,hs5,rfl⟩ := hR; replace hV := hV.symm; subst hV
        refine Run.heapTo (H' := [sgD Le.cells 49 b rest d5]) Z ?_
        have i5 := w7 d5 hp5 hs5
        refine Ze<|Zg<|Zr<|Zm Z<|Za Z<|Ze<|Zc<|?_
        exact ZR (⟨a,mid,m1,decide (((e - mid : Nat) : Int) ≥ (((e - a) / 8 : Nat) : Int)),ap,d5⟩ : Nat × Nat × Nat × Bool × Bool × Array Le) ⟨i5,hm1⟩ (by dsimp only; omega)
theorem pdq_l {V : Vw} {n c b : Nat} {rest : List Value} {d0 : Array Le} {gf : FuncId} {caps : List Value} {cm : Le → Le → Int}  (hN : n ≤ 1073741824) (hd : d0.size = n) {x y l : Nat} (hxy : x ≤ y) (hy : y ≤ n) (hB : Below (ltc cm) x y d0) (hl : l ≤ 1000)  (hcmp : ∀ x y : Le,Does Tryz.prog gf (.agg (Le.cells x).toArray :: .agg (Le.cells y).toArray :: caps) V [] (Pv (.int .i64 (cm x y)) V [])) (hswo : SWO (ltc cm)) : Does Tryz.prog 260 [.slice (some ⟨b,0,none⟩) n c,.int .i64 ((x : Nat) : Int),.int .i64 ((y : Nat) : Int),.int .i64 ((l : Nat) : Int),.func (.func gf) #[] caps.toArray] V [sgD Le.cells 49 b rest d0] (fun v V' H' => V' = V ∧ v = .tuple #[] ∧ ∃ d1,PermIn x y d0 d1 ∧ SortedIn (ltc cm) x y d1 ∧ H' = [sgD Le.cells 49 b rest d1]) := by
  obtain ⟨k,hk⟩ : ∃ k,y - x = k := ⟨_,rfl⟩
  induction k using Nat.strongRecOn generalizing x y l d0 with
  | _ k ih => exact pdq1_l hN hd hxy hy hB hl (fun d x2 y2 l2 h1 h2 h3 h4 h5 h6 => ih (y2 - x2) W h4 h2 h3 h5 h6 rfl) hcmp hswo
end Go.Proofs.YtinkencbkcciiaaGreat
