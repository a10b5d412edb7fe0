/- The library's sort by a comparison, at leases, walked: its second half.
Conditions: as each theorem names them. -/
import Derived.Test.YtfgblingojgafaaGreatSortnum
import Derived.Test.YtfgblingojgafaaGreatProg
import Derived.Test.YtfgblingojgafaaGreatSortl
import Derived.Test.YtfgblingojgafaaGreatKI
import Derived.Test.YtfgblingojgafaaGreatFA
import Derived.Test.YtfgblingojgafaaGreatTable1
import Derived.Test.YtfgblingojgafaaGreatTA
import Derived.Test.YtfgblingojgafaaGreatTC
set_option linter.unusedSimpArgs false
set_option linter.unusedVariables false
set_option maxRecDepth 4000
namespace Go.Proofs.YtfgblingojgafaaGreat
open Go Go.K
attribute [local irreducible] Code.wp wpList Calls wpQuiet
open Go.Sort
theorem pins_l {V : Vw} {n c b : Nat} {rest : List Value} {d0 : Array Le} {gf : FuncId} {caps : List Value} {cm : Le -> Le -> Int} {x y : Nat}  (hN : n <= 1073741824) (hd : d0.size = n) (hx : x < y) (hy : y <= n)  (hcmp : ∀ x y : Le,Does Tryz.prog gf (.agg (Le.cells x).toArray :: .agg (Le.cells y).toArray :: caps) V [] (Pv (.int .i64 (cm x y)) V [])) (hswo : SWO (ltc cm))  : Does Tryz.prog 215 [.slice (some ⟨b,0,none⟩) n c,.int .i64 ((x : Nat) : Int),.int .i64 ((y : Nat) : Int),.func (.func gf) #[] caps.toArray] V [sgD Le.cells 43 b rest d0] (fun v V' H' => V' = V /\ v = .bool (partialInsertionSort (ltc cm) d0 x y).2 /\ H' = [sgD Le.cells 43 b rest ((partialInsertionSort (ltc cm) d0 x y).1)]) := by
 refine Does.intro Tryz.func215 rfl rfl (le rfl) (fun B => ?_)
 refine Zs<|Zr<|Za Z<|Ze<|Zg<|Zs<|Zr<|Zm Z<|Zv (Y.addN ((x + 1 : Nat) : Int) rfl rfl W W)<|Za Z<|Ze<|Zg<|Zs<|Zs<|Zr<|Za Z<|?_
 refine Ze<|Zg<|Zb<|?_
 refine ZL (X := Nat × Nat × Array Le) (fun z0 => V) (fun z0 => [sgD Le.cells 43 b rest z0.2.2]) (fun z0 => [(0,.slice (some ⟨b,0,none⟩) n c),(1,.int .i64 ((x : Nat) : Int)),(2,.int .i64 ((y : Nat) : Int)),(3,.func (.func gf) #[] caps.toArray),(8,.bool false),(9,.int .i64 ((z0.2.1 : Nat) : Int)),(10,.int .i64 ((z0.1 : Nat) : Int))]) (fun z0 => partialIns (ltc cm) x y (5 - z0.1) z0.2.1 z0.2.2 = partialInsertionSort (ltc cm) d0 x y /\ z0.2.2.size = n /\ x < z0.2.1 /\ z0.2.1 <= y /\ z0.1 <= 5) (fun z0 => 5 - z0.1) (⟨0,x + 1,d0⟩ : Nat × Nat × Array Le) ⟨rfl,hd,by (try dsimp only); omega,by (try dsimp only); omega,by (try dsimp only); omega⟩ ?_
 rintro ⟨s,i,d⟩ ⟨r1,r2,r3,r4,r5⟩
 try dsimp only at r1 r2 r3 r4 r5 ⊢
 refine Zs<|Zs<|Zr<|Zm Z<|Zv (Y.int Z Z Z)<|Ze<|Zg<|?_
 refine Zq (decide (((s : Nat) : Int) < 5)) (fun h1 g1 => ?_) fun h1 g1 => ?_
 ·refine Tr.cond_t Z h1<|Zt<|Zg<|Zs<|Zb<|?_
  refine Tr.cutx (X := Nat) (fun i2 => V) (fun i2 => [sgD Le.cells 43 b rest d]) (fun i2 => [(0,.slice (some ⟨b,0,none⟩) n c),(1,.int .i64 ((x : Nat) : Int)),(2,.int .i64 ((y : Nat) : Int)),(3,.func (.func gf) #[] caps.toArray),(8,.bool false),(9,.int .i64 ((i2 : Nat) : Int)),(10,.int .i64 ((s : Nat) : Int))]) (fun i2 => scanSorted (ltc cm) d y i = i2 /\ i <= i2 /\ i2 <= y) ?_ ?_
  ·refine Zb ?_
   refine ZL (X := Nat) (fun z0 => V) (fun z0 => [sgD Le.cells 43 b rest d]) (fun z0 => [(0,.slice (some ⟨b,0,none⟩) n c),(1,.int .i64 ((x : Nat) : Int)),(2,.int .i64 ((y : Nat) : Int)),(3,.func (.func gf) #[] caps.toArray),(8,.bool false),(9,.int .i64 ((z0 : Nat) : Int)),(10,.int .i64 ((s : Nat) : Int))]) (fun z0 => scanSorted (ltc cm) d y z0 = scanSorted (ltc cm) d y i /\ i <= z0 /\ z0 <= y) (fun z0 => y - z0) (i : Nat) ⟨rfl,Nat.le_refl _,by omega⟩ ?_
   rintro u ⟨m1,m2,m3⟩
   try dsimp only at m1 m2 m3 ⊢
   refine Zs<|Zs<|Tr.quiet xmo WK<|ZM Z<|ZM Z<|ZV (Y.int Z Z Z)<|ZM Z<|?_
   refine Zq (decide (((u : Nat) : Int) < ((y : Nat) : Int))) (fun h2 g2 => ?_) fun h2 g2 => ?_
   ·refine ZP h2<|ZM Z<|ZP h2<|ZM Z<|ZP h2<|ZM Z<|ZP h2<|ZV (Y.idxN u Z Z xes22 W W)<|ZP h2<|ZV (Y.ldA (enc := Le.cells) (d := d) (rest := rest) (e := 43) (i := u) Z xag43 (Kn.at 0 rfl) Le.enc1 WB rfl)<|ZP h2<|ZM Z<|ZP h2<|ZM Z<|ZP h2<|ZV (Y.subN ((u - 1 : Nat) : Int) rfl rfl W W)<|?_
    refine ZP h2<|ZV (Y.idxN (u - 1) rfl rfl xes22 W W)<|ZP h2<|ZV (Y.ldA (enc := Le.cells) (d := d) (rest := rest) (e := 43) (i := (u - 1)) rfl xag43 (Kn.at 0 rfl) Le.enc1 WB rfl)<|ZP h2<|YC Z Z Z ((hcmp (d[u]!) (d[u - 1]!)).frame)<|ZP h2<|ZV (Y.int Z Z Z)<|ZP h2<|ZV (Y.not Z)<|ZV (Y.pick_t Z h2 Z)<|ZE<|Zg<|?_
    refine Zq (decide ((cm (d[u]!) (d[u - 1]!)) < 0)) (fun h3 g3 => ?_) fun h3 g3 => ?_
    ·refine Tr.cond_f Z (congrArg Bool.not h3)<|Zx<|Zy<|Zy<|Zi<|?_
     exact ZX u ⟨m1.symm.trans (scanSorted_stop (by first | (left; omega) | (right; assumption))),m2,m3⟩
    refine Tr.cond_t Z (congrArg Bool.not h3)<|Zt<|Zg<|Zb<|Zr<|Zm Z<|Zv (Y.addN ((u + 1 : Nat) : Int) rfl rfl W W)<|Za Z<|Ze<|Zc<|?_
    exact ZR (u + 1 : Nat) ⟨(scanSorted_go W (by assumption)).trans m1,by omega,by omega⟩ W
   refine ZO h2 Z<|ZO h2 Z<|ZO h2 Z<|ZO h2 Z<|ZO h2 Z<|ZO h2 Z<|ZO h2 Z<|ZO h2 Z<|ZO h2 Z<|ZO h2 Z<|ZO h2 Z<|ZO h2 Z<|ZO h2 Z<|ZV (Y.pick_f Z h2 Z)<|ZE<|Zg<|?_
   refine Tr.cond_f Z Z<|Zx<|Zy<|Zy<|Zi<|?_
   exact ZX u ⟨m1.symm.trans (scanSorted_stop (by first | (left; omega) | (right; assumption))),m2,m3⟩
  rintro i2 ⟨f1,f2,f3⟩
  refine Zs<|Zs<|Zr<|Zm Z<|Zm Z<|Zv (Y.int Z Z Z)<|Ze<|Zg<|?_
  refine Zq (((i2 : Nat) : Int) == ((y : Nat) : Int)) (fun h4 g4 => ?_) fun h4 g4 => ?_
  ·refine Tr.cond_t Z h4<|Zs<|Zr<|Za Z<|Ze<|Zg<|Zu<|Zn<|Zk<|Zn<|Zn<|Zk<|Zn<|Ex.keep [0]<|?_
   exact Ex.ret1 rfl rfl  ⟨rfl,by rw [<- r1]; first | rw [pins_end W] | rw [pins_done W f1 W] | rw [pins_short W f1 W W],by rw [<- r1]; (first | rw [pins_end W] | rw [pins_done W f1 W] | rw [pins_short W f1 W W]); rfl⟩
  refine Tr.cond_f Z h4<|Zt<|Zg<|Zs<|Zs<|Zr<|Zm Z<|Zm Z<|Zv (Y.subN ((y - x : Nat) : Int) rfl rfl W W)<|Zv (Y.int Z Z Z)<|Ze<|Zg<|?_
  refine Zq (decide (((y - x : Nat) : Int) < 50)) (fun h5 g5 => ?_) fun h5 g5 => ?_
  ·refine Tr.cond_t Z h5<|Zs<|Zr<|Za Z<|Ze<|Zg<|Zu<|Zn<|Zk<|Zn<|Zn<|Zk<|Zn<|Ex.keep [0]<|?_
   exact Ex.ret1 rfl rfl  ⟨rfl,by rw [<- r1]; first | rw [pins_end W] | rw [pins_done W f1 W] | rw [pins_short W f1 W W],by rw [<- r1]; (first | rw [pins_end W] | rw [pins_done W f1 W] | rw [pins_short W f1 W W]); rfl⟩
  refine Tr.cond_f Z h5<|Zt<|Zg<|Zs<|Tr.anyT [(b,.cells (cel Le.cells d rest).toArray 43 (0,0))] 15 xmo<|Zwm 0 Z Z (ZK 0 Z)<|Zwm 1 Z Z (ZK 0 Z)<|Zwm 2 Z Z (ZK 0 Z)<|Zwm 3 Z Z (ZK 0 Z)<|Zw 4 Z (ZK 0 Z) (fun _ => (Y.subN ((i2 - 1 : Nat) : Int) rfl rfl W W))<|Zwm 5 Z Z (ZK 0 Z)<|Zwm 6 Z Z (ZK 0 Z)<|Zw 7 Z (ZK 0 Z) (fun _ => (Y.subN ((i2 - 1 : Nat) : Int) rfl rfl W W))<|Zw 8 Z (ZK 0 Z) (fun _ => (Y.idxN (i2 - 1) rfl rfl xes22 W W))<|?_
  refine ZT 9 0 Z Z (ZK 0 Z) (fun _ => (Y.ldA (enc := Le.cells) (d := d) (rest := rest) (e := 43) (i := (i2 - 1)) rfl xag43 Kn.vk1 Le.enc1 WB rfl))<|Zwm 10 Z Z (ZK 0 Z)<|Zwm 11 Z Z (ZK 0 Z)<|Zw 12 Z (ZK 0 Z) (fun _ => (Y.idxN i2 rfl rfl xes22 W W))<|ZT 13 0 Z Z (ZK 0 Z) (fun _ => (Y.ldA (enc := Le.cells) (d := d) (rest := rest) (e := 43) (i := i2) rfl xag43 Kn.vk1 Le.enc1 WB rfl))<|?_
  refine Zw 14 Z (ZK 0 Z) (fun _ => (Y.idxN i2 rfl rfl xes22 W W)) ?_
  refine RunT.one (i := 15) WK rfl  ?_
  refine Run.stD (enc := Le.cells) (d := d) (rest := rest) (e := 43) (i := i2) (s := 0) (d[i2 - 1]!) rfl rfl xsz43 rfl Le.enc1 WB rfl<|Ze<|Zz 15<|?_
  refine RunT.one (i := 16) WK rfl  ?_
  refine Zv (Y.idxN (i2 - 1) rfl rfl xes22 W W)<|Ze<|Zz 16<|?_
  refine RunT.one (i := 17) WK rfl  ?_
  refine Run.stD (enc := Le.cells) (d := (d).setIfInBounds i2 (d[i2 - 1]!)) (rest := rest) (e := 43) (i := (i2 - 1)) (s := 0) (d[i2]!) rfl rfl xsz43 rfl Le.enc1 WB rfl<|Run.heapTo (H' := [sgD Le.cells 43 b rest (swp d i2 (i2 - 1))]) Z<|Ze<|Zz 17<|RunT.done WK<|Zg<|?_
  refine Tr.cutx (X := Array Le) (fun d2 => V) (fun d2 => [sgD Le.cells 43 b rest d2]) (fun d2 => [(0,.slice (some ⟨b,0,none⟩) n c),(1,.int .i64 ((x : Nat) : Int)),(2,.int .i64 ((y : Nat) : Int)),(3,.func (.func gf) #[] caps.toArray),(8,.bool false),(9,.int .i64 ((i2 : Nat) : Int)),(10,.int .i64 ((s : Nat) : Int))]) (fun d2 => fixDown (ltc cm) x i2 (swp d i2 (i2 - 1)) = d2 /\ d2.size = n) ?_ ?_
  ·refine Zs<|Zr<|Zm Z<|Zm Z<|Zv (Y.subN ((i2 - x : Nat) : Int) rfl rfl W W)<|Zv (Y.int Z Z Z)<|Ze<|Zg<|?_
   refine Zq (decide (((i2 - x : Nat) : Int) >= 2)) (fun h6 g6 => ?_) fun h6 g6 => ?_
   ·refine Tr.cond_t Z h6<|Zs<|Zr<|Zm Z<|Zv (Y.subN ((i2 - 1 : Nat) : Int) rfl rfl W W)<|Za Z<|Ze<|Zg<|Zb<|?_
    refine ZL (X := Nat × Array Le) (fun z0 => V) (fun z0 => [sgD Le.cells 43 b rest z0.2]) (fun z0 => [(0,.slice (some ⟨b,0,none⟩) n c),(1,.int .i64 ((x : Nat) : Int)),(2,.int .i64 ((y : Nat) : Int)),(3,.func (.func gf) #[] caps.toArray),(8,.bool false),(9,.int .i64 ((i2 : Nat) : Int)),(10,.int .i64 ((s : Nat) : Int)),(11,.int .i64 ((z0.1 : Nat) : Int))]) (fun z0 => shiftDown (ltc cm) z0.1 z0.2 = shiftDown (ltc cm) (i2 - 1) (swp d i2 (i2 - 1)) /\ z0.2.size = n /\ z0.1 < i2) (fun z0 => z0.1) (⟨i2 - 1,swp d i2 (i2 - 1)⟩ : Nat × Array Le) ⟨rfl,by simp only [swp_size]; exact r2,by (try dsimp only); omega⟩ ?_
    rintro ⟨j,f⟩ ⟨k1,k2,k3⟩
    try dsimp only at k1 k2 k3 ⊢
    refine Zs<|Zs<|Zr<|Zm Z<|Zv (Y.int Z Z Z)<|Ze<|Zg<|?_
    refine Zq (decide (((j : Nat) : Int) >= 1)) (fun h7 g7 => ?_) fun h7 g7 => ?_
    ·refine Tr.cond_t Z h7<|Zt<|Zg<|Zs<|Zb<|Zs<|Zs<|Tr.quiet xmo WK<|ZM Z<|ZM Z<|ZM Z<|ZV (Y.idxN j Z Z xes22 W W)<|ZV (Y.ldA (enc := Le.cells) (d := f) (rest := rest) (e := 43) (i := j) Z xag43 (Kn.at 0 rfl) Le.enc1 WB rfl)<|ZM Z<|ZM Z<|ZV (Y.subN ((j - 1 : Nat) : Int) rfl rfl W W)<|?_
     refine ZV (Y.idxN (j - 1) rfl rfl xes22 W W)<|ZV (Y.ldA (enc := Le.cells) (d := f) (rest := rest) (e := 43) (i := (j - 1)) rfl xag43 (Kn.at 0 rfl) Le.enc1 WB rfl)<|YC Z Z Z ((hcmp (f[j]!) (f[j - 1]!)).frame)<|ZV (Y.int Z Z Z)<|ZV (Y.not Z)<|ZE<|Zg<|?_
     refine Zq (decide ((cm (f[j]!) (f[j - 1]!)) < 0)) (fun h8 g8 => ?_) fun h8 g8 => ?_
     ·refine Tr.cond_f Z (congrArg Bool.not h8)<|Zt<|Zg<|Tr.anyT [(b,.cells (cel Le.cells f rest).toArray 43 (0,0))] 15 xmo<|Zwm 0 Z Z (ZK 0 Z)<|Zwm 1 Z Z (ZK 0 Z)<|Zwm 2 Z Z (ZK 0 Z)<|Zwm 3 Z Z (ZK 0 Z)<|Zw 4 Z (ZK 0 Z) (fun _ => (Y.subN ((j - 1 : Nat) : Int) rfl rfl W W))<|Zwm 5 Z Z (ZK 0 Z)<|Zwm 6 Z Z (ZK 0 Z)<|Zw 7 Z (ZK 0 Z) (fun _ => (Y.subN ((j - 1 : Nat) : Int) rfl rfl W W))<|Zw 8 Z (ZK 0 Z) (fun _ => (Y.idxN (j - 1) rfl rfl xes22 W W))<|?_
      refine ZT 9 0 Z Z (ZK 0 Z) (fun _ => (Y.ldA (enc := Le.cells) (d := f) (rest := rest) (e := 43) (i := (j - 1)) rfl xag43 Kn.vk1 Le.enc1 WB rfl))<|Zwm 10 Z Z (ZK 0 Z)<|Zwm 11 Z Z (ZK 0 Z)<|Zw 12 Z (ZK 0 Z) (fun _ => (Y.idxN j rfl rfl xes22 W W))<|ZT 13 0 Z Z (ZK 0 Z) (fun _ => (Y.ldA (enc := Le.cells) (d := f) (rest := rest) (e := 43) (i := j) rfl xag43 Kn.vk1 Le.enc1 WB rfl))<|?_
      refine Zw 14 Z (ZK 0 Z) (fun _ => (Y.idxN j rfl rfl xes22 W W)) ?_
      refine RunT.one (i := 15) WK rfl  ?_
      refine Run.stD (enc := Le.cells) (d := f) (rest := rest) (e := 43) (i := j) (s := 0) (f[j - 1]!) rfl rfl xsz43 rfl Le.enc1 WB rfl<|Ze<|Zz 15<|?_
      refine RunT.one (i := 16) WK rfl  ?_
      refine Zv (Y.idxN (j - 1) rfl rfl xes22 W W)<|Ze<|Zz 16<|?_
      refine RunT.one (i := 17) WK rfl  ?_
      refine Run.stD (enc := Le.cells) (d := (f).setIfInBounds j (f[j - 1]!)) (rest := rest) (e := 43) (i := (j - 1)) (s := 0) (f[j]!) rfl rfl xsz43 rfl Le.enc1 WB rfl<|Run.heapTo (H' := [sgD Le.cells 43 b rest (swp f j (j - 1))]) Z<|Ze<|Zz 17<|RunT.done WK<|Zc<|Zg<|Zr<|Zm Z<|Zv (Y.subN ((j - 1 : Nat) : Int) rfl rfl W W)<|?_
      refine Za Z<|Ze<|?_
      exact ZR (⟨j - 1,swp f j (j - 1)⟩ : Nat × Array Le) ⟨(shiftDown_go W (by assumption)).trans k1,by simp only [swp_size]; exact k2,by (try dsimp only); omega⟩ (by dsimp only; omega)
     refine Tr.cond_t Z (congrArg Bool.not h8)<|Zx<|Zy<|Ex.exit_out Z<|Zy<|Zy<|Zi<|?_
     exact ZX f ⟨by unfold fixDown; first | rw [if_neg W] | (rw [if_pos W,<- k1,shiftDown_stop (by first | (left; omega) | (right; assumption))]),by first | assumption | (simp only [swp_size]; assumption)⟩
    refine Tr.cond_f Z h7<|Zx<|Zy<|Zy<|Zi<|?_
    exact ZX f ⟨by unfold fixDown; first | rw [if_neg W] | (rw [if_pos W,<- k1,shiftDown_stop (by first | (left; omega) | (right; assumption))]),by first | assumption | (simp only [swp_size]; assumption)⟩
   refine Tr.cond_f Z h6<|Zt<|?_
   exact ZX (swp d i2 (i2 - 1)) ⟨by unfold fixDown; first | rw [if_neg W] | (rw [if_pos W,<- k1,shiftDown_stop (by first | (left; omega) | (right; assumption))]),by first | assumption | (simp only [swp_size]; assumption)⟩
  rintro d2 ⟨c1,c2⟩
  refine Zs<|Zr<|Zm Z<|Zm Z<|Zv (Y.subN ((y - i2 : Nat) : Int) rfl rfl W W)<|Zv (Y.int Z Z Z)<|Ze<|Zg<|?_
  refine Zq (decide (((y - i2 : Nat) : Int) >= 2)) (fun h9 g9 => ?_) fun h9 g9 => ?_
  ·refine Tr.cond_t Z h9<|Zs<|Zr<|Zm Z<|Zv (Y.addN ((i2 + 1 : Nat) : Int) rfl rfl W W)<|Za Z<|Ze<|Zg<|Zb<|?_
   refine ZL (X := Nat × Array Le) (fun z0 => V) (fun z0 => [sgD Le.cells 43 b rest z0.2]) (fun z0 => [(0,.slice (some ⟨b,0,none⟩) n c),(1,.int .i64 ((x : Nat) : Int)),(2,.int .i64 ((y : Nat) : Int)),(3,.func (.func gf) #[] caps.toArray),(8,.bool false),(9,.int .i64 ((i2 : Nat) : Int)),(10,.int .i64 ((s : Nat) : Int)),(12,.int .i64 ((z0.1 : Nat) : Int))]) (fun z0 => shiftUp (ltc cm) y z0.1 z0.2 = shiftUp (ltc cm) y (i2 + 1) d2 /\ z0.2.size = n /\ i2 < z0.1) (fun z0 => y - z0.1) (⟨i2 + 1,d2⟩ : Nat × Array Le) ⟨rfl,c2,by (try dsimp only); omega⟩ ?_
   rintro ⟨j,f⟩ ⟨u1,u2,u3⟩
   try dsimp only at u1 u2 u3 ⊢
   refine Zs<|Zs<|Zr<|Zm Z<|Zm Z<|Zv (Y.int Z Z Z)<|Ze<|Zg<|?_
   refine Zq (decide (((j : Nat) : Int) < ((y : Nat) : Int))) (fun h10 g10 => ?_) fun h10 g10 => ?_
   ·refine Tr.cond_t Z h10<|Zt<|Zg<|Zs<|Zb<|Zs<|Zs<|Tr.quiet xmo WK<|ZM Z<|ZM Z<|ZM Z<|ZV (Y.idxN j Z Z xes22 W W)<|ZV (Y.ldA (enc := Le.cells) (d := f) (rest := rest) (e := 43) (i := j) Z xag43 (Kn.at 0 rfl) Le.enc1 WB rfl)<|ZM Z<|ZM Z<|ZV (Y.subN ((j - 1 : Nat) : Int) rfl rfl W W)<|?_
    refine ZV (Y.idxN (j - 1) rfl rfl xes22 W W)<|ZV (Y.ldA (enc := Le.cells) (d := f) (rest := rest) (e := 43) (i := (j - 1)) rfl xag43 (Kn.at 0 rfl) Le.enc1 WB rfl)<|YC Z Z Z ((hcmp (f[j]!) (f[j - 1]!)).frame)<|ZV (Y.int Z Z Z)<|ZV (Y.not Z)<|ZE<|Zg<|?_
    refine Zq (decide ((cm (f[j]!) (f[j - 1]!)) < 0)) (fun h11 g11 => ?_) fun h11 g11 => ?_
    ·refine Tr.cond_f Z (congrArg Bool.not h11)<|Zt<|Zg<|Tr.anyT [(b,.cells (cel Le.cells f rest).toArray 43 (0,0))] 15 xmo<|Zwm 0 Z Z (ZK 0 Z)<|Zwm 1 Z Z (ZK 0 Z)<|Zwm 2 Z Z (ZK 0 Z)<|Zwm 3 Z Z (ZK 0 Z)<|Zw 4 Z (ZK 0 Z) (fun _ => (Y.subN ((j - 1 : Nat) : Int) rfl rfl W W))<|Zwm 5 Z Z (ZK 0 Z)<|Zwm 6 Z Z (ZK 0 Z)<|Zw 7 Z (ZK 0 Z) (fun _ => (Y.subN ((j - 1 : Nat) : Int) rfl rfl W W))<|Zw 8 Z (ZK 0 Z) (fun _ => (Y.idxN (j - 1) rfl rfl xes22 W W))<|?_
     refine ZT 9 0 Z Z (ZK 0 Z) (fun _ => (Y.ldA (enc := Le.cells) (d := f) (rest := rest) (e := 43) (i := (j - 1)) rfl xag43 Kn.vk1 Le.enc1 WB rfl))<|Zwm 10 Z Z (ZK 0 Z)<|Zwm 11 Z Z (ZK 0 Z)<|Zw 12 Z (ZK 0 Z) (fun _ => (Y.idxN j rfl rfl xes22 W W))<|ZT 13 0 Z Z (ZK 0 Z) (fun _ => (Y.ldA (enc := Le.cells) (d := f) (rest := rest) (e := 43) (i := j) rfl xag43 Kn.vk1 Le.enc1 WB rfl))<|?_
     refine Zw 14 Z (ZK 0 Z) (fun _ => (Y.idxN j rfl rfl xes22 W W)) ?_
     refine RunT.one (i := 15) WK rfl  ?_
     refine Run.stD (enc := Le.cells) (d := f) (rest := rest) (e := 43) (i := j) (s := 0) (f[j - 1]!) rfl rfl xsz43 rfl Le.enc1 WB rfl<|Ze<|Zz 15<|?_
     refine RunT.one (i := 16) WK rfl  ?_
     refine Zv (Y.idxN (j - 1) rfl rfl xes22 W W)<|Ze<|Zz 16<|?_
     refine RunT.one (i := 17) WK rfl  ?_
     refine Run.stD (enc := Le.cells) (d := (f).setIfInBounds j (f[j - 1]!)) (rest := rest) (e := 43) (i := (j - 1)) (s := 0) (f[j]!) rfl rfl xsz43 rfl Le.enc1 WB rfl<|Run.heapTo (H' := [sgD Le.cells 43 b rest (swp f j (j - 1))]) Z<|Ze<|Zz 17<|RunT.done WK<|Zc<|Zg<|Zr<|Zm Z<|Zv (Y.addN ((j + 1 : Nat) : Int) rfl rfl W W)<|?_
     refine Za Z<|Ze<|?_
     exact ZR (⟨j + 1,swp f j (j - 1)⟩ : Nat × Array Le) ⟨(shiftUp_go W (by assumption)).trans u1,by simp only [swp_size]; exact u2,by (try dsimp only); omega⟩ (by dsimp only; omega)
    refine Tr.cond_t Z (congrArg Bool.not h11)<|Zx<|Zy<|Ex.exit_out Z<|Zy<|Zy<|Zi<|Zc<|Zg<|Zr<|Zm Z<|Zv (Y.addN ((s + 1 : Nat) : Int) rfl rfl W W)<|Za Z<|Ze<|?_
    exact ZR (⟨s + 1,i2,f⟩ : Nat × Nat × Array Le) ⟨by dsimp only; rw [<- r1,pins_go W f1 W W,c1]; unfold fixUp; first | rw [if_neg W] | (rw [if_pos W,<- u1,shiftUp_stop (by first | (left; omega) | (right; assumption))]),by assumption,by (try dsimp only); omega,by (try dsimp only); omega,by (try dsimp only); omega⟩ (by dsimp only; omega)
   refine Tr.cond_f Z h10<|Zx<|Zy<|Zy<|Zi<|Zc<|Zg<|Zr<|Zm Z<|Zv (Y.addN ((s + 1 : Nat) : Int) rfl rfl W W)<|Za Z<|Ze<|?_
   exact ZR (⟨s + 1,i2,f⟩ : Nat × Nat × Array Le) ⟨by dsimp only; rw [<- r1,pins_go W f1 W W,c1]; unfold fixUp; first | rw [if_neg W] | (rw [if_pos W,<- u1,shiftUp_stop (by first | (left; omega) | (right; assumption))]),by assumption,by (try dsimp only); omega,by (try dsimp only); omega,by (try dsimp only); omega⟩ (by dsimp only; omega)
  refine Tr.cond_f Z h9<|Zt<|Zc<|Zg<|Zr<|Zm Z<|Zv (Y.addN ((s + 1 : Nat) : Int) rfl rfl W W)<|Za Z<|Ze<|?_
  exact ZR (⟨s + 1,i2,d2⟩ : Nat × Nat × Array Le) ⟨by dsimp only; rw [<- r1,pins_go W f1 W W,c1]; unfold fixUp; first | rw [if_neg W] | (rw [if_pos W,<- u1,shiftUp_stop (by first | (left; omega) | (right; assumption))]),by assumption,by (try dsimp only); omega,by (try dsimp only); omega,by (try dsimp only); omega⟩ (by dsimp only; omega)
 refine Tr.cond_f Z h1<|Zx<|Zy<|Zy<|Zi<|Zg<|Zs<|Zr<|Za Z<|Ze<|Zg<|Zu<|Ex.keep [0]<|?_
 exact Ex.ret1 rfl rfl  ⟨rfl,by rw [<- r1]; first | rw [pins_end W] | rw [pins_done W f1 W] | rw [pins_short W f1 W W],by rw [<- r1]; (first | rw [pins_end W] | rw [pins_done W f1 W] | rw [pins_short W f1 W W]); rfl⟩
theorem ord2_l {V : Vw} {n c b : Nat} {rest : List Value} {d0 : Array Le} {gf : FuncId} {caps : List Value} {cm : Le -> Le -> Int} {i j s bs : Nat}  (hN : n <= 1073741824) (hd : d0.size = n) (hi : i < n) (hj : j < n) (hs : s <= 1000)  (hcmp : ∀ x y : Le,Does Tryz.prog gf (.agg (Le.cells x).toArray :: .agg (Le.cells y).toArray :: caps) V [] (Pv (.int .i64 (cm x y)) V [])) (hswo : SWO (ltc cm))  : Does Tryz.prog 221 [.slice (some ⟨b,0,none⟩) n c,.int .i64 ((i : Nat) : Int),.int .i64 ((j : Nat) : Int),(pZ bs),.func (.func gf) #[] caps.toArray] V [sgD Le.cells 43 b rest d0,[(bs,.cells #[.int .i64 ((s : Nat) : Int)] 3 (0,0))]] (fun v V' H' => V' = V /\ ∃ p q s' : Nat,v = .tuple #[.int .i64 (p : Int),.int .i64 (q : Int)] /\ ((p = i /\ q = j) \/ (p = j /\ q = i)) /\ s' <= s + 1 /\ H' = [sgD Le.cells 43 b rest d0,[(bs,.cells #[.int .i64 ((s' : Nat) : Int)] 3 (0,0))]]) := by
 refine Does.intro Tryz.func221 rfl rfl (le rfl) (fun B => ?_)
 refine Zs<|Zr<|Za Z<|Za Z<|Ze<|Zg<|Zs<|Zs<|Tr.quiet xmo WK<|ZM Z<|ZM Z<|ZM Z<|ZV (Y.idxN j Z Z xes22 W W)<|ZV (Y.ldA (enc := Le.cells) (d := d0) (rest := rest) (e := 43) (i := j) Z xag43 (Kn.at 0 rfl) Le.enc1 WB rfl)<|ZM Z<|ZM Z<|?_
 refine ZV (Y.idxN i Z Z xes22 W W)<|ZV (Y.ldA (enc := Le.cells) (d := d0) (rest := rest) (e := 43) (i := i) Z xag43 (Kn.at 0 rfl) Le.enc1 WB rfl)<|YC Z Z Z ((hcmp (d0[j]!) (d0[i]!)).frame)<|ZV (Y.int Z Z Z)<|ZE<|Zg<|?_
 refine Zq (decide ((cm (d0[j]!) (d0[i]!)) < 0)) (fun h1 g1 => ?_) fun h1 g1 => ?_
 ·refine Tr.cond_t Z h1<|Zs<|Zr<|Zm Z<|Zv (Y.nilCheck Z)<|Zv (Y.load Z xts3 (Kn.at 1 Z) Z)<|Zv (Y.addN ((s + 1 : Nat) : Int) rfl rfl W W)<|Zv (Y.nilCheck Z)<|Run.store (s := [(bs,.cells #[.int .i64 ((s + 1 : Nat) : Int)] 3 (0,0))]) Z Z xsz3 (i := 1) Z Z (le Z) Z Z<|Ze<|Zg<|Zs<|Zr<|Zm Z<|Zm Z<|Za Z<|?_
  refine Za Z<|Ze<|Zg<|Zu<|Zn<|Ex.keep [0,0]<|?_
  exact Ex.ret2 rfl rfl rfl  ⟨rfl,_,_,_,rfl,.inr ⟨rfl,rfl⟩,Nat.le_refl _,rfl⟩
 refine Tr.cond_f Z h1<|Zt<|Zg<|Zs<|Zr<|Zm Z<|Zm Z<|Za Z<|Za Z<|Ze<|Zg<|Zu<|Ex.keep [0,0]<|?_
 exact Ex.ret2 rfl rfl rfl  ⟨rfl,_,_,_,rfl,.inl ⟨rfl,rfl⟩,by omega,rfl⟩
theorem med_l {V : Vw} {n c b : Nat} {rest : List Value} {d0 : Array Le} {gf : FuncId} {caps : List Value} {cm : Le -> Le -> Int} {i j k s bs : Nat}  (hN : n <= 1073741824) (hd : d0.size = n) (hi : i < n) (hj : j < n) (hk : k < n) (hs : s <= 900)  (hcmp : ∀ x y : Le,Does Tryz.prog gf (.agg (Le.cells x).toArray :: .agg (Le.cells y).toArray :: caps) V [] (Pv (.int .i64 (cm x y)) V [])) (hswo : SWO (ltc cm))  : Does Tryz.prog 220 [.slice (some ⟨b,0,none⟩) n c,.int .i64 ((i : Nat) : Int),.int .i64 ((j : Nat) : Int),.int .i64 ((k : Nat) : Int),(pZ bs),.func (.func gf) #[] caps.toArray] V [sgD Le.cells 43 b rest d0,[(bs,.cells #[.int .i64 ((s : Nat) : Int)] 3 (0,0))]] (fun v V' H' => V' = V /\ ∃ m s' : Nat,v = .int .i64 (m : Int) /\ (m = i \/ m = j \/ m = k) /\ s' <= s + 3 /\ H' = [sgD Le.cells 43 b rest d0,[(bs,.cells #[.int .i64 ((s' : Nat) : Int)] 3 (0,0))]]) := by
 refine Does.intro Tryz.func220 rfl rfl (le rfl) (fun B => ?_)
 refine Zs<|Zr<|Za Z<|Ze<|Zg<|Zs<|Zr<|Zm Z<|Zm Z<|Zm Z<|Zm Z<|Zm Z<|?_
 refine Yk [0,0] Z Z Z (ord2_l (i := i) (j := j) (s := s) hN hd W W W hcmp hswo) (fun v1 V2 H2 hle2 hR => ?_)
 obtain ⟨hV,m6,m7,s3,rfl,hq5,hs4,rfl⟩ := hR; replace hV := hV.symm; subst hV
 refine Run.heapTo (H' := [sgD Le.cells 43 b rest d0,[(bs,.cells #[.int .i64 ((s3 : Nat) : Int)] 3 (0,0))]]) Z<|Zm Z<|Zv (Y.extract Z Z)<|Zv (Y.extract Z Z)<|Za Z<|Za Z<|Ze<|Zg<|Zs<|Zr<|Zm Z<|Zm Z<|Zm Z<|Zm Z<|Zm Z<|?_
 refine Yk [0,0] Z Z Z (ord2_l (i := m7) (j := k) (s := s3) hN hd W W W hcmp hswo) (fun v8 V2 H2 hle9 hR => ?_)
 obtain ⟨hV,m13,m14,s10,rfl,hq12,hs11,rfl⟩ := hR; replace hV := hV.symm; subst hV
 refine Run.heapTo (H' := [sgD Le.cells 43 b rest d0,[(bs,.cells #[.int .i64 ((s10 : Nat) : Int)] 3 (0,0))]]) Z<|Zm Z<|Zv (Y.extract Z Z)<|Zv (Y.extract Z Z)<|Za Z<|Za Z<|Ze<|Zg<|Zs<|Zr<|Zm Z<|Zm Z<|Zm Z<|Zm Z<|Zm Z<|?_
 refine Yk [0,0] Z Z Z (ord2_l (i := m6) (j := m13) (s := s10) hN hd W W W hcmp hswo) (fun v15 V2 H2 hle16 hR => ?_)
 obtain ⟨hV,m20,m21,s17,rfl,hq19,hs18,rfl⟩ := hR; replace hV := hV.symm; subst hV
 refine Run.heapTo (H' := [sgD Le.cells 43 b rest d0,[(bs,.cells #[.int .i64 ((s17 : Nat) : Int)] 3 (0,0))]]) Z<|Zm Z<|Zv (Y.extract Z Z)<|Zv (Y.extract Z Z)<|Za Z<|Za Z<|Ze<|Zg<|Zs<|Zr<|Zm Z<|Za Z<|Ze<|Zg<|Zu<|Ex.keep [0,0]<|?_
 exact Ex.ret1 rfl rfl  ⟨rfl,_,_,rfl,by omega,by omega,rfl⟩
theorem meda_l {V : Vw} {n c b : Nat} {rest : List Value} {d0 : Array Le} {gf : FuncId} {caps : List Value} {cm : Le -> Le -> Int} {i s bs : Nat}  (hN : n <= 1073741824) (hd : d0.size = n) (h1 : 1 <= i) (hi : i + 1 < n) (hs : s <= 900)  (hcmp : ∀ x y : Le,Does Tryz.prog gf (.agg (Le.cells x).toArray :: .agg (Le.cells y).toArray :: caps) V [] (Pv (.int .i64 (cm x y)) V [])) (hswo : SWO (ltc cm))  : Does Tryz.prog 219 [.slice (some ⟨b,0,none⟩) n c,.int .i64 ((i : Nat) : Int),(pZ bs),.func (.func gf) #[] caps.toArray] V [sgD Le.cells 43 b rest d0,[(bs,.cells #[.int .i64 ((s : Nat) : Int)] 3 (0,0))]] (fun v V' H' => V' = V /\ ∃ m s' : Nat,v = .int .i64 (m : Int) /\ (m = i - 1 \/ m = i \/ m = i + 1) /\ s' <= s + 3 /\ H' = [sgD Le.cells 43 b rest d0,[(bs,.cells #[.int .i64 ((s' : Nat) : Int)] 3 (0,0))]]) := by
 refine Does.intro Tryz.func219 rfl rfl (le rfl) (fun B => ?_)
 refine Zs<|Zr<|Za Z<|Ze<|Zg<|Zs<|Zr<|Zm Z<|Zm Z<|Zv (Y.subN ((i - 1 : Nat) : Int) rfl rfl W W)<|Zm Z<|Zm Z<|Zv (Y.addN ((i + 1 : Nat) : Int) rfl rfl W W)<|Zm Z<|Zm Z<|?_
 refine Yk [0,0] Z Z Z (med_l (i := i - 1) (j := i) (k := i + 1) (s := s) hN hd W W W W hcmp hswo) (fun v1 V2 H2 hle2 hR => ?_)
 obtain ⟨hV,m6,s3,rfl,hq5,hs4,rfl⟩ := hR; replace hV := hV.symm; subst hV
 refine Run.heapTo (H' := [sgD Le.cells 43 b rest d0,[(bs,.cells #[.int .i64 ((s3 : Nat) : Int)] 3 (0,0))]]) Z<|Za Z<|Ze<|Zg<|Zu<|Ex.keep [0,0]<|?_
 exact Ex.ret1 rfl rfl  ⟨rfl,_,_,rfl,by omega,by omega,rfl⟩
set_option maxHeartbeats 2000000 in
theorem pivot_l {V : Vw} {n c b : Nat} {rest : List Value} {d0 : Array Le} {gf : FuncId} {caps : List Value} {cm : Le -> Le -> Int} {x y : Nat}  (hN : n <= 1073741824) (hd : d0.size = n) (hx : x < y) (hy : y <= n)  (hcmp : ∀ x y : Le,Does Tryz.prog gf (.agg (Le.cells x).toArray :: .agg (Le.cells y).toArray :: caps) V [] (Pv (.int .i64 (cm x y)) V [])) (hswo : SWO (ltc cm))  : Does Tryz.prog 213 [.slice (some ⟨b,0,none⟩) n c,.int .i64 ((x : Nat) : Int),.int .i64 ((y : Nat) : Int),.func (.func gf) #[] caps.toArray] V [sgD Le.cells 43 b rest d0] (fun v V' H' => V' = V /\ ∃ (p : Nat) (h : Int),v = .tuple #[.int .i64 (p : Int),.int .i64 h] /\ x <= p /\ p < y /\ H' = [sgD Le.cells 43 b rest d0]) := by
 refine Does.intro Tryz.func213 rfl rfl (le rfl) (fun B => ?_)
 refine Zs<|Zr<|Za Z<|Za Z<|Ze<|Zg<|Zs<|Zr<|Zm Z<|Zm Z<|Zv (Y.subN ((y - x : Nat) : Int) rfl rfl W W)<|Za Z<|Ze<|Zg<|Zs<|Zr<|?_
 refine Run.alloc xzo3 (lt rfl) (fun b1 => ?_)
 refine Ze<|Zg<|Zs<|Zr<|Zm Z<|Zm Z<|Zv (Y.quoN (m := y - x) (n := 4) Z Z W W)<|Zv (Y.mulN ((((y - x) / 4) * 1 : Nat) : Int) rfl rfl W W)<|Zv (Y.addN ((x + (((y - x) / 4) * 1) : Nat) : Int) rfl rfl W W)<|Za Z<|Ze<|Zg<|Zs<|Zr<|Zm Z<|Zm Z<|?_
 refine Zv (Y.quoN (m := y - x) (n := 4) Z Z W W)<|Zv (Y.mulN ((((y - x) / 4) * 2 : Nat) : Int) rfl rfl W W)<|Zv (Y.addN ((x + (((y - x) / 4) * 2) : Nat) : Int) rfl rfl W W)<|Za Z<|Ze<|Zg<|Zs<|Zr<|Zm Z<|Zm Z<|Zv (Y.quoN (m := y - x) (n := 4) Z Z W W)<|Zv (Y.mulN ((((y - x) / 4) * 3 : Nat) : Int) rfl rfl W W)<|Zv (Y.addN ((x + (((y - x) / 4) * 3) : Nat) : Int) rfl rfl W W)<|?_
 refine Za Z<|Ze<|Zg<|Zs<|Zs<|Zr<|Zm Z<|Zv (Y.int Z Z Z)<|Ze<|Zg<|?_
 refine Zq (decide (((y - x : Nat) : Int) >= 8)) (fun h2 g2 => ?_) fun h2 g2 => ?_
 ·refine Tr.cond_t Z h2<|Zs<|Zs<|Zr<|Zm Z<|Zv (Y.int Z Z Z)<|Ze<|Zg<|?_
  refine Zq (decide (((y - x : Nat) : Int) >= 50)) (fun h3 g3 => ?_) fun h3 g3 => ?_
  ·refine Tr.cond_t Z h3<|Zs<|Zr<|Zm Z<|Zm Z<|Zm Z<|?_
   refine Yk [1,0] Z Z Z (meda_l (i := x + (((y - x) / 4) * 1)) (s := 0) hN hd W W W hcmp hswo) (fun v4 V2 H2 hle5 hR => ?_)
   obtain ⟨hV,m9,s6,rfl,hq8,hs7,rfl⟩ := hR; replace hV := hV.symm; subst hV
   refine Run.heapTo (H' := [sgD Le.cells 43 b rest d0,[(b1,.cells #[.int .i64 ((s6 : Nat) : Int)] 3 (0,0))]]) Z<|Za Z<|Ze<|Zg<|Zs<|Zr<|Zm Z<|Zm Z<|Zm Z<|?_
   refine Yk [0,0] Z Z Z (meda_l (i := x + (((y - x) / 4) * 2)) (s := s6) hN hd W W W hcmp hswo) (fun v10 V2 H2 hle11 hR => ?_)
   obtain ⟨hV,m15,s12,rfl,hq14,hs13,rfl⟩ := hR; replace hV := hV.symm; subst hV
   refine Run.heapTo (H' := [sgD Le.cells 43 b rest d0,[(b1,.cells #[.int .i64 ((s12 : Nat) : Int)] 3 (0,0))]]) Z<|Za Z<|Ze<|Zg<|Zr<|Zm Z<|Zm Z<|Zm Z<|?_
   refine Yk [0,0] Z Z Z (meda_l (i := x + (((y - x) / 4) * 3)) (s := s12) hN hd W W W hcmp hswo) (fun v16 V2 H2 hle17 hR => ?_)
   obtain ⟨hV,m21,s18,rfl,hq20,hs19,rfl⟩ := hR; replace hV := hV.symm; subst hV
   refine Run.heapTo (H' := [sgD Le.cells 43 b rest d0,[(b1,.cells #[.int .i64 ((s18 : Nat) : Int)] 3 (0,0))]]) Z<|Za Z<|Ze<|Zg<|Zr<|Zm Z<|Zm Z<|Zm Z<|Zm Z<|Zm Z<|?_
   refine Yk [0,0] Z Z Z (med_l (i := m9) (j := m15) (k := m21) (s := s18) hN hd W W W W hcmp hswo) (fun v22 V2 H2 hle23 hR => ?_)
   obtain ⟨hV,m27,s24,rfl,hq26,hs25,rfl⟩ := hR; replace hV := hV.symm; subst hV
   refine Run.heapTo (H' := [sgD Le.cells 43 b rest d0,[(b1,.cells #[.int .i64 ((s24 : Nat) : Int)] 3 (0,0))]]) Z<|Za Z<|Ze<|Zg<|Zs<|Zr<|Zv (Y.load Z xts3 (Kn.at 1 Z) Z)<|Ze<|Zg<|Zb<|Zs<|Zr<|Zv (Y.int Z Z Z)<|Za Z<|Ze<|Zg<|?_
   refine Zq (((s24 : Nat) : Int) == 0) (fun h28 g28 => ?_) fun h28 g28 => ?_
   ·refine Tr.cond_t Z h28<|Zs<|Zr<|Zm Z<|Za Z<|Za Z<|Ze<|Zg<|Zu<|Zk<|Ex.keep [0]<|?_
    exact Ex.ret2 rfl rfl rfl  ⟨rfl,_,_,rfl,by omega,by omega,rfl⟩
   refine Tr.cond_f Z h28<|Zs<|Zr<|Zv (Y.int Z Z Z)<|Za Z<|Ze<|Zg<|?_
   refine Zq (((s24 : Nat) : Int) == 12) (fun h29 g29 => ?_) fun h29 g29 => ?_
   ·refine Tr.cond_t Z h29<|Zs<|Zr<|Zm Z<|Za Z<|Za Z<|Ze<|Zg<|Zu<|Zk<|Ex.keep [0]<|?_
    exact Ex.ret2 rfl rfl rfl  ⟨rfl,_,_,rfl,by omega,by omega,rfl⟩
   refine Tr.cond_f Z h29<|Zs<|Zr<|Zm Z<|Za Z<|Za Z<|Ze<|Zg<|Zu<|Zk<|Ex.keep [0]<|?_
   exact Ex.ret2 rfl rfl rfl  ⟨rfl,_,_,rfl,by omega,by omega,rfl⟩
  refine Tr.cond_f Z h3<|Zt<|Zg<|Zr<|Zm Z<|Zm Z<|Zm Z<|Zm Z<|Zm Z<|?_
  refine Yk [1,0] Z Z Z (med_l (i := x + (((y - x) / 4) * 1)) (j := x + (((y - x) / 4) * 2)) (k := x + (((y - x) / 4) * 3)) (s := 0) hN hd W W W W hcmp hswo) (fun v30 V2 H2 hle31 hR => ?_)
  obtain ⟨hV,m35,s32,rfl,hq34,hs33,rfl⟩ := hR; replace hV := hV.symm; subst hV
  refine Run.heapTo (H' := [sgD Le.cells 43 b rest d0,[(b1,.cells #[.int .i64 ((s32 : Nat) : Int)] 3 (0,0))]]) Z<|Za Z<|Ze<|Zg<|Zs<|Zr<|Zv (Y.load Z xts3 (Kn.at 1 Z) Z)<|Ze<|Zg<|Zb<|Zs<|Zr<|Zv (Y.int Z Z Z)<|Za Z<|Ze<|Zg<|?_
  refine Zq (((s32 : Nat) : Int) == 0) (fun h36 g36 => ?_) fun h36 g36 => ?_
  ·refine Tr.cond_t Z h36<|Zs<|Zr<|Zm Z<|Za Z<|Za Z<|Ze<|Zg<|Zu<|Zk<|Ex.keep [0]<|?_
   exact Ex.ret2 rfl rfl rfl  ⟨rfl,_,_,rfl,by omega,by omega,rfl⟩
  refine Tr.cond_f Z h36<|Zs<|Zr<|Zv (Y.int Z Z Z)<|Za Z<|Ze<|Zg<|?_
  refine Zq (((s32 : Nat) : Int) == 12) (fun h37 g37 => ?_) fun h37 g37 => ?_
  ·refine Tr.cond_t Z h37<|Zs<|Zr<|Zm Z<|Za Z<|Za Z<|Ze<|Zg<|Zu<|Zk<|Ex.keep [0]<|?_
   exact Ex.ret2 rfl rfl rfl  ⟨rfl,_,_,rfl,by omega,by omega,rfl⟩
  refine Tr.cond_f Z h37<|Zs<|Zr<|Zm Z<|Za Z<|Za Z<|Ze<|Zg<|Zu<|Zk<|Ex.keep [0]<|?_
  exact Ex.ret2 rfl rfl rfl  ⟨rfl,_,_,rfl,by omega,by omega,rfl⟩
 refine Tr.cond_f Z h2<|Zt<|Zg<|Zs<|Zr<|Zv (Y.load Z xts3 (Kn.at 0 Z) Z)<|Ze<|Zg<|Zb<|Zs<|Zr<|Zv (Y.int (r := .bool true) Z Z Z)<|Za Z<|Ze<|Zg<|Tr.cond_t Z Z<|?_
 refine Zs<|Zr<|Zm Z<|Za Z<|Za Z<|Ze<|Zg<|Zu<|Zk<|Ex.keep [1]<|?_
 exact Ex.ret2 rfl rfl rfl  ⟨rfl,_,_,rfl,by omega,by omega,rfl⟩
theorem brk_l {V : Vw} {n c b : Nat} {rest : List Value} {d0 : Array Le} {gf : FuncId} {caps : List Value} {cm : Le -> Le -> Int} {x y : Nat}  (hN : n <= 1073741824) (hd : d0.size = n) (hx : x < y) (hy : y <= n)  (hcmp : ∀ x y : Le,Does Tryz.prog gf (.agg (Le.cells x).toArray :: .agg (Le.cells y).toArray :: caps) V [] (Pv (.int .i64 (cm x y)) V [])) (hswo : SWO (ltc cm))  : Does Tryz.prog 212 [.slice (some ⟨b,0,none⟩) n c,.int .i64 ((x : Nat) : Int),.int .i64 ((y : Nat) : Int),.func (.func gf) #[] caps.toArray] V [sgD Le.cells 43 b rest d0] (fun v V' H' => V' = V /\ v = .tuple #[] /\ ∃ d1,PermIn x y d0 d1 /\ H' = [sgD Le.cells 43 b rest d1]) := by
 refine Does.intro Tryz.func212 rfl rfl (le rfl) (fun B => ?_)
 refine Zs<|Zr<|Zm Z<|Zm Z<|Zv (Y.subN ((y - x : Nat) : Int) rfl rfl W W)<|Za Z<|Ze<|Zg<|Zs<|Zr<|Zm Z<|Zv (Y.int Z Z Z)<|Ze<|Zg<|?_
 refine Zq (decide (((y - x : Nat) : Int) >= 8)) (fun h1 g1 => ?_) fun h1 g1 => ?_
 ·refine Tr.cond_t Z h1<|Zs<|Zr<|Zm Z<|Zv (Y.conv (((y - x : Nat) : Int)) rfl xit3_222 (wrap_u64 W))<|?_
  refine Run.alloc xzo222 (lt rfl) (fun b2 => ?_)
  refine Run.store (s := [(b2,.cells #[.int .u64 ((y - x : Nat) : Int)] 222 (0,0))]) Z Z xsz222 (i := 0) Z Z (le Z) Z Z<|Ze<|Zg<|Zs<|Zr<|Zm Z<|?_
  refine Yk [] Z Z Z (npow_0 (m := y - x) W W) (fun v V2 H2 hle hR => ?_)
  obtain ⟨hV,⟨M,rfl,hM1,hM2⟩,rfl⟩ := hR; replace hV := hV.symm; subst hV
  refine Run.heapTo (H' := [[(b2,.cells #[.int .u64 ((y - x : Nat) : Int)] 222 (0,0))],sgD Le.cells 43 b rest d0]) Z<|Za Z<|Ze<|Zg<|Zs<|Zr<|Zm Z<|Zm Z<|Zv (Y.quoN (m := y - x) (n := 4) Z Z W W)<|Zv (Y.mulN ((((y - x) / 4) * 2 : Nat) : Int) rfl rfl W W)<|Zv (Y.addN ((x + (((y - x) / 4) * 2) : Nat) : Int) rfl rfl W W)<|Zv (Y.subN (((x + (((y - x) / 4) * 2)) - 1 : Nat) : Int) rfl rfl W W)<|?_
  refine Za Z<|Ze<|Zg<|Zb<|?_
  refine ZL (X := Nat × Int × Array Le) (fun z0 => V) (fun z0 => [[(b2,.cells #[.int .u64 z0.2.1] 222 (0,0))],sgD Le.cells 43 b rest z0.2.2]) (fun z0 => [(0,.slice (some ⟨b,0,none⟩) n c),(1,.int .i64 ((x : Nat) : Int)),(2,.int .i64 ((y : Nat) : Int)),(3,.func (.func gf) #[] caps.toArray),(8,.int .i64 ((y - x : Nat) : Int)),(9,(pZ b2)),(10,.int .u64 ((M : Nat) : Int)),(11,.int .i64 ((z0.1 : Nat) : Int))]) (fun z0 => PermIn x y d0 z0.2.2 /\ z0.2.2.size = n /\ x + (y - x) / 4 * 2 <= z0.1 + 1 /\ z0.1 <= x + (y - x) / 4 * 2 + 2) (fun z0 => x + (y - x) / 4 * 2 + 2 - z0.1) (⟨(x + ((y - x) / 4) * 2) - 1,((y - x : Nat) : Int),d0⟩ : Nat × Int × Array Le) ⟨permIn_refl _ _ _,hd,by (try dsimp only); omega,by (try dsimp only); omega⟩ ?_
  rintro ⟨i,r,d⟩ ⟨r1,k2,r3,r4⟩
  try dsimp only at r1 k2 r3 r4 ⊢
  refine Zs<|Zs<|Zr<|Zm Z<|Zm Z<|Zm Z<|Zv (Y.quoN (m := y - x) (n := 4) Z Z W W)<|Zv (Y.mulN ((((y - x) / 4) * 2 : Nat) : Int) rfl rfl W W)<|Zv (Y.addN ((x + (((y - x) / 4) * 2) : Nat) : Int) rfl rfl W W)<|Zv (Y.addN (((x + (((y - x) / 4) * 2)) + 1 : Nat) : Int) rfl rfl W W)<|Zv (Y.int Z Z Z)<|Ze<|Zg<|?_
  refine Zq (decide (((i : Nat) : Int) <= (((x + (((y - x) / 4) * 2)) + 1 : Nat) : Int))) (fun h3 g3 => ?_) fun h3 g3 => ?_
  ·refine Tr.cond_t Z h3<|Zt<|Zg<|Zs<|Zb<|Zs<|Zr<|?_
   refine Yk [0] Z Z Z next_0 (fun v V2 H2 hle hR => ?_)
   obtain ⟨hV,r2,rfl,rfl⟩ := hR; replace hV := hV.symm; subst hV
   refine Run.heapTo (H' := [sgD Le.cells 43 b rest d,[(b2,.cells #[.int .u64 r2] 222 (0,0))]]) Z<|Zm Z<|Zv (Y.int (r := .int .u64 ((M - 1 : Nat) : Int)) rfl rfl (subU W W))<|?_
   obtain ⟨o,ho1,ho2⟩ := andU_nat (a := r2) (m := M - 1) W
   refine Zv (Y.int (r := .int .u64 ((o : Nat) : Int)) rfl rfl (congrArg (fun z => some (Value.int .u64 z)) ho1))<|Zv (Y.conv (((o : Nat) : Int)) rfl xit195_3 (wrap_i64 W))<|Za Z<|Ze<|Zg<|Zs<|Zs<|Zr<|Zm Z<|Zm Z<|Zv (Y.int Z Z Z)<|Ze<|Zg<|?_
   refine Zq (decide (((o : Nat) : Int) >= ((y - x : Nat) : Int))) (fun h4 g4 => ?_) fun h4 g4 => ?_
   ·refine Tr.cond_t Z h4<|Zr<|Zm Z<|Zm Z<|Zv (Y.subN ((o - (y - x) : Nat) : Int) rfl rfl W W)<|Za Z<|Ze<|Zg<|Tr.anyT [(b,.cells (cel Le.cells d rest).toArray 43 (0,0))] 17 xmo<|Zwm 0 Z Z (ZK 0 Z)<|Zwm 1 Z Z (ZK 0 Z)<|Zwm 2 Z Z (ZK 0 Z)<|Zwm 3 Z Z (ZK 0 Z)<|Zwm 4 Z Z (ZK 0 Z)<|Zw 5 Z (ZK 0 Z) (fun _ => (Y.addN ((x + (o - (y - x)) : Nat) : Int) rfl rfl W W))<|Zwm 6 Z Z (ZK 0 Z)<|?_
    refine Zwm 7 Z Z (ZK 0 Z)<|Zwm 8 Z Z (ZK 0 Z)<|Zw 9 Z (ZK 0 Z) (fun _ => (Y.addN ((x + (o - (y - x)) : Nat) : Int) rfl rfl W W))<|Zw 10 Z (ZK 0 Z) (fun _ => (Y.idxN (x + (o - (y - x))) rfl rfl xes22 W W))<|ZT 11 0 Z Z (ZK 0 Z) (fun _ => (Y.ldA (enc := Le.cells) (d := d) (rest := rest) (e := 43) (i := (x + (o - (y - x)))) rfl xag43 Kn.vk1 Le.enc1 WB rfl))<|?_
    refine Zwm 12 Z Z (ZK 0 Z)<|Zwm 13 Z Z (ZK 0 Z)<|Zw 14 Z (ZK 0 Z) (fun _ => (Y.idxN i rfl rfl xes22 W W))<|ZT 15 0 Z Z (ZK 0 Z) (fun _ => (Y.ldA (enc := Le.cells) (d := d) (rest := rest) (e := 43) (i := i) rfl xag43 Kn.vk1 Le.enc1 WB rfl))<|Zw 16 Z (ZK 0 Z) (fun _ => (Y.idxN i rfl rfl xes22 W W))<|?_
    refine RunT.one (i := 17) WK rfl  ?_
    refine Run.stD (enc := Le.cells) (d := d) (rest := rest) (e := 43) (i := i) (s := 0) (d[x + (o - (y - x))]!) rfl rfl xsz43 rfl Le.enc1 WB rfl<|Ze<|Zz 17<|?_
    refine RunT.one (i := 18) WK rfl  ?_
    refine Zv (Y.idxN (x + (o - (y - x))) rfl rfl xes22 W W)<|Ze<|Zz 18<|?_
    refine RunT.one (i := 19) WK rfl  ?_
    refine Run.stD (enc := Le.cells) (d := (d).setIfInBounds i (d[x + (o - (y - x))]!)) (rest := rest) (e := 43) (i := (x + (o - (y - x)))) (s := 0) (d[i]!) rfl rfl xsz43 rfl Le.enc1 WB rfl<|Run.heapTo (H' := [sgD Le.cells 43 b rest (swp d i (x + (o - (y - x)))),[(b2,.cells #[.int .u64 r2] 222 (0,0))]]) Z<|Ze<|Zz 19<|RunT.done WK<|?_
    refine Zc<|Zg<|Zr<|Zm Z<|Zv (Y.addN ((i + 1 : Nat) : Int) rfl rfl W W)<|Za Z<|Ze<|Ex.keep [1,0]<|?_
    exact ZR (⟨i + 1,r2,swp d i (x + (o - (y - x)))⟩ : Nat × Int × Array Le) ⟨permIn_trans _ _ _ _ _ r1 (swp_permIn _ x y _ _ W W W W W),by simp only [swp_size]; exact k2,by (try dsimp only); omega,by (try dsimp only); omega⟩ (by dsimp only; omega)
   refine Tr.cond_f Z h4<|Zt<|Zg<|Tr.anyT [(b,.cells (cel Le.cells d rest).toArray 43 (0,0))] 17 xmo<|Zwm 0 Z Z (ZK 0 Z)<|Zwm 1 Z Z (ZK 0 Z)<|Zwm 2 Z Z (ZK 0 Z)<|Zwm 3 Z Z (ZK 0 Z)<|Zwm 4 Z Z (ZK 0 Z)<|Zw 5 Z (ZK 0 Z) (fun _ => (Y.addN ((x + o : Nat) : Int) rfl rfl W W))<|Zwm 6 Z Z (ZK 0 Z)<|Zwm 7 Z Z (ZK 0 Z)<|Zwm 8 Z Z (ZK 0 Z)<|Zw 9 Z (ZK 0 Z) (fun _ => (Y.addN ((x + o : Nat) : Int) rfl rfl W W))<|?_
   refine Zw 10 Z (ZK 0 Z) (fun _ => (Y.idxN (x + o) rfl rfl xes22 W W))<|ZT 11 0 Z Z (ZK 0 Z) (fun _ => (Y.ldA (enc := Le.cells) (d := d) (rest := rest) (e := 43) (i := (x + o)) rfl xag43 Kn.vk1 Le.enc1 WB rfl))<|Zwm 12 Z Z (ZK 0 Z)<|Zwm 13 Z Z (ZK 0 Z)<|Zw 14 Z (ZK 0 Z) (fun _ => (Y.idxN i rfl rfl xes22 W W))<|?_
   refine ZT 15 0 Z Z (ZK 0 Z) (fun _ => (Y.ldA (enc := Le.cells) (d := d) (rest := rest) (e := 43) (i := i) rfl xag43 Kn.vk1 Le.enc1 WB rfl))<|Zw 16 Z (ZK 0 Z) (fun _ => (Y.idxN i rfl rfl xes22 W W))<|?_
   refine RunT.one (i := 17) WK rfl  ?_
   refine Run.stD (enc := Le.cells) (d := d) (rest := rest) (e := 43) (i := i) (s := 0) (d[x + o]!) rfl rfl xsz43 rfl Le.enc1 WB rfl<|Ze<|Zz 17<|?_
   refine RunT.one (i := 18) WK rfl  ?_
   refine Zv (Y.idxN (x + o) rfl rfl xes22 W W)<|Ze<|Zz 18<|?_
   refine RunT.one (i := 19) WK rfl  ?_
   refine Run.stD (enc := Le.cells) (d := (d).setIfInBounds i (d[x + o]!)) (rest := rest) (e := 43) (i := (x + o)) (s := 0) (d[i]!) rfl rfl xsz43 rfl Le.enc1 WB rfl<|Run.heapTo (H' := [sgD Le.cells 43 b rest (swp d i (x + o)),[(b2,.cells #[.int .u64 r2] 222 (0,0))]]) Z<|Ze<|Zz 19<|RunT.done WK<|Zc<|Zg<|Zr<|Zm Z<|Zv (Y.addN ((i + 1 : Nat) : Int) rfl rfl W W)<|?_
   refine Za Z<|Ze<|Ex.keep [1,0]<|?_
   exact ZR (⟨i + 1,r2,swp d i (x + o)⟩ : Nat × Int × Array Le) ⟨permIn_trans _ _ _ _ _ r1 (swp_permIn _ x y _ _ W W W W W),by simp only [swp_size]; exact k2,by (try dsimp only); omega,by (try dsimp only); omega⟩ (by dsimp only; omega)
  refine Tr.cond_f Z h3<|Zx<|Zy<|Zy<|Zi<|Ex.keep [1]<|?_
  exact Ex.end0 rfl ⟨rfl,rfl,_,r1,rfl⟩
 refine Tr.cond_f Z h1<|Zt<|Ex.keep [0]<|?_
 exact Ex.end0 rfl ⟨rfl,rfl,_,permIn_refl _ _ _,rfl⟩
set_option maxHeartbeats 2000000 in
theorem pdq1_l {V : Vw} {n c b : Nat} {rest : List Value} {d0 : Array Le} {gf : FuncId} {caps : List Value} {cm : Le -> Le -> Int} {x y l : Nat}  (hN : n <= 1073741824) (hd : d0.size = n) (hxy : x <= y) (hy : y <= n) (hB : Below (ltc cm) x y d0) (hl : l <= 1000) (ih : ∀ (d : Array Le) (x2 y2 l2 : Nat),y2 - x2 < y - x -> x2 <= y2 -> y2 <= n -> d.size = n -> Below (ltc cm) x2 y2 d -> l2 <= 1000 -> Does Tryz.prog 208 [.slice (some ⟨b,0,none⟩) n c,.int .i64 ((x2 : Nat) : Int),.int .i64 ((y2 : Nat) : Int),.int .i64 ((l2 : Nat) : Int),.func (.func gf) #[] caps.toArray] V [sgD Le.cells 43 b rest d] (fun v V' H' => V' = V /\ v = .tuple #[] /\ ∃ d1,PermIn x2 y2 d d1 /\ SortedIn (ltc cm) x2 y2 d1 /\ H' = [sgD Le.cells 43 b rest d1]))  (hcmp : ∀ x y : Le,Does Tryz.prog gf (.agg (Le.cells x).toArray :: .agg (Le.cells y).toArray :: caps) V [] (Pv (.int .i64 (cm x y)) V [])) (hswo : SWO (ltc cm))  : Does Tryz.prog 208 [.slice (some ⟨b,0,none⟩) n c,.int .i64 ((x : Nat) : Int),.int .i64 ((y : Nat) : Int),.int .i64 ((l : Nat) : Int),.func (.func gf) #[] caps.toArray] V [sgD Le.cells 43 b rest d0] (fun v V' H' => V' = V /\ v = .tuple #[] /\ ∃ d1,PermIn x y d0 d1 /\ SortedIn (ltc cm) x y d1 /\ H' = [sgD Le.cells 43 b rest d1]) := by
 refine Does.intro Tryz.func208 rfl rfl (le rfl) (fun B => ?_)
 refine Zs<|Zr<|Za Z<|Ze<|Zg<|Zs<|Zr<|Za Z<|Ze<|Zg<|Zb<|?_
 refine ZL (X := Nat × Nat × Nat × Bool × Bool × Array Le) (fun z0 => V) (fun z0 => [sgD Le.cells 43 b rest z0.2.2.2.2.2]) (fun z0 => [(0,.slice (some ⟨b,0,none⟩) n c),(1,.int .i64 ((z0.1 : Nat) : Int)),(2,.int .i64 ((z0.2.1 : Nat) : Int)),(3,.int .i64 ((z0.2.2.1 : Nat) : Int)),(4,.func (.func gf) #[] caps.toArray),(10,.bool z0.2.2.2.1),(11,.bool z0.2.2.2.2.1)]) (fun z0 => PInv (ltc cm) x y n d0 z0.1 z0.2.1 z0.2.2.2.2.2 /\ z0.2.2.1 <= 1000) (fun z0 => z0.2.1 - z0.1) (⟨x,y,l,true,true,d0⟩ : Nat × Nat × Nat × Bool × Bool × Array Le) ⟨PInv.new hd hxy hy hB,hl⟩ ?_
 rintro ⟨a,e,m,wb,wp,d⟩ ⟨i1,hm⟩
 have iab : a <= e := i1.ab
 have ibn : e <= n := i1.bn
 try dsimp only at i1 hm ⊢
 refine Zb<|Zs<|Zr<|Zm Z<|Zm Z<|Zv (Y.subN ((e - a : Nat) : Int) rfl rfl W W)<|Za Z<|Ze<|Zg<|Zs<|Zs<|Zr<|Zm Z<|Zv (Y.int Z Z Z)<|Ze<|Zg<|?_
 refine Zq (decide (((e - a : Nat) : Int) <= 12)) (fun h1 g1 => ?_) fun h1 g1 => ?_
 ·refine Tr.cond_t Z h1<|Zs<|Zr<|Zm Z<|Zm Z<|Zm Z<|Zm Z<|?_
  refine Yk [0] Z Z Z (ins_l (x := a) (y := e) hN i1.sz (by have := i1.ab; have := i1.bn; omega) i1.bn hcmp hswo) (fun v2 V2 H2 hle3 hR => ?_)
  obtain ⟨hV,rfl,rfl⟩ := hR; replace hV := hV.symm; subst hV
  refine Run.heapTo (H' := [sgD Le.cells 43 b rest (insertionSort (ltc cm) d a e)]) Z<|Ze<|Zg<|Zu<|Zn<|Zk<|Zn<|Zk<|Ex.keep [0]<|?_
  exact Ex.ret0 rfl ⟨rfl,rfl,_,(i1.k _ (insertionSort_holds  hswo d a e i1.ab (by rw [i1.sz]; exact i1.bn)).1 (insertionSort_holds  hswo d a e i1.ab (by rw [i1.sz]; exact i1.bn)).2).1,(i1.k _ (insertionSort_holds  hswo d a e i1.ab (by rw [i1.sz]; exact i1.bn)).1 (insertionSort_holds  hswo d a e i1.ab (by rw [i1.sz]; exact i1.bn)).2).2,rfl⟩
 refine Tr.cond_f Z h1<|Zt<|Zg<|Zs<|Zs<|Zr<|Zm Z<|Zv (Y.int Z Z Z)<|Ze<|Zg<|?_
 refine Zq (((m : Nat) : Int) == 0) (fun h4 g4 => ?_) fun h4 g4 => ?_
 ·refine Tr.cond_t Z h4<|Zs<|Zr<|Zm Z<|Zm Z<|Zm Z<|Zm Z<|?_
  refine Yk [0] Z Z Z (heap_l (x := a) (y := e) hN i1.sz W i1.bn hcmp hswo) (fun v5 V2 H2 hle6 hR => ?_)
  obtain ⟨hV,rfl,rfl⟩ := hR; replace hV := hV.symm; subst hV
  refine Run.heapTo (H' := [sgD Le.cells 43 b rest (heapSort (ltc cm) d a e)]) Z<|Ze<|Zg<|Zu<|Zn<|Zk<|Zn<|Zk<|Ex.keep [0]<|?_
  exact Ex.ret0 rfl ⟨rfl,rfl,_,(i1.k _ (heapSort_holds  hswo d a e i1.ab (by rw [i1.sz]; exact i1.bn)).1 (heapSort_holds  hswo d a e i1.ab (by rw [i1.sz]; exact i1.bn)).2).1,(i1.k _ (heapSort_holds  hswo d a e i1.ab (by rw [i1.sz]; exact i1.bn)).1 (heapSort_holds  hswo d a e i1.ab (by rw [i1.sz]; exact i1.bn)).2).2,rfl⟩
 refine Tr.cond_f Z h4<|Zt<|Zg<|?_
 refine Tr.cutx (X := Nat × Array Le) (fun z0 => V) (fun z0 => [sgD Le.cells 43 b rest z0.2]) (fun z0 => [(0,.slice (some ⟨b,0,none⟩) n c),(1,.int .i64 ((a : Nat) : Int)),(2,.int .i64 ((e : Nat) : Int)),(3,.int .i64 ((z0.1 : Nat) : Int)),(4,.func (.func gf) #[] caps.toArray),(10,.bool wb),(11,.bool wp),(12,.int .i64 ((e - a : Nat) : Int))]) (fun z0 => PInv (ltc cm) x y n d0 a e z0.2 /\ z0.1 <= 1000) ?_ ?_
 ·refine Zs<|Zr<|Zm Z<|Zv (Y.not Z)<|Ze<|Zg<|?_
  refine Zq (wb) (fun h7 g7 => ?_) fun h7 g7 => ?_
  ·refine Tr.cond_f Z (congrArg Bool.not h7)<|Zt<|?_
   exact ZX ⟨m,d⟩ ⟨i1,hm⟩
  refine Tr.cond_t Z (congrArg Bool.not h7)<|Zs<|Zr<|Zm Z<|Zm Z<|Zm Z<|Zm Z<|?_
  refine Yk [0] Z Z Z (brk_l (x := a) (y := e) hN i1.sz W i1.bn hcmp hswo) (fun v V2 H2 hle hR => ?_)
  obtain ⟨hV,rfl,dk,hdk,rfl⟩ := hR; replace hV := hV.symm; subst hV
  refine Run.heapTo (H' := [sgD Le.cells 43 b rest dk]) Z<|Ze<|Zg<|Zr<|Zm Z<|Zv (Y.subN ((m - 1 : Nat) : Int) rfl rfl W W)<|Za Z<|Ze<|?_
  exact ZX ⟨m - 1,dk⟩ ⟨i1.perm hdk,by (try dsimp only); omega⟩
 rintro z0 ⟨i2,hm1⟩
 obtain ⟨m1,d1⟩ := z0
 try dsimp only at i2 hm1 ⊢
 refine Zs<|Zr<|Zm Z<|Zm Z<|Zm Z<|Zm Z<|?_
 refine Yk [0] Z Z Z (pivot_l (x := a) (y := e) hN i2.sz W i2.bn hcmp hswo) (fun v V2 H2 hle hR => ?_)
 obtain ⟨hV,p1,hh,rfl,hp1,hp2,rfl⟩ := hR; replace hV := hV.symm; subst hV
 refine Run.heapTo (H' := [sgD Le.cells 43 b rest d1]) Z<|Zm Z<|Zv (Y.extract Z Z)<|Zv (Y.extract Z Z)<|Za Z<|Za Z<|Ze<|Zg<|?_
 refine Tr.cutx (X := Nat × Int × Array Le) (fun z0 => V) (fun z0 => [sgD Le.cells 43 b rest z0.2.2]) (fun z0 => [(0,.slice (some ⟨b,0,none⟩) n c),(1,.int .i64 ((a : Nat) : Int)),(2,.int .i64 ((e : Nat) : Int)),(3,.int .i64 ((m1 : Nat) : Int)),(4,.func (.func gf) #[] caps.toArray),(10,.bool wb),(11,.bool wp),(12,.int .i64 ((e - a : Nat) : Int)),(13,.int .i64 ((z0.1 : Nat) : Int)),(14,.int .i64 z0.2.1)]) (fun z0 => PInv (ltc cm) x y n d0 a e z0.2.2 /\ a <= z0.1 /\ z0.1 < e) ?_ ?_
 ·refine Zs<|Zr<|Zm Z<|Zv (Y.int Z Z Z)<|Ze<|Zg<|?_
  refine Zq (hh == 2) (fun h8 g8 => ?_) fun h8 g8 => ?_
  ·refine Tr.cond_t Z h8<|Zs<|Zr<|Zm Z<|Zm Z<|Zm Z<|Zm Z<|?_
   refine Yk [0] Z Z Z (rev_l (x := a) (y := e) hN i2.sz W i2.bn hcmp hswo) (fun v9 V2 H2 hle10 hR => ?_)
   obtain ⟨hV,rfl,rfl⟩ := hR; replace hV := hV.symm; subst hV
   refine Run.heapTo (H' := [sgD Le.cells 43 b rest (reverseRange d1 a e)]) Z<|Ze<|Zg<|Zs<|Zr<|Zm Z<|Zv (Y.subN ((e - 1 : Nat) : Int) rfl rfl W W)<|Zm Z<|Zm Z<|Zv (Y.subN ((p1 - a : Nat) : Int) rfl rfl W W)<|Zv (Y.subN (((e - 1) - (p1 - a) : Nat) : Int) rfl rfl W W)<|Za Z<|Ze<|Zg<|Zr<|Za Z<|?_
   refine Ze ?_
   exact ZX ⟨(e - 1) - (p1 - a),1,reverseRange d1 a e⟩ ⟨i2.perm (reverseRange_holds _ a e i2.ab (by rw [i2.sz]; exact i2.bn)),by (try dsimp only); omega,by (try dsimp only); omega⟩
  refine Tr.cond_f Z h8<|Zt<|?_
  exact ZX ⟨p1,hh,d1⟩ ⟨i2,by (try dsimp only); omega,by (try dsimp only); omega⟩
 rintro z0 ⟨i3,hp3,hp4⟩
 obtain ⟨p2,h2,d2⟩ := z0
 try dsimp only at i3 hp3 hp4 ⊢
 refine Tr.cutx (X := Array Le) (fun d3 => V) (fun d3 => [sgD Le.cells 43 b rest d3]) (fun d3 => [(0,.slice (some ⟨b,0,none⟩) n c),(1,.int .i64 ((a : Nat) : Int)),(2,.int .i64 ((e : Nat) : Int)),(3,.int .i64 ((m1 : Nat) : Int)),(4,.func (.func gf) #[] caps.toArray),(10,.bool wb),(11,.bool wp),(12,.int .i64 ((e - a : Nat) : Int)),(13,.int .i64 ((p2 : Nat) : Int)),(14,.int .i64 h2)]) (fun d3 => PInv (ltc cm) x y n d0 a e d3) ?_ ?_
 ·refine Zs<|Zr<|Zm Z<|Zm Z<|?_
  refine Zq (wb) (fun h11 g11 => ?_) fun h11 g11 => ?_
  ·refine Zp h11<|Zm Z<|Zv (Y.pick_t Z h11 Z)<|Zm Z<|?_
   refine Zq (wp) (fun h12 g12 => ?_) fun h12 g12 => ?_
   ·refine Zp h12<|Zm Z<|Zp h12<|Zv (Y.int Z Z Z)<|Zv (Y.pick_t Z h12 Z)<|Ze<|Zg<|?_
    refine Zq (h2 == 1) (fun h13 g13 => ?_) fun h13 g13 => ?_
    ·refine Tr.cond_t Z h13<|Zs<|Zr<|Zm Z<|Zm Z<|Zm Z<|Zm Z<|?_
     refine Yk [0] Z Z Z (pins_l (x := a) (y := e) hN i3.sz W i3.bn hcmp hswo) (fun v V2 H2 hle hR => ?_)
     obtain ⟨hV,rfl,rfl⟩ := hR; replace hV := hV.symm; subst hV
     refine Run.heapTo (H' := [sgD Le.cells 43 b rest ((partialInsertionSort (ltc cm) d2 a e).1)]) Z ?_
     obtain ⟨hq1,hq2⟩ := partialInsertionSort_holds  hswo d2 a e W (by rw [i3.sz]; exact i3.bn) i3.bel
     refine Ze<|Zg<|?_
     refine Zq ((partialInsertionSort (ltc cm) d2 a e).2) (fun h14 g14 => ?_) fun h14 g14 => ?_
     ·refine Tr.cond_t Z h14<|Zu<|Zn<|Zk<|Zn<|Zk<|Ex.keep [0]<|?_
      exact Ex.ret0 rfl ⟨rfl,rfl,_,(i3.k _ hq1 (hq2 (by assumption))).1,(i3.k _ hq1 (hq2 (by assumption))).2,rfl⟩
     refine Tr.cond_f Z h14<|Zt<|?_
     exact ZX ((partialInsertionSort (ltc cm) d2 a e).1) (i3.perm hq1)
    refine Tr.cond_f Z h13<|Zt<|?_
    exact ZX d2 i3
   refine Zo h12 Z<|Zo h12 Z<|Zv (Y.pick_f Z h12 Z)<|Ze<|Zg<|Tr.cond_f Z Z<|Zt<|?_
   exact ZX d2 i3
  refine Zo h11 Z<|Zv (Y.pick_f Z h11 Z)<|Zm Z<|Zo Z Z<|Zo Z Z<|Zv (Y.pick_f Z Z Z)<|Ze<|Zg<|Tr.cond_f Z Z<|Zt<|?_
  exact ZX d2 i3
 rintro d3 i4
 have s4 := i4.sz
 refine Zs<|Zs<|Tr.quiet xmo WK<|ZM Z<|ZV (Y.int Z Z Z)<|ZM Z<|?_
 refine Zq (decide (((a : Nat) : Int) > 0)) (fun h15 g15 => ?_) fun h15 g15 => ?_
 ·refine ZP h15<|ZM Z<|ZP h15<|ZM Z<|ZP h15<|ZM Z<|ZP h15<|ZV (Y.subN ((a - 1 : Nat) : Int) rfl rfl W W)<|ZP h15<|ZV (Y.idxN (a - 1) rfl rfl xes22 W W)<|ZP h15<|ZV (Y.ldA (enc := Le.cells) (d := d3) (rest := rest) (e := 43) (i := (a - 1)) rfl xag43 (Kn.at 0 rfl) Le.enc1 WB rfl)<|ZP h15<|ZM Z<|ZP h15<|ZM Z<|?_
  refine ZP h15<|ZV (Y.idxN p2 Z Z xes22 W W)<|ZP h15<|ZV (Y.ldA (enc := Le.cells) (d := d3) (rest := rest) (e := 43) (i := p2) Z xag43 (Kn.at 0 rfl) Le.enc1 WB rfl)<|ZP h15<|YC Z Z Z ((hcmp (d3[a - 1]!) (d3[p2]!)).frame)<|ZP h15<|ZV (Y.int Z Z Z)<|ZP h15<|ZV (Y.not Z)<|ZV (Y.pick_t Z h15 Z)<|ZE<|Zg<|?_
  refine Zq (decide ((cm (d3[a - 1]!) (d3[p2]!)) < 0)) (fun h16 g16 => ?_) fun h16 g16 => ?_
  ·refine Tr.cond_f Z (congrArg Bool.not h16)<|Zt<|Zg<|Zs<|Zr<|Zm Z<|Zm Z<|Zm Z<|Zm Z<|Zm Z<|?_
   refine Yk [0] Z Z Z (part_l (x := a) (y := e) (p := p2) hN i4.sz W W i4.bn hcmp hswo) (fun v V2 H2 hle hR => ?_)
   obtain ⟨mid,ap,d4,hpe⟩ : ∃ m k q,partition (ltc cm) d3 a e p2 = (m,k,q) := ⟨_,_,_,rfl⟩
   rw [hpe] at hR; dsimp only at hR
   obtain ⟨hV,rfl,rfl⟩ := hR; replace hV := hV.symm; subst hV
   refine Run.heapTo (H' := [sgD Le.cells 43 b rest d4]) Z ?_
   obtain ⟨w1,w2,w3,w4,w5,w6,w7⟩ := i4.part hswo W W hpe
   refine Zm Z<|Zv (Y.extract Z Z)<|Zv (Y.extract Z Z)<|Za Z<|Za Z<|Ze<|Zg<|Zs<|Zr<|Zm Z<|Za Z<|Ze<|Zg<|Zs<|Zr<|Zm Z<|?_
   refine Zm Z<|Zv (Y.subN ((mid - a : Nat) : Int) rfl rfl W W)<|Zm Z<|Zm Z<|Zv (Y.subN ((e - mid : Nat) : Int) rfl rfl W W)<|Za Z<|Za Z<|Ze<|Zg<|Zs<|Zr<|Zm Z<|Zv (Y.quoN (m := e - a) (n := 8) Z Z W W)<|Za Z<|Ze<|Zg<|?_
   refine Zs<|Zr<|Zm Z<|Zm Z<|Zv (Y.int Z Z Z)<|Ze<|Zg<|?_
   refine Zq (decide (((mid - a : Nat) : Int) < ((e - mid : Nat) : Int))) (fun h17 g17 => ?_) fun h17 g17 => ?_
   ·refine Tr.cond_t Z h17<|Zs<|Zr<|Zm Z<|Zm Z<|Zv (Y.int Z Z Z)<|Za Z<|Ze<|Zg<|Zs<|Zr<|Zm Z<|Zm Z<|Zm Z<|Zm Z<|Zm Z<|?_
    refine Yk [0] Z Z Z (ih d4 (a) (mid) m1 (by have := i4.len; omega) W (by have := i4.bn; omega) w3 w4 hm1) (fun v V2 H2 hle hR => ?_)
    obtain ⟨hV,rfl,d5,hp5,hs5,rfl⟩ := hR; replace hV := hV.symm; subst hV
    refine Run.heapTo (H' := [sgD Le.cells 43 b rest d5]) Z ?_
    have i5 := w6 d5 hp5 hs5
    refine Ze<|Zg<|Zr<|Zm Z<|Zv (Y.addN ((mid + 1 : Nat) : Int) rfl rfl W W)<|Za Z<|Ze<|Zc<|?_
    exact ZR (⟨mid + 1,e,m1,decide (((mid - a : Nat) : Int) >= (((e - a) / 8 : Nat) : Int)),ap,d5⟩ : Nat × Nat × Nat × Bool × Bool × Array Le) ⟨i5,hm1⟩ (by dsimp only; omega)
   refine Tr.cond_f Z h17<|Zs<|Zr<|Zm Z<|Zm Z<|Zv (Y.int Z Z Z)<|Za Z<|Ze<|Zg<|Zs<|Zr<|Zm Z<|Zm Z<|Zv (Y.addN ((mid + 1 : Nat) : Int) rfl rfl W W)<|Zm Z<|Zm Z<|?_
   refine Zm Z ?_
   refine Yk [0] Z Z Z (ih d4 (mid + 1) (e) m1 (by have := i4.len; omega) W (by have := i4.bn; omega) w3 w5 hm1) (fun v V2 H2 hle hR => ?_)
   obtain ⟨hV,rfl,d5,hp5,hs5,rfl⟩ := hR; replace hV := hV.symm; subst hV
   refine Run.heapTo (H' := [sgD Le.cells 43 b rest d5]) Z ?_
   have i5 := w7 d5 hp5 hs5
   refine Ze<|Zg<|Zr<|Zm Z<|Za Z<|Ze<|Zc<|?_
   exact ZR (⟨a,mid,m1,decide (((e - mid : Nat) : Int) >= (((e - a) / 8 : Nat) : Int)),ap,d5⟩ : Nat × Nat × Nat × Bool × Bool × Array Le) ⟨i5,hm1⟩ (by dsimp only; omega)
  refine Tr.cond_t Z (congrArg Bool.not h16)<|Zs<|Zr<|Zm Z<|Zm Z<|Zm Z<|Zm Z<|Zm Z<|?_
  refine Yk [0] Z Z Z (pareq_l (x := a) (y := e) (p := p2) hN i4.sz W W i4.bn hcmp hswo) (fun v V2 H2 hle hR => ?_)
  obtain ⟨mid,d4,hpe⟩ : ∃ m q,partitionEqual (ltc cm) d3 a e p2 = (m,q) := ⟨_,_,rfl⟩
  rw [hpe] at hR; dsimp only at hR
  obtain ⟨hV,rfl,rfl⟩ := hR; replace hV := hV.symm; subst hV
  refine Run.heapTo (H' := [sgD Le.cells 43 b rest d4]) Z ?_
  obtain ⟨w1,i5⟩ := i4.eqs hswo W W W (by assumption) hpe
  refine Za Z<|Ze<|Zg<|Zs<|Zr<|Zm Z<|Za Z<|Ze<|Zg<|Zx<|Zy<|Zi<|?_
  exact ZR (⟨mid,e,m1,wb,wp,d4⟩ : Nat × Nat × Nat × Bool × Bool × Array Le) ⟨i5,hm1⟩ (by dsimp only; omega)
 refine ZO h15 Z<|ZO h15 Z<|ZO h15 Z<|ZO h15 Z<|ZO h15 Z<|ZO h15 Z<|ZO h15 Z<|ZO h15 Z<|ZO h15 Z<|ZO h15 Z<|ZO h15 Z<|ZO h15 Z<|ZO h15 Z<|ZV (Y.pick_f Z h15 Z)<|ZE<|Zg<|?_
 refine Tr.cond_f Z Z<|Zt<|Zg<|Zs<|Zr<|Zm Z<|Zm Z<|Zm Z<|Zm Z<|Zm Z<|?_
 refine Yk [0] Z Z Z (part_l (x := a) (y := e) (p := p2) hN i4.sz W W i4.bn hcmp hswo) (fun v V2 H2 hle hR => ?_)
 obtain ⟨mid,ap,d4,hpe⟩ : ∃ m k q,partition (ltc cm) d3 a e p2 = (m,k,q) := ⟨_,_,_,rfl⟩
 rw [hpe] at hR; dsimp only at hR
 obtain ⟨hV,rfl,rfl⟩ := hR; replace hV := hV.symm; subst hV
 refine Run.heapTo (H' := [sgD Le.cells 43 b rest d4]) Z ?_
 obtain ⟨w1,w2,w3,w4,w5,w6,w7⟩ := i4.part hswo W W hpe
 refine Zm Z<|Zv (Y.extract Z Z)<|Zv (Y.extract Z Z)<|Za Z<|Za Z<|Ze<|Zg<|Zs<|Zr<|Zm Z<|Za Z<|Ze<|Zg<|Zs<|Zr<|Zm Z<|?_
 refine Zm Z<|Zv (Y.subN ((mid - a : Nat) : Int) rfl rfl W W)<|Zm Z<|Zm Z<|Zv (Y.subN ((e - mid : Nat) : Int) rfl rfl W W)<|Za Z<|Za Z<|Ze<|Zg<|Zs<|Zr<|Zm Z<|Zv (Y.quoN (m := e - a) (n := 8) Z Z W W)<|Za Z<|Ze<|Zg<|?_
 refine Zs<|Zr<|Zm Z<|Zm Z<|Zv (Y.int Z Z Z)<|Ze<|Zg<|?_
 refine Zq (decide (((mid - a : Nat) : Int) < ((e - mid : Nat) : Int))) (fun h18 g18 => ?_) fun h18 g18 => ?_
 ·refine Tr.cond_t Z h18<|Zs<|Zr<|Zm Z<|Zm Z<|Zv (Y.int Z Z Z)<|Za Z<|Ze<|Zg<|Zs<|Zr<|Zm Z<|Zm Z<|Zm Z<|Zm Z<|Zm Z<|?_
  refine Yk [0] Z Z Z (ih d4 (a) (mid) m1 (by have := i4.len; omega) W (by have := i4.bn; omega) w3 w4 hm1) (fun v V2 H2 hle hR => ?_)
  obtain ⟨hV,rfl,d5,hp5,hs5,rfl⟩ := hR; replace hV := hV.symm; subst hV
  refine Run.heapTo (H' := [sgD Le.cells 43 b rest d5]) Z ?_
  have i5 := w6 d5 hp5 hs5
  refine Ze<|Zg<|Zr<|Zm Z<|Zv (Y.addN ((mid + 1 : Nat) : Int) rfl rfl W W)<|Za Z<|Ze<|Zc<|?_
  exact ZR (⟨mid + 1,e,m1,decide (((mid - a : Nat) : Int) >= (((e - a) / 8 : Nat) : Int)),ap,d5⟩ : Nat × Nat × Nat × Bool × Bool × Array Le) ⟨i5,hm1⟩ (by dsimp only; omega)
 refine Tr.cond_f Z h18<|Zs<|Zr<|Zm Z<|Zm Z<|Zv (Y.int Z Z Z)<|Za Z<|Ze<|Zg<|Zs<|Zr<|Zm Z<|Zm Z<|Zv (Y.addN ((mid + 1 : Nat) : Int) rfl rfl W W)<|Zm Z<|Zm Z<|?_
 refine Zm Z ?_
 refine Yk [0] Z Z Z (ih d4 (mid + 1) (e) m1 (by have := i4.len; omega) W (by have := i4.bn; omega) w3 w5 hm1) (fun v V2 H2 hle hR => ?_)
 obtain ⟨hV,rfl,d5,hp5,hs5,rfl⟩ := hR; replace hV := hV.symm; subst hV
 refine Run.heapTo (H' := [sgD Le.cells 43 b rest d5]) Z ?_
 have i5 := w7 d5 hp5 hs5
 refine Ze<|Zg<|Zr<|Zm Z<|Za Z<|Ze<|Zc<|?_
 exact ZR (⟨a,mid,m1,decide (((e - mid : Nat) : Int) >= (((e - a) / 8 : Nat) : Int)),ap,d5⟩ : Nat × Nat × Nat × Bool × Bool × Array Le) ⟨i5,hm1⟩ (by dsimp only; omega)
theorem pdq_l {V : Vw} {n c b : Nat} {rest : List Value} {d0 : Array Le} {gf : FuncId} {caps : List Value} {cm : Le -> Le -> Int}  (hN : n <= 1073741824) (hd : d0.size = n) {x y l : Nat} (hxy : x <= y) (hy : y <= n) (hB : Below (ltc cm) x y d0) (hl : l <= 1000)  (hcmp : ∀ x y : Le,Does Tryz.prog gf (.agg (Le.cells x).toArray :: .agg (Le.cells y).toArray :: caps) V [] (Pv (.int .i64 (cm x y)) V [])) (hswo : SWO (ltc cm)) : Does Tryz.prog 208 [.slice (some ⟨b,0,none⟩) n c,.int .i64 ((x : Nat) : Int),.int .i64 ((y : Nat) : Int),.int .i64 ((l : Nat) : Int),.func (.func gf) #[] caps.toArray] V [sgD Le.cells 43 b rest d0] (fun v V' H' => V' = V /\ v = .tuple #[] /\ ∃ d1,PermIn x y d0 d1 /\ SortedIn (ltc cm) x y d1 /\ H' = [sgD Le.cells 43 b rest d1]) := by
  obtain ⟨k,hk⟩ : ∃ k,y - x = k := ⟨_,rfl⟩
  induction k using Nat.strongRecOn generalizing x y l d0 with
  | _ k ih => exact pdq1_l hN hd hxy hy hB hl (fun d x2 y2 l2 h1 h2 h3 h4 h5 h6 => ih (y2 - x2) W h4 h2 h3 h5 h6 rfl) hcmp hswo
end Go.Proofs.YtfgblingojgafaaGreat
namespace Go.Proofs.YtfgblingojgafaaGreat
open Go Go.K
attribute [local irreducible] Code.wp wpList Calls wpQuiet
open Go.Sort
theorem insn_l {gf : FuncId} {caps : List Value}  {V : Vw} : Does Tryz.prog 210 [.slice none 0 0,.int .i64 0,.int .i64 0,.func (.func gf) #[] caps.toArray] V [] (Pv (.tuple #[]) V []) := by
 refine Does.intro Tryz.func210 rfl rfl (le rfl) (fun B => ?_)
 refine Zs<|Zr<|Zm Z<|Zv (Y.addN ((0 + 1 : Nat) : Int) rfl rfl W W)<|Za Z<|Ze<|Zg<|Zb<|?_
 refine ZL (X := Unit) (fun _ => V) (fun _ => []) (fun _ => [(0,.slice none 0 0),(1,.int .i64 0),(2,.int .i64 0),(3,.func (.func gf) #[] caps.toArray),(8,.int .i64 ((0 + 1 : Nat) : Int))]) (fun _ => True) (fun _ => 0) () trivial ?_
 rintro _ _
 refine Zs<|Zs<|Zr<|Zm Z<|Zm Z<|Zv (Y.int Z Z Z)<|Ze<|Zg<|Tr.cond_f rfl (show (decide (((0 + 1 : Nat) : Int) < 0)) = false from by decide +kernel)<|Zx<|Zy<|Zy<|Zi<|?_
 exact Ex.end0 rfl ⟨rfl,rfl,rfl⟩
theorem insn_l_h {gf : FuncId} {caps : List Value}  {V : Vw} {H : Hp} : Does Tryz.prog 210 [.slice none 0 0,.int .i64 0,.int .i64 0,.func (.func gf) #[] caps.toArray] V H (Pv (.tuple #[]) V H) := insn_l.frame
theorem pdqn_l {l : Nat} {gf : FuncId} {caps : List Value}  {V : Vw} : Does Tryz.prog 208 [.slice none 0 0,.int .i64 0,.int .i64 0,.int .i64 ((l : Nat) : Int),.func (.func gf) #[] caps.toArray] V [] (Pv (.tuple #[]) V []) := by
 refine Does.intro Tryz.func208 rfl rfl (le rfl) (fun B => ?_)
 refine Zs<|Zr<|Za Z<|Ze<|Zg<|Zs<|Zr<|Za Z<|Ze<|Zg<|Zb<|?_
 refine ZL (X := Unit) (fun _ => V) (fun _ => []) (fun _ => [(0,.slice none 0 0),(1,.int .i64 0),(2,.int .i64 0),(3,.int .i64 ((l : Nat) : Int)),(4,.func (.func gf) #[] caps.toArray),(10,.bool true),(11,.bool true)]) (fun _ => True) (fun _ => 0) () trivial ?_
 rintro _ _
 refine Zb<|Zs<|Zr<|Zm Z<|Zm Z<|Zv (Y.subN ((0 - 0 : Nat) : Int) rfl rfl W W)<|Za Z<|Ze<|Zg<|Zs<|Zs<|Zr<|Zm Z<|Zv (Y.int Z Z Z)<|Ze<|Zg<|?_
 refine Tr.cond_t rfl (show (decide (((0 - 0 : Nat) : Int) <= 12)) = true from by decide +kernel)<|Zs<|Zr<|Zm Z<|Zm Z<|Zm Z<|Zm Z<|Yc Z Z Z insn_l_h<|Ze<|Zg<|Zu<|Zn<|Zk<|Zn<|Zk<|?_
 exact Ex.ret0 rfl ⟨rfl,rfl,rfl⟩
theorem pdqn_l_h {l : Nat} {gf : FuncId} {caps : List Value}  {V : Vw} {H : Hp} : Does Tryz.prog 208 [.slice none 0 0,.int .i64 0,.int .i64 0,.int .i64 ((l : Nat) : Int),.func (.func gf) #[] caps.toArray] V H (Pv (.tuple #[]) V H) := pdqn_l.frame
theorem sortn_l {gf : FuncId} {caps : List Value}  {V : Vw} : Does Tryz.prog 200 [.slice none 0 0,.func (.func gf) #[] caps.toArray] V [] (Pv (.tuple #[]) V []) := by
 refine Does.intro Tryz.func200 rfl rfl (le rfl) (fun B => ?_)
 refine Zs<|Zr<|Zm Z<|Zv (Y.lenSl Z xes22)<|Za Z<|Ze<|Zg<|Zr<|Zm Z<|Zm Z<|Zm Z<|Zv (Y.conv (0) rfl xit3_195 (wrap_u64 W))<|?_
 refine Yk [] Z Z Z (len_0 (m := 0) W) (fun v V2 H2 hle hR => ?_)
 obtain ⟨hV,⟨k1,rfl,hk1,hk2⟩,rfl⟩ := hR; replace hV := hV.symm; subst hV
 refine Run.heapTo (H' := []) Z<|Zm Z<|Yc Z Z Z pdqn_l_h<|Ze<|?_
 exact Ex.end0 rfl ⟨rfl,rfl,rfl⟩
theorem sortn_l_h {gf : FuncId} {caps : List Value}  {V : Vw} {H : Hp} : Does Tryz.prog 200 [.slice none 0 0,.func (.func gf) #[] caps.toArray] V H (Pv (.tuple #[]) V H) := sortn_l.frame
theorem sorts_l {V : Vw} {n c b : Nat} {rest : List Value} {d0 : Array Le} {gf : FuncId} {caps : List Value} {cm : Le -> Le -> Int}  (hN : n <= 1073741824) (hd : d0.size = n) (hcmp : ∀ x y : Le,Does Tryz.prog gf (.agg (Le.cells x).toArray :: .agg (Le.cells y).toArray :: caps) V [] (Pv (.int .i64 (cm x y)) V [])) (hswo : SWO (ltc cm))  : Does Tryz.prog 200 [.slice (some ⟨b,0,none⟩) n c,.func (.func gf) #[] caps.toArray] V [sgD Le.cells 43 b rest d0] (fun v V' H' => V' = V /\ v = .tuple #[] /\ ∃ d1,PermIn 0 n d0 d1 /\ SortedIn (ltc cm) 0 n d1 /\ H' = [sgD Le.cells 43 b rest d1]) := by
 refine Does.intro Tryz.func200 rfl rfl (le rfl) (fun B => ?_)
 refine Zs<|Zr<|Zm Z<|Zv (Y.lenSl Z xes22)<|Za Z<|Ze<|Zg<|Zr<|Zm Z<|Zm Z<|Zm Z<|Zv (Y.conv (((n : Nat) : Int)) rfl xit3_195 (wrap_u64 W))<|?_
 refine Yk [] Z Z Z (len_0 (m := n) W) (fun v V2 H2 hle hR => ?_)
 obtain ⟨hV,⟨k1,rfl,hk1,hk2⟩,rfl⟩ := hR; replace hV := hV.symm; subst hV
 refine Run.heapTo (H' := [sgD Le.cells 43 b rest d0]) Z<|Zm Z<|?_
 refine Yk [0] Z Z Z (pdq_l (x := 0) (y := n) (l := k1) hN hd (Nat.zero_le _) (Nat.le_refl _) (.inl rfl) W hcmp hswo) (fun v V2 H2 hle hR => ?_)
 obtain ⟨hV,rfl,d1,hp1,hs1,rfl⟩ := hR; replace hV := hV.symm; subst hV
 refine Run.heapTo (H' := [sgD Le.cells 43 b rest d1]) Z<|Ze<|Ex.keep [0]<|?_
 exact Ex.end0 rfl ⟨rfl,rfl,d1,hp1,hs1,rfl⟩
theorem sort_l {V : Vw} {v : Value} {l : List Le} {s : Sg} {gf : FuncId} {caps : List Value} {cm : Le -> Le -> Int}  (hcmp : ∀ x y : Le,Does Tryz.prog gf (.agg (Le.cells x).toArray :: .agg (Le.cells y).toArray :: caps) V [] (Pv (.int .i64 (cm x y)) V [])) (hswo : SWO (ltc cm)) (ho : Ow 43 8 v l.length (l.flatMap Le.cells) s) (hn : l.length <= 1073741824) : Does Tryz.prog 200 [v,.func (.func gf) #[] caps.toArray] V [s] (fun u V' H' => V' = V /\ u = .tuple #[] /\ ∃ l' s',l'.Perm l /\ Srt (ltc cm) l' /\ Ow 43 8 v l'.length (l'.flatMap Le.cells) s' /\ H' = [s']) := by
  rcases ho.toD Le.enc1 with ⟨rfl,rfl,rfl⟩ | ⟨b,cap,rest,rfl,rfl,h1,h2,h3⟩
  · refine (sortn_l_h (H := [[]])).mono ?_
    rintro v V' H' ⟨rfl,rfl,rfl⟩
    exact ⟨rfl,rfl,[],[],List.Perm.refl _,List.Pairwise.nil,Ow.nil _ _,rfl⟩
  · refine (sorts_l (n := l.length) (c := cap) (b := b) (rest := rest) (d0 := l.toArray) hn (by simp) hcmp hswo).mono ?_
    rintro v V' H' ⟨rfl,rfl,d1,hp,hs,rfl⟩
    have hz : d1.size = l.length := by have := hp.1; simpa using this
    have hp2 : PermIn 0 l.toArray.size l.toArray d1 := by simpa using hp
    have hs2 : SortedIn (ltc cm) 0 d1.size d1 := by rw [hz]; exact hs
    have hw := Ow.ofD (e := 43) (b := b) (rest := rest) (l := d1.toList) (cap := cap) Le.enc1 (by simp [hz]; exact h1) h2 (by simp [hz]; simpa using h3)
    refine ⟨rfl,rfl,d1.toList,_,by simpa using perm_of hp2,srt_of hs2,?_,rfl⟩
    have e1 : d1.toList.length = l.length := by simp [hz]
    rw [show d1.toList.toArray = d1 by simp,e1] at hw; rw [e1]; exact hw
end Go.Proofs.YtfgblingojgafaaGreat
namespace Go.Proofs.YtfgblingojgafaaGreat
open Go Go.K
attribute [local irreducible] Code.wp wpList Calls wpQuiet
open Go.Sort
theorem appseq_l {V : Vw} {Hs : Hp} {gf : FuncId} {caps : List Value} {S Sp : List Le -> Prop} {N : Nat} (hit : Iterates Tryz.prog gf caps V Hs Le.yv S Sp N) (hNb : N <= 1000000000)  : Does Tryz.prog 207 [.slice none 0 0,.func (.func gf) #[] caps.toArray] V Hs (fun v V' H' => V' = V /\ ∃ xs q,S xs /\ Ow 43 8 v xs.length (xs.flatMap Le.cells) q /\ H' = q :: Hs) := by
 refine Does.introM Tryz.func207 rfl rfl (le rfl) (fun B => ?_)
 refine Zs<|Zr<|?_
 refine Run.box rfl (lt rfl) (fun b1 => ?_)
 refine Za Z<|Ze<|Zg<|Zs<|Zs<|Zr<|Run.nilseg<|Zm Z<|Ze<|Zg<|Zb<|?_
 refine Tr.range1 [] Hs [[],[(b1,.cells #[.slice none 0 0] 22 (0,0))]] (List.perm_append_comm (l₁ := ([[],[(b1,.cells #[.slice none 0 0] 22 (0,0))]] : Hp))) rfl (hit) (fun xs (H : Hp) => ∃ p1 n1 k1 q1,H = [q1,[(b1,.cells #[.slice p1 n1 k1] 22 (0,0))]] /\ Ow 43 8 (.slice p1 n1 k1) n1 (xs.flatMap Le.cells) q1 /\ n1 = xs.length) (fun c xs (H : Hp) => False) ⟨none,0,0,[],rfl,Ow.nil _ _,rfl⟩ (fun lp3 rr4 xs5 x6 H hLI hf hJ hN => ?_) (fun D2 xs5 H hS hJ => ?_) (fun D2 c xs5 H hS hJ => ?_)
 ·obtain ⟨p1,n1,k1,q1,rfl,how,hn⟩ := hJ
  refine YDoes.intro hLI rfl (env_par1 (lt rfl)) (fun Blp3 => ?_)
  refine TrR.region Z ?_
  refine Run.alloc xzo43 (lt rfl) (fun b7 => ?_)
  refine Run.store (s := [(b7,.cells #[.int .u32 x6.addr,.int .i64 x6.bind,.string x6.client,.int .i64 x6.till,.int .i64 x6.acked,.int .i64 x6.told,.int .i64 x6.at_,.int .i64 x6.ver] 43 (0,0))]) Z Z xsz43 (i := 0) Z Z (le Z) Z Z<|Ze<|Ex.keep [1,0,0,0]<|Ex.begin hf.1<|TrR.block<|TrR.region Z<|Zv (Y.load Z xts22 (Kn.at 3 Z) Z)<|Zv (Y.loadAgg Z xag43 (Kn.at 1 Z) Z)<|?_
  refine Run.buildSlice (l := [(0,.tmp 9)]) (r := [.int .u32 x6.addr,.int .i64 x6.bind,.string x6.client,.int .i64 x6.till,.int .i64 x6.acked,.int .i64 x6.told,.int .i64 x6.at_,.int .i64 x6.ver]) xes22 xzo43 rfl WD rfl rfl WD (lt rfl) (fun b8 => ?_)
  refine Run.append (n := n1) (m := 1) (xs := (xs5).flatMap Le.cells) (ys := [.int .u32 x6.addr,.int .i64 x6.bind,.string x6.client,.int .i64 x6.till,.int .i64 x6.acked,.int .i64 x6.told,.int .i64 x6.at_,.int .i64 x6.ver]) rfl rfl xes22 xzi43 WD (j := 3) rfl how (Src.of_rd xes22 (Rd.one (Kn.at 0 rfl) rfl)) W W rfl (lt rfl) (fun v9 s10 ho11 hf => ?_)
  obtain ⟨p9,c9,rfl⟩ := hf
  replace ho11 := Ow.app1 (f := Le.cells) (l := xs5) (x := x6) ho11
  refine Run.store (s := [(b1,.cells #[.slice p9 (n1 + 1) c9] 22 (0,0))]) Z Z xsz22 (i := 4) Z Z (le Z) Z Z<|Ze<|Zc<|Ex.keepTo (H' := [rec_ lp3 { rr4 with state := .busy },s10,[(b1,.cells #[.slice p9 (n1 + 1) c9] 22 (0,0))]]) [1,2,2] Z<|?_
  exact Ex.next ⟨rfl,.inl ⟨rfl,_,_,hLI.with _ _,⟨rfl,rfl⟩,rfl,⟨_,_,_,_,rfl,ho11,by rw [List.length_append,List.length_singleton]; omega⟩⟩⟩
 ·obtain ⟨p1,n1,k1,q1,rfl,how,hn⟩ := hJ
  subst hn
  refine Ex.perm (H' := defd D2 :: [(b1,.cells #[.slice p1 xs5.length k1] 22 (0,0))] :: q1 :: Hs) (List.Perm.cons _ ((List.Perm.swap _ _ _).trans (List.perm_append_comm (l₁ := [q1,[(b1,.cells #[.slice p1 xs5.length k1] 22 (0,0))]]))))<|Zc<|Zg<|Zs<|Zr<|Zv (Y.load Z xts22 (Kn.at 1 Z) Z)<|Za Z<|Ze<|Zg<|Zu<|Ex.unmark (.inl Z)<|Ex.bodyM (.inl Z)<|Ex.drop<|?_
  exact Ex.ret1 rfl rfl  ⟨rfl,xs5,q1,hS,how,rfl⟩
 ·exact hJ.elim
theorem collect_l {V : Vw} {Hs : Hp} {gf : FuncId} {caps : List Value} {S Sp : List Le -> Prop} {N : Nat} (hit : Iterates Tryz.prog gf caps V Hs Le.yv S Sp N) (hNb : N <= 1000000000)  : Does Tryz.prog 199 [.func (.func gf) #[] caps.toArray] V Hs (fun v V' H' => V' = V /\ ∃ xs q,S xs /\ Ow 43 8 v xs.length (xs.flatMap Le.cells) q /\ H' = q :: Hs) := by
 refine Does.intro Tryz.func199 rfl rfl (le rfl) (fun B => ?_)
 refine Zs<|Zr<|Za Z<|Ze<|Zg<|Zs<|Zr<|Zm Z<|?_
 refine Run.callW (l := [.const (.slice none 0 0),.tmp 3]) rfl rfl rfl (lt rfl) (appseq_l hit hNb) (fun v3 V2 H2 hle hR => ?_)
 obtain ⟨hV,xs,q,hS,ho,rfl⟩ := hR; replace hV := hV.symm; subst hV
 refine Za Z<|Ze<|Zg<|Zu<|?_
 exact Ex.ret1 rfl rfl  ⟨rfl,xs,q,hS,ho,rfl⟩
theorem sortedf_l {V : Vw} {Hs : Hp} {gf : FuncId} {caps : List Value} {S Sp : List Le -> Prop} {N : Nat} (hit : Iterates Tryz.prog gf caps V Hs Le.yv S Sp N) (hNb : N <= 1000000000) (hlen : ∀ xs,S xs -> xs.length <= 1000000000) {gf2 : FuncId} {caps2 : List Value} {cm : Le -> Le -> Int} (hcmp : ∀ x y : Le,Does Tryz.prog gf2 (.agg (Le.cells x).toArray :: .agg (Le.cells y).toArray :: caps2) V [] (Pv (.int .i64 (cm x y)) V [])) (hswo : SWO (ltc cm))  : Does Tryz.prog 183 [.func (.func gf) #[] caps.toArray,.func (.func gf2) #[] caps2.toArray] V Hs (fun v V' H' => V' = V /\ ∃ xs ys q,S xs /\ ys.Perm xs /\ Srt (ltc cm) ys /\ Ow 43 8 v ys.length (ys.flatMap Le.cells) q /\ H' = q :: Hs) := by
 refine Does.intro Tryz.func183 rfl rfl (le rfl) (fun B => ?_)
 refine Zs<|Zr<|Za Z<|Ze<|Zg<|Zs<|Zr<|Zm Z<|?_
 refine Run.callW (l := [.tmp 6]) rfl rfl rfl (lt rfl) (collect_l hit hNb) (fun v3 V2 H2 hle hR => ?_)
 obtain ⟨hV,xs,q,hS,ho,rfl⟩ := hR; replace hV := hV.symm; subst hV
 have hxl := hlen xs hS
 refine Za Z<|Ze<|Zg<|Zs<|Zr<|Zm Z<|Zm Z<|?_
 refine Yk [0] Z Z Z (sort_l hcmp hswo ho W) (fun v4 V3 H3 hle3 hR3 => ?_)
 obtain ⟨hV,rfl,l2,q2,hp2,hs2,ho2,rfl⟩ := hR3; replace hV := hV.symm; subst hV
 refine Run.perm (H' := q2 :: Hs) (List.perm_append_comm (l₁ := [q2]))<|Ze<|Zg<|Zs<|Zr<|Zm Z<|Za Z<|Ze<|Zg<|Zu<|?_
 exact Ex.ret1 rfl rfl  ⟨rfl,xs,l2,q2,hS,hp2,hs2,ho2,rfl⟩
theorem those_1 {V : Vw} {l : List Le} {tx bm c1 c2 clock : Nat} {es : Array MapEntry} (hmi : MapIs .u32 (Le.mt l) es clock) {fi : FuncId} {ci : List Value} {f : Le -> Bool} (his : ∀ x : Le,Does Tryz.prog fi (.agg x.cells.toArray :: ci) V [] (Pv (.bool (f x)) V [])) {N : Nat} (hNl : l.length <= N) {lp : Nat} {J Jx : List Le -> Hp -> Prop} {Hy : Hp} (hy : ∀ xs x H,J xs H -> xs.length < N -> YDoes Tryz.prog lp (Le.yv x) V H (fun u V' H' => V' = V /\ (u = .bool true /\ J (xs ++ [x]) H' \/ u = .bool false /\ Jx (xs ++ [x]) H'))) (h0 : J [] Hy)  : Does Tryz.prog 187 [yv lp,(pZ c1),(pZ c2)] V ([(cL 38 c1 tx),[(c2,.cells #[.func (.func fi) #[] ci.toArray] 94 (0,0))],[(tx,.cells #[.map (some bm)] 99 (0,0))],[(bm,.map es clock)]] ++ Hy) (fun _ V' H' => V' = V /\ ∃ xs Hy',H' = [(cL 38 c1 tx),[(c2,.cells #[.func (.func fi) #[] ci.toArray] 94 (0,0))],[(tx,.cells #[.map (some bm)] 99 (0,0))],[(bm,.map es clock)]] ++ Hy' /\ (xs.Perm (l.filter f) /\ J xs Hy' \/ True /\ Jx xs Hy')) := by
 refine Does.intro Tryz.func187 rfl rfl (le rfl) (fun B => ?_)
 refine Zs<|Zr<|Zv (Y.load Z xts38 (Kn.at 0 Z) Z)<|Zv (Y.nilCheck Z)<|Zv (Y.fieldAddr Z xfo99_0)<|Zv (Y.load Z xts97 (Kn.at 2 Z) Z)<|?_
 refine Run.rangeMap (kk := .u32) (l := Le.mt l) (j := 3) rfl xmt97 rfl (lt rfl) (fun vi si hit => ?_)
 refine Ze<|Zg<|Zb<|?_
 refine ZL (X := Sg × Hp × List Le) (fun z0 => V) (fun z0 => z0.1 :: (cL 38 c1 tx) :: [(c2,.cells #[.func (.func fi) #[] ci.toArray] 94 (0,0))] :: [(tx,.cells #[.map (some bm)] 99 (0,0))] :: [(bm,.map es clock)] :: z0.2.1) (fun z0 => [(0,yv lp),(2,(pZ c2)),(10,vi)]) (fun z0 => It bm es clock (Le.mt l) (Le.mt z0.2.2) vi z0.1 /\ J (z0.2.2.filter f) z0.2.1) (fun z0 => l.length - z0.2.2.length) (⟨si,Hy,[]⟩ : Sg × Hp × List Le) ⟨hit,h0⟩ ?_
 rintro ⟨s1,Hy1,dl⟩ ⟨hit1,hJ⟩
 try dsimp only at hit1 hJ ⊢
 refine Zs<|Zr<|?_
 refine Run.nextMap (j := 4) (j2 := 0) rfl hmi rfl hit1 rfl (lt rfl) (fun hdone => ?_) (fun kx ux s2 hin hfew hit2 hat => ?_)
 ·refine Zv (Y.extract Z Z)<|Ze<|Zg<|Zs<|Tr.cond_f Z Z<|Zx<|Zy<|Zy<|Zi<|Ex.drop<|?_
  exact Ex.end0 rfl ⟨rfl,dl.filter f,Hy1,rfl,.inl ⟨(Le.mt_perm hdone).filter f,hJ⟩⟩
 ·obtain ⟨x,hxl,rfl,rfl⟩ := Le.mt_mem hin
  refine Zv (Y.extract Z Z)<|Ze<|Zg<|Zs<|Tr.cond_t Z Z<|Zt<|Zg<|Zb<|Zs<|Zr<|Zv (Y.entry (j := 4) (j2 := 0) Z hmi Z hat Z)<|Zv (Y.extract Z Z)<|?_
  refine Run.alloc xzo43 (lt rfl) (fun b1 => ?_)
  refine Run.store (s := [(b1,.cells #[.int .u32 x.addr,.int .i64 x.bind,.string x.client,.int .i64 x.till,.int .i64 x.acked,.int .i64 x.told,.int .i64 x.at_,.int .i64 x.ver] 43 (0,0))]) Z Z xsz43 (i := 0) Z Z (le Z) Z Z<|Ze<|Zg<|Zs<|Tr.regionI<|RunI.op Z<|Zv (Y.load Z xts94 (Kn.at 3 Z) Z)<|Ze<|Ex.goI<|RunI.op Z<|Zv (Y.loadAgg Z xag43 (Kn.at 0 Z) Z)<|Ze<|Ex.goI<|RunI.op Z<|Yc Z Z Z ((his x).frame)<|Ze<|?_
  refine Ex.goI<|RunI.op Z<|Zm Z<|Ze<|Ex.goI<|?_
  refine Zq (f x) (fun h2 g2 => ?_) fun h2 g2 => ?_
  ·refine RunI.on Z Z Z h2<|RunI.op Z<|Zm Z<|Ze<|Ex.goI<|RunI.on Z Z Z h2<|RunI.op Z<|Zv (Y.loadAgg Z xag43 (Kn.at 0 Z) Z)<|Ze<|Ex.goI<|RunI.on Z Z Z h2<|?_
   have hfx := h2
   refine RunI.callY [[(b1,.cells #[.int .u32 x.addr,.int .i64 x.bind,.string x.client,.int .i64 x.till,.int .i64 x.acked,.int .i64 x.told,.int .i64 x.at_,.int .i64 x.ver] 43 (0,0))],s2,(cL 38 c1 tx),[(c2,.cells #[.func (.func fi) #[] ci.toArray] 94 (0,0))],[(tx,.cells #[.map (some bm)] 99 (0,0))],[(bm,.map es clock)]] Hy1 rfl rfl rfl (lt rfl) (hy (dl.filter f) x _ hJ (by have := Le.fil_le f dl; rw [Le.mt_len,Le.mt_len] at hfew; omega)) (fun u V2 Hy2 hle hR => ?_)
   obtain ⟨hV,⟨rfl,hJ2⟩ | ⟨rfl,hJ2⟩⟩ := hR <;> (replace hV := hV.symm; subst hV)
   ·refine RunI.on Z Z Z h2<|RunI.op Z<|Zv (Y.not Z)<|Ze<|Ex.goI<|RunI.op Z<|Zv (Y.pick_t Z h2 Z)<|Ze<|Ex.goI<|RunI.nil<|Zg<|Tr.cond_f Z Z<|Zt<|Zc<|Ex.perm (H' := [(b1,.cells #[.int .u32 x.addr,.int .i64 x.bind,.string x.client,.int .i64 x.till,.int .i64 x.acked,.int .i64 x.told,.int .i64 x.at_,.int .i64 x.ver] 43 (0,0))] :: s2 :: (cL 38 c1 tx) :: [(c2,.cells #[.func (.func fi) #[] ci.toArray] 94 (0,0))] :: [(tx,.cells #[.map (some bm)] 99 (0,0))] :: [(bm,.map es clock)] :: Hy2) (List.Perm.refl _)<|?_
    refine Ex.drop ?_
    exact ZR (⟨s2,Hy2,dl ++ [x]⟩ : Sg × Hp × List Le) ⟨by rw [Le.mt_snoc]; exact hit2,by rw [Le.fil_yes hfx]; exact hJ2⟩ (by dsimp only; rw [List.length_append,List.length_singleton]; rw [Le.mt_len,Le.mt_len] at hfew; omega)
   ·refine RunI.on Z Z Z h2<|RunI.op Z<|Zv (Y.not Z)<|Ze<|Ex.goI<|RunI.op Z<|Zv (Y.pick_t Z h2 Z)<|Ze<|Ex.goI<|RunI.nil<|Zg<|Tr.cond_t Z Z<|Zu<|Zk<|Zn<|Zk<|?_
    refine Ex.drop<|Ex.drop<|?_
    exact Ex.ret0 rfl ⟨rfl,dl.filter f ++ [x],Hy2,rfl,.inr ⟨trivial,hJ2⟩⟩
  have hfx := h2
  refine RunI.off Z Z Z h2 Z (lt Z)<|RunI.off Z Z Z h2 Z (lt Z)<|RunI.off Z Z Z h2 Z (lt Z)<|RunI.off Z Z Z h2 Z (lt Z)<|RunI.op Z<|Zv (Y.pick_f Z h2 Z)<|Ze<|Ex.goI<|RunI.nil<|Zg<|Tr.cond_f Z Z<|Zt<|Zc<|Ex.perm (H' := [(b1,.cells #[.int .u32 x.addr,.int .i64 x.bind,.string x.client,.int .i64 x.till,.int .i64 x.acked,.int .i64 x.told,.int .i64 x.at_,.int .i64 x.ver] 43 (0,0))] :: s2 :: (cL 38 c1 tx) :: [(c2,.cells #[.func (.func fi) #[] ci.toArray] 94 (0,0))] :: [(tx,.cells #[.map (some bm)] 99 (0,0))] :: [(bm,.map es clock)] :: Hy1) (List.Perm.refl _)<|?_
  refine Ex.drop ?_
  exact ZR (⟨s2,Hy1,dl ++ [x]⟩ : Sg × Hp × List Le) ⟨by rw [Le.mt_snoc]; exact hit2,by rw [Le.fil_no hfx]; exact hJ⟩ (by dsimp only; rw [List.length_append,List.length_singleton]; rw [Le.mt_len,Le.mt_len] at hfew; omega)
theorem those_it {V : Vw} {l : List Le} {tx bm c1 c2 clock : Nat} {es : Array MapEntry} (hmi : MapIs .u32 (Le.mt l) es clock) {fi : FuncId} {ci : List Value} {f : Le -> Bool} (his : ∀ x : Le,Does Tryz.prog fi (.agg x.cells.toArray :: ci) V [] (Pv (.bool (f x)) V [])) : Iterates Tryz.prog 187 [(pZ c1),(pZ c2)] V [(cL 38 c1 tx),[(c2,.cells #[.func (.func fi) #[] ci.toArray] 94 (0,0))],[(tx,.cells #[.map (some bm)] 99 (0,0))],[(bm,.map es clock)]] Le.yv (fun xs => xs.Perm (l.filter f)) (fun _ => True) l.length := fun lp J Jx hy Hy h0 => those_1 hmi his (Nat.le_refl _) hy h0
theorem those_top {V : Vw} {tx : Nat} {fi : FuncId} {ci : List Value}  : Does Tryz.prog 172 [(pZ tx),.func (.func fi) #[] ci.toArray] V [] (fun v V' H' => V' = V /\ ∃ c1 c2,v = .func (.func 187) #[] [(pZ c1),(pZ c2)].toArray /\ H' = [(cL 38 c1 tx),[(c2,.cells #[.func (.func fi) #[] ci.toArray] 94 (0,0))]]) := by
 refine Does.intro Tryz.func172 rfl rfl (le rfl) (fun B => ?_)
 refine Zs<|Zr<|?_
 refine Run.box rfl (lt rfl) (fun b1 => ?_)
 refine Run.box rfl (lt rfl) (fun b2 => ?_)
 refine Za Z<|Ze<|Zg<|Zs<|Zr<|Zv (Y.makeFunc (l := []) (l' := [.tmp 2,.tmp 3]) Z Z)<|Za Z<|Ze<|Zg<|Zu<|Ex.keep [1,0]<|?_
 exact Ex.ret1 rfl rfl  ⟨rfl,b1,b2,rfl,rfl⟩
theorem sorted_1 {V : Vw} {b : Nat} {x y : Le} {gb : FuncId} {cb : List Value} {k : Le -> Int} (hk : V b = some (.cells #[.func (.func gb) #[] cb.toArray] 102 (0,0))) (hby : ∀ x : Le,Does Tryz.prog gb (.agg x.cells.toArray :: cb) V [] (Pv (.int .i64 (k x)) V []))  : Does Tryz.prog 184 [.agg #[.int .u32 x.addr,.int .i64 x.bind,.string x.client,.int .i64 x.till,.int .i64 x.acked,.int .i64 x.told,.int .i64 x.at_,.int .i64 x.ver],.agg #[.int .u32 y.addr,.int .i64 y.bind,.string y.client,.int .i64 y.till,.int .i64 y.acked,.int .i64 y.told,.int .i64 y.at_,.int .i64 y.ver],(pZ b)] V [] (Pv (.int .i64 (Le.cmpBy k x y)) V []) := by
 refine Does.intro Tryz.func184 rfl rfl (le rfl) (fun B => ?_)
 refine Zs<|Zr<|?_
 refine Run.box rfl (lt rfl) (fun b1 => ?_)
 refine Run.box rfl (lt rfl) (fun b2 => ?_)
 refine Za Z<|Ze<|Zg<|Zs<|Tr.tail 12 xmo WK<|ZV (Y.load Z xts102 (.inl hk) Z)<|ZV (Y.loadAgg Z xag43 (Kn.at 1 Z) Z)<|YC Z Z Z ((hby x).frame)<|ZV (Y.load Z xts102 (.inl hk) Z)<|ZV (Y.loadAgg Z xag43 (Kn.at 0 Z) Z)<|YC Z Z Z ((hby y).frame)<|YC Z Z Z cmp_n_h<|ZV (Y.fieldAddr Z xfo43_0)<|ZV (Y.load Z xts24 (Kn.at 1 Z) Z)<|ZV (Y.fieldAddr Z xfo43_0)<|ZV (Y.load Z xts24 (Kn.at 0 Z) Z)<|?_
 refine YC Z Z Z cmp_u_h<|RunQ.nil_run<|?_
 refine Run.buildSlice (l := [(0,.tmp 12),(1,.tmp 17)]) xes148 xzo3 rfl WD rfl rfl WD (lt rfl) (fun b3 => ?_)
 refine Yc Z Z Z (or_c (x := Rg.cmp3 (k x) (k y)) (y := Rg.cmp3 x.addr y.addr) (Rd.one (Kn.at 0 Z) Z))<|Za Z<|Ze<|Zg<|Zu<|Ex.keep []<|?_
 exact Ex.ret1 rfl rfl  ⟨rfl,rfl,rfl⟩
theorem tsorted_c {V : Vw} {Hs : Hp} {gf : FuncId} {caps : List Value} {S Sp : List Le -> Prop} {N : Nat} (hit : ∀ V',V.le V' -> Iterates Tryz.prog gf caps V' Hs Le.yv S Sp N) (hNb : N <= 1000000000) (hlen : ∀ xs,S xs -> xs.length <= 1000000000) {gb : FuncId} {cb : List Value} {k : Le -> Int} (hby : ∀ V',V.le V' -> ∀ x : Le,Does Tryz.prog gb (.agg x.cells.toArray :: cb) V' [] (Pv (.int .i64 (k x)) V' []))  : Does Tryz.prog 171 [.func (.func gf) #[] caps.toArray,.func (.func gb) #[] cb.toArray] V Hs (fun v V' H' => V.le V' /\ ∃ xs ys q,S xs /\ ys.Perm xs /\ Srt (ltc (Le.cmpBy k)) ys /\ Ow 43 8 v ys.length (ys.flatMap Le.cells) q /\ H' = q :: Hs) := by
 refine Does.intro Tryz.func171 rfl rfl (le rfl) (fun B => ?_)
 refine Zs<|Zr<|?_
 refine Run.box rfl (lt rfl) (fun b1 => ?_)
 refine Za Z<|Ze<|Zg<|Zs<|Zr<|?_
 refine Run.show (s := [(b1,.cells #[.func (.func gb) #[] cb.toArray] 102 (0,0))]) (H := Hs) (fun V9 hle9 hsh9 => ?_)
 have hk9 : V9 b1 = some (.cells #[.func (.func gb) #[] cb.toArray] 102 (0,0)) := hsh9 _ _ (by simp [List.lookup])
 refine Zm Z<|Zv (Y.makeFunc (l := []) (l' := [.tmp 3]) Z Z)<|?_
 refine Run.callW (l := [.tmp 5,.tmp 6]) rfl rfl rfl (lt rfl) (sortedf_l (caps2 := [(pZ b1)]) (cm := Le.cmpBy k) (hit V9 hle9) hNb hlen (fun x y => sorted_1 hk9 (hby V9 hle9)) (Le.swoBy k)) (fun v3 V3 H3 hle3 hR => ?_)
 obtain ⟨hV,xs,ys,q,hS,hp,hs,ho,rfl⟩ := hR; replace hV := hV.symm; subst hV
 refine Za Z<|Ze<|Zg<|Zu<|?_
 exact Ex.ret1 rfl rfl  ⟨hle9,xs,ys,q,hS,hp,hs,ho,rfl⟩
end Go.Proofs.YtfgblingojgafaaGreat
namespace Go.Proofs.YtfgblingojgafaaGreat
open Go Go.K
attribute [local irreducible] Code.wp wpList Calls wpQuiet
theorem all1_c {V : Vw} {l : List Rg} {p : Option Addr} {c b N : Nat} (hv : Rd V [] 2 (.slice p l.length c) l.length (l.flatMap Rg.cells)) (hlm : l.length <= 1000) (hok : Rg.Oks l) (hNl : (Rg.adr l).length <= N) {lp : Nat} {J Jx : List (Int × Int) -> Hp -> Prop} {Hy : Hp} (hy : ∀ xs x H,J xs H -> xs.length < N -> YDoes Tryz.prog lp (Rg.iv x) V H (fun u V' H' => V' = V /\ (u = .bool true /\ J (xs ++ [x]) H' \/ u = .bool false /\ Jx (xs ++ [x]) H'))) (h0 : J [] Hy)  : Does Tryz.prog 169 [yv lp,(pZ b)] V ([[(b,.cells #[.slice p l.length c] 33 (0,0))]] ++ Hy) (fun _ V' H' => V' = V /\ ∃ xs Hy',H' = [[(b,.cells #[.slice p l.length c] 33 (0,0))]] ++ Hy' /\ (xs = Rg.ix (Rg.adr l) /\ J xs Hy' \/ (∃ k,k < (Rg.adr l).length /\ xs = (Rg.ix (Rg.adr l)).take (k + 1)) /\ Jx xs Hy')) := by
 refine Does.intro Tryz.func169 rfl rfl (le rfl) (fun B => ?_)
 refine Zs<|Zr<|Za Z<|Ze<|Zg<|Zs<|Zr<|Zv (Y.load Z xts33 (Kn.at 0 Z) Z)<|Zv (Y.lenSl Z xes33)<|Zm Z<|Ze<|Zg<|Zb<|?_
 refine ZL (X := Nat × Hp) (fun z0 => V) (fun z0 => [(b,.cells #[.slice p l.length c] 33 (0,0))] :: z0.2) (fun z0 => [(0,yv lp),(3,.int .i64 (((Rg.adr (l.take z0.1)).length : Nat) : Int)),(7,.slice p l.length c),(8,.int .i64 ((l.length : Nat) : Int)),(9,.int .i64 (z0.1 : Int))]) (fun z0 => z0.1 <= l.length /\ J ((Rg.ix (Rg.adr l)).take ((Rg.adr (l.take z0.1)).length)) z0.2) (fun z0 => l.length - z0.1) (⟨0,Hy⟩ : Nat × Hp) ⟨Nat.zero_le _,h0⟩ ?_
 rintro ⟨i1,Hy1⟩ ⟨hi,hJ⟩
 try dsimp only at hi hJ ⊢
 have hbd := hok.bd i1
 have hsd : Rg.size (l.getD i1 Rg.dflt) = (l.getD i1 Rg.dflt).high - (l.getD i1 Rg.dflt).low + 1 := rfl
 have hal := Rg.adr_len_le (hok.take i1)
 rw [List.length_take] at hal
 refine Zs<|Zr<|Zv (Y.int Z Z Z)<|Ze<|Zg<|Zs<|?_
 refine Zq (decide ((i1 : Int) < ((l.length : Nat) : Int))) (fun h1 g1 => ?_) fun h1 g1 => ?_
 ·refine Tr.cond_t Z h1<|Zt<|Zg<|Zs<|Zb<|Zs<|Zr<|Zv (Y.idxR i1 Z Z xes33 hv.of_nil W W)<|Zv (Y.ldRA (vs := [.int .u32 ((l.getD i1 Rg.dflt).low),.int .u32 ((l.getD i1 Rg.dflt).high)]) rfl xag66 hv.of_nil rfl WD (fun o ho => flatm_atA Rg.len W Rg.dflt o ho))<|?_
  refine Run.alloc xzo66 (lt rfl) (fun b2 => ?_)
  refine Run.store (s := [(b2,.cells #[.int .u32 ((l.getD i1 Rg.dflt).low),.int .u32 ((l.getD i1 Rg.dflt).high)] 66 (0,0))]) Z Z xsz66 (i := 0) Z Z (le Z) Z Z<|Ze<|Zg<|Zs<|Zr<|Zv (Y.loadAgg Z xag66 (Kn.at 0 Z) Z)<|Yc Z Z Z (size_h (hok.at i1))<|Zm Z<|Ze<|Zg<|Zb<|?_
  refine ZL (X := Nat × Hp) (fun z0 => V) (fun z0 => [(b2,.cells #[.int .u32 ((l.getD i1 Rg.dflt).low),.int .u32 ((l.getD i1 Rg.dflt).high)] 66 (0,0))] :: [(b,.cells #[.slice p l.length c] 33 (0,0))] :: z0.2) (fun z0 => [(0,yv lp),(3,.int .i64 (((Rg.adr (l.take i1)).length + z0.1 : Nat) : Int)),(7,.slice p l.length c),(8,.int .i64 ((l.length : Nat) : Int)),(9,.int .i64 (i1 : Int)),(5,(pZ b2)),(14,.int .i64 (Rg.size (l.getD i1 Rg.dflt))),(15,.int .i64 (z0.1 : Int))]) (fun z0 => z0.1 <= (Rg.size (l.getD i1 Rg.dflt)).toNat /\ J ((Rg.ix (Rg.adr l)).take ((Rg.adr (l.take i1)).length + z0.1)) z0.2) (fun z0 => (Rg.size (l.getD i1 Rg.dflt)).toNat - z0.1) (⟨0,Hy1⟩ : Nat × Hp) ⟨Nat.zero_le _,hJ⟩ ?_
  rintro ⟨j1,Hy3⟩ ⟨hj,hJ3⟩
  try dsimp only at hj hJ3 ⊢
  refine Zs<|Zr<|Zv (Y.int Z Z Z)<|Ze<|Zg<|Zs<|?_
  refine Zq (decide ((j1 : Int) < (Rg.size (l.getD i1 Rg.dflt)))) (fun h3 g3 => ?_) fun h3 g3 => ?_
  ·refine Tr.cond_t Z h3<|Zt<|Zg<|Zs<|Zb<|Zs<|Zr<|Zm Z<|Za Z<|Ze<|Zg<|Zs<|Zs<|Tr.regionI<|RunI.op Z<|Zm Z<|?_
   refine Ze<|Ex.goI<|RunI.op Z<|Zm Z<|Ze<|Ex.goI<|RunI.op Z<|Zv (Y.fieldAddr Z xfo66_0)<|Ze<|Ex.goI<|RunI.op Z<|Zv (Y.load Z xts24 (Kn.at 0 Z) Z)<|Ze<|Ex.goI<|RunI.op Z<|Zm Z<|?_
   refine Ze<|Ex.goI<|RunI.op Z<|Zv (Y.conv ((j1 : Int)) rfl xit3_24 (wrap_u32 W))<|Ze<|Ex.goI<|RunI.op Z<|Zv (Y.int (r := .int .u32 ((l.getD i1 Rg.dflt).low + (j1 : Int))) rfl rfl (by simp only [intRes]; rw [wrap_u32 W]))<|Ze<|Ex.goI<|?_
   have ea := Rg.adr_at (l := l) (i := i1) (j := j1) W W
   refine RunI.callY [[(b2,.cells #[.int .u32 ((l.getD i1 Rg.dflt).low),.int .u32 ((l.getD i1 Rg.dflt).high)] 66 (0,0))],[(b,.cells #[.slice p l.length c] 33 (0,0))]] Hy3 rfl rfl rfl (lt rfl) (hy ((Rg.ix (Rg.adr l)).take ((Rg.adr (l.take i1)).length + j1)) ((((Rg.adr (l.take i1)).length + j1 : Nat) : Int),(l.getD i1 Rg.dflt).low + (j1 : Int)) _ hJ3 (by rw [List.length_take,Rg.ix_len]; omega)) (fun u V2 Hy4 hle hR => ?_)
   rw [<- ea.2,<- Rg.ix_take ea.1] at hR
   obtain ⟨hV,⟨rfl,hJ4⟩ | ⟨rfl,hJ4⟩⟩ := hR <;> (replace hV := hV.symm; subst hV)
   ·refine RunI.op Z<|Zv (Y.not Z)<|Ze<|Ex.goI<|RunI.nil<|Zg<|Tr.cond_f Z Z<|Zt<|Zg<|Zr<|Zm Z<|Zv (Y.add Z Z W)<|Za Z<|Ze<|Zc<|Zg<|?_
    refine Zr<|Zv (Y.add Z Z W)<|Zm Z<|Ze<|?_
    exact ZR (⟨j1 + 1,Hy4⟩ : Nat × Hp) ⟨by omega,hJ4⟩ (by dsimp only; omega) (by repeat (first | exact subB_nil _ | refine subB_cons (by first | rfl | exact congrArg (fun z => some (Value.int _ z)) W | exact congrArg (fun z => some (Value.int _ z)) W) ?_))
   ·refine RunI.op Z<|Zv (Y.not Z)<|Ze<|Ex.goI<|RunI.nil<|Zg<|Tr.cond_t Z Z<|Zu<|Zn<|Zk<|Zn<|Zn<|Zk<|Zk<|Zn<|Zn<|?_
    refine Zk<|Ex.drop<|?_
    exact Ex.ret0 rfl ⟨rfl,_,Hy4,rfl,.inr ⟨⟨_,ea.1,rfl⟩,hJ4⟩⟩
  refine Tr.cond_f Z h3<|Zx<|Zy<|Zy<|Zi<|Zc<|Zg<|Zr<|Zv (Y.add Z Z W)<|Zm Z<|Ze<|Ex.drop<|?_
  have el := Rg.adr_len_take (l := l) (i := i1) W
  have ej : (Rg.adr (l.take i1)).length + j1 = (Rg.adr (l.take (i1 + 1))).length := by omega
  exact ZR (⟨i1 + 1,Hy3⟩ : Nat × Hp) ⟨by omega,by rw [<- ej]; exact hJ3⟩ (by dsimp only; omega) (by repeat (first | exact subB_nil _ | refine subB_cons (by first | rfl | exact congrArg (fun z => some (Value.int _ z)) W | exact congrArg (fun z => some (Value.int _ z)) (by dsimp only; omega)) ?_))
 refine Tr.cond_f Z h1<|Zx<|Zy<|Zy<|Zi<|?_
 obtain rfl : i1 = l.length := by omega
 rw [List.take_length,Rg.ix_full] at hJ
 exact Ex.end0 rfl ⟨rfl,_,Hy1,rfl,.inl ⟨rfl,hJ⟩⟩
theorem all_it {V : Vw} {l : List Rg} {p : Option Addr} {c b : Nat} (hv : Rd V [] 2 (.slice p l.length c) l.length (l.flatMap Rg.cells)) (hlm : l.length <= 1000) (hok : Rg.Oks l) : Iterates Tryz.prog 169 [(pZ b)] V [[(b,.cells #[.slice p l.length c] 33 (0,0))]] Rg.iv (fun xs => xs = Rg.ix (Rg.adr l)) (fun xs => ∃ k,k < (Rg.adr l).length /\ xs = (Rg.ix (Rg.adr l)).take (k + 1)) (Rg.adr l).length := fun lp J Jx hy Hy h0 => all1_c hv hlm hok (Nat.le_refl _) hy h0
theorem all_top {V : Vw} {l : List Rg} {p : Option Addr} {c : Nat}  : Does Tryz.prog 134 [.slice p l.length c] V [] (fun v V' H' => V' = V /\ ∃ b,v = .func (.func 169) #[] [(pZ b)].toArray /\ H' = [[(b,.cells #[.slice p l.length c] 33 (0,0))]]) := by
 refine Does.intro Tryz.func134 rfl rfl (le rfl) (fun B => ?_)
 refine Zs<|Zr<|?_
 refine Run.box rfl (lt rfl) (fun b1 => ?_)
 refine Za Z<|Ze<|Zg<|Zs<|Zr<|Zv (Y.makeFunc (l := []) (l' := [.tmp 1]) Z Z)<|Za Z<|Ze<|Zg<|Zu<|Ex.keep [0]<|?_
 exact Ex.ret1 rfl rfl  ⟨rfl,b1,rfl,rfl⟩
theorem at_a {V : Vw} {l : List Rg} {p : Option Addr} {c : Nat} (hv : Rd V [] 2 (.slice p l.length c) l.length (l.flatMap Rg.cells)) (hlm : l.length <= 1000) (hok : Rg.Oks l) {n : Int}  : Does Tryz.prog 72 [.slice p l.length c,.int .i64 n] V [] (Pv (.tuple #[.int .u32 ((Rg.at_ (Rg.adr l) n).1),.int .i64 ((Rg.at_ (Rg.adr l) n).2)]) V []) := by
 refine Does.introM Tryz.func72 rfl rfl (le rfl) (fun B => ?_)
 refine Zs<|Zr<|?_
 refine Run.box rfl (lt rfl) (fun b1 => ?_)
 refine Run.alloc xzo24 (lt rfl) (fun b2 => ?_)
 refine Run.alloc xzo50 (lt rfl) (fun b3 => ?_)
 refine Ze<|Zg<|Zs<|Zs<|Zr<|Zm Z<|?_
 refine Yk [] Z Z Z (all_top (l := l) (p := p) (c := c)) (fun v4 V2 H2 hle hR => ?_)
 obtain ⟨hV,bk,rfl,rfl⟩ := hR; replace hV := hV.symm; subst hV
 refine Run.heapTo (H' := [[(b3,.cells #[.int .i64 0] 50 (0,0))],[(b2,.cells #[.int .u32 0] 24 (0,0))],[(b1,.cells #[.int .i64 n] 3 (0,0))],[(bk,.cells #[.slice p l.length c] 33 (0,0))]]) Z<|Ze<|Zg<|Zb<|?_
 refine Tr.range1 [] [[(bk,.cells #[.slice p l.length c] 33 (0,0))]] [[(b3,.cells #[.int .i64 0] 50 (0,0))],[(b2,.cells #[.int .u32 0] 24 (0,0))],[(b1,.cells #[.int .i64 n] 3 (0,0))]] ((pull_perm [3,0,0,0] [[(b3,.cells #[.int .i64 0] 50 (0,0))],[(b2,.cells #[.int .u32 0] 24 (0,0))],[(b1,.cells #[.int .i64 n] 3 (0,0))],[(bk,.cells #[.slice p l.length c] 33 (0,0))]]).symm) rfl (all_it hv hlm hok) (fun xs (H : Hp) => H = [[(b3,.cells #[.int .i64 0] 50 (0,0))],[(b2,.cells #[.int .u32 0] 24 (0,0))],[(b1,.cells #[.int .i64 n] 3 (0,0))]] /\ ∀ q ∈ xs,q.1 ≠ n) (fun c xs (H : Hp) => c = .ret /\ ∃ ys q,xs = ys ++ [q] /\ (q.1 = n) /\ H = [[(b3,.cells #[.int .i64 0] 50 (0,0))],[(b2,.cells #[.int .u32 q.2] 24 (0,0))],[(b1,.cells #[.int .i64 n] 3 (0,0))]]) ⟨rfl,fun q h => by cases h⟩ (fun lp5 rr6 xs7 x8 H hLI hf hJ hN => ?_) (fun D4 xs7 H hS hJ => ?_) (fun D4 c xs7 H hS hJ => ?_)
 ·obtain ⟨rfl,hn⟩ := hJ
  refine YDoes.intro hLI rfl (env_par2 (lt rfl) (lt rfl)) (fun Blp5 => ?_)
  refine TrR.seq<|TrR.region Z<|Za Z<|Ze<|Ex.goR<|TrR.region Z<|Za Z<|Ze<|Ex.begin hf.1<|TrR.block<|TrR.seq<|TrR.region Z<|Zm Z<|Zv (Y.load Z xts3 (Kn.at 3 Z) Z)<|Zv (Y.int Z Z Z)<|Ze<|?_
  refine Ex.goR ?_
  refine Zq (x8.1 == n) (fun h9 g9 => ?_) fun h9 g9 => ?_
  ·refine TrR.cond_t Z h9<|TrR.seq<|TrR.region Z<|Zm Z<|Run.store (s := [(b2,.cells #[.int .u32 x8.2] 24 (0,0))]) Z Z xsz24 (i := 2) Z Z (le Z) Z Z<|Run.store (s := [(b3,.cells #[.int .i64 0] 50 (0,0))]) Z Z xsz50 (i := 1) Z Z (le Z) Z Z<|Ze<|Ex.goR<|TrR.to_ret<|Zk<|?_
   exact Ex.stopRet ⟨rfl,.inr ⟨rfl,_,_,_,rfl,rfl,rfl,⟨rfl,xs7,x8,rfl,by omega,rfl⟩⟩⟩
  refine TrR.cond_f Z h9<|TrR.to_end<|Zc<|?_
  exact Ex.next ⟨rfl,.inl ⟨rfl,_,_,hLI.with _ _,⟨rfl,rfl⟩,rfl,⟨rfl,Rg.snoc_all hn W⟩⟩⟩
 ·obtain ⟨rfl,hn⟩ := hJ
  refine Zc<|Zg<|Zs<|Zr<|Run.store (s := [(b2,.cells #[.int .u32 0] 24 (0,0))]) Z Z xsz24 (i := 3) Z Z (le Z) Z Z<|Run.store (s := [(b3,.cells #[.int .i64 4] 50 (0,0))]) Z Z xsz50 (i := 2) Z Z (le Z) Z Z<|Ze<|Zg<|Zu<|Ex.unmark (.inl Z)<|Ex.bodyM (.inl Z)<|?_
  exact Ex.retS2 [] rfl rfl rfl xts24 xts50 (Kn.at 2 rfl) (Kn.at 1 rfl) rfl rfl ⟨by rw [Rg.at_none (by rw [<- hS]; exact hn)]; rfl,rfl,rfl⟩
 ·obtain ⟨rfl,ys,qz,hxs,hqz,rfl⟩ := hJ
  refine Zk<|Zn<|Ex.unmark (.inl Z)<|Ex.bodyM (.inl Z)<|?_
  exact Ex.retS2 [] rfl rfl rfl xts24 xts50 (Kn.at 2 rfl) (Kn.at 1 rfl) rfl rfl ⟨by rw [Rg.at_some hS hxs hqz]; rfl,rfl,rfl⟩
theorem at_h {V : Vw} {l : List Rg} {v : Value} {n : Int} (hv : Rd V [] 2 v l.length (l.flatMap Rg.cells)) (hlm : l.length <= 1000) (hok : Rg.Oks l) {H : Hp} : Does Tryz.prog 72 [v,.int .i64 n] V H (Pv (.tuple #[.int .u32 ((Rg.at_ (Rg.adr l) n).1),.int .i64 ((Rg.at_ (Rg.adr l) n).2)]) V H) := by
  obtain ⟨p,c,rfl,_⟩ := hv.form
  exact (at_a hv hlm hok).frame
end Go.Proofs.YtfgblingojgafaaGreat
namespace Go.Proofs.YtfgblingojgafaaGreat
open Go Go.K
attribute [local irreducible] Code.wp wpList Calls wpQuiet
open Go.Sort
theorem tall1_c {q : Le} {V : Vw} : Does Tryz.prog 173 [.agg #[.int .u32 q.addr,.int .i64 q.bind,.string q.client,.int .i64 q.till,.int .i64 q.acked,.int .i64 q.told,.int .i64 q.at_,.int .i64 q.ver]] V [] (Pv (.bool true) V []) := by
 refine Does.intro Tryz.func173 rfl rfl (le rfl) (fun B => ?_)
 refine Zs<|Zr<|?_
 refine Run.box rfl (lt rfl) (fun b1 => ?_)
 refine Za Z<|Ze<|Zg<|Zs<|Zr<|Za Z<|Ze<|Zg<|Zu<|Ex.keep []<|?_
 exact Ex.ret1 rfl rfl  ⟨rfl,rfl,rfl⟩
theorem alike_c {q : Le} {V : Vw} : Does Tryz.prog 174 [.agg #[.int .u32 q.addr,.int .i64 q.bind,.string q.client,.int .i64 q.till,.int .i64 q.acked,.int .i64 q.told,.int .i64 q.at_,.int .i64 q.ver]] V [] (Pv (.int .i64 0) V []) := by
 refine Does.intro Tryz.func174 rfl rfl (le rfl) (fun B => ?_)
 refine Zs<|Zr<|?_
 refine Run.box rfl (lt rfl) (fun b1 => ?_)
 refine Za Z<|Ze<|Zg<|Zs<|Zr<|Za Z<|Ze<|Zg<|Zu<|Ex.keep []<|?_
 exact Ex.ret1 rfl rfl  ⟨rfl,rfl,rfl⟩
theorem tall_c {V : Vw} {l : List Le} {tx bm clock : Nat} {es : Array MapEntry} (hmi : MapIs .u32 (Le.mt l) es clock) (hr : Le.Ris l) (hlm : l.length <= 256)  : Does Tryz.prog 146 [(pZ tx)] V [[(tx,.cells #[.map (some bm)] 99 (0,0))],[(bm,.map es clock)]] (fun v V' H' => V.le V' /\ ∃ q,Ow 43 8 v (l).length ((l).flatMap Le.cells) q /\ H' = q :: [[(tx,.cells #[.map (some bm)] 99 (0,0))],[(bm,.map es clock)]]) := by
 refine Does.intro Tryz.func146 rfl rfl (le rfl) (fun B => ?_)
 refine Zs<|Zr<|Za Z<|Ze<|Zg<|Zs<|Zr<|Zm Z<|?_
 refine Yk [] Z Z Z (those_top (tx := tx) (fi := 173) (ci := [])) (fun v3 V2 H2 hle hR => ?_)
 obtain ⟨hV,c1,c2,rfl,rfl⟩ := hR; replace hV := hV.symm; subst hV
 refine Run.heapTo (H' := [[(tx,.cells #[.map (some bm)] 99 (0,0))],[(bm,.map es clock)],(cL 38 c1 tx),[(c2,.cells #[.func (.func 173) #[] #[]] 94 (0,0))]]) Z ?_
 refine Yk [2,2,0,0] Z Z Z (tsorted_c (gf := 187) (caps := [(pZ c1),(pZ c2)]) (fun V' hV' => those_it (fi := 173) (ci := []) (f := (fun _ => true)) hmi (fun x => tall1_c (q := x))) W (fun xs hp => by have h8 := hp.length_eq; have h9 := Le.fil_le (fun _ => true) l; omega) (gb := 174) (cb := []) (k := (fun _ => 0)) (fun V' hV' x => alike_c (q := x))) (fun v4 V4 H4 hle4 hR => ?_)
 obtain ⟨hle4b,xs4,ys4,q4,hS4,hp4,hs4,ho4,rfl⟩ := hR
 rw [Le.sorted_eq (k := (fun _ => 0)) (f := (fun _ => true)) (z := l) hr hS4 hp4 hs4 (Le.all_perm l) (Le.ris_alike hr)] at ho4
 obtain ⟨p4,k4,rfl⟩ := ho4.form
 refine Run.heapTo (H' := [q4,(cL 38 c1 tx),[(c2,.cells #[.func (.func 173) #[] #[]] 94 (0,0))],[(tx,.cells #[.map (some bm)] 99 (0,0))],[(bm,.map es clock)]]) Z<|Za Z<|Ze<|Zg<|Zu<|Ex.keepTo (H' := [q4,[(tx,.cells #[.map (some bm)] 99 (0,0))],[(bm,.map es clock)]]) [0,2,2] Z<|?_
 exact Ex.ret1 rfl rfl  ⟨hle4b,q4,ho4,rfl⟩
theorem set_t {V : Vw} {l : List Le} {tx : Nat} {vm : Value} {sm : Sg} (hm : Om .u32 vm (Le.mt l) sm) (hr : Le.Ris l) {q : Le} (hs : q.client.size <= 9223372036854775807)  : Does Tryz.prog 30 [(pZ tx),.agg #[.int .u32 q.addr,.int .i64 q.bind,.string q.client,.int .i64 q.till,.int .i64 q.acked,.int .i64 q.told,.int .i64 q.at_,.int .i64 q.ver]] V [[(tx,.cells #[vm] 99 (0,0))],sm] (fun v V' H' => V' = V /\ v = .int .i64 (Le.setE l q).1 /\ ∃ s2,Om .u32 vm (Le.mt (Le.setE l q).2) s2 /\ H' = [[(tx,.cells #[vm] 99 (0,0))],s2]) := by
 refine Does.intro Tryz.func30 rfl rfl (le rfl) (fun B => ?_)
 refine Zs<|Zr<|?_
 refine Run.box rfl (lt rfl) (fun b1 => ?_)
 refine Za Z<|Ze<|Zg<|Zs<|Zs<|Zr<|?_
 rcases hg : Le.get l q.addr with _ | y
 ·refine Zv (Y.loadAgg Z xag43 (Kn.at 0 Z) Z)<|Yc Z Z Z (right_h (q := q) hs)<|Zv (Y.not Z)<|Ze<|Zg<|?_
  refine Zq (Le.right q) (fun h2 g2 => ?_) fun h2 g2 => ?_
  ·refine Tr.cond_f Z (congrArg Bool.not h2)<|Zt<|Zg<|Zs<|Zs<|Tr.anyD [(b1,.cells #[.int .u32 q.addr,.int .i64 q.bind,.string q.client,.int .i64 q.till,.int .i64 q.acked,.int .i64 q.told,.int .i64 q.at_,.int .i64 q.ver] 43 (0,0)),(tx,.cells #[vm] 99 (0,0))] xmo<|Zd 0 Z (fun _ => (Y.move rfl))<|Zd 1 Z (fun _ => (Y.nilCheck rfl))<|Zd 2 Z (fun _ => (Y.fieldAddr rfl xfo99_0))<|ZD 3 1 Z Z (fun _ => (Y.load rfl xts97 Kn.vk1 rfl))<|?_
   refine Zd 4 Z (fun _ => (Y.fieldAddr rfl xfo43_0))<|ZD 5 0 Z Z (fun _ => (Y.load rfl xts24 Kn.vk1 rfl))<|?_
   refine RunD.two (i := 6) (j := 10) WK rfl rfl  ?_ ?_
   ·refine Zv (Y.lookup (r := .tuple #[.agg #[.int .u32 0,.int .i64 0,.string ⟨#[]⟩,.int .i64 0,.int .i64 0,.int .i64 0,.int .i64 0,.int .i64 0],.bool false]) Z Z xmt97 xzo43 hm (j := 2) rfl (by rw [Le.mt_get,hg]; rfl))<|Ze<|Zf<|Zd 7 Z (fun _ => (Y.move rfl))<|Zd 8 Z (fun _ => (Y.extract rfl rfl))<|Zd 9 Z (fun _ => (Y.extract rfl rfl))<|?_
    refine RunD.one (i := 10) WK rfl  ?_
    refine Run.alloc xzo43 (lt rfl) (fun b3 => ?_)
    refine Ze<|Zf<|?_
    refine RunD.one (i := 11) WK rfl  ?_
    refine Run.store (s := [(b3,.cells #[.int .u32 0,.int .i64 0,.string ⟨#[]⟩,.int .i64 0,.int .i64 0,.int .i64 0,.int .i64 0,.int .i64 0] 43 (0,0))]) Z Z xsz43 (i := 0) Z Z (le Z) Z Z<|Ze<|Zf<|Zd 12 Z (fun _ => (Y.assign rfl))<|RunD.done WK<|Zg<|Zs<|Zr<|Zm Z<|Zv (Y.not Z)<|Ze<|Zg<|Tr.cond_t Z Z<|Zs<|Zr<|Za Z<|?_
    refine Ze<|Zg<|Zu<|Zn<|Ex.keepTo (H' := [[(tx,.cells #[vm] 99 (0,0))],sm]) [2,2] Z<|?_
    exact Ex.ret1 rfl rfl  ⟨rfl,by rw [Le.setE_none h2 hg],_,by rw [Le.setE_none h2 hg]; exact hm,rfl⟩
   refine Run.alloc xzo43 (lt rfl) (fun b4 => ?_)
   refine Ze<|Zf<|?_
   refine RunD.one (i := 6) WK rfl  ?_
   refine Zv (Y.lookup (r := .tuple #[.agg #[.int .u32 0,.int .i64 0,.string ⟨#[]⟩,.int .i64 0,.int .i64 0,.int .i64 0,.int .i64 0,.int .i64 0],.bool false]) Z Z xmt97 xzo43 hm (j := 3) rfl (by rw [Le.mt_get,hg]; rfl))<|Ze<|Zf<|Zd 7 Z (fun _ => (Y.move rfl))<|Zd 8 Z (fun _ => (Y.extract rfl rfl))<|Zd 9 Z (fun _ => (Y.extract rfl rfl))<|?_
   refine RunD.one (i := 11) WK rfl  ?_
   refine Run.store (s := [(b4,.cells #[.int .u32 0,.int .i64 0,.string ⟨#[]⟩,.int .i64 0,.int .i64 0,.int .i64 0,.int .i64 0,.int .i64 0] 43 (0,0))]) Z Z xsz43 (i := 0) Z Z (le Z) Z Z<|Ze<|Zf<|Zd 12 Z (fun _ => (Y.assign rfl))<|RunD.done WK<|Zg<|Zs<|Zr<|Zm Z<|Zv (Y.not Z)<|Ze<|Zg<|Tr.cond_t Z Z<|Zs<|Zr<|Za Z<|?_
   refine Ze<|Zg<|Zu<|Zn<|Ex.keepTo (H' := [[(tx,.cells #[vm] 99 (0,0))],sm]) [2,2] Z<|?_
   exact Ex.ret1 rfl rfl  ⟨rfl,by rw [Le.setE_none h2 hg],_,by rw [Le.setE_none h2 hg]; exact hm,rfl⟩
  refine Tr.cond_t Z (congrArg Bool.not h2)<|Zs<|Zr<|Za Z<|Ze<|Zg<|Zu<|Zn<|Ex.keepTo (H' := [[(tx,.cells #[vm] 99 (0,0))],sm]) [1,1] Z<|?_
  exact Ex.ret1 rfl rfl  ⟨rfl,by rw [Le.setE_wrong h2],_,by rw [Le.setE_wrong h2]; exact hm,rfl⟩
 refine Zv (Y.loadAgg Z xag43 (Kn.at 0 Z) Z)<|Yc Z Z Z (right_h (q := q) hs)<|Zv (Y.not Z)<|Ze<|Zg<|?_
 refine Zq (Le.right q) (fun h5 g5 => ?_) fun h5 g5 => ?_
 ·refine Tr.cond_f Z (congrArg Bool.not h5)<|Zt<|Zg<|Zs<|Zs<|Tr.anyD [(b1,.cells #[.int .u32 q.addr,.int .i64 q.bind,.string q.client,.int .i64 q.till,.int .i64 q.acked,.int .i64 q.told,.int .i64 q.at_,.int .i64 q.ver] 43 (0,0)),(tx,.cells #[vm] 99 (0,0))] xmo<|Zd 0 Z (fun _ => (Y.move rfl))<|Zd 1 Z (fun _ => (Y.nilCheck rfl))<|Zd 2 Z (fun _ => (Y.fieldAddr rfl xfo99_0))<|ZD 3 1 Z Z (fun _ => (Y.load rfl xts97 Kn.vk1 rfl))<|?_
  refine Zd 4 Z (fun _ => (Y.fieldAddr rfl xfo43_0))<|ZD 5 0 Z Z (fun _ => (Y.load rfl xts24 Kn.vk1 rfl))<|?_
  refine RunD.two (i := 6) (j := 10) WK rfl rfl  ?_ ?_
  ·refine Zv (Y.lookup (r := .tuple #[.agg #[.int .u32 y.addr,.int .i64 y.bind,.string y.client,.int .i64 y.till,.int .i64 y.acked,.int .i64 y.told,.int .i64 y.at_,.int .i64 y.ver],.bool true]) Z Z xmt97 xzo43 hm (j := 2) rfl (by rw [Le.mt_get,hg]; rfl))<|Ze<|Zf<|Zd 7 Z (fun _ => (Y.move rfl))<|Zd 8 Z (fun _ => (Y.extract rfl rfl))<|Zd 9 Z (fun _ => (Y.extract rfl rfl))<|?_
   refine RunD.one (i := 10) WK rfl  ?_
   refine Run.alloc xzo43 (lt rfl) (fun b6 => ?_)
   refine Ze<|Zf<|?_
   refine RunD.one (i := 11) WK rfl  ?_
   refine Run.store (s := [(b6,.cells #[.int .u32 y.addr,.int .i64 y.bind,.string y.client,.int .i64 y.till,.int .i64 y.acked,.int .i64 y.told,.int .i64 y.at_,.int .i64 y.ver] 43 (0,0))]) Z Z xsz43 (i := 0) Z Z (le Z) Z Z<|Ze<|Zf<|Zd 12 Z (fun _ => (Y.assign rfl))<|RunD.done WK<|Zg<|Zs<|Zr<|Zm Z<|Zv (Y.not Z)<|Ze<|Zg<|Tr.cond_f Z Z<|Zt<|Zg<|Zs<|?_
   refine Tr.tail 7 xmo WK<|ZM Z<|ZV (Y.nilCheck Z)<|ZV (Y.fieldAddr Z xfo99_0)<|ZV (Y.load Z xts97 (Kn.at 2 Z) Z)<|ZV (Y.fieldAddr Z xfo43_0)<|ZV (Y.load Z xts24 (Kn.at 1 Z) Z)<|ZV (Y.loadAgg Z xag43 (Kn.at 1 Z) Z)<|RunQ.nil_run<|?_
   refine Run.mapUpdate 3 rfl rfl rfl xmt97 hm rfl (fun s7 hm8 => ?_)
   refine Run.heapTo (H' := [[(b6,.cells #[.int .u32 y.addr,.int .i64 y.bind,.string y.client,.int .i64 y.till,.int .i64 y.acked,.int .i64 y.told,.int .i64 y.at_,.int .i64 y.ver] 43 (0,0))],[(b1,.cells #[.int .u32 q.addr,.int .i64 q.bind,.string q.client,.int .i64 q.till,.int .i64 q.acked,.int .i64 q.told,.int .i64 q.at_,.int .i64 q.ver] 43 (0,0))],[(tx,.cells #[vm] 99 (0,0))],s7]) Z<|Ze<|?_
   refine Zg<|Zs<|Zr<|Za Z<|Ze<|Zg<|Zu<|Ex.keepTo (H' := [[(tx,.cells #[vm] 99 (0,0))],s7]) [2,2] Z<|?_
   have h9 : Om .u32 vm (mset (Le.mt l) q.addr (Le.agg q)) s7 := hm8
   rw [Le.mt_put hr (by rw [hg]; simp)] at h9
   exact Ex.ret1 rfl rfl  ⟨rfl,by rw [Le.setE_ok h5 hg],_,by rw [Le.setE_ok h5 hg]; exact h9,rfl⟩
  refine Run.alloc xzo43 (lt rfl) (fun b9 => ?_)
  refine Ze<|Zf<|?_
  refine RunD.one (i := 6) WK rfl  ?_
  refine Zv (Y.lookup (r := .tuple #[.agg #[.int .u32 y.addr,.int .i64 y.bind,.string y.client,.int .i64 y.till,.int .i64 y.acked,.int .i64 y.told,.int .i64 y.at_,.int .i64 y.ver],.bool true]) Z Z xmt97 xzo43 hm (j := 3) rfl (by rw [Le.mt_get,hg]; rfl))<|Ze<|Zf<|Zd 7 Z (fun _ => (Y.move rfl))<|Zd 8 Z (fun _ => (Y.extract rfl rfl))<|Zd 9 Z (fun _ => (Y.extract rfl rfl))<|?_
  refine RunD.one (i := 11) WK rfl  ?_
  refine Run.store (s := [(b9,.cells #[.int .u32 y.addr,.int .i64 y.bind,.string y.client,.int .i64 y.till,.int .i64 y.acked,.int .i64 y.told,.int .i64 y.at_,.int .i64 y.ver] 43 (0,0))]) Z Z xsz43 (i := 0) Z Z (le Z) Z Z<|Ze<|Zf<|Zd 12 Z (fun _ => (Y.assign rfl))<|RunD.done WK<|Zg<|Zs<|Zr<|Zm Z<|Zv (Y.not Z)<|Ze<|Zg<|Tr.cond_f Z Z<|Zt<|Zg<|Zs<|?_
  refine Tr.tail 7 xmo WK<|ZM Z<|ZV (Y.nilCheck Z)<|ZV (Y.fieldAddr Z xfo99_0)<|ZV (Y.load Z xts97 (Kn.at 2 Z) Z)<|ZV (Y.fieldAddr Z xfo43_0)<|ZV (Y.load Z xts24 (Kn.at 1 Z) Z)<|ZV (Y.loadAgg Z xag43 (Kn.at 1 Z) Z)<|RunQ.nil_run<|?_
  refine Run.mapUpdate 3 rfl rfl rfl xmt97 hm rfl (fun s10 hm11 => ?_)
  refine Run.heapTo (H' := [[(b9,.cells #[.int .u32 y.addr,.int .i64 y.bind,.string y.client,.int .i64 y.till,.int .i64 y.acked,.int .i64 y.told,.int .i64 y.at_,.int .i64 y.ver] 43 (0,0))],[(b1,.cells #[.int .u32 q.addr,.int .i64 q.bind,.string q.client,.int .i64 q.till,.int .i64 q.acked,.int .i64 q.told,.int .i64 q.at_,.int .i64 q.ver] 43 (0,0))],[(tx,.cells #[vm] 99 (0,0))],s10]) Z ?_
  refine Ze<|Zg<|Zs<|Zr<|Za Z<|Ze<|Zg<|Zu<|Ex.keepTo (H' := [[(tx,.cells #[vm] 99 (0,0))],s10]) [2,2] Z<|?_
  have h9 : Om .u32 vm (mset (Le.mt l) q.addr (Le.agg q)) s10 := hm11
  rw [Le.mt_put hr (by rw [hg]; simp)] at h9
  exact Ex.ret1 rfl rfl  ⟨rfl,by rw [Le.setE_ok h5 hg],_,by rw [Le.setE_ok h5 hg]; exact h9,rfl⟩
 refine Tr.cond_t Z (congrArg Bool.not h5)<|Zs<|Zr<|Za Z<|Ze<|Zg<|Zu<|Zn<|Ex.keepTo (H' := [[(tx,.cells #[vm] 99 (0,0))],sm]) [1,1] Z<|?_
 exact Ex.ret1 rfl rfl  ⟨rfl,by rw [Le.setE_wrong h5],_,by rw [Le.setE_wrong h5]; exact hm,rfl⟩
theorem get_t {V : Vw} {l : List Le} {tx : Nat} {vm : Value} {sm : Sg} (hm : Om .u32 vm (Le.mt l) sm) {a : Int}  : Does Tryz.prog 18 [(pZ tx),.int .u32 a] V [[(tx,.cells #[vm] 99 (0,0))],sm] (Pv (.tuple #[.agg (Le.getE l a).1.cells.toArray,.int .i64 (Le.getE l a).2]) V [[(tx,.cells #[vm] 99 (0,0))],sm]) := by
 refine Does.intro Tryz.func18 rfl rfl (le rfl) (fun B => ?_)
 refine Zs<|Zr<|?_
 refine Run.alloc xzo43 (lt rfl) (fun b1 => ?_)
 refine Za Z<|Ze<|Zg<|Zs<|Zr<|?_
 rcases hg : Le.get l a with _ | y
 ·refine Zm Z<|Zv (Y.nilCheck Z)<|Zv (Y.fieldAddr Z xfo99_0)<|Zv (Y.load Z xts97 (Kn.at 1 Z) Z)<|Zm Z<|Zv (Y.lookup (r := .tuple #[.agg #[.int .u32 0,.int .i64 0,.string ⟨#[]⟩,.int .i64 0,.int .i64 0,.int .i64 0,.int .i64 0,.int .i64 0],.bool false]) Z Z xmt97 xzo43 hm (j := 2) rfl (by rw [Le.mt_get,hg]; rfl))<|Zm Z<|Zv (Y.extract Z Z)<|Zv (Y.extract Z Z)<|?_
  refine Run.alloc xzo43 (lt rfl) (fun b2 => ?_)
  refine Run.store (s := [(b2,.cells #[.int .u32 0,.int .i64 0,.string ⟨#[]⟩,.int .i64 0,.int .i64 0,.int .i64 0,.int .i64 0,.int .i64 0] 43 (0,0))]) Z Z xsz43 (i := 0) Z Z (le Z) Z Z<|Za Z<|Ze<|Zg<|Zs<|Zs<|Zr<|Zm Z<|Zv (Y.not Z)<|Ze<|Zg<|Tr.cond_t Z Z<|Zs<|Zr<|Zv (Y.buildS (l := []) xzo43 xpl43 Z Z)<|Run.store (s := [(b1,.cells #[.int .u32 0,.int .i64 0,.string ⟨#[]⟩,.int .i64 0,.int .i64 0,.int .i64 0,.int .i64 0,.int .i64 0] 43 (0,0))]) Z Z xsz43 (i := 1) Z Z (le Z) Z Z<|?_
  refine Za Z<|Ze<|Zg<|Zu<|Zn<|?_
  exact Ex.retCell2 [2,2] rfl rfl rfl xag43 (Kn.at 1 rfl) rfl ⟨by unfold Le.getE; rw [hg]; rfl,rfl,rfl⟩
 refine Zm Z<|Zv (Y.nilCheck Z)<|Zv (Y.fieldAddr Z xfo99_0)<|Zv (Y.load Z xts97 (Kn.at 1 Z) Z)<|Zm Z<|Zv (Y.lookup (r := .tuple #[.agg #[.int .u32 y.addr,.int .i64 y.bind,.string y.client,.int .i64 y.till,.int .i64 y.acked,.int .i64 y.told,.int .i64 y.at_,.int .i64 y.ver],.bool true]) Z Z xmt97 xzo43 hm (j := 2) rfl (by rw [Le.mt_get,hg]; rfl))<|Zm Z<|Zv (Y.extract Z Z)<|Zv (Y.extract Z Z)<|?_
 refine Run.alloc xzo43 (lt rfl) (fun b3 => ?_)
 refine Run.store (s := [(b3,.cells #[.int .u32 y.addr,.int .i64 y.bind,.string y.client,.int .i64 y.till,.int .i64 y.acked,.int .i64 y.told,.int .i64 y.at_,.int .i64 y.ver] 43 (0,0))]) Z Z xsz43 (i := 0) Z Z (le Z) Z Z<|Za Z<|Ze<|Zg<|Zs<|Zs<|Zr<|Zm Z<|Zv (Y.not Z)<|Ze<|Zg<|Tr.cond_f Z Z<|Zt<|Zg<|Zs<|Zr<|?_
 refine Zv (Y.loadAgg Z xag43 (Kn.at 0 Z) Z)<|Run.store (s := [(b1,.cells #[.int .u32 y.addr,.int .i64 y.bind,.string y.client,.int .i64 y.till,.int .i64 y.acked,.int .i64 y.told,.int .i64 y.at_,.int .i64 y.ver] 43 (0,0))]) Z Z xsz43 (i := 1) Z Z (le Z) Z Z<|Za Z<|Ze<|Zg<|Zu<|?_
 exact Ex.retCell2 [2,2] rfl rfl rfl xag43 (Kn.at 1 rfl) rfl ⟨by unfold Le.getE; rw [hg]; rfl,rfl,rfl⟩
theorem new_t {V : Vw} {rs : List Rg} {p : Option Addr} {c : Nat} (hv : Rd V [] 2 (.slice p rs.length c) rs.length (rs.flatMap Rg.cells)) (hlm : rs.length <= 1000) (hok : Rg.Oks rs)  : Does Tryz.prog 28 [.slice p rs.length c] V [] (fun v V' H' => V.le V' /\ ((Rg.pool rs).2 ≠ 0 /\ v = .tuple #[.pointer none,.int .i64 (Rg.pool rs).2] /\ H' = [] \/ (Rg.pool rs).2 = 0 /\ ∃ tx s,v = .tuple #[(pZ tx),.int .i64 0] /\ Le.In 99 (Le.new (Rg.adr (Rg.pool rs).1)) tx s /\ H' = [s])) := by
 refine Does.intro Tryz.func28 rfl rfl (le rfl) (fun B => ?_)
 refine Zs<|Zr<|Za Z<|Za Z<|Ze<|Zg<|Zs<|Zr<|Zm Z<|?_
 refine Yk [] Z Z Z (pool_h hv hlm hok) (fun v3 V3 H3 hle3 hR => ?_)
 obtain ⟨hle3b,rfl,w3,rfl,hp3⟩ := hR
 obtain ⟨pp,pc,rfl,_⟩ := hp3.form
 have hpl := Rg.pool_len rs
 have hpo := Rg.pool_oks hok
 refine Run.heapTo (H' := []) Z<|Run.heapTo (H' := []) Z<|Zm Z<|Zv (Y.extract Z Z)<|Zv (Y.extract Z Z)<|Za Z<|Za Z<|Ze<|Zg<|Zs<|Zs<|Zr<|Zm Z<|Zv (Y.int Z Z Z)<|Ze<|Zg<|?_
 refine Zq (((Rg.pool rs).2) != 0) (fun h1 g1 => ?_) fun h1 g1 => ?_
 ·refine Tr.cond_t Z h1<|Zs<|Zr<|Zm Z<|Za Z<|Za Z<|Ze<|Zg<|Zu<|Zn<|Ex.keep []<|?_
  exact Ex.ret2 rfl rfl rfl  ⟨hle3b,.inl ⟨by omega,rfl,rfl⟩⟩
 refine Tr.cond_f Z h1<|Zt<|Zg<|Zs<|Zr<|?_
 refine Run.makeMap .u32 (lt rfl) (fun v2 s3 hm4 => ?_)
 obtain ⟨b5,rfl⟩ := hm4.form
 refine Zv (Y.buildS (l := [(0,.tmp 18)]) xzo99 xpl99 Z Z) ?_
 refine Run.box rfl (lt rfl) (fun b6 => ?_)
 refine Za Z<|Ze<|Zg<|Zs<|Zs<|Zr<|Run.keepTo (H' := [[(b6,.cells #[.map (some b5)] 99 (0,0))],s3]) [0,0] Z<|Zm Z<|?_
 have hp0 : (Rg.pool rs).2 = 0 := by omega
 obtain ⟨hcan,hcnt⟩ := Rg.pool_can hp0
 have hup := Rg.adr_up hcan
 have hce := Rg.cnt_adr hcan.1
 have hc256 : (Rg.adr (Rg.pool rs).1).length <= 256 := by omega
 refine Yc Z Z Z (count_h hp3.of_nil W hpo)<|Run.heapTo (H' := [[(b6,.cells #[.map (some b5)] 99 (0,0))],s3]) Z<|Zm Z<|Ze<|Zg<|Zb<|?_
 refine ZL (X := Nat × Sg) (fun z0 => V3) (fun z0 => [[(b6,.cells #[.map (some b5)] 99 (0,0))],z0.2]) (fun z0 => [(4,.slice pp (Rg.pool rs).1.length pc),(6,(pZ b6)),(22,.int .i64 (Rg.cnt (Rg.pool rs).1)),(23,.int .i64 (z0.1 : Int))]) (fun z0 => Om .u32 (.map (some b5)) (Le.mt (Le.new ((Rg.adr (Rg.pool rs).1).take z0.1))) z0.2 /\ z0.1 <= (Rg.adr (Rg.pool rs).1).length) (fun z0 => (Rg.adr (Rg.pool rs).1).length - z0.1) (⟨0,s3⟩ : Nat × Sg) ⟨hm4,Nat.zero_le _⟩ ?_
 rintro ⟨i1,s1⟩ ⟨hm1,hi⟩
 try dsimp only at hm1 hi ⊢
 refine Zs<|Zr<|Zv (Y.int Z Z Z)<|Ze<|Zg<|Zs<|?_
 refine Zq (decide ((i1 : Int) < (Rg.cnt (Rg.pool rs).1))) (fun h7 g7 => ?_) fun h7 g7 => ?_
 ·refine Tr.cond_t Z h7<|Zt<|Zg<|Zs<|Zb<|Zs<|Zr<|Zm Z<|Za Z<|Ze<|Zg<|Zs<|Zr<|Zm Z<|Zm Z<|Yc Z Z Z (at_h (n := (i1 : Int)) hp3 W hpo)<|?_
  refine Zm Z<|Zv (Y.extract Z Z)<|Zv (Y.extract Z Z)<|Za Z<|Za Z<|Ze<|Zg<|Tr.tail 7 xmo WK<|?_
  have hat := Rg.at_in2 (i := i1) (show i1 < (Rg.adr (Rg.pool rs).1).length by omega)
  rw [hat]
  refine ZM Z<|ZV (Y.nilCheck Z)<|ZV (Y.fieldAddr Z xfo99_0)<|ZV (Y.load Z xts97 (Kn.at 0 Z) Z)<|ZM Z<|ZM Z<|YC Z Z Z bare_c_h<|RunQ.nil_run<|?_
  refine Run.mapUpdate 1 rfl rfl rfl xmt97 hm1 rfl (fun s8 hm9 => ?_)
  refine Run.heapTo (H' := [[(b6,.cells #[.map (some b5)] 99 (0,0))],s8]) Z<|Ze<|Zc<|Zg<|Zr<|Zv (Y.add Z Z W)<|Zm Z<|Ze<|?_
  have h9 : Om .u32 (.map (some b5)) (mset (Le.mt (Le.new ((Rg.adr (Rg.pool rs).1).take i1))) ((Rg.adr (Rg.pool rs).1).getD i1 0) (Le.agg (Le.bare ((Rg.adr (Rg.pool rs).1).getD i1 0) 0 0))) s8 := hm9
  rw [Le.new_set hup W] at h9
  refine Ex.keep [0,0] ?_
  exact ZR (⟨i1 + 1,s8⟩ : Nat × Sg) ⟨h9,by omega⟩ (by dsimp only; omega)
 refine Tr.cond_f Z h7<|Zx<|Zy<|Zy<|Zi<|Zg<|Zs<|Zr<|Zm Z<|Za Z<|Za Z<|Ze<|Zg<|Zu<|?_
 obtain rfl : i1 = (Rg.adr (Rg.pool rs).1).length := by omega
 rw [List.take_length] at hm1
 refine Ex.keepTo (H' := [[(b6,.cells #[.map (some b5)] 99 (0,0))],s1]) [0,0] Z<|Ex.recut (H' := [([[(b6,.cells #[.map (some b5)] 99 (0,0))],s1] : Hp).flatten]) (one_piece _)<|?_
 exact Ex.ret2 rfl rfl rfl  ⟨hle3b,.inr ⟨hp0,b6,_,rfl,⟨Le.new_ris hup,by rw [Le.new_len]; exact hc256,_,_,hm1,rfl⟩,rfl⟩⟩
end Go.Proofs.YtfgblingojgafaaGreat
namespace Go.Proofs.YtfgblingojgafaaGreat
open Go Go.K
attribute [local irreducible] Code.wp wpList Calls wpQuiet
theorem set_o {V : Vw} {l : List Le} {tx : Nat} {s : Sg} (hin : Le.In 99 l tx s) {q : Le} (hs : q.client.size <= 9223372036854775807) : Does Tryz.prog 30 [(pZ tx),.agg q.cells.toArray] V [s] (fun v V' H' => V' = V /\ v = .int .i64 (Le.setE l q).1 /\ ∃ s2,Le.In 99 (Le.setE l q).2 tx s2 /\ H' = [s2]) := by
  obtain ⟨hr,hlm,vm,sm,hm,rfl⟩ := hin
  exact (set_t hm hr hs).one.outcut fun v V' H' ⟨hV,hv,s2,h2,hH⟩ => ⟨[H'.flatten],one_piece H',hV,hv,_,⟨Le.setE_ris hr q,by rw [Le.setE_len]; exact hlm,_,s2,h2,by rw [hH]⟩,rfl⟩
theorem get_o {V : Vw} {l : List Le} {tx : Nat} {s : Sg} (hin : Le.In 99 l tx s) {a : Int} : Does Tryz.prog 18 [(pZ tx),.int .u32 a] V [s] (Pv (.tuple #[.agg (Le.getE l a).1.cells.toArray,.int .i64 (Le.getE l a).2]) V [s]) := by
  obtain ⟨hr,hlm,vm,sm,hm,rfl⟩ := hin
  exact (get_t hm).one.outcut fun v V' H' ⟨hv,hV,hH⟩ => ⟨_,by rw [hH]; exact one_piece _,hv,hV,rfl⟩
theorem all_o {V : Vw} {l : List Le} {tx : Nat} {s : Sg} (hin : Le.In 99 l tx s) : Does Tryz.prog 146 [(pZ tx)] V [s] (fun v V' H' => V' = V /\ ∃ q,Ow 43 8 v (l).length ((l).flatMap Le.cells) q /\ H' = [q,s]) := by
  obtain ⟨hr,hlm,vm,sm,hm,rfl⟩ := hin
  obtain ⟨bm,es,clock,rfl,rfl,hmi⟩ := hm
  exact ((tall_c hmi hr hlm).one.outcut (R' := fun v V' H' => ∃ q,_ /\ H' = [q,_]) fun v V' H' ⟨hV,q,hO,hH⟩ => ⟨[q,_],by rw [hH]; exact two_piece q _,q,hO,rfl⟩).forget fun v V' H' _ h => ⟨rfl,h⟩
end Go.Proofs.YtfgblingojgafaaGreat
