/- The library's sort by a comparison, at ranges, walked: its second half.
Conditions: as each theorem names them. -/
import Derived.Test.YtfgblingojgafaaGreatSortnum
import Derived.Test.YtfgblingojgafaaGreatProg
import Derived.Test.YtfgblingojgafaaGreatKI
import Derived.Test.YtfgblingojgafaaGreatFA
import Derived.Test.YtfgblingojgafaaGreatTA
set_option linter.unusedSimpArgs false
set_option linter.unusedVariables false
set_option maxRecDepth 4000
namespace Go.Proofs.YtfgblingojgafaaGreat
open Go Go.K
attribute [local irreducible] Code.wp wpList Calls wpQuiet
open Go.Sort
theorem pins_r {V : Vw} {n c b : Nat} {rest : List Value} {d0 : Array Rg} {gf : FuncId} {caps : List Value} {cm : Rg -> Rg -> Int} {x y : Nat}  (hN : n <= 1073741824) (hd : d0.size = n) (hx : x < y) (hy : y <= n)  (hcmp : ∀ x y : Rg,Does Tryz.prog gf (.agg (Rg.cells x).toArray :: .agg (Rg.cells y).toArray :: caps) V [] (Pv (.int .i64 (cm x y)) V [])) (hswo : SWO (ltc cm))  : Does Tryz.prog 193 [.slice (some ⟨b,0,none⟩) n c,.int .i64 ((x : Nat) : Int),.int .i64 ((y : Nat) : Int),.func (.func gf) #[] caps.toArray] V [sgD Rg.cells 66 b rest d0] (fun v V' H' => V' = V /\ v = .bool (partialInsertionSort (ltc cm) d0 x y).2 /\ H' = [sgD Rg.cells 66 b rest ((partialInsertionSort (ltc cm) d0 x y).1)]) := by
 refine Does.intro Tryz.func193 rfl rfl (le rfl) (fun B => ?_)
 refine Zs<|Zr<|Za Z<|Ze<|Zg<|Zs<|Zr<|Zm Z<|Zv (Y.addN ((x + 1 : Nat) : Int) rfl rfl W W)<|Za Z<|Ze<|Zg<|Zs<|Zs<|Zr<|Za Z<|?_
 refine Ze<|Zg<|Zb<|?_
 refine ZL (X := Nat × Nat × Array Rg) (fun z0 => V) (fun z0 => [sgD Rg.cells 66 b rest z0.2.2]) (fun z0 => [(0,.slice (some ⟨b,0,none⟩) n c),(1,.int .i64 ((x : Nat) : Int)),(2,.int .i64 ((y : Nat) : Int)),(3,.func (.func gf) #[] caps.toArray),(8,.bool false),(9,.int .i64 ((z0.2.1 : Nat) : Int)),(10,.int .i64 ((z0.1 : Nat) : Int))]) (fun z0 => partialIns (ltc cm) x y (5 - z0.1) z0.2.1 z0.2.2 = partialInsertionSort (ltc cm) d0 x y /\ z0.2.2.size = n /\ x < z0.2.1 /\ z0.2.1 <= y /\ z0.1 <= 5) (fun z0 => 5 - z0.1) (⟨0,x + 1,d0⟩ : Nat × Nat × Array Rg) ⟨rfl,hd,by (try dsimp only); omega,by (try dsimp only); omega,by (try dsimp only); omega⟩ ?_
 rintro ⟨s,i,d⟩ ⟨r1,r2,r3,r4,r5⟩
 try dsimp only at r1 r2 r3 r4 r5 ⊢
 refine Zs<|Zs<|Zr<|Zm Z<|Zv (Y.int Z Z Z)<|Ze<|Zg<|?_
 refine Zq (decide (((s : Nat) : Int) < 5)) (fun h1 g1 => ?_) fun h1 g1 => ?_
 ·refine Tr.cond_t Z h1<|Zt<|Zg<|Zs<|Zb<|?_
  refine Tr.cutx (X := Nat) (fun i2 => V) (fun i2 => [sgD Rg.cells 66 b rest d]) (fun i2 => [(0,.slice (some ⟨b,0,none⟩) n c),(1,.int .i64 ((x : Nat) : Int)),(2,.int .i64 ((y : Nat) : Int)),(3,.func (.func gf) #[] caps.toArray),(8,.bool false),(9,.int .i64 ((i2 : Nat) : Int)),(10,.int .i64 ((s : Nat) : Int))]) (fun i2 => scanSorted (ltc cm) d y i = i2 /\ i <= i2 /\ i2 <= y) ?_ ?_
  ·refine Zb ?_
   refine ZL (X := Nat) (fun z0 => V) (fun z0 => [sgD Rg.cells 66 b rest d]) (fun z0 => [(0,.slice (some ⟨b,0,none⟩) n c),(1,.int .i64 ((x : Nat) : Int)),(2,.int .i64 ((y : Nat) : Int)),(3,.func (.func gf) #[] caps.toArray),(8,.bool false),(9,.int .i64 ((z0 : Nat) : Int)),(10,.int .i64 ((s : Nat) : Int))]) (fun z0 => scanSorted (ltc cm) d y z0 = scanSorted (ltc cm) d y i /\ i <= z0 /\ z0 <= y) (fun z0 => y - z0) (i : Nat) ⟨rfl,Nat.le_refl _,by omega⟩ ?_
   rintro u ⟨m1,m2,m3⟩
   try dsimp only at m1 m2 m3 ⊢
   refine Zs<|Zs<|Tr.quiet xmo WK<|ZM Z<|ZM Z<|ZV (Y.int Z Z Z)<|ZM Z<|?_
   refine Zq (decide (((u : Nat) : Int) < ((y : Nat) : Int))) (fun h2 g2 => ?_) fun h2 g2 => ?_
   ·refine ZP h2<|ZM Z<|ZP h2<|ZM Z<|ZP h2<|ZM Z<|ZP h2<|ZV (Y.idxN u Z Z xes33 W W)<|ZP h2<|ZV (Y.ldA (enc := Rg.cells) (d := d) (rest := rest) (e := 66) (i := u) Z xag66 (Kn.at 0 rfl) Rg.enc WB rfl)<|ZP h2<|ZM Z<|ZP h2<|ZM Z<|ZP h2<|ZV (Y.subN ((u - 1 : Nat) : Int) rfl rfl W W)<|?_
    refine ZP h2<|ZV (Y.idxN (u - 1) rfl rfl xes33 W W)<|ZP h2<|ZV (Y.ldA (enc := Rg.cells) (d := d) (rest := rest) (e := 66) (i := (u - 1)) rfl xag66 (Kn.at 0 rfl) Rg.enc WB rfl)<|ZP h2<|YC Z Z Z ((hcmp (d[u]!) (d[u - 1]!)).frame)<|ZP h2<|ZV (Y.int Z Z Z)<|ZP h2<|ZV (Y.not Z)<|ZV (Y.pick_t Z h2 Z)<|ZE<|Zg<|?_
    refine Zq (decide ((cm (d[u]!) (d[u - 1]!)) < 0)) (fun h3 g3 => ?_) fun h3 g3 => ?_
    ·refine Tr.cond_f Z (congrArg Bool.not h3)<|Zx<|Zy<|Zy<|Zi<|?_
     exact ZX u ⟨m1.symm.trans (scanSorted_stop (by first | (left; omega) | (right; assumption))),m2,m3⟩
    refine Tr.cond_t Z (congrArg Bool.not h3)<|Zt<|Zg<|Zb<|Zr<|Zm Z<|Zv (Y.addN ((u + 1 : Nat) : Int) rfl rfl W W)<|Za Z<|Ze<|Zc<|?_
    exact ZR (u + 1 : Nat) ⟨(scanSorted_go W (by assumption)).trans m1,by omega,by omega⟩ W
   refine ZO h2 Z<|ZO h2 Z<|ZO h2 Z<|ZO h2 Z<|ZO h2 Z<|ZO h2 Z<|ZO h2 Z<|ZO h2 Z<|ZO h2 Z<|ZO h2 Z<|ZO h2 Z<|ZO h2 Z<|ZO h2 Z<|ZV (Y.pick_f Z h2 Z)<|ZE<|Zg<|?_
   refine Tr.cond_f Z Z<|Zx<|Zy<|Zy<|Zi<|?_
   exact ZX u ⟨m1.symm.trans (scanSorted_stop (by first | (left; omega) | (right; assumption))),m2,m3⟩
  rintro i2 ⟨f1,f2,f3⟩
  refine Zs<|Zs<|Zr<|Zm Z<|Zm Z<|Zv (Y.int Z Z Z)<|Ze<|Zg<|?_
  refine Zq (((i2 : Nat) : Int) == ((y : Nat) : Int)) (fun h4 g4 => ?_) fun h4 g4 => ?_
  ·refine Tr.cond_t Z h4<|Zs<|Zr<|Za Z<|Ze<|Zg<|Zu<|Zn<|Zk<|Zn<|Zn<|Zk<|Zn<|Ex.keep [0]<|?_
   exact Ex.ret1 rfl rfl  ⟨rfl,by rw [<- r1]; first | rw [pins_end W] | rw [pins_done W f1 W] | rw [pins_short W f1 W W],by rw [<- r1]; (first | rw [pins_end W] | rw [pins_done W f1 W] | rw [pins_short W f1 W W]); rfl⟩
  refine Tr.cond_f Z h4<|Zt<|Zg<|Zs<|Zs<|Zr<|Zm Z<|Zm Z<|Zv (Y.subN ((y - x : Nat) : Int) rfl rfl W W)<|Zv (Y.int Z Z Z)<|Ze<|Zg<|?_
  refine Zq (decide (((y - x : Nat) : Int) < 50)) (fun h5 g5 => ?_) fun h5 g5 => ?_
  ·refine Tr.cond_t Z h5<|Zs<|Zr<|Za Z<|Ze<|Zg<|Zu<|Zn<|Zk<|Zn<|Zn<|Zk<|Zn<|Ex.keep [0]<|?_
   exact Ex.ret1 rfl rfl  ⟨rfl,by rw [<- r1]; first | rw [pins_end W] | rw [pins_done W f1 W] | rw [pins_short W f1 W W],by rw [<- r1]; (first | rw [pins_end W] | rw [pins_done W f1 W] | rw [pins_short W f1 W W]); rfl⟩
  refine Tr.cond_f Z h5<|Zt<|Zg<|Zs<|Tr.anyT [(b,.cells (cel Rg.cells d rest).toArray 66 (0,0))] 15 xmo<|Zwm 0 Z Z (ZK 0 Z)<|Zwm 1 Z Z (ZK 0 Z)<|Zwm 2 Z Z (ZK 0 Z)<|Zwm 3 Z Z (ZK 0 Z)<|Zw 4 Z (ZK 0 Z) (fun _ => (Y.subN ((i2 - 1 : Nat) : Int) rfl rfl W W))<|Zwm 5 Z Z (ZK 0 Z)<|Zwm 6 Z Z (ZK 0 Z)<|Zw 7 Z (ZK 0 Z) (fun _ => (Y.subN ((i2 - 1 : Nat) : Int) rfl rfl W W))<|Zw 8 Z (ZK 0 Z) (fun _ => (Y.idxN (i2 - 1) rfl rfl xes33 W W))<|?_
  refine ZT 9 0 Z Z (ZK 0 Z) (fun _ => (Y.ldA (enc := Rg.cells) (d := d) (rest := rest) (e := 66) (i := (i2 - 1)) rfl xag66 Kn.vk1 Rg.enc WB rfl))<|Zwm 10 Z Z (ZK 0 Z)<|Zwm 11 Z Z (ZK 0 Z)<|Zw 12 Z (ZK 0 Z) (fun _ => (Y.idxN i2 rfl rfl xes33 W W))<|ZT 13 0 Z Z (ZK 0 Z) (fun _ => (Y.ldA (enc := Rg.cells) (d := d) (rest := rest) (e := 66) (i := i2) rfl xag66 Kn.vk1 Rg.enc WB rfl))<|?_
  refine Zw 14 Z (ZK 0 Z) (fun _ => (Y.idxN i2 rfl rfl xes33 W W)) ?_
  refine RunT.one (i := 15) WK rfl  ?_
  refine Run.stD (enc := Rg.cells) (d := d) (rest := rest) (e := 66) (i := i2) (s := 0) (d[i2 - 1]!) rfl rfl xsz66 rfl Rg.enc WB rfl<|Ze<|Zz 15<|?_
  refine RunT.one (i := 16) WK rfl  ?_
  refine Zv (Y.idxN (i2 - 1) rfl rfl xes33 W W)<|Ze<|Zz 16<|?_
  refine RunT.one (i := 17) WK rfl  ?_
  refine Run.stD (enc := Rg.cells) (d := (d).setIfInBounds i2 (d[i2 - 1]!)) (rest := rest) (e := 66) (i := (i2 - 1)) (s := 0) (d[i2]!) rfl rfl xsz66 rfl Rg.enc WB rfl<|Run.heapTo (H' := [sgD Rg.cells 66 b rest (swp d i2 (i2 - 1))]) Z<|Ze<|Zz 17<|RunT.done WK<|Zg<|?_
  refine Tr.cutx (X := Array Rg) (fun d2 => V) (fun d2 => [sgD Rg.cells 66 b rest d2]) (fun d2 => [(0,.slice (some ⟨b,0,none⟩) n c),(1,.int .i64 ((x : Nat) : Int)),(2,.int .i64 ((y : Nat) : Int)),(3,.func (.func gf) #[] caps.toArray),(8,.bool false),(9,.int .i64 ((i2 : Nat) : Int)),(10,.int .i64 ((s : Nat) : Int))]) (fun d2 => fixDown (ltc cm) x i2 (swp d i2 (i2 - 1)) = d2 /\ d2.size = n) ?_ ?_
  ·refine Zs<|Zr<|Zm Z<|Zm Z<|Zv (Y.subN ((i2 - x : Nat) : Int) rfl rfl W W)<|Zv (Y.int Z Z Z)<|Ze<|Zg<|?_
   refine Zq (decide (((i2 - x : Nat) : Int) >= 2)) (fun h6 g6 => ?_) fun h6 g6 => ?_
   ·refine Tr.cond_t Z h6<|Zs<|Zr<|Zm Z<|Zv (Y.subN ((i2 - 1 : Nat) : Int) rfl rfl W W)<|Za Z<|Ze<|Zg<|Zb<|?_
    refine ZL (X := Nat × Array Rg) (fun z0 => V) (fun z0 => [sgD Rg.cells 66 b rest z0.2]) (fun z0 => [(0,.slice (some ⟨b,0,none⟩) n c),(1,.int .i64 ((x : Nat) : Int)),(2,.int .i64 ((y : Nat) : Int)),(3,.func (.func gf) #[] caps.toArray),(8,.bool false),(9,.int .i64 ((i2 : Nat) : Int)),(10,.int .i64 ((s : Nat) : Int)),(11,.int .i64 ((z0.1 : Nat) : Int))]) (fun z0 => shiftDown (ltc cm) z0.1 z0.2 = shiftDown (ltc cm) (i2 - 1) (swp d i2 (i2 - 1)) /\ z0.2.size = n /\ z0.1 < i2) (fun z0 => z0.1) (⟨i2 - 1,swp d i2 (i2 - 1)⟩ : Nat × Array Rg) ⟨rfl,by simp only [swp_size]; exact r2,by (try dsimp only); omega⟩ ?_
    rintro ⟨j,f⟩ ⟨k1,k2,k3⟩
    try dsimp only at k1 k2 k3 ⊢
    refine Zs<|Zs<|Zr<|Zm Z<|Zv (Y.int Z Z Z)<|Ze<|Zg<|?_
    refine Zq (decide (((j : Nat) : Int) >= 1)) (fun h7 g7 => ?_) fun h7 g7 => ?_
    ·refine Tr.cond_t Z h7<|Zt<|Zg<|Zs<|Zb<|Zs<|Zs<|Tr.quiet xmo WK<|ZM Z<|ZM Z<|ZM Z<|ZV (Y.idxN j Z Z xes33 W W)<|ZV (Y.ldA (enc := Rg.cells) (d := f) (rest := rest) (e := 66) (i := j) Z xag66 (Kn.at 0 rfl) Rg.enc WB rfl)<|ZM Z<|ZM Z<|ZV (Y.subN ((j - 1 : Nat) : Int) rfl rfl W W)<|?_
     refine ZV (Y.idxN (j - 1) rfl rfl xes33 W W)<|ZV (Y.ldA (enc := Rg.cells) (d := f) (rest := rest) (e := 66) (i := (j - 1)) rfl xag66 (Kn.at 0 rfl) Rg.enc WB rfl)<|YC Z Z Z ((hcmp (f[j]!) (f[j - 1]!)).frame)<|ZV (Y.int Z Z Z)<|ZV (Y.not Z)<|ZE<|Zg<|?_
     refine Zq (decide ((cm (f[j]!) (f[j - 1]!)) < 0)) (fun h8 g8 => ?_) fun h8 g8 => ?_
     ·refine Tr.cond_f Z (congrArg Bool.not h8)<|Zt<|Zg<|Tr.anyT [(b,.cells (cel Rg.cells f rest).toArray 66 (0,0))] 15 xmo<|Zwm 0 Z Z (ZK 0 Z)<|Zwm 1 Z Z (ZK 0 Z)<|Zwm 2 Z Z (ZK 0 Z)<|Zwm 3 Z Z (ZK 0 Z)<|Zw 4 Z (ZK 0 Z) (fun _ => (Y.subN ((j - 1 : Nat) : Int) rfl rfl W W))<|Zwm 5 Z Z (ZK 0 Z)<|Zwm 6 Z Z (ZK 0 Z)<|Zw 7 Z (ZK 0 Z) (fun _ => (Y.subN ((j - 1 : Nat) : Int) rfl rfl W W))<|Zw 8 Z (ZK 0 Z) (fun _ => (Y.idxN (j - 1) rfl rfl xes33 W W))<|?_
      refine ZT 9 0 Z Z (ZK 0 Z) (fun _ => (Y.ldA (enc := Rg.cells) (d := f) (rest := rest) (e := 66) (i := (j - 1)) rfl xag66 Kn.vk1 Rg.enc WB rfl))<|Zwm 10 Z Z (ZK 0 Z)<|Zwm 11 Z Z (ZK 0 Z)<|Zw 12 Z (ZK 0 Z) (fun _ => (Y.idxN j rfl rfl xes33 W W))<|ZT 13 0 Z Z (ZK 0 Z) (fun _ => (Y.ldA (enc := Rg.cells) (d := f) (rest := rest) (e := 66) (i := j) rfl xag66 Kn.vk1 Rg.enc WB rfl))<|?_
      refine Zw 14 Z (ZK 0 Z) (fun _ => (Y.idxN j rfl rfl xes33 W W)) ?_
      refine RunT.one (i := 15) WK rfl  ?_
      refine Run.stD (enc := Rg.cells) (d := f) (rest := rest) (e := 66) (i := j) (s := 0) (f[j - 1]!) rfl rfl xsz66 rfl Rg.enc WB rfl<|Ze<|Zz 15<|?_
      refine RunT.one (i := 16) WK rfl  ?_
      refine Zv (Y.idxN (j - 1) rfl rfl xes33 W W)<|Ze<|Zz 16<|?_
      refine RunT.one (i := 17) WK rfl  ?_
      refine Run.stD (enc := Rg.cells) (d := (f).setIfInBounds j (f[j - 1]!)) (rest := rest) (e := 66) (i := (j - 1)) (s := 0) (f[j]!) rfl rfl xsz66 rfl Rg.enc WB rfl<|Run.heapTo (H' := [sgD Rg.cells 66 b rest (swp f j (j - 1))]) Z<|Ze<|Zz 17<|RunT.done WK<|Zc<|Zg<|Zr<|Zm Z<|Zv (Y.subN ((j - 1 : Nat) : Int) rfl rfl W W)<|?_
      refine Za Z<|Ze<|?_
      exact ZR (⟨j - 1,swp f j (j - 1)⟩ : Nat × Array Rg) ⟨(shiftDown_go W (by assumption)).trans k1,by simp only [swp_size]; exact k2,by (try dsimp only); omega⟩ (by dsimp only; omega)
     refine Tr.cond_t Z (congrArg Bool.not h8)<|Zx<|Zy<|Ex.exit_out Z<|Zy<|Zy<|Zi<|?_
     exact ZX f ⟨by unfold fixDown; first | rw [if_neg W] | (rw [if_pos W,<- k1,shiftDown_stop (by first | (left; omega) | (right; assumption))]),by first | assumption | (simp only [swp_size]; assumption)⟩
    refine Tr.cond_f Z h7<|Zx<|Zy<|Zy<|Zi<|?_
    exact ZX f ⟨by unfold fixDown; first | rw [if_neg W] | (rw [if_pos W,<- k1,shiftDown_stop (by first | (left; omega) | (right; assumption))]),by first | assumption | (simp only [swp_size]; assumption)⟩
   refine Tr.cond_f Z h6<|Zt<|?_
   exact ZX (swp d i2 (i2 - 1)) ⟨by unfold fixDown; first | rw [if_neg W] | (rw [if_pos W,<- k1,shiftDown_stop (by first | (left; omega) | (right; assumption))]),by first | assumption | (simp only [swp_size]; assumption)⟩
  rintro d2 ⟨c1,c2⟩
  refine Zs<|Zr<|Zm Z<|Zm Z<|Zv (Y.subN ((y - i2 : Nat) : Int) rfl rfl W W)<|Zv (Y.int Z Z Z)<|Ze<|Zg<|?_
  refine Zq (decide (((y - i2 : Nat) : Int) >= 2)) (fun h9 g9 => ?_) fun h9 g9 => ?_
  ·refine Tr.cond_t Z h9<|Zs<|Zr<|Zm Z<|Zv (Y.addN ((i2 + 1 : Nat) : Int) rfl rfl W W)<|Za Z<|Ze<|Zg<|Zb<|?_
   refine ZL (X := Nat × Array Rg) (fun z0 => V) (fun z0 => [sgD Rg.cells 66 b rest z0.2]) (fun z0 => [(0,.slice (some ⟨b,0,none⟩) n c),(1,.int .i64 ((x : Nat) : Int)),(2,.int .i64 ((y : Nat) : Int)),(3,.func (.func gf) #[] caps.toArray),(8,.bool false),(9,.int .i64 ((i2 : Nat) : Int)),(10,.int .i64 ((s : Nat) : Int)),(12,.int .i64 ((z0.1 : Nat) : Int))]) (fun z0 => shiftUp (ltc cm) y z0.1 z0.2 = shiftUp (ltc cm) y (i2 + 1) d2 /\ z0.2.size = n /\ i2 < z0.1) (fun z0 => y - z0.1) (⟨i2 + 1,d2⟩ : Nat × Array Rg) ⟨rfl,c2,by (try dsimp only); omega⟩ ?_
   rintro ⟨j,f⟩ ⟨u1,u2,u3⟩
   try dsimp only at u1 u2 u3 ⊢
   refine Zs<|Zs<|Zr<|Zm Z<|Zm Z<|Zv (Y.int Z Z Z)<|Ze<|Zg<|?_
   refine Zq (decide (((j : Nat) : Int) < ((y : Nat) : Int))) (fun h10 g10 => ?_) fun h10 g10 => ?_
   ·refine Tr.cond_t Z h10<|Zt<|Zg<|Zs<|Zb<|Zs<|Zs<|Tr.quiet xmo WK<|ZM Z<|ZM Z<|ZM Z<|ZV (Y.idxN j Z Z xes33 W W)<|ZV (Y.ldA (enc := Rg.cells) (d := f) (rest := rest) (e := 66) (i := j) Z xag66 (Kn.at 0 rfl) Rg.enc WB rfl)<|ZM Z<|ZM Z<|ZV (Y.subN ((j - 1 : Nat) : Int) rfl rfl W W)<|?_
    refine ZV (Y.idxN (j - 1) rfl rfl xes33 W W)<|ZV (Y.ldA (enc := Rg.cells) (d := f) (rest := rest) (e := 66) (i := (j - 1)) rfl xag66 (Kn.at 0 rfl) Rg.enc WB rfl)<|YC Z Z Z ((hcmp (f[j]!) (f[j - 1]!)).frame)<|ZV (Y.int Z Z Z)<|ZV (Y.not Z)<|ZE<|Zg<|?_
    refine Zq (decide ((cm (f[j]!) (f[j - 1]!)) < 0)) (fun h11 g11 => ?_) fun h11 g11 => ?_
    ·refine Tr.cond_f Z (congrArg Bool.not h11)<|Zt<|Zg<|Tr.anyT [(b,.cells (cel Rg.cells f rest).toArray 66 (0,0))] 15 xmo<|Zwm 0 Z Z (ZK 0 Z)<|Zwm 1 Z Z (ZK 0 Z)<|Zwm 2 Z Z (ZK 0 Z)<|Zwm 3 Z Z (ZK 0 Z)<|Zw 4 Z (ZK 0 Z) (fun _ => (Y.subN ((j - 1 : Nat) : Int) rfl rfl W W))<|Zwm 5 Z Z (ZK 0 Z)<|Zwm 6 Z Z (ZK 0 Z)<|Zw 7 Z (ZK 0 Z) (fun _ => (Y.subN ((j - 1 : Nat) : Int) rfl rfl W W))<|Zw 8 Z (ZK 0 Z) (fun _ => (Y.idxN (j - 1) rfl rfl xes33 W W))<|?_
     refine ZT 9 0 Z Z (ZK 0 Z) (fun _ => (Y.ldA (enc := Rg.cells) (d := f) (rest := rest) (e := 66) (i := (j - 1)) rfl xag66 Kn.vk1 Rg.enc WB rfl))<|Zwm 10 Z Z (ZK 0 Z)<|Zwm 11 Z Z (ZK 0 Z)<|Zw 12 Z (ZK 0 Z) (fun _ => (Y.idxN j rfl rfl xes33 W W))<|ZT 13 0 Z Z (ZK 0 Z) (fun _ => (Y.ldA (enc := Rg.cells) (d := f) (rest := rest) (e := 66) (i := j) rfl xag66 Kn.vk1 Rg.enc WB rfl))<|?_
     refine Zw 14 Z (ZK 0 Z) (fun _ => (Y.idxN j rfl rfl xes33 W W)) ?_
     refine RunT.one (i := 15) WK rfl  ?_
     refine Run.stD (enc := Rg.cells) (d := f) (rest := rest) (e := 66) (i := j) (s := 0) (f[j - 1]!) rfl rfl xsz66 rfl Rg.enc WB rfl<|Ze<|Zz 15<|?_
     refine RunT.one (i := 16) WK rfl  ?_
     refine Zv (Y.idxN (j - 1) rfl rfl xes33 W W)<|Ze<|Zz 16<|?_
     refine RunT.one (i := 17) WK rfl  ?_
     refine Run.stD (enc := Rg.cells) (d := (f).setIfInBounds j (f[j - 1]!)) (rest := rest) (e := 66) (i := (j - 1)) (s := 0) (f[j]!) rfl rfl xsz66 rfl Rg.enc WB rfl<|Run.heapTo (H' := [sgD Rg.cells 66 b rest (swp f j (j - 1))]) Z<|Ze<|Zz 17<|RunT.done WK<|Zc<|Zg<|Zr<|Zm Z<|Zv (Y.addN ((j + 1 : Nat) : Int) rfl rfl W W)<|?_
     refine Za Z<|Ze<|?_
     exact ZR (⟨j + 1,swp f j (j - 1)⟩ : Nat × Array Rg) ⟨(shiftUp_go W (by assumption)).trans u1,by simp only [swp_size]; exact u2,by (try dsimp only); omega⟩ (by dsimp only; omega)
    refine Tr.cond_t Z (congrArg Bool.not h11)<|Zx<|Zy<|Ex.exit_out Z<|Zy<|Zy<|Zi<|Zc<|Zg<|Zr<|Zm Z<|Zv (Y.addN ((s + 1 : Nat) : Int) rfl rfl W W)<|Za Z<|Ze<|?_
    exact ZR (⟨s + 1,i2,f⟩ : Nat × Nat × Array Rg) ⟨by dsimp only; rw [<- r1,pins_go W f1 W W,c1]; unfold fixUp; first | rw [if_neg W] | (rw [if_pos W,<- u1,shiftUp_stop (by first | (left; omega) | (right; assumption))]),by assumption,by (try dsimp only); omega,by (try dsimp only); omega,by (try dsimp only); omega⟩ (by dsimp only; omega)
   refine Tr.cond_f Z h10<|Zx<|Zy<|Zy<|Zi<|Zc<|Zg<|Zr<|Zm Z<|Zv (Y.addN ((s + 1 : Nat) : Int) rfl rfl W W)<|Za Z<|Ze<|?_
   exact ZR (⟨s + 1,i2,f⟩ : Nat × Nat × Array Rg) ⟨by dsimp only; rw [<- r1,pins_go W f1 W W,c1]; unfold fixUp; first | rw [if_neg W] | (rw [if_pos W,<- u1,shiftUp_stop (by first | (left; omega) | (right; assumption))]),by assumption,by (try dsimp only); omega,by (try dsimp only); omega,by (try dsimp only); omega⟩ (by dsimp only; omega)
  refine Tr.cond_f Z h9<|Zt<|Zc<|Zg<|Zr<|Zm Z<|Zv (Y.addN ((s + 1 : Nat) : Int) rfl rfl W W)<|Za Z<|Ze<|?_
  exact ZR (⟨s + 1,i2,d2⟩ : Nat × Nat × Array Rg) ⟨by dsimp only; rw [<- r1,pins_go W f1 W W,c1]; unfold fixUp; first | rw [if_neg W] | (rw [if_pos W,<- u1,shiftUp_stop (by first | (left; omega) | (right; assumption))]),by assumption,by (try dsimp only); omega,by (try dsimp only); omega,by (try dsimp only); omega⟩ (by dsimp only; omega)
 refine Tr.cond_f Z h1<|Zx<|Zy<|Zy<|Zi<|Zg<|Zs<|Zr<|Za Z<|Ze<|Zg<|Zu<|Ex.keep [0]<|?_
 exact Ex.ret1 rfl rfl  ⟨rfl,by rw [<- r1]; first | rw [pins_end W] | rw [pins_done W f1 W] | rw [pins_short W f1 W W],by rw [<- r1]; (first | rw [pins_end W] | rw [pins_done W f1 W] | rw [pins_short W f1 W W]); rfl⟩
theorem ord2_r {V : Vw} {n c b : Nat} {rest : List Value} {d0 : Array Rg} {gf : FuncId} {caps : List Value} {cm : Rg -> Rg -> Int} {i j s bs : Nat}  (hN : n <= 1073741824) (hd : d0.size = n) (hi : i < n) (hj : j < n) (hs : s <= 1000)  (hcmp : ∀ x y : Rg,Does Tryz.prog gf (.agg (Rg.cells x).toArray :: .agg (Rg.cells y).toArray :: caps) V [] (Pv (.int .i64 (cm x y)) V [])) (hswo : SWO (ltc cm))  : Does Tryz.prog 209 [.slice (some ⟨b,0,none⟩) n c,.int .i64 ((i : Nat) : Int),.int .i64 ((j : Nat) : Int),(pZ bs),.func (.func gf) #[] caps.toArray] V [sgD Rg.cells 66 b rest d0,[(bs,.cells #[.int .i64 ((s : Nat) : Int)] 3 (0,0))]] (fun v V' H' => V' = V /\ ∃ p q s' : Nat,v = .tuple #[.int .i64 (p : Int),.int .i64 (q : Int)] /\ ((p = i /\ q = j) \/ (p = j /\ q = i)) /\ s' <= s + 1 /\ H' = [sgD Rg.cells 66 b rest d0,[(bs,.cells #[.int .i64 ((s' : Nat) : Int)] 3 (0,0))]]) := by
 refine Does.intro Tryz.func209 rfl rfl (le rfl) (fun B => ?_)
 refine Zs<|Zr<|Za Z<|Za Z<|Ze<|Zg<|Zs<|Zs<|Tr.quiet xmo WK<|ZM Z<|ZM Z<|ZM Z<|ZV (Y.idxN j Z Z xes33 W W)<|ZV (Y.ldA (enc := Rg.cells) (d := d0) (rest := rest) (e := 66) (i := j) Z xag66 (Kn.at 0 rfl) Rg.enc WB rfl)<|ZM Z<|ZM Z<|?_
 refine ZV (Y.idxN i Z Z xes33 W W)<|ZV (Y.ldA (enc := Rg.cells) (d := d0) (rest := rest) (e := 66) (i := i) Z xag66 (Kn.at 0 rfl) Rg.enc WB rfl)<|YC Z Z Z ((hcmp (d0[j]!) (d0[i]!)).frame)<|ZV (Y.int Z Z Z)<|ZE<|Zg<|?_
 refine Zq (decide ((cm (d0[j]!) (d0[i]!)) < 0)) (fun h1 g1 => ?_) fun h1 g1 => ?_
 ·refine Tr.cond_t Z h1<|Zs<|Zr<|Zm Z<|Zv (Y.nilCheck Z)<|Zv (Y.load Z xts3 (Kn.at 1 Z) Z)<|Zv (Y.addN ((s + 1 : Nat) : Int) rfl rfl W W)<|Zv (Y.nilCheck Z)<|Run.store (s := [(bs,.cells #[.int .i64 ((s + 1 : Nat) : Int)] 3 (0,0))]) Z Z xsz3 (i := 1) Z Z (le Z) Z Z<|Ze<|Zg<|Zs<|Zr<|Zm Z<|Zm Z<|Za Z<|?_
  refine Za Z<|Ze<|Zg<|Zu<|Zn<|Ex.keep [0,0]<|?_
  exact Ex.ret2 rfl rfl rfl  ⟨rfl,_,_,_,rfl,.inr ⟨rfl,rfl⟩,Nat.le_refl _,rfl⟩
 refine Tr.cond_f Z h1<|Zt<|Zg<|Zs<|Zr<|Zm Z<|Zm Z<|Za Z<|Za Z<|Ze<|Zg<|Zu<|Ex.keep [0,0]<|?_
 exact Ex.ret2 rfl rfl rfl  ⟨rfl,_,_,_,rfl,.inl ⟨rfl,rfl⟩,by omega,rfl⟩
theorem med_r {V : Vw} {n c b : Nat} {rest : List Value} {d0 : Array Rg} {gf : FuncId} {caps : List Value} {cm : Rg -> Rg -> Int} {i j k s bs : Nat}  (hN : n <= 1073741824) (hd : d0.size = n) (hi : i < n) (hj : j < n) (hk : k < n) (hs : s <= 900)  (hcmp : ∀ x y : Rg,Does Tryz.prog gf (.agg (Rg.cells x).toArray :: .agg (Rg.cells y).toArray :: caps) V [] (Pv (.int .i64 (cm x y)) V [])) (hswo : SWO (ltc cm))  : Does Tryz.prog 206 [.slice (some ⟨b,0,none⟩) n c,.int .i64 ((i : Nat) : Int),.int .i64 ((j : Nat) : Int),.int .i64 ((k : Nat) : Int),(pZ bs),.func (.func gf) #[] caps.toArray] V [sgD Rg.cells 66 b rest d0,[(bs,.cells #[.int .i64 ((s : Nat) : Int)] 3 (0,0))]] (fun v V' H' => V' = V /\ ∃ m s' : Nat,v = .int .i64 (m : Int) /\ (m = i \/ m = j \/ m = k) /\ s' <= s + 3 /\ H' = [sgD Rg.cells 66 b rest d0,[(bs,.cells #[.int .i64 ((s' : Nat) : Int)] 3 (0,0))]]) := by
 refine Does.intro Tryz.func206 rfl rfl (le rfl) (fun B => ?_)
 refine Zs<|Zr<|Za Z<|Ze<|Zg<|Zs<|Zr<|Zm Z<|Zm Z<|Zm Z<|Zm Z<|Zm Z<|?_
 refine Yk [0,0] Z Z Z (ord2_r (i := i) (j := j) (s := s) hN hd W W W hcmp hswo) (fun v1 V2 H2 hle2 hR => ?_)
 obtain ⟨hV,m6,m7,s3,rfl,hq5,hs4,rfl⟩ := hR; replace hV := hV.symm; subst hV
 refine Run.heapTo (H' := [sgD Rg.cells 66 b rest d0,[(bs,.cells #[.int .i64 ((s3 : Nat) : Int)] 3 (0,0))]]) Z<|Zm Z<|Zv (Y.extract Z Z)<|Zv (Y.extract Z Z)<|Za Z<|Za Z<|Ze<|Zg<|Zs<|Zr<|Zm Z<|Zm Z<|Zm Z<|Zm Z<|Zm Z<|?_
 refine Yk [0,0] Z Z Z (ord2_r (i := m7) (j := k) (s := s3) hN hd W W W hcmp hswo) (fun v8 V2 H2 hle9 hR => ?_)
 obtain ⟨hV,m13,m14,s10,rfl,hq12,hs11,rfl⟩ := hR; replace hV := hV.symm; subst hV
 refine Run.heapTo (H' := [sgD Rg.cells 66 b rest d0,[(bs,.cells #[.int .i64 ((s10 : Nat) : Int)] 3 (0,0))]]) Z<|Zm Z<|Zv (Y.extract Z Z)<|Zv (Y.extract Z Z)<|Za Z<|Za Z<|Ze<|Zg<|Zs<|Zr<|Zm Z<|Zm Z<|Zm Z<|Zm Z<|Zm Z<|?_
 refine Yk [0,0] Z Z Z (ord2_r (i := m6) (j := m13) (s := s10) hN hd W W W hcmp hswo) (fun v15 V2 H2 hle16 hR => ?_)
 obtain ⟨hV,m20,m21,s17,rfl,hq19,hs18,rfl⟩ := hR; replace hV := hV.symm; subst hV
 refine Run.heapTo (H' := [sgD Rg.cells 66 b rest d0,[(bs,.cells #[.int .i64 ((s17 : Nat) : Int)] 3 (0,0))]]) Z<|Zm Z<|Zv (Y.extract Z Z)<|Zv (Y.extract Z Z)<|Za Z<|Za Z<|Ze<|Zg<|Zs<|Zr<|Zm Z<|Za Z<|Ze<|Zg<|Zu<|Ex.keep [0,0]<|?_
 exact Ex.ret1 rfl rfl  ⟨rfl,_,_,rfl,by omega,by omega,rfl⟩
theorem meda_r {V : Vw} {n c b : Nat} {rest : List Value} {d0 : Array Rg} {gf : FuncId} {caps : List Value} {cm : Rg -> Rg -> Int} {i s bs : Nat}  (hN : n <= 1073741824) (hd : d0.size = n) (h1 : 1 <= i) (hi : i + 1 < n) (hs : s <= 900)  (hcmp : ∀ x y : Rg,Does Tryz.prog gf (.agg (Rg.cells x).toArray :: .agg (Rg.cells y).toArray :: caps) V [] (Pv (.int .i64 (cm x y)) V [])) (hswo : SWO (ltc cm))  : Does Tryz.prog 205 [.slice (some ⟨b,0,none⟩) n c,.int .i64 ((i : Nat) : Int),(pZ bs),.func (.func gf) #[] caps.toArray] V [sgD Rg.cells 66 b rest d0,[(bs,.cells #[.int .i64 ((s : Nat) : Int)] 3 (0,0))]] (fun v V' H' => V' = V /\ ∃ m s' : Nat,v = .int .i64 (m : Int) /\ (m = i - 1 \/ m = i \/ m = i + 1) /\ s' <= s + 3 /\ H' = [sgD Rg.cells 66 b rest d0,[(bs,.cells #[.int .i64 ((s' : Nat) : Int)] 3 (0,0))]]) := by
 refine Does.intro Tryz.func205 rfl rfl (le rfl) (fun B => ?_)
 refine Zs<|Zr<|Za Z<|Ze<|Zg<|Zs<|Zr<|Zm Z<|Zm Z<|Zv (Y.subN ((i - 1 : Nat) : Int) rfl rfl W W)<|Zm Z<|Zm Z<|Zv (Y.addN ((i + 1 : Nat) : Int) rfl rfl W W)<|Zm Z<|Zm Z<|?_
 refine Yk [0,0] Z Z Z (med_r (i := i - 1) (j := i) (k := i + 1) (s := s) hN hd W W W W hcmp hswo) (fun v1 V2 H2 hle2 hR => ?_)
 obtain ⟨hV,m6,s3,rfl,hq5,hs4,rfl⟩ := hR; replace hV := hV.symm; subst hV
 refine Run.heapTo (H' := [sgD Rg.cells 66 b rest d0,[(bs,.cells #[.int .i64 ((s3 : Nat) : Int)] 3 (0,0))]]) Z<|Za Z<|Ze<|Zg<|Zu<|Ex.keep [0,0]<|?_
 exact Ex.ret1 rfl rfl  ⟨rfl,_,_,rfl,by omega,by omega,rfl⟩
set_option maxHeartbeats 2000000 in
theorem pivot_r {V : Vw} {n c b : Nat} {rest : List Value} {d0 : Array Rg} {gf : FuncId} {caps : List Value} {cm : Rg -> Rg -> Int} {x y : Nat}  (hN : n <= 1073741824) (hd : d0.size = n) (hx : x < y) (hy : y <= n)  (hcmp : ∀ x y : Rg,Does Tryz.prog gf (.agg (Rg.cells x).toArray :: .agg (Rg.cells y).toArray :: caps) V [] (Pv (.int .i64 (cm x y)) V [])) (hswo : SWO (ltc cm))  : Does Tryz.prog 191 [.slice (some ⟨b,0,none⟩) n c,.int .i64 ((x : Nat) : Int),.int .i64 ((y : Nat) : Int),.func (.func gf) #[] caps.toArray] V [sgD Rg.cells 66 b rest d0] (fun v V' H' => V' = V /\ ∃ (p : Nat) (h : Int),v = .tuple #[.int .i64 (p : Int),.int .i64 h] /\ x <= p /\ p < y /\ H' = [sgD Rg.cells 66 b rest d0]) := by
 refine Does.intro Tryz.func191 rfl rfl (le rfl) (fun B => ?_)
 refine Zs<|Zr<|Za Z<|Za Z<|Ze<|Zg<|Zs<|Zr<|Zm Z<|Zm Z<|Zv (Y.subN ((y - x : Nat) : Int) rfl rfl W W)<|Za Z<|Ze<|Zg<|Zs<|Zr<|?_
 refine Run.alloc xzo3 (lt rfl) (fun b1 => ?_)
 refine Ze<|Zg<|Zs<|Zr<|Zm Z<|Zm Z<|Zv (Y.quoN (m := y - x) (n := 4) Z Z W W)<|Zv (Y.mulN ((((y - x) / 4) * 1 : Nat) : Int) rfl rfl W W)<|Zv (Y.addN ((x + (((y - x) / 4) * 1) : Nat) : Int) rfl rfl W W)<|Za Z<|Ze<|Zg<|Zs<|Zr<|Zm Z<|Zm Z<|?_
 refine Zv (Y.quoN (m := y - x) (n := 4) Z Z W W)<|Zv (Y.mulN ((((y - x) / 4) * 2 : Nat) : Int) rfl rfl W W)<|Zv (Y.addN ((x + (((y - x) / 4) * 2) : Nat) : Int) rfl rfl W W)<|Za Z<|Ze<|Zg<|Zs<|Zr<|Zm Z<|Zm Z<|Zv (Y.quoN (m := y - x) (n := 4) Z Z W W)<|Zv (Y.mulN ((((y - x) / 4) * 3 : Nat) : Int) rfl rfl W W)<|Zv (Y.addN ((x + (((y - x) / 4) * 3) : Nat) : Int) rfl rfl W W)<|?_
 refine Za Z<|Ze<|Zg<|Zs<|Zs<|Zr<|Zm Z<|Zv (Y.int Z Z Z)<|Ze<|Zg<|?_
 refine Zq (decide (((y - x : Nat) : Int) >= 8)) (fun h2 g2 => ?_) fun h2 g2 => ?_
 ·refine Tr.cond_t Z h2<|Zs<|Zs<|Zr<|Zm Z<|Zv (Y.int Z Z Z)<|Ze<|Zg<|?_
  refine Zq (decide (((y - x : Nat) : Int) >= 50)) (fun h3 g3 => ?_) fun h3 g3 => ?_
  ·refine Tr.cond_t Z h3<|Zs<|Zr<|Zm Z<|Zm Z<|Zm Z<|?_
   refine Yk [1,0] Z Z Z (meda_r (i := x + (((y - x) / 4) * 1)) (s := 0) hN hd W W W hcmp hswo) (fun v4 V2 H2 hle5 hR => ?_)
   obtain ⟨hV,m9,s6,rfl,hq8,hs7,rfl⟩ := hR; replace hV := hV.symm; subst hV
   refine Run.heapTo (H' := [sgD Rg.cells 66 b rest d0,[(b1,.cells #[.int .i64 ((s6 : Nat) : Int)] 3 (0,0))]]) Z<|Za Z<|Ze<|Zg<|Zs<|Zr<|Zm Z<|Zm Z<|Zm Z<|?_
   refine Yk [0,0] Z Z Z (meda_r (i := x + (((y - x) / 4) * 2)) (s := s6) hN hd W W W hcmp hswo) (fun v10 V2 H2 hle11 hR => ?_)
   obtain ⟨hV,m15,s12,rfl,hq14,hs13,rfl⟩ := hR; replace hV := hV.symm; subst hV
   refine Run.heapTo (H' := [sgD Rg.cells 66 b rest d0,[(b1,.cells #[.int .i64 ((s12 : Nat) : Int)] 3 (0,0))]]) Z<|Za Z<|Ze<|Zg<|Zr<|Zm Z<|Zm Z<|Zm Z<|?_
   refine Yk [0,0] Z Z Z (meda_r (i := x + (((y - x) / 4) * 3)) (s := s12) hN hd W W W hcmp hswo) (fun v16 V2 H2 hle17 hR => ?_)
   obtain ⟨hV,m21,s18,rfl,hq20,hs19,rfl⟩ := hR; replace hV := hV.symm; subst hV
   refine Run.heapTo (H' := [sgD Rg.cells 66 b rest d0,[(b1,.cells #[.int .i64 ((s18 : Nat) : Int)] 3 (0,0))]]) Z<|Za Z<|Ze<|Zg<|Zr<|Zm Z<|Zm Z<|Zm Z<|Zm Z<|Zm Z<|?_
   refine Yk [0,0] Z Z Z (med_r (i := m9) (j := m15) (k := m21) (s := s18) hN hd W W W W hcmp hswo) (fun v22 V2 H2 hle23 hR => ?_)
   obtain ⟨hV,m27,s24,rfl,hq26,hs25,rfl⟩ := hR; replace hV := hV.symm; subst hV
   refine Run.heapTo (H' := [sgD Rg.cells 66 b rest d0,[(b1,.cells #[.int .i64 ((s24 : Nat) : Int)] 3 (0,0))]]) Z<|Za Z<|Ze<|Zg<|Zs<|Zr<|Zv (Y.load Z xts3 (Kn.at 1 Z) Z)<|Ze<|Zg<|Zb<|Zs<|Zr<|Zv (Y.int Z Z Z)<|Za Z<|Ze<|Zg<|?_
   refine Zq (((s24 : Nat) : Int) == 0) (fun h28 g28 => ?_) fun h28 g28 => ?_
   ·refine Tr.cond_t Z h28<|Zs<|Zr<|Zm Z<|Za Z<|Za Z<|Ze<|Zg<|Zu<|Zk<|Ex.keep [0]<|?_
    exact Ex.ret2 rfl rfl rfl  ⟨rfl,_,_,rfl,by omega,by omega,rfl⟩
   refine Tr.cond_f Z h28<|Zs<|Zr<|Zv (Y.int Z Z Z)<|Za Z<|Ze<|Zg<|?_
   refine Zq (((s24 : Nat) : Int) == 12) (fun h29 g29 => ?_) fun h29 g29 => ?_
   ·refine Tr.cond_t Z h29<|Zs<|Zr<|Zm Z<|Za Z<|Za Z<|Ze<|Zg<|Zu<|Zk<|Ex.keep [0]<|?_
    exact Ex.ret2 rfl rfl rfl  ⟨rfl,_,_,rfl,by omega,by omega,rfl⟩
   refine Tr.cond_f Z h29<|Zs<|Zr<|Zm Z<|Za Z<|Za Z<|Ze<|Zg<|Zu<|Zk<|Ex.keep [0]<|?_
   exact Ex.ret2 rfl rfl rfl  ⟨rfl,_,_,rfl,by omega,by omega,rfl⟩
  refine Tr.cond_f Z h3<|Zt<|Zg<|Zr<|Zm Z<|Zm Z<|Zm Z<|Zm Z<|Zm Z<|?_
  refine Yk [1,0] Z Z Z (med_r (i := x + (((y - x) / 4) * 1)) (j := x + (((y - x) / 4) * 2)) (k := x + (((y - x) / 4) * 3)) (s := 0) hN hd W W W W hcmp hswo) (fun v30 V2 H2 hle31 hR => ?_)
  obtain ⟨hV,m35,s32,rfl,hq34,hs33,rfl⟩ := hR; replace hV := hV.symm; subst hV
  refine Run.heapTo (H' := [sgD Rg.cells 66 b rest d0,[(b1,.cells #[.int .i64 ((s32 : Nat) : Int)] 3 (0,0))]]) Z<|Za Z<|Ze<|Zg<|Zs<|Zr<|Zv (Y.load Z xts3 (Kn.at 1 Z) Z)<|Ze<|Zg<|Zb<|Zs<|Zr<|Zv (Y.int Z Z Z)<|Za Z<|Ze<|Zg<|?_
  refine Zq (((s32 : Nat) : Int) == 0) (fun h36 g36 => ?_) fun h36 g36 => ?_
  ·refine Tr.cond_t Z h36<|Zs<|Zr<|Zm Z<|Za Z<|Za Z<|Ze<|Zg<|Zu<|Zk<|Ex.keep [0]<|?_
   exact Ex.ret2 rfl rfl rfl  ⟨rfl,_,_,rfl,by omega,by omega,rfl⟩
  refine Tr.cond_f Z h36<|Zs<|Zr<|Zv (Y.int Z Z Z)<|Za Z<|Ze<|Zg<|?_
  refine Zq (((s32 : Nat) : Int) == 12) (fun h37 g37 => ?_) fun h37 g37 => ?_
  ·refine Tr.cond_t Z h37<|Zs<|Zr<|Zm Z<|Za Z<|Za Z<|Ze<|Zg<|Zu<|Zk<|Ex.keep [0]<|?_
   exact Ex.ret2 rfl rfl rfl  ⟨rfl,_,_,rfl,by omega,by omega,rfl⟩
  refine Tr.cond_f Z h37<|Zs<|Zr<|Zm Z<|Za Z<|Za Z<|Ze<|Zg<|Zu<|Zk<|Ex.keep [0]<|?_
  exact Ex.ret2 rfl rfl rfl  ⟨rfl,_,_,rfl,by omega,by omega,rfl⟩
 refine Tr.cond_f Z h2<|Zt<|Zg<|Zs<|Zr<|Zv (Y.load Z xts3 (Kn.at 0 Z) Z)<|Ze<|Zg<|Zb<|Zs<|Zr<|Zv (Y.int (r := .bool true) Z Z Z)<|Za Z<|Ze<|Zg<|Tr.cond_t Z Z<|?_
 refine Zs<|Zr<|Zm Z<|Za Z<|Za Z<|Ze<|Zg<|Zu<|Zk<|Ex.keep [1]<|?_
 exact Ex.ret2 rfl rfl rfl  ⟨rfl,_,_,rfl,by omega,by omega,rfl⟩
theorem brk_r {V : Vw} {n c b : Nat} {rest : List Value} {d0 : Array Rg} {gf : FuncId} {caps : List Value} {cm : Rg -> Rg -> Int} {x y : Nat}  (hN : n <= 1073741824) (hd : d0.size = n) (hx : x < y) (hy : y <= n)  (hcmp : ∀ x y : Rg,Does Tryz.prog gf (.agg (Rg.cells x).toArray :: .agg (Rg.cells y).toArray :: caps) V [] (Pv (.int .i64 (cm x y)) V [])) (hswo : SWO (ltc cm))  : Does Tryz.prog 190 [.slice (some ⟨b,0,none⟩) n c,.int .i64 ((x : Nat) : Int),.int .i64 ((y : Nat) : Int),.func (.func gf) #[] caps.toArray] V [sgD Rg.cells 66 b rest d0] (fun v V' H' => V' = V /\ v = .tuple #[] /\ ∃ d1,PermIn x y d0 d1 /\ H' = [sgD Rg.cells 66 b rest d1]) := by
 refine Does.intro Tryz.func190 rfl rfl (le rfl) (fun B => ?_)
 refine Zs<|Zr<|Zm Z<|Zm Z<|Zv (Y.subN ((y - x : Nat) : Int) rfl rfl W W)<|Za Z<|Ze<|Zg<|Zs<|Zr<|Zm Z<|Zv (Y.int Z Z Z)<|Ze<|Zg<|?_
 refine Zq (decide (((y - x : Nat) : Int) >= 8)) (fun h1 g1 => ?_) fun h1 g1 => ?_
 ·refine Tr.cond_t Z h1<|Zs<|Zr<|Zm Z<|Zv (Y.conv (((y - x : Nat) : Int)) rfl xit3_222 (wrap_u64 W))<|?_
  refine Run.alloc xzo222 (lt rfl) (fun b2 => ?_)
  refine Run.store (s := [(b2,.cells #[.int .u64 ((y - x : Nat) : Int)] 222 (0,0))]) Z Z xsz222 (i := 0) Z Z (le Z) Z Z<|Ze<|Zg<|Zs<|Zr<|Zm Z<|?_
  refine Yk [] Z Z Z (npow_0 (m := y - x) W W) (fun v V2 H2 hle hR => ?_)
  obtain ⟨hV,⟨M,rfl,hM1,hM2⟩,rfl⟩ := hR; replace hV := hV.symm; subst hV
  refine Run.heapTo (H' := [[(b2,.cells #[.int .u64 ((y - x : Nat) : Int)] 222 (0,0))],sgD Rg.cells 66 b rest d0]) Z<|Za Z<|Ze<|Zg<|Zs<|Zr<|Zm Z<|Zm Z<|Zv (Y.quoN (m := y - x) (n := 4) Z Z W W)<|Zv (Y.mulN ((((y - x) / 4) * 2 : Nat) : Int) rfl rfl W W)<|Zv (Y.addN ((x + (((y - x) / 4) * 2) : Nat) : Int) rfl rfl W W)<|Zv (Y.subN (((x + (((y - x) / 4) * 2)) - 1 : Nat) : Int) rfl rfl W W)<|?_
  refine Za Z<|Ze<|Zg<|Zb<|?_
  refine ZL (X := Nat × Int × Array Rg) (fun z0 => V) (fun z0 => [[(b2,.cells #[.int .u64 z0.2.1] 222 (0,0))],sgD Rg.cells 66 b rest z0.2.2]) (fun z0 => [(0,.slice (some ⟨b,0,none⟩) n c),(1,.int .i64 ((x : Nat) : Int)),(2,.int .i64 ((y : Nat) : Int)),(3,.func (.func gf) #[] caps.toArray),(8,.int .i64 ((y - x : Nat) : Int)),(9,(pZ b2)),(10,.int .u64 ((M : Nat) : Int)),(11,.int .i64 ((z0.1 : Nat) : Int))]) (fun z0 => PermIn x y d0 z0.2.2 /\ z0.2.2.size = n /\ x + (y - x) / 4 * 2 <= z0.1 + 1 /\ z0.1 <= x + (y - x) / 4 * 2 + 2) (fun z0 => x + (y - x) / 4 * 2 + 2 - z0.1) (⟨(x + ((y - x) / 4) * 2) - 1,((y - x : Nat) : Int),d0⟩ : Nat × Int × Array Rg) ⟨permIn_refl _ _ _,hd,by (try dsimp only); omega,by (try dsimp only); omega⟩ ?_
  rintro ⟨i,r,d⟩ ⟨r1,k2,r3,r4⟩
  try dsimp only at r1 k2 r3 r4 ⊢
  refine Zs<|Zs<|Zr<|Zm Z<|Zm Z<|Zm Z<|Zv (Y.quoN (m := y - x) (n := 4) Z Z W W)<|Zv (Y.mulN ((((y - x) / 4) * 2 : Nat) : Int) rfl rfl W W)<|Zv (Y.addN ((x + (((y - x) / 4) * 2) : Nat) : Int) rfl rfl W W)<|Zv (Y.addN (((x + (((y - x) / 4) * 2)) + 1 : Nat) : Int) rfl rfl W W)<|Zv (Y.int Z Z Z)<|Ze<|Zg<|?_
  refine Zq (decide (((i : Nat) : Int) <= (((x + (((y - x) / 4) * 2)) + 1 : Nat) : Int))) (fun h3 g3 => ?_) fun h3 g3 => ?_
  ·refine Tr.cond_t Z h3<|Zt<|Zg<|Zs<|Zb<|Zs<|Zr<|?_
   refine Yk [0] Z Z Z next_0 (fun v V2 H2 hle hR => ?_)
   obtain ⟨hV,r2,rfl,rfl⟩ := hR; replace hV := hV.symm; subst hV
   refine Run.heapTo (H' := [sgD Rg.cells 66 b rest d,[(b2,.cells #[.int .u64 r2] 222 (0,0))]]) Z<|Zm Z<|Zv (Y.int (r := .int .u64 ((M - 1 : Nat) : Int)) rfl rfl (subU W W))<|?_
   obtain ⟨o,ho1,ho2⟩ := andU_nat (a := r2) (m := M - 1) W
   refine Zv (Y.int (r := .int .u64 ((o : Nat) : Int)) rfl rfl (congrArg (fun z => some (Value.int .u64 z)) ho1))<|Zv (Y.conv (((o : Nat) : Int)) rfl xit195_3 (wrap_i64 W))<|Za Z<|Ze<|Zg<|Zs<|Zs<|Zr<|Zm Z<|Zm Z<|Zv (Y.int Z Z Z)<|Ze<|Zg<|?_
   refine Zq (decide (((o : Nat) : Int) >= ((y - x : Nat) : Int))) (fun h4 g4 => ?_) fun h4 g4 => ?_
   ·refine Tr.cond_t Z h4<|Zr<|Zm Z<|Zm Z<|Zv (Y.subN ((o - (y - x) : Nat) : Int) rfl rfl W W)<|Za Z<|Ze<|Zg<|Tr.anyT [(b,.cells (cel Rg.cells d rest).toArray 66 (0,0))] 17 xmo<|Zwm 0 Z Z (ZK 0 Z)<|Zwm 1 Z Z (ZK 0 Z)<|Zwm 2 Z Z (ZK 0 Z)<|Zwm 3 Z Z (ZK 0 Z)<|Zwm 4 Z Z (ZK 0 Z)<|Zw 5 Z (ZK 0 Z) (fun _ => (Y.addN ((x + (o - (y - x)) : Nat) : Int) rfl rfl W W))<|Zwm 6 Z Z (ZK 0 Z)<|?_
    refine Zwm 7 Z Z (ZK 0 Z)<|Zwm 8 Z Z (ZK 0 Z)<|Zw 9 Z (ZK 0 Z) (fun _ => (Y.addN ((x + (o - (y - x)) : Nat) : Int) rfl rfl W W))<|Zw 10 Z (ZK 0 Z) (fun _ => (Y.idxN (x + (o - (y - x))) rfl rfl xes33 W W))<|ZT 11 0 Z Z (ZK 0 Z) (fun _ => (Y.ldA (enc := Rg.cells) (d := d) (rest := rest) (e := 66) (i := (x + (o - (y - x)))) rfl xag66 Kn.vk1 Rg.enc WB rfl))<|?_
    refine Zwm 12 Z Z (ZK 0 Z)<|Zwm 13 Z Z (ZK 0 Z)<|Zw 14 Z (ZK 0 Z) (fun _ => (Y.idxN i rfl rfl xes33 W W))<|ZT 15 0 Z Z (ZK 0 Z) (fun _ => (Y.ldA (enc := Rg.cells) (d := d) (rest := rest) (e := 66) (i := i) rfl xag66 Kn.vk1 Rg.enc WB rfl))<|Zw 16 Z (ZK 0 Z) (fun _ => (Y.idxN i rfl rfl xes33 W W))<|?_
    refine RunT.one (i := 17) WK rfl  ?_
    refine Run.stD (enc := Rg.cells) (d := d) (rest := rest) (e := 66) (i := i) (s := 0) (d[x + (o - (y - x))]!) rfl rfl xsz66 rfl Rg.enc WB rfl<|Ze<|Zz 17<|?_
    refine RunT.one (i := 18) WK rfl  ?_
    refine Zv (Y.idxN (x + (o - (y - x))) rfl rfl xes33 W W)<|Ze<|Zz 18<|?_
    refine RunT.one (i := 19) WK rfl  ?_
    refine Run.stD (enc := Rg.cells) (d := (d).setIfInBounds i (d[x + (o - (y - x))]!)) (rest := rest) (e := 66) (i := (x + (o - (y - x)))) (s := 0) (d[i]!) rfl rfl xsz66 rfl Rg.enc WB rfl<|Run.heapTo (H' := [sgD Rg.cells 66 b rest (swp d i (x + (o - (y - x)))),[(b2,.cells #[.int .u64 r2] 222 (0,0))]]) Z<|Ze<|Zz 19<|RunT.done WK<|?_
    refine Zc<|Zg<|Zr<|Zm Z<|Zv (Y.addN ((i + 1 : Nat) : Int) rfl rfl W W)<|Za Z<|Ze<|Ex.keep [1,0]<|?_
    exact ZR (⟨i + 1,r2,swp d i (x + (o - (y - x)))⟩ : Nat × Int × Array Rg) ⟨permIn_trans _ _ _ _ _ r1 (swp_permIn _ x y _ _ W W W W W),by simp only [swp_size]; exact k2,by (try dsimp only); omega,by (try dsimp only); omega⟩ (by dsimp only; omega)
   refine Tr.cond_f Z h4<|Zt<|Zg<|Tr.anyT [(b,.cells (cel Rg.cells d rest).toArray 66 (0,0))] 17 xmo<|Zwm 0 Z Z (ZK 0 Z)<|Zwm 1 Z Z (ZK 0 Z)<|Zwm 2 Z Z (ZK 0 Z)<|Zwm 3 Z Z (ZK 0 Z)<|Zwm 4 Z Z (ZK 0 Z)<|Zw 5 Z (ZK 0 Z) (fun _ => (Y.addN ((x + o : Nat) : Int) rfl rfl W W))<|Zwm 6 Z Z (ZK 0 Z)<|Zwm 7 Z Z (ZK 0 Z)<|Zwm 8 Z Z (ZK 0 Z)<|Zw 9 Z (ZK 0 Z) (fun _ => (Y.addN ((x + o : Nat) : Int) rfl rfl W W))<|?_
   refine Zw 10 Z (ZK 0 Z) (fun _ => (Y.idxN (x + o) rfl rfl xes33 W W))<|ZT 11 0 Z Z (ZK 0 Z) (fun _ => (Y.ldA (enc := Rg.cells) (d := d) (rest := rest) (e := 66) (i := (x + o)) rfl xag66 Kn.vk1 Rg.enc WB rfl))<|Zwm 12 Z Z (ZK 0 Z)<|Zwm 13 Z Z (ZK 0 Z)<|Zw 14 Z (ZK 0 Z) (fun _ => (Y.idxN i rfl rfl xes33 W W))<|?_
   refine ZT 15 0 Z Z (ZK 0 Z) (fun _ => (Y.ldA (enc := Rg.cells) (d := d) (rest := rest) (e := 66) (i := i) rfl xag66 Kn.vk1 Rg.enc WB rfl))<|Zw 16 Z (ZK 0 Z) (fun _ => (Y.idxN i rfl rfl xes33 W W))<|?_
   refine RunT.one (i := 17) WK rfl  ?_
   refine Run.stD (enc := Rg.cells) (d := d) (rest := rest) (e := 66) (i := i) (s := 0) (d[x + o]!) rfl rfl xsz66 rfl Rg.enc WB rfl<|Ze<|Zz 17<|?_
   refine RunT.one (i := 18) WK rfl  ?_
   refine Zv (Y.idxN (x + o) rfl rfl xes33 W W)<|Ze<|Zz 18<|?_
   refine RunT.one (i := 19) WK rfl  ?_
   refine Run.stD (enc := Rg.cells) (d := (d).setIfInBounds i (d[x + o]!)) (rest := rest) (e := 66) (i := (x + o)) (s := 0) (d[i]!) rfl rfl xsz66 rfl Rg.enc WB rfl<|Run.heapTo (H' := [sgD Rg.cells 66 b rest (swp d i (x + o)),[(b2,.cells #[.int .u64 r2] 222 (0,0))]]) Z<|Ze<|Zz 19<|RunT.done WK<|Zc<|Zg<|Zr<|Zm Z<|Zv (Y.addN ((i + 1 : Nat) : Int) rfl rfl W W)<|?_
   refine Za Z<|Ze<|Ex.keep [1,0]<|?_
   exact ZR (⟨i + 1,r2,swp d i (x + o)⟩ : Nat × Int × Array Rg) ⟨permIn_trans _ _ _ _ _ r1 (swp_permIn _ x y _ _ W W W W W),by simp only [swp_size]; exact k2,by (try dsimp only); omega,by (try dsimp only); omega⟩ (by dsimp only; omega)
  refine Tr.cond_f Z h3<|Zx<|Zy<|Zy<|Zi<|Ex.keep [1]<|?_
  exact Ex.end0 rfl ⟨rfl,rfl,_,r1,rfl⟩
 refine Tr.cond_f Z h1<|Zt<|Ex.keep [0]<|?_
 exact Ex.end0 rfl ⟨rfl,rfl,_,permIn_refl _ _ _,rfl⟩
set_option maxHeartbeats 2000000 in
theorem pdq1_r {V : Vw} {n c b : Nat} {rest : List Value} {d0 : Array Rg} {gf : FuncId} {caps : List Value} {cm : Rg -> Rg -> Int} {x y l : Nat}  (hN : n <= 1073741824) (hd : d0.size = n) (hxy : x <= y) (hy : y <= n) (hB : Below (ltc cm) x y d0) (hl : l <= 1000) (ih : ∀ (d : Array Rg) (x2 y2 l2 : Nat),y2 - x2 < y - x -> x2 <= y2 -> y2 <= n -> d.size = n -> Below (ltc cm) x2 y2 d -> l2 <= 1000 -> Does Tryz.prog 177 [.slice (some ⟨b,0,none⟩) n c,.int .i64 ((x2 : Nat) : Int),.int .i64 ((y2 : Nat) : Int),.int .i64 ((l2 : Nat) : Int),.func (.func gf) #[] caps.toArray] V [sgD Rg.cells 66 b rest d] (fun v V' H' => V' = V /\ v = .tuple #[] /\ ∃ d1,PermIn x2 y2 d d1 /\ SortedIn (ltc cm) x2 y2 d1 /\ H' = [sgD Rg.cells 66 b rest d1]))  (hcmp : ∀ x y : Rg,Does Tryz.prog gf (.agg (Rg.cells x).toArray :: .agg (Rg.cells y).toArray :: caps) V [] (Pv (.int .i64 (cm x y)) V [])) (hswo : SWO (ltc cm))  : Does Tryz.prog 177 [.slice (some ⟨b,0,none⟩) n c,.int .i64 ((x : Nat) : Int),.int .i64 ((y : Nat) : Int),.int .i64 ((l : Nat) : Int),.func (.func gf) #[] caps.toArray] V [sgD Rg.cells 66 b rest d0] (fun v V' H' => V' = V /\ v = .tuple #[] /\ ∃ d1,PermIn x y d0 d1 /\ SortedIn (ltc cm) x y d1 /\ H' = [sgD Rg.cells 66 b rest d1]) := by
 refine Does.intro Tryz.func177 rfl rfl (le rfl) (fun B => ?_)
 refine Zs<|Zr<|Za Z<|Ze<|Zg<|Zs<|Zr<|Za Z<|Ze<|Zg<|Zb<|?_
 refine ZL (X := Nat × Nat × Nat × Bool × Bool × Array Rg) (fun z0 => V) (fun z0 => [sgD Rg.cells 66 b rest z0.2.2.2.2.2]) (fun z0 => [(0,.slice (some ⟨b,0,none⟩) n c),(1,.int .i64 ((z0.1 : Nat) : Int)),(2,.int .i64 ((z0.2.1 : Nat) : Int)),(3,.int .i64 ((z0.2.2.1 : Nat) : Int)),(4,.func (.func gf) #[] caps.toArray),(10,.bool z0.2.2.2.1),(11,.bool z0.2.2.2.2.1)]) (fun z0 => PInv (ltc cm) x y n d0 z0.1 z0.2.1 z0.2.2.2.2.2 /\ z0.2.2.1 <= 1000) (fun z0 => z0.2.1 - z0.1) (⟨x,y,l,true,true,d0⟩ : Nat × Nat × Nat × Bool × Bool × Array Rg) ⟨PInv.new hd hxy hy hB,hl⟩ ?_
 rintro ⟨a,e,m,wb,wp,d⟩ ⟨i1,hm⟩
 have iab : a <= e := i1.ab
 have ibn : e <= n := i1.bn
 try dsimp only at i1 hm ⊢
 refine Zb<|Zs<|Zr<|Zm Z<|Zm Z<|Zv (Y.subN ((e - a : Nat) : Int) rfl rfl W W)<|Za Z<|Ze<|Zg<|Zs<|Zs<|Zr<|Zm Z<|Zv (Y.int Z Z Z)<|Ze<|Zg<|?_
 refine Zq (decide (((e - a : Nat) : Int) <= 12)) (fun h1 g1 => ?_) fun h1 g1 => ?_
 ·refine Tr.cond_t Z h1<|Zs<|Zr<|Zm Z<|Zm Z<|Zm Z<|Zm Z<|?_
  refine Yk [0] Z Z Z (ins_r (x := a) (y := e) hN i1.sz (by have := i1.ab; have := i1.bn; omega) i1.bn hcmp hswo) (fun v2 V2 H2 hle3 hR => ?_)
  obtain ⟨hV,rfl,rfl⟩ := hR; replace hV := hV.symm; subst hV
  refine Run.heapTo (H' := [sgD Rg.cells 66 b rest (insertionSort (ltc cm) d a e)]) Z<|Ze<|Zg<|Zu<|Zn<|Zk<|Zn<|Zk<|Ex.keep [0]<|?_
  exact Ex.ret0 rfl ⟨rfl,rfl,_,(i1.k _ (insertionSort_holds  hswo d a e i1.ab (by rw [i1.sz]; exact i1.bn)).1 (insertionSort_holds  hswo d a e i1.ab (by rw [i1.sz]; exact i1.bn)).2).1,(i1.k _ (insertionSort_holds  hswo d a e i1.ab (by rw [i1.sz]; exact i1.bn)).1 (insertionSort_holds  hswo d a e i1.ab (by rw [i1.sz]; exact i1.bn)).2).2,rfl⟩
 refine Tr.cond_f Z h1<|Zt<|Zg<|Zs<|Zs<|Zr<|Zm Z<|Zv (Y.int Z Z Z)<|Ze<|Zg<|?_
 refine Zq (((m : Nat) : Int) == 0) (fun h4 g4 => ?_) fun h4 g4 => ?_
 ·refine Tr.cond_t Z h4<|Zs<|Zr<|Zm Z<|Zm Z<|Zm Z<|Zm Z<|?_
  refine Yk [0] Z Z Z (heap_r (x := a) (y := e) hN i1.sz W i1.bn hcmp hswo) (fun v5 V2 H2 hle6 hR => ?_)
  obtain ⟨hV,rfl,rfl⟩ := hR; replace hV := hV.symm; subst hV
  refine Run.heapTo (H' := [sgD Rg.cells 66 b rest (heapSort (ltc cm) d a e)]) Z<|Ze<|Zg<|Zu<|Zn<|Zk<|Zn<|Zk<|Ex.keep [0]<|?_
  exact Ex.ret0 rfl ⟨rfl,rfl,_,(i1.k _ (heapSort_holds  hswo d a e i1.ab (by rw [i1.sz]; exact i1.bn)).1 (heapSort_holds  hswo d a e i1.ab (by rw [i1.sz]; exact i1.bn)).2).1,(i1.k _ (heapSort_holds  hswo d a e i1.ab (by rw [i1.sz]; exact i1.bn)).1 (heapSort_holds  hswo d a e i1.ab (by rw [i1.sz]; exact i1.bn)).2).2,rfl⟩
 refine Tr.cond_f Z h4<|Zt<|Zg<|?_
 refine Tr.cutx (X := Nat × Array Rg) (fun z0 => V) (fun z0 => [sgD Rg.cells 66 b rest z0.2]) (fun z0 => [(0,.slice (some ⟨b,0,none⟩) n c),(1,.int .i64 ((a : Nat) : Int)),(2,.int .i64 ((e : Nat) : Int)),(3,.int .i64 ((z0.1 : Nat) : Int)),(4,.func (.func gf) #[] caps.toArray),(10,.bool wb),(11,.bool wp),(12,.int .i64 ((e - a : Nat) : Int))]) (fun z0 => PInv (ltc cm) x y n d0 a e z0.2 /\ z0.1 <= 1000) ?_ ?_
 ·refine Zs<|Zr<|Zm Z<|Zv (Y.not Z)<|Ze<|Zg<|?_
  refine Zq (wb) (fun h7 g7 => ?_) fun h7 g7 => ?_
  ·refine Tr.cond_f Z (congrArg Bool.not h7)<|Zt<|?_
   exact ZX ⟨m,d⟩ ⟨i1,hm⟩
  refine Tr.cond_t Z (congrArg Bool.not h7)<|Zs<|Zr<|Zm Z<|Zm Z<|Zm Z<|Zm Z<|?_
  refine Yk [0] Z Z Z (brk_r (x := a) (y := e) hN i1.sz W i1.bn hcmp hswo) (fun v V2 H2 hle hR => ?_)
  obtain ⟨hV,rfl,dk,hdk,rfl⟩ := hR; replace hV := hV.symm; subst hV
  refine Run.heapTo (H' := [sgD Rg.cells 66 b rest dk]) Z<|Ze<|Zg<|Zr<|Zm Z<|Zv (Y.subN ((m - 1 : Nat) : Int) rfl rfl W W)<|Za Z<|Ze<|?_
  exact ZX ⟨m - 1,dk⟩ ⟨i1.perm hdk,by (try dsimp only); omega⟩
 rintro z0 ⟨i2,hm1⟩
 obtain ⟨m1,d1⟩ := z0
 try dsimp only at i2 hm1 ⊢
 refine Zs<|Zr<|Zm Z<|Zm Z<|Zm Z<|Zm Z<|?_
 refine Yk [0] Z Z Z (pivot_r (x := a) (y := e) hN i2.sz W i2.bn hcmp hswo) (fun v V2 H2 hle hR => ?_)
 obtain ⟨hV,p1,hh,rfl,hp1,hp2,rfl⟩ := hR; replace hV := hV.symm; subst hV
 refine Run.heapTo (H' := [sgD Rg.cells 66 b rest d1]) Z<|Zm Z<|Zv (Y.extract Z Z)<|Zv (Y.extract Z Z)<|Za Z<|Za Z<|Ze<|Zg<|?_
 refine Tr.cutx (X := Nat × Int × Array Rg) (fun z0 => V) (fun z0 => [sgD Rg.cells 66 b rest z0.2.2]) (fun z0 => [(0,.slice (some ⟨b,0,none⟩) n c),(1,.int .i64 ((a : Nat) : Int)),(2,.int .i64 ((e : Nat) : Int)),(3,.int .i64 ((m1 : Nat) : Int)),(4,.func (.func gf) #[] caps.toArray),(10,.bool wb),(11,.bool wp),(12,.int .i64 ((e - a : Nat) : Int)),(13,.int .i64 ((z0.1 : Nat) : Int)),(14,.int .i64 z0.2.1)]) (fun z0 => PInv (ltc cm) x y n d0 a e z0.2.2 /\ a <= z0.1 /\ z0.1 < e) ?_ ?_
 ·refine Zs<|Zr<|Zm Z<|Zv (Y.int Z Z Z)<|Ze<|Zg<|?_
  refine Zq (hh == 2) (fun h8 g8 => ?_) fun h8 g8 => ?_
  ·refine Tr.cond_t Z h8<|Zs<|Zr<|Zm Z<|Zm Z<|Zm Z<|Zm Z<|?_
   refine Yk [0] Z Z Z (rev_r (x := a) (y := e) hN i2.sz W i2.bn hcmp hswo) (fun v9 V2 H2 hle10 hR => ?_)
   obtain ⟨hV,rfl,rfl⟩ := hR; replace hV := hV.symm; subst hV
   refine Run.heapTo (H' := [sgD Rg.cells 66 b rest (reverseRange d1 a e)]) Z<|Ze<|Zg<|Zs<|Zr<|Zm Z<|Zv (Y.subN ((e - 1 : Nat) : Int) rfl rfl W W)<|Zm Z<|Zm Z<|Zv (Y.subN ((p1 - a : Nat) : Int) rfl rfl W W)<|Zv (Y.subN (((e - 1) - (p1 - a) : Nat) : Int) rfl rfl W W)<|Za Z<|Ze<|Zg<|Zr<|Za Z<|?_
   refine Ze ?_
   exact ZX ⟨(e - 1) - (p1 - a),1,reverseRange d1 a e⟩ ⟨i2.perm (reverseRange_holds _ a e i2.ab (by rw [i2.sz]; exact i2.bn)),by (try dsimp only); omega,by (try dsimp only); omega⟩
  refine Tr.cond_f Z h8<|Zt<|?_
  exact ZX ⟨p1,hh,d1⟩ ⟨i2,by (try dsimp only); omega,by (try dsimp only); omega⟩
 rintro z0 ⟨i3,hp3,hp4⟩
 obtain ⟨p2,h2,d2⟩ := z0
 try dsimp only at i3 hp3 hp4 ⊢
 refine Tr.cutx (X := Array Rg) (fun d3 => V) (fun d3 => [sgD Rg.cells 66 b rest d3]) (fun d3 => [(0,.slice (some ⟨b,0,none⟩) n c),(1,.int .i64 ((a : Nat) : Int)),(2,.int .i64 ((e : Nat) : Int)),(3,.int .i64 ((m1 : Nat) : Int)),(4,.func (.func gf) #[] caps.toArray),(10,.bool wb),(11,.bool wp),(12,.int .i64 ((e - a : Nat) : Int)),(13,.int .i64 ((p2 : Nat) : Int)),(14,.int .i64 h2)]) (fun d3 => PInv (ltc cm) x y n d0 a e d3) ?_ ?_
 ·refine Zs<|Zr<|Zm Z<|Zm Z<|?_
  refine Zq (wb) (fun h11 g11 => ?_) fun h11 g11 => ?_
  ·refine Zp h11<|Zm Z<|Zv (Y.pick_t Z h11 Z)<|Zm Z<|?_
   refine Zq (wp) (fun h12 g12 => ?_) fun h12 g12 => ?_
   ·refine Zp h12<|Zm Z<|Zp h12<|Zv (Y.int Z Z Z)<|Zv (Y.pick_t Z h12 Z)<|Ze<|Zg<|?_
    refine Zq (h2 == 1) (fun h13 g13 => ?_) fun h13 g13 => ?_
    ·refine Tr.cond_t Z h13<|Zs<|Zr<|Zm Z<|Zm Z<|Zm Z<|Zm Z<|?_
     refine Yk [0] Z Z Z (pins_r (x := a) (y := e) hN i3.sz W i3.bn hcmp hswo) (fun v V2 H2 hle hR => ?_)
     obtain ⟨hV,rfl,rfl⟩ := hR; replace hV := hV.symm; subst hV
     refine Run.heapTo (H' := [sgD Rg.cells 66 b rest ((partialInsertionSort (ltc cm) d2 a e).1)]) Z ?_
     obtain ⟨hq1,hq2⟩ := partialInsertionSort_holds  hswo d2 a e W (by rw [i3.sz]; exact i3.bn) i3.bel
     refine Ze<|Zg<|?_
     refine Zq ((partialInsertionSort (ltc cm) d2 a e).2) (fun h14 g14 => ?_) fun h14 g14 => ?_
     ·refine Tr.cond_t Z h14<|Zu<|Zn<|Zk<|Zn<|Zk<|Ex.keep [0]<|?_
      exact Ex.ret0 rfl ⟨rfl,rfl,_,(i3.k _ hq1 (hq2 (by assumption))).1,(i3.k _ hq1 (hq2 (by assumption))).2,rfl⟩
     refine Tr.cond_f Z h14<|Zt<|?_
     exact ZX ((partialInsertionSort (ltc cm) d2 a e).1) (i3.perm hq1)
    refine Tr.cond_f Z h13<|Zt<|?_
    exact ZX d2 i3
   refine Zo h12 Z<|Zo h12 Z<|Zv (Y.pick_f Z h12 Z)<|Ze<|Zg<|Tr.cond_f Z Z<|Zt<|?_
   exact ZX d2 i3
  refine Zo h11 Z<|Zv (Y.pick_f Z h11 Z)<|Zm Z<|Zo Z Z<|Zo Z Z<|Zv (Y.pick_f Z Z Z)<|Ze<|Zg<|Tr.cond_f Z Z<|Zt<|?_
  exact ZX d2 i3
 rintro d3 i4
 have s4 := i4.sz
 refine Zs<|Zs<|Tr.quiet xmo WK<|ZM Z<|ZV (Y.int Z Z Z)<|ZM Z<|?_
 refine Zq (decide (((a : Nat) : Int) > 0)) (fun h15 g15 => ?_) fun h15 g15 => ?_
 ·refine ZP h15<|ZM Z<|ZP h15<|ZM Z<|ZP h15<|ZM Z<|ZP h15<|ZV (Y.subN ((a - 1 : Nat) : Int) rfl rfl W W)<|ZP h15<|ZV (Y.idxN (a - 1) rfl rfl xes33 W W)<|ZP h15<|ZV (Y.ldA (enc := Rg.cells) (d := d3) (rest := rest) (e := 66) (i := (a - 1)) rfl xag66 (Kn.at 0 rfl) Rg.enc WB rfl)<|ZP h15<|ZM Z<|ZP h15<|ZM Z<|?_
  refine ZP h15<|ZV (Y.idxN p2 Z Z xes33 W W)<|ZP h15<|ZV (Y.ldA (enc := Rg.cells) (d := d3) (rest := rest) (e := 66) (i := p2) Z xag66 (Kn.at 0 rfl) Rg.enc WB rfl)<|ZP h15<|YC Z Z Z ((hcmp (d3[a - 1]!) (d3[p2]!)).frame)<|ZP h15<|ZV (Y.int Z Z Z)<|ZP h15<|ZV (Y.not Z)<|ZV (Y.pick_t Z h15 Z)<|ZE<|Zg<|?_
  refine Zq (decide ((cm (d3[a - 1]!) (d3[p2]!)) < 0)) (fun h16 g16 => ?_) fun h16 g16 => ?_
  ·refine Tr.cond_f Z (congrArg Bool.not h16)<|Zt<|Zg<|Zs<|Zr<|Zm Z<|Zm Z<|Zm Z<|Zm Z<|Zm Z<|?_
   refine Yk [0] Z Z Z (part_r (x := a) (y := e) (p := p2) hN i4.sz W W i4.bn hcmp hswo) (fun v V2 H2 hle hR => ?_)
   obtain ⟨mid,ap,d4,hpe⟩ : ∃ m k q,partition (ltc cm) d3 a e p2 = (m,k,q) := ⟨_,_,_,rfl⟩
   rw [hpe] at hR; dsimp only at hR
   obtain ⟨hV,rfl,rfl⟩ := hR; replace hV := hV.symm; subst hV
   refine Run.heapTo (H' := [sgD Rg.cells 66 b rest d4]) Z ?_
   obtain ⟨w1,w2,w3,w4,w5,w6,w7⟩ := i4.part hswo W W hpe
   refine Zm Z<|Zv (Y.extract Z Z)<|Zv (Y.extract Z Z)<|Za Z<|Za Z<|Ze<|Zg<|Zs<|Zr<|Zm Z<|Za Z<|Ze<|Zg<|Zs<|Zr<|Zm Z<|?_
   refine Zm Z<|Zv (Y.subN ((mid - a : Nat) : Int) rfl rfl W W)<|Zm Z<|Zm Z<|Zv (Y.subN ((e - mid : Nat) : Int) rfl rfl W W)<|Za Z<|Za Z<|Ze<|Zg<|Zs<|Zr<|Zm Z<|Zv (Y.quoN (m := e - a) (n := 8) Z Z W W)<|Za Z<|Ze<|Zg<|?_
   refine Zs<|Zr<|Zm Z<|Zm Z<|Zv (Y.int Z Z Z)<|Ze<|Zg<|?_
   refine Zq (decide (((mid - a : Nat) : Int) < ((e - mid : Nat) : Int))) (fun h17 g17 => ?_) fun h17 g17 => ?_
   ·refine Tr.cond_t Z h17<|Zs<|Zr<|Zm Z<|Zm Z<|Zv (Y.int Z Z Z)<|Za Z<|Ze<|Zg<|Zs<|Zr<|Zm Z<|Zm Z<|Zm Z<|Zm Z<|Zm Z<|?_
    refine Yk [0] Z Z Z (ih d4 (a) (mid) m1 (by have := i4.len; omega) W (by have := i4.bn; omega) w3 w4 hm1) (fun v V2 H2 hle hR => ?_)
    obtain ⟨hV,rfl,d5,hp5,hs5,rfl⟩ := hR; replace hV := hV.symm; subst hV
    refine Run.heapTo (H' := [sgD Rg.cells 66 b rest d5]) Z ?_
    have i5 := w6 d5 hp5 hs5
    refine Ze<|Zg<|Zr<|Zm Z<|Zv (Y.addN ((mid + 1 : Nat) : Int) rfl rfl W W)<|Za Z<|Ze<|Zc<|?_
    exact ZR (⟨mid + 1,e,m1,decide (((mid - a : Nat) : Int) >= (((e - a) / 8 : Nat) : Int)),ap,d5⟩ : Nat × Nat × Nat × Bool × Bool × Array Rg) ⟨i5,hm1⟩ (by dsimp only; omega)
   refine Tr.cond_f Z h17<|Zs<|Zr<|Zm Z<|Zm Z<|Zv (Y.int Z Z Z)<|Za Z<|Ze<|Zg<|Zs<|Zr<|Zm Z<|Zm Z<|Zv (Y.addN ((mid + 1 : Nat) : Int) rfl rfl W W)<|Zm Z<|Zm Z<|?_
   refine Zm Z ?_
   refine Yk [0] Z Z Z (ih d4 (mid + 1) (e) m1 (by have := i4.len; omega) W (by have := i4.bn; omega) w3 w5 hm1) (fun v V2 H2 hle hR => ?_)
   obtain ⟨hV,rfl,d5,hp5,hs5,rfl⟩ := hR; replace hV := hV.symm; subst hV
   refine Run.heapTo (H' := [sgD Rg.cells 66 b rest d5]) Z ?_
   have i5 := w7 d5 hp5 hs5
   refine Ze<|Zg<|Zr<|Zm Z<|Za Z<|Ze<|Zc<|?_
   exact ZR (⟨a,mid,m1,decide (((e - mid : Nat) : Int) >= (((e - a) / 8 : Nat) : Int)),ap,d5⟩ : Nat × Nat × Nat × Bool × Bool × Array Rg) ⟨i5,hm1⟩ (by dsimp only; omega)
  refine Tr.cond_t Z (congrArg Bool.not h16)<|Zs<|Zr<|Zm Z<|Zm Z<|Zm Z<|Zm Z<|Zm Z<|?_
  refine Yk [0] Z Z Z (pareq_r (x := a) (y := e) (p := p2) hN i4.sz W W i4.bn hcmp hswo) (fun v V2 H2 hle hR => ?_)
  obtain ⟨mid,d4,hpe⟩ : ∃ m q,partitionEqual (ltc cm) d3 a e p2 = (m,q) := ⟨_,_,rfl⟩
  rw [hpe] at hR; dsimp only at hR
  obtain ⟨hV,rfl,rfl⟩ := hR; replace hV := hV.symm; subst hV
  refine Run.heapTo (H' := [sgD Rg.cells 66 b rest d4]) Z ?_
  obtain ⟨w1,i5⟩ := i4.eqs hswo W W W (by assumption) hpe
  refine Za Z<|Ze<|Zg<|Zs<|Zr<|Zm Z<|Za Z<|Ze<|Zg<|Zx<|Zy<|Zi<|?_
  exact ZR (⟨mid,e,m1,wb,wp,d4⟩ : Nat × Nat × Nat × Bool × Bool × Array Rg) ⟨i5,hm1⟩ (by dsimp only; omega)
 refine ZO h15 Z<|ZO h15 Z<|ZO h15 Z<|ZO h15 Z<|ZO h15 Z<|ZO h15 Z<|ZO h15 Z<|ZO h15 Z<|ZO h15 Z<|ZO h15 Z<|ZO h15 Z<|ZO h15 Z<|ZO h15 Z<|ZV (Y.pick_f Z h15 Z)<|ZE<|Zg<|?_
 refine Tr.cond_f Z Z<|Zt<|Zg<|Zs<|Zr<|Zm Z<|Zm Z<|Zm Z<|Zm Z<|Zm Z<|?_
 refine Yk [0] Z Z Z (part_r (x := a) (y := e) (p := p2) hN i4.sz W W i4.bn hcmp hswo) (fun v V2 H2 hle hR => ?_)
 obtain ⟨mid,ap,d4,hpe⟩ : ∃ m k q,partition (ltc cm) d3 a e p2 = (m,k,q) := ⟨_,_,_,rfl⟩
 rw [hpe] at hR; dsimp only at hR
 obtain ⟨hV,rfl,rfl⟩ := hR; replace hV := hV.symm; subst hV
 refine Run.heapTo (H' := [sgD Rg.cells 66 b rest d4]) Z ?_
 obtain ⟨w1,w2,w3,w4,w5,w6,w7⟩ := i4.part hswo W W hpe
 refine Zm Z<|Zv (Y.extract Z Z)<|Zv (Y.extract Z Z)<|Za Z<|Za Z<|Ze<|Zg<|Zs<|Zr<|Zm Z<|Za Z<|Ze<|Zg<|Zs<|Zr<|Zm Z<|?_
 refine Zm Z<|Zv (Y.subN ((mid - a : Nat) : Int) rfl rfl W W)<|Zm Z<|Zm Z<|Zv (Y.subN ((e - mid : Nat) : Int) rfl rfl W W)<|Za Z<|Za Z<|Ze<|Zg<|Zs<|Zr<|Zm Z<|Zv (Y.quoN (m := e - a) (n := 8) Z Z W W)<|Za Z<|Ze<|Zg<|?_
 refine Zs<|Zr<|Zm Z<|Zm Z<|Zv (Y.int Z Z Z)<|Ze<|Zg<|?_
 refine Zq (decide (((mid - a : Nat) : Int) < ((e - mid : Nat) : Int))) (fun h18 g18 => ?_) fun h18 g18 => ?_
 ·refine Tr.cond_t Z h18<|Zs<|Zr<|Zm Z<|Zm Z<|Zv (Y.int Z Z Z)<|Za Z<|Ze<|Zg<|Zs<|Zr<|Zm Z<|Zm Z<|Zm Z<|Zm Z<|Zm Z<|?_
  refine Yk [0] Z Z Z (ih d4 (a) (mid) m1 (by have := i4.len; omega) W (by have := i4.bn; omega) w3 w4 hm1) (fun v V2 H2 hle hR => ?_)
  obtain ⟨hV,rfl,d5,hp5,hs5,rfl⟩ := hR; replace hV := hV.symm; subst hV
  refine Run.heapTo (H' := [sgD Rg.cells 66 b rest d5]) Z ?_
  have i5 := w6 d5 hp5 hs5
  refine Ze<|Zg<|Zr<|Zm Z<|Zv (Y.addN ((mid + 1 : Nat) : Int) rfl rfl W W)<|Za Z<|Ze<|Zc<|?_
  exact ZR (⟨mid + 1,e,m1,decide (((mid - a : Nat) : Int) >= (((e - a) / 8 : Nat) : Int)),ap,d5⟩ : Nat × Nat × Nat × Bool × Bool × Array Rg) ⟨i5,hm1⟩ (by dsimp only; omega)
 refine Tr.cond_f Z h18<|Zs<|Zr<|Zm Z<|Zm Z<|Zv (Y.int Z Z Z)<|Za Z<|Ze<|Zg<|Zs<|Zr<|Zm Z<|Zm Z<|Zv (Y.addN ((mid + 1 : Nat) : Int) rfl rfl W W)<|Zm Z<|Zm Z<|?_
 refine Zm Z ?_
 refine Yk [0] Z Z Z (ih d4 (mid + 1) (e) m1 (by have := i4.len; omega) W (by have := i4.bn; omega) w3 w5 hm1) (fun v V2 H2 hle hR => ?_)
 obtain ⟨hV,rfl,d5,hp5,hs5,rfl⟩ := hR; replace hV := hV.symm; subst hV
 refine Run.heapTo (H' := [sgD Rg.cells 66 b rest d5]) Z ?_
 have i5 := w7 d5 hp5 hs5
 refine Ze<|Zg<|Zr<|Zm Z<|Za Z<|Ze<|Zc<|?_
 exact ZR (⟨a,mid,m1,decide (((e - mid : Nat) : Int) >= (((e - a) / 8 : Nat) : Int)),ap,d5⟩ : Nat × Nat × Nat × Bool × Bool × Array Rg) ⟨i5,hm1⟩ (by dsimp only; omega)
theorem pdq_r {V : Vw} {n c b : Nat} {rest : List Value} {d0 : Array Rg} {gf : FuncId} {caps : List Value} {cm : Rg -> Rg -> Int}  (hN : n <= 1073741824) (hd : d0.size = n) {x y l : Nat} (hxy : x <= y) (hy : y <= n) (hB : Below (ltc cm) x y d0) (hl : l <= 1000)  (hcmp : ∀ x y : Rg,Does Tryz.prog gf (.agg (Rg.cells x).toArray :: .agg (Rg.cells y).toArray :: caps) V [] (Pv (.int .i64 (cm x y)) V [])) (hswo : SWO (ltc cm)) : Does Tryz.prog 177 [.slice (some ⟨b,0,none⟩) n c,.int .i64 ((x : Nat) : Int),.int .i64 ((y : Nat) : Int),.int .i64 ((l : Nat) : Int),.func (.func gf) #[] caps.toArray] V [sgD Rg.cells 66 b rest d0] (fun v V' H' => V' = V /\ v = .tuple #[] /\ ∃ d1,PermIn x y d0 d1 /\ SortedIn (ltc cm) x y d1 /\ H' = [sgD Rg.cells 66 b rest d1]) := by
  obtain ⟨k,hk⟩ : ∃ k,y - x = k := ⟨_,rfl⟩
  induction k using Nat.strongRecOn generalizing x y l d0 with
  | _ k ih => exact pdq1_r hN hd hxy hy hB hl (fun d x2 y2 l2 h1 h2 h3 h4 h5 h6 => ih (y2 - x2) W h4 h2 h3 h5 h6 rfl) hcmp hswo
end Go.Proofs.YtfgblingojgafaaGreat
namespace Go.Proofs.YtfgblingojgafaaGreat
open Go Go.K
attribute [local irreducible] Code.wp wpList Calls wpQuiet
open Go.Sort
theorem insn_r {gf : FuncId} {caps : List Value}  {V : Vw} : Does Tryz.prog 188 [.slice none 0 0,.int .i64 0,.int .i64 0,.func (.func gf) #[] caps.toArray] V [] (Pv (.tuple #[]) V []) := by
 refine Does.intro Tryz.func188 rfl rfl (le rfl) (fun B => ?_)
 refine Zs<|Zr<|Zm Z<|Zv (Y.addN ((0 + 1 : Nat) : Int) rfl rfl W W)<|Za Z<|Ze<|Zg<|Zb<|?_
 refine ZL (X := Unit) (fun _ => V) (fun _ => []) (fun _ => [(0,.slice none 0 0),(1,.int .i64 0),(2,.int .i64 0),(3,.func (.func gf) #[] caps.toArray),(8,.int .i64 ((0 + 1 : Nat) : Int))]) (fun _ => True) (fun _ => 0) () trivial ?_
 rintro _ _
 refine Zs<|Zs<|Zr<|Zm Z<|Zm Z<|Zv (Y.int Z Z Z)<|Ze<|Zg<|Tr.cond_f rfl (show (decide (((0 + 1 : Nat) : Int) < 0)) = false from by decide +kernel)<|Zx<|Zy<|Zy<|Zi<|?_
 exact Ex.end0 rfl ⟨rfl,rfl,rfl⟩
theorem insn_r_h {gf : FuncId} {caps : List Value}  {V : Vw} {H : Hp} : Does Tryz.prog 188 [.slice none 0 0,.int .i64 0,.int .i64 0,.func (.func gf) #[] caps.toArray] V H (Pv (.tuple #[]) V H) := insn_r.frame
theorem pdqn_r {l : Nat} {gf : FuncId} {caps : List Value}  {V : Vw} : Does Tryz.prog 177 [.slice none 0 0,.int .i64 0,.int .i64 0,.int .i64 ((l : Nat) : Int),.func (.func gf) #[] caps.toArray] V [] (Pv (.tuple #[]) V []) := by
 refine Does.intro Tryz.func177 rfl rfl (le rfl) (fun B => ?_)
 refine Zs<|Zr<|Za Z<|Ze<|Zg<|Zs<|Zr<|Za Z<|Ze<|Zg<|Zb<|?_
 refine ZL (X := Unit) (fun _ => V) (fun _ => []) (fun _ => [(0,.slice none 0 0),(1,.int .i64 0),(2,.int .i64 0),(3,.int .i64 ((l : Nat) : Int)),(4,.func (.func gf) #[] caps.toArray),(10,.bool true),(11,.bool true)]) (fun _ => True) (fun _ => 0) () trivial ?_
 rintro _ _
 refine Zb<|Zs<|Zr<|Zm Z<|Zm Z<|Zv (Y.subN ((0 - 0 : Nat) : Int) rfl rfl W W)<|Za Z<|Ze<|Zg<|Zs<|Zs<|Zr<|Zm Z<|Zv (Y.int Z Z Z)<|Ze<|Zg<|?_
 refine Tr.cond_t rfl (show (decide (((0 - 0 : Nat) : Int) <= 12)) = true from by decide +kernel)<|Zs<|Zr<|Zm Z<|Zm Z<|Zm Z<|Zm Z<|Yc Z Z Z insn_r_h<|Ze<|Zg<|Zu<|Zn<|Zk<|Zn<|Zk<|?_
 exact Ex.ret0 rfl ⟨rfl,rfl,rfl⟩
theorem pdqn_r_h {l : Nat} {gf : FuncId} {caps : List Value}  {V : Vw} {H : Hp} : Does Tryz.prog 177 [.slice none 0 0,.int .i64 0,.int .i64 0,.int .i64 ((l : Nat) : Int),.func (.func gf) #[] caps.toArray] V H (Pv (.tuple #[]) V H) := pdqn_r.frame
theorem sortn_r {gf : FuncId} {caps : List Value}  {V : Vw} : Does Tryz.prog 153 [.slice none 0 0,.func (.func gf) #[] caps.toArray] V [] (Pv (.tuple #[]) V []) := by
 refine Does.intro Tryz.func153 rfl rfl (le rfl) (fun B => ?_)
 refine Zs<|Zr<|Zm Z<|Zv (Y.lenSl Z xes33)<|Za Z<|Ze<|Zg<|Zr<|Zm Z<|Zm Z<|Zm Z<|Zv (Y.conv (0) rfl xit3_195 (wrap_u64 W))<|?_
 refine Yk [] Z Z Z (len_0 (m := 0) W) (fun v V2 H2 hle hR => ?_)
 obtain ⟨hV,⟨k1,rfl,hk1,hk2⟩,rfl⟩ := hR; replace hV := hV.symm; subst hV
 refine Run.heapTo (H' := []) Z<|Zm Z<|Yc Z Z Z pdqn_r_h<|Ze<|?_
 exact Ex.end0 rfl ⟨rfl,rfl,rfl⟩
theorem sortn_r_h {gf : FuncId} {caps : List Value}  {V : Vw} {H : Hp} : Does Tryz.prog 153 [.slice none 0 0,.func (.func gf) #[] caps.toArray] V H (Pv (.tuple #[]) V H) := sortn_r.frame
theorem sorts_r {V : Vw} {n c b : Nat} {rest : List Value} {d0 : Array Rg} {gf : FuncId} {caps : List Value} {cm : Rg -> Rg -> Int}  (hN : n <= 1073741824) (hd : d0.size = n) (hcmp : ∀ x y : Rg,Does Tryz.prog gf (.agg (Rg.cells x).toArray :: .agg (Rg.cells y).toArray :: caps) V [] (Pv (.int .i64 (cm x y)) V [])) (hswo : SWO (ltc cm))  : Does Tryz.prog 153 [.slice (some ⟨b,0,none⟩) n c,.func (.func gf) #[] caps.toArray] V [sgD Rg.cells 66 b rest d0] (fun v V' H' => V' = V /\ v = .tuple #[] /\ ∃ d1,PermIn 0 n d0 d1 /\ SortedIn (ltc cm) 0 n d1 /\ H' = [sgD Rg.cells 66 b rest d1]) := by
 refine Does.intro Tryz.func153 rfl rfl (le rfl) (fun B => ?_)
 refine Zs<|Zr<|Zm Z<|Zv (Y.lenSl Z xes33)<|Za Z<|Ze<|Zg<|Zr<|Zm Z<|Zm Z<|Zm Z<|Zv (Y.conv (((n : Nat) : Int)) rfl xit3_195 (wrap_u64 W))<|?_
 refine Yk [] Z Z Z (len_0 (m := n) W) (fun v V2 H2 hle hR => ?_)
 obtain ⟨hV,⟨k1,rfl,hk1,hk2⟩,rfl⟩ := hR; replace hV := hV.symm; subst hV
 refine Run.heapTo (H' := [sgD Rg.cells 66 b rest d0]) Z<|Zm Z<|?_
 refine Yk [0] Z Z Z (pdq_r (x := 0) (y := n) (l := k1) hN hd (Nat.zero_le _) (Nat.le_refl _) (.inl rfl) W hcmp hswo) (fun v V2 H2 hle hR => ?_)
 obtain ⟨hV,rfl,d1,hp1,hs1,rfl⟩ := hR; replace hV := hV.symm; subst hV
 refine Run.heapTo (H' := [sgD Rg.cells 66 b rest d1]) Z<|Ze<|Ex.keep [0]<|?_
 exact Ex.end0 rfl ⟨rfl,rfl,d1,hp1,hs1,rfl⟩
theorem sort_r {V : Vw} {v : Value} {l : List Rg} {s : Sg} {gf : FuncId} {caps : List Value} {cm : Rg -> Rg -> Int}  (hcmp : ∀ x y : Rg,Does Tryz.prog gf (.agg (Rg.cells x).toArray :: .agg (Rg.cells y).toArray :: caps) V [] (Pv (.int .i64 (cm x y)) V [])) (hswo : SWO (ltc cm)) (ho : Ow 66 2 v l.length (l.flatMap Rg.cells) s) (hn : l.length <= 1073741824) : Does Tryz.prog 153 [v,.func (.func gf) #[] caps.toArray] V [s] (fun u V' H' => V' = V /\ u = .tuple #[] /\ ∃ l' s',l'.Perm l /\ Srt (ltc cm) l' /\ Ow 66 2 v l'.length (l'.flatMap Rg.cells) s' /\ H' = [s']) := by
  rcases ho.toD Rg.enc with ⟨rfl,rfl,rfl⟩ | ⟨b,cap,rest,rfl,rfl,h1,h2,h3⟩
  · refine (sortn_r_h (H := [[]])).mono ?_
    rintro v V' H' ⟨rfl,rfl,rfl⟩
    exact ⟨rfl,rfl,[],[],List.Perm.refl _,List.Pairwise.nil,Ow.nil _ _,rfl⟩
  · refine (sorts_r (n := l.length) (c := cap) (b := b) (rest := rest) (d0 := l.toArray) hn (by simp) hcmp hswo).mono ?_
    rintro v V' H' ⟨rfl,rfl,d1,hp,hs,rfl⟩
    have hz : d1.size = l.length := by have := hp.1; simpa using this
    have hp2 : PermIn 0 l.toArray.size l.toArray d1 := by simpa using hp
    have hs2 : SortedIn (ltc cm) 0 d1.size d1 := by rw [hz]; exact hs
    have hw := Ow.ofD (e := 66) (b := b) (rest := rest) (l := d1.toList) (cap := cap) Rg.enc (by simp [hz]; exact h1) h2 (by simp [hz]; simpa using h3)
    refine ⟨rfl,rfl,d1.toList,_,by simpa using perm_of hp2,srt_of hs2,?_,rfl⟩
    have e1 : d1.toList.length = l.length := by simp [hz]
    rw [show d1.toList.toArray = d1 by simp,e1] at hw; rw [e1]; exact hw
end Go.Proofs.YtfgblingojgafaaGreat
namespace Go.Proofs.YtfgblingojgafaaGreat
open Go Go.K
attribute [local irreducible] Code.wp wpList Calls wpQuiet
open Go.Sort
theorem size_c {q : Rg} (hq : q.Ok) {V : Vw} : Does Tryz.prog 133 [.agg #[.int .u32 q.low,.int .u32 q.high]] V [] (Pv (.int .i64 (Rg.size q)) V []) := by
 have hb := hq.all
 refine Does.intro Tryz.func133 rfl rfl (le rfl) (fun B => ?_)
 refine Zs<|Zr<|?_
 refine Run.box rfl (lt rfl) (fun b1 => ?_)
 refine Za Z<|Ze<|Zg<|Zs<|Zr<|Zv (Y.fieldAddr Z xfo66_1)<|Zv (Y.load Z xts24 (Kn.at 0 Z) Z)<|Zv (Y.conv (q.high) rfl xit24_3 (wrap_i64 W))<|Zv (Y.fieldAddr Z xfo66_0)<|Zv (Y.load Z xts24 (Kn.at 0 Z) Z)<|Zv (Y.conv (q.low) rfl xit24_3 (wrap_i64 W))<|Zv (Y.sub Z Z W)<|Zv (Y.add Z Z W)<|Za Z<|Ze<|Zg<|?_
 refine Zu<|Ex.keep []<|?_
 exact Ex.ret1 rfl rfl  ⟨rfl,rfl,rfl⟩
theorem size_h {q : Rg} (hq : q.Ok) {V : Vw} {H : Hp} : Does Tryz.prog 133 [.agg #[.int .u32 q.low,.int .u32 q.high]] V H (Pv (.int .i64 (Rg.size q)) V H) := (size_c hq).frame
theorem odd_c {q : Rg} {V : Vw} : Does Tryz.prog 110 [.agg #[.int .u32 q.low,.int .u32 q.high]] V [] (Pv (.bool (Rg.odd q)) V []) := by
 refine Does.intro Tryz.func110 rfl rfl (le rfl) (fun B => ?_)
 refine Zs<|Zr<|?_
 refine Run.box rfl (lt rfl) (fun b1 => ?_)
 refine Za Z<|Ze<|Zg<|Zs<|Zr<|Zv (Y.fieldAddr Z xfo66_1)<|Zv (Y.load Z xts24 (Kn.at 0 Z) Z)<|Zv (Y.fieldAddr Z xfo66_0)<|Zv (Y.load Z xts24 (Kn.at 0 Z) Z)<|Zv (Y.int Z Z Z)<|Za Z<|Ze<|Zg<|Zu<|Ex.keep []<|?_
 exact Ex.ret1 rfl rfl  ⟨rfl,rfl,rfl⟩
theorem cmp_u {m n : Int} {V : Vw} : Does Tryz.prog 115 [.int .u32 m,.int .u32 n] V [] (Pv (.int .i64 (Rg.cmp3 m n)) V []) := by
 refine Does.intro Tryz.func115 rfl rfl (le rfl) (fun B => ?_)
 refine Zs<|Zr<|Za Z<|Ze<|Zg<|Zs<|Zr<|Zm Z<|Yc Z Z Z isnan_u0_h<|Za Z<|Ze<|Zg<|Zs<|Zr<|Zm Z<|Yc Z Z Z isnan_u0_h<|?_
 refine Za Z<|Ze<|Zg<|Zs<|Zs<|Zr<|Zm Z<|Ze<|Zg<|Tr.cond_f Z Z<|Zt<|Zg<|Zs<|Zs<|Zr<|Zm Z<|?_
 refine Ze<|Zg<|Tr.cond_f Z Z<|Zt<|Zg<|Zs<|Zs<|Zr<|Zm Z<|Zm Z<|Zv (Y.int Z Z Z)<|Ze<|Zg<|?_
 refine Zq (decide (m < n)) (fun h1 g1 => ?_) fun h1 g1 => ?_
 ·refine Tr.cond_t Z h1<|Zs<|Zr<|Za Z<|Ze<|Zg<|Zu<|Zn<|Ex.keep []<|?_
  exact Ex.ret1 rfl rfl  ⟨congrArg (Value.int _) (by unfold Rg.cmp3; (repeat' split) <;> omega),rfl,rfl⟩
 refine Tr.cond_f Z h1<|Zt<|Zg<|Zs<|Zs<|Zr<|Zm Z<|Zm Z<|Zv (Y.int Z Z Z)<|Ze<|Zg<|?_
 refine Zq (decide (m > n)) (fun h2 g2 => ?_) fun h2 g2 => ?_
 ·refine Tr.cond_t Z h2<|Zs<|Zr<|Za Z<|Ze<|Zg<|Zu<|Zn<|Ex.keep []<|?_
  exact Ex.ret1 rfl rfl  ⟨congrArg (Value.int _) (by unfold Rg.cmp3; (repeat' split) <;> omega),rfl,rfl⟩
 refine Tr.cond_f Z h2<|Zt<|Zg<|Zs<|Zr<|Za Z<|Ze<|Zg<|Zu<|Ex.keep []<|?_
 exact Ex.ret1 rfl rfl  ⟨congrArg (Value.int _) (by unfold Rg.cmp3; (repeat' split) <;> omega),rfl,rfl⟩
theorem cmp_u_h {m n : Int} {V : Vw} {H : Hp} : Does Tryz.prog 115 [.int .u32 m,.int .u32 n] V H (Pv (.int .i64 (Rg.cmp3 m n)) V H) := cmp_u.frame
theorem by_c {q r : Rg} {V : Vw} : Does Tryz.prog 114 [.agg #[.int .u32 q.low,.int .u32 q.high],.agg #[.int .u32 r.low,.int .u32 r.high]] V [] (Pv (.int .i64 (Rg.cmp q r)) V []) := by
 refine Does.intro Tryz.func114 rfl rfl (le rfl) (fun B => ?_)
 refine Zs<|Zr<|?_
 refine Run.box rfl (lt rfl) (fun b1 => ?_)
 refine Run.box rfl (lt rfl) (fun b2 => ?_)
 refine Za Z<|Ze<|Zg<|Zs<|Zr<|Zv (Y.fieldAddr Z xfo66_0)<|Zv (Y.load Z xts24 (Kn.at 1 Z) Z)<|Zv (Y.fieldAddr Z xfo66_0)<|Zv (Y.load Z xts24 (Kn.at 0 Z) Z)<|Yc Z Z Z cmp_u_h<|Za Z<|Ze<|Zg<|Zu<|Ex.keep []<|?_
 exact Ex.ret1 rfl rfl  ⟨rfl,rfl,rfl⟩
theorem count_c {V : Vw} {H : Hp} {l : List Rg} {p : Option Addr} {c : Nat} (hv : Rd V H 2 (.slice p l.length c) l.length (l.flatMap Rg.cells)) (hlm : l.length <= 1000) (hok : Rg.Oks l)  : Does Tryz.prog 71 [.slice p l.length c] V H (Pv (.int .i64 (Rg.cnt l)) V H) := by
 refine Does.intro Tryz.func71 rfl rfl (le rfl) (fun B => ?_)
 refine Zs<|Zr<|Za Z<|Ze<|Zg<|Zs<|Zr<|Za Z<|Ze<|Zg<|Zs<|Zs<|Zr<|Zm Z<|Zv (Y.lenSl Z xes33)<|Zm Z<|?_
 refine Ze<|Zg<|Zb<|?_
 refine ZL (X := Nat) (fun z0 => V) (fun z0 => H) (fun z0 => [(3,.int .i64 (Rg.cnt (l.take z0))),(6,.slice p l.length c),(7,.int .i64 ((l.length : Nat) : Int)),(8,.int .i64 (z0 : Int))]) (fun z0 => z0 <= l.length) (fun z0 => l.length - z0) (0 : Nat) (Nat.zero_le _) ?_
 rintro i1 hi
 have hcb := Rg.cnt_bd (hok.take i1)
 rw [List.length_take] at hcb
 have hsz := (hok.bd i1)
 have hsd : Rg.size (l.getD i1 Rg.dflt) = (l.getD i1 Rg.dflt).high - (l.getD i1 Rg.dflt).low + 1 := rfl
 refine Zs<|Zr<|Zv (Y.int Z Z Z)<|Ze<|Zg<|Zs<|?_
 refine Zq (decide ((i1 : Int) < ((l.length : Nat) : Int))) (fun h1 g1 => ?_) fun h1 g1 => ?_
 ·refine Tr.cond_t Z h1<|Zt<|Zg<|Zs<|Zb<|Zs<|Zr<|Zv (Y.idxR i1 Z Z xes33 hv W W)<|Zv (Y.ldRA (vs := [.int .u32 ((l.getD i1 Rg.dflt).low),.int .u32 ((l.getD i1 Rg.dflt).high)]) rfl xag66 hv rfl WD (fun o ho => flatm_atA Rg.len W Rg.dflt o ho))<|?_
  refine Run.alloc xzo66 (lt rfl) (fun b2 => ?_)
  refine Run.store (s := [(b2,.cells #[.int .u32 ((l.getD i1 Rg.dflt).low),.int .u32 ((l.getD i1 Rg.dflt).high)] 66 (0,0))]) Z Z xsz66 (i := 0) Z Z (le Z) Z Z<|Ze<|Zg<|Zr<|Zm Z<|Zv (Y.loadAgg Z xag66 (Kn.at 0 Z) Z)<|Yc Z Z Z (size_h (hok.at i1))<|Zv (Y.add Z Z W)<|Za Z<|Ze<|Zc<|Zg<|Zr<|Zv (Y.add Z Z W)<|Zm Z<|Ze<|?_
  refine Ex.drop ?_
  have er := Rg.cnt_take (l := l) (i := i1) W
  exact ZR (i1 + 1 : Nat) W W (by repeat (first | exact subB_nil _ | refine subB_cons (by first | rfl | exact congrArg (fun z => some (Value.int _ z)) W | exact congrArg (fun z => some (Value.int _ z)) W) ?_))
 refine Tr.cond_f Z h1<|Zx<|Zy<|Zy<|Zi<|Zg<|Zs<|Zr<|Zm Z<|Za Z<|Ze<|Zg<|Zu<|?_
 exact Ex.ret1 rfl rfl  ⟨congrArg (Value.int _) (by rw [List.take_of_length_le W]),rfl,rfl⟩
theorem count_h {V : Vw} {H : Hp} {l : List Rg} {v : Value} (hv : Rd V H 2 v l.length (l.flatMap Rg.cells)) (hlm : l.length <= 1000) (hok : Rg.Oks l) : Does Tryz.prog 71 [v] V H (Pv (.int .i64 (Rg.cnt l)) V H) := by
  obtain ⟨p,c,rfl,_⟩ := hv.form
  exact count_c hv hlm hok
theorem index_r {V : Vw} {H : Hp} {l : List Rg} {p : Option Addr} {c : Nat} (hv : Rd V H 2 (.slice p l.length c) l.length (l.flatMap Rg.cells)) (hlm : l.length <= 1000000000) {gf : FuncId} {caps : List Value} {pb : Rg -> Bool} (hp : ∀ q,Does Tryz.prog gf (.agg (Rg.cells q).toArray :: caps) V H (Pv (.bool (pb q)) V H))  : Does Tryz.prog 151 [.slice p l.length c,.func (.func gf) #[] caps.toArray] V H (Pv (.int .i64 (ixf pb l)) V H) := by
 refine Does.intro Tryz.func151 rfl rfl (le rfl) (fun B => ?_)
 refine Zs<|Zr<|Za Z<|Ze<|Zg<|Zs<|Zs<|Zr<|Zm Z<|Zv (Y.lenSl Z xes33)<|Zm Z<|Ze<|Zg<|Zb<|?_
 refine ZL (X := Nat) (fun z0 => V) (fun z0 => H) (fun z0 => [(0,.slice p l.length c),(1,.func (.func gf) #[] caps.toArray),(7,.int .i64 ((l.length : Nat) : Int)),(8,.int .i64 (z0 : Int))]) (fun z0 => z0 <= l.length /\ ∀ j,j < z0 -> pb (l.getD j Rg.dflt) = false) (fun z0 => l.length - z0) (0 : Nat) ⟨Nat.zero_le _,fun j hj => absurd hj (Nat.not_lt_zero j)⟩ ?_
 rintro i1 ⟨hi,hn⟩
 refine Zs<|Zr<|Zv (Y.int Z Z Z)<|Ze<|Zg<|Zs<|?_
 refine Zq (decide ((i1 : Int) < ((l.length : Nat) : Int))) (fun h1 g1 => ?_) fun h1 g1 => ?_
 ·refine Tr.cond_t Z h1<|Zt<|Zg<|Zs<|Zb<|Zs<|Zr<|Zm Z<|Za Z<|Ze<|Zg<|Zs<|Zr<|Zm Z<|Zm Z<|Zm Z<|?_
  refine Zv (Y.idxR i1 Z Z xes33 hv W W)<|Zv (Y.ldRA (vs := [.int .u32 ((l.getD i1 Rg.dflt).low),.int .u32 ((l.getD i1 Rg.dflt).high)]) rfl xag66 hv rfl WD (fun o ho => flatm_atA Rg.len W Rg.dflt o ho))<|Yc Z Z Z (hp (l.getD i1 Rg.dflt))<|Ze<|Zg<|?_
  refine Zq (pb (l.getD i1 Rg.dflt)) (fun h2 g2 => ?_) fun h2 g2 => ?_
  ·refine Tr.cond_t Z h2<|Zs<|Zr<|Zm Z<|Za Z<|Ze<|Zg<|Zu<|Zk<|Zn<|Zn<|Zk<|Zn<|?_
   exact Ex.ret1 rfl rfl  ⟨congrArg (Value.int _) (ixf_at hn W (by assumption)).symm,rfl,rfl⟩
  refine Tr.cond_f Z h2<|Zt<|Zc<|Zg<|Zr<|Zv (Y.add Z Z W)<|Zm Z<|Ze<|?_
  exact ZR (i1 + 1 : Nat) ⟨by omega,upto_succ hn (by assumption)⟩ W
 refine Tr.cond_f Z h1<|Zx<|Zy<|Zy<|Zi<|Zg<|Zs<|Zr<|Za Z<|Ze<|Zg<|Zu<|?_
 exact Ex.ret1 rfl rfl  ⟨congrArg (Value.int _) (ixf_none (d := Rg.dflt) (fun j hj => hn j W)).symm,rfl,rfl⟩
theorem index_r_h {V : Vw} {H : Hp} {l : List Rg} {v : Value} {n : Nat} (hv : Rd V H 2 v n (l.flatMap Rg.cells)) (hlm : l.length <= 1000000000) {gf : FuncId} {caps : List Value} {pb : Rg -> Bool} (hp : ∀ q,Does Tryz.prog gf (.agg (Rg.cells q).toArray :: caps) V H (Pv (.bool (pb q)) V H)) : Does Tryz.prog 151 [v,.func (.func gf) #[] caps.toArray] V H (Pv (.int .i64 (ixf pb l)) V H) := by
  obtain rfl : n = l.length := by have := hv.len; rw [flat_len Rg.enc] at this; omega
  obtain ⟨p,c,rfl,_⟩ := hv.form
  exact index_r hv hlm hp
theorem contains_r {V : Vw} {H : Hp} {l : List Rg} {p : Option Addr} {c : Nat} (hv : Rd V H 2 (.slice p l.length c) l.length (l.flatMap Rg.cells)) (hlm : l.length <= 1000000000) {gf : FuncId} {caps : List Value} {pb : Rg -> Bool} (hp : ∀ q,Does Tryz.prog gf (.agg (Rg.cells q).toArray :: caps) V H (Pv (.bool (pb q)) V H))  : Does Tryz.prog 111 [.slice p l.length c,.func (.func gf) #[] caps.toArray] V H (Pv (.bool (l.any pb)) V H) := by
 refine Does.intro Tryz.func111 rfl rfl (le rfl) (fun B => ?_)
 refine Zs<|Zr<|Za Z<|Ze<|Zg<|Zs<|Zr<|Zm Z<|Zm Z<|Yc Z Z Z (index_r_h hv hlm hp)<|Zv (Y.int Z Z Z)<|Za Z<|Ze<|Zg<|Zu<|?_
 exact Ex.ret1 rfl rfl  ⟨congrArg Value.bool (ixf_any pb l Rg.dflt),rfl,rfl⟩
theorem values1_r {V : Vw} {l : List Rg} {p : Option Addr} {c b N : Nat} (hv : Rd V [] 2 (.slice p l.length c) l.length (l.flatMap Rg.cells)) (hlm : l.length <= 1000000000) (hNl : l.length <= N) {lp : Nat} {J Jx : List Rg -> Hp -> Prop} {Hy : Hp} (hy : ∀ xs x H,J xs H -> xs.length < N -> YDoes Tryz.prog lp (Rg.yv x) V H (fun u V' H' => V' = V /\ (u = .bool true /\ J (xs ++ [x]) H' \/ u = .bool false /\ Jx (xs ++ [x]) H'))) (h0 : J [] Hy)  : Does Tryz.prog 154 [yv lp,(pZ b)] V ([[(b,.cells #[.slice p l.length c] 33 (0,0))]] ++ Hy) (fun _ V' H' => V' = V /\ ∃ xs Hy',H' = [[(b,.cells #[.slice p l.length c] 33 (0,0))]] ++ Hy' /\ (xs = l /\ J xs Hy' \/ True /\ Jx xs Hy')) := by
 refine Does.intro Tryz.func154 rfl rfl (le rfl) (fun B => ?_)
 refine Zs<|Zr<|Zv (Y.load Z xts33 (Kn.at 0 Z) Z)<|Zv (Y.lenSl Z xes33)<|Zm Z<|Ze<|Zg<|Zb<|?_
 refine ZL (X := Nat × Hp) (fun z0 => V) (fun z0 => [(b,.cells #[.slice p l.length c] 33 (0,0))] :: z0.2) (fun z0 => [(0,yv lp),(5,.slice p l.length c),(6,.int .i64 ((l.length : Nat) : Int)),(7,.int .i64 (z0.1 : Int))]) (fun z0 => z0.1 <= l.length /\ J (l.take z0.1) z0.2) (fun z0 => l.length - z0.1) (⟨0,Hy⟩ : Nat × Hp) ⟨Nat.zero_le _,h0⟩ ?_
 rintro ⟨i1,Hy1⟩ ⟨hi,hJ⟩
 try dsimp only at hi hJ ⊢
 refine Zs<|Zr<|Zv (Y.int Z Z Z)<|Ze<|Zg<|Zs<|?_
 refine Zq (decide ((i1 : Int) < ((l.length : Nat) : Int))) (fun h1 g1 => ?_) fun h1 g1 => ?_
 ·refine Tr.cond_t Z h1<|Zt<|Zg<|Zs<|Zb<|Zs<|Zr<|Zv (Y.idxR i1 Z Z xes33 hv.of_nil W W)<|Zv (Y.ldRA (vs := [.int .u32 ((l.getD i1 Rg.dflt).low),.int .u32 ((l.getD i1 Rg.dflt).high)]) rfl xag66 hv.of_nil rfl WD (fun o ho => flatm_atA Rg.len W Rg.dflt o ho))<|?_
  refine Run.alloc xzo66 (lt rfl) (fun b2 => ?_)
  refine Run.store (s := [(b2,.cells #[.int .u32 ((l.getD i1 Rg.dflt).low),.int .u32 ((l.getD i1 Rg.dflt).high)] 66 (0,0))]) Z Z xsz66 (i := 0) Z Z (le Z) Z Z<|Ze<|Zg<|Zs<|Tr.regionI<|RunI.op Z<|Zm Z<|Ze<|Ex.goI<|RunI.op Z<|Zv (Y.loadAgg Z xag66 (Kn.at 0 Z) Z)<|Ze<|Ex.goI<|?_
  refine RunI.callY [[(b2,.cells #[.int .u32 ((l.getD i1 Rg.dflt).low),.int .u32 ((l.getD i1 Rg.dflt).high)] 66 (0,0))],[(b,.cells #[.slice p l.length c] 33 (0,0))]] Hy1 rfl rfl rfl (lt rfl) (hy (l.take i1) (l.getD i1 Rg.dflt) _ hJ (by rw [List.length_take]; omega)) (fun u V2 Hy2 hle hR => ?_)
  obtain ⟨hV,⟨rfl,hJ2⟩ | ⟨rfl,hJ2⟩⟩ := hR <;> (replace hV := hV.symm; subst hV)
  ·refine RunI.op Z<|Zv (Y.not Z)<|Ze<|Ex.goI<|RunI.nil<|Zg<|Tr.cond_f Z Z<|Zt<|Zc<|Zg<|Zr<|Zv (Y.add Z Z W)<|Zm Z<|Ze<|Ex.drop<|?_
   exact ZR (⟨i1 + 1,Hy2⟩ : Nat × Hp) ⟨by omega,by rw [take_succ_getD l i1 Rg.dflt W]; exact hJ2⟩ (by dsimp only; omega)
  ·refine RunI.op Z<|Zv (Y.not Z)<|Ze<|Ex.goI<|RunI.nil<|Zg<|Tr.cond_t Z Z<|Zu<|Zk<|Zn<|Zn<|Zk<|Ex.drop<|?_
   exact Ex.ret0 rfl ⟨rfl,l.take i1 ++ [l.getD i1 Rg.dflt],Hy2,rfl,.inr ⟨trivial,hJ2⟩⟩
 refine Tr.cond_f Z h1<|Zx<|Zy<|Zy<|Zi<|?_
 exact Ex.end0 rfl ⟨rfl,l.take i1,Hy1,rfl,.inl ⟨List.take_of_length_le W,hJ⟩⟩
theorem values_r_it {V : Vw} {l : List Rg} {p : Option Addr} {c b : Nat} (hv : Rd V [] 2 (.slice p l.length c) l.length (l.flatMap Rg.cells)) (hlm : l.length <= 1000000000) : Iterates Tryz.prog 154 [(pZ b)] V [[(b,.cells #[.slice p l.length c] 33 (0,0))]] Rg.yv (fun xs => xs = l) (fun _ => True) l.length := fun lp J Jx hy Hy h0 => values1_r hv hlm (Nat.le_refl _) hy h0
theorem values_r_top {V : Vw} {l : List Rg} {p : Option Addr} {c : Nat}  : Does Tryz.prog 113 [.slice p l.length c] V [] (fun v V' H' => V' = V /\ ∃ b,v = .func (.func 154) #[] [(pZ b)].toArray /\ H' = [[(b,.cells #[.slice p l.length c] 33 (0,0))]]) := by
 refine Does.intro Tryz.func113 rfl rfl (le rfl) (fun B => ?_)
 refine Zs<|Zr<|?_
 refine Run.box rfl (lt rfl) (fun b1 => ?_)
 refine Za Z<|Ze<|Zg<|Zs<|Zr<|Zv (Y.makeFunc (l := []) (l' := [.tmp 1]) Z Z)<|Za Z<|Ze<|Zg<|Zu<|Ex.keep [0]<|?_
 exact Ex.ret1 rfl rfl  ⟨rfl,b1,rfl,rfl⟩
theorem appseq_r {V : Vw} {Hs : Hp} {gf : FuncId} {caps : List Value} {S Sp : List Rg -> Prop} {N : Nat} (hit : Iterates Tryz.prog gf caps V Hs Rg.yv S Sp N) (hNb : N <= 1000000000)  : Does Tryz.prog 176 [.slice none 0 0,.func (.func gf) #[] caps.toArray] V Hs (fun v V' H' => V' = V /\ ∃ xs q,S xs /\ Ow 66 2 v xs.length (xs.flatMap Rg.cells) q /\ H' = q :: Hs) := by
 refine Does.introM Tryz.func176 rfl rfl (le rfl) (fun B => ?_)
 refine Zs<|Zr<|?_
 refine Run.box rfl (lt rfl) (fun b1 => ?_)
 refine Za Z<|Ze<|Zg<|Zs<|Zs<|Zr<|Run.nilseg<|Zm Z<|Ze<|Zg<|Zb<|?_
 refine Tr.range1 [] Hs [[],[(b1,.cells #[.slice none 0 0] 33 (0,0))]] (List.perm_append_comm (l₁ := ([[],[(b1,.cells #[.slice none 0 0] 33 (0,0))]] : Hp))) rfl (hit) (fun xs (H : Hp) => ∃ p1 n1 k1 q1,H = [q1,[(b1,.cells #[.slice p1 n1 k1] 33 (0,0))]] /\ Ow 66 2 (.slice p1 n1 k1) n1 (xs.flatMap Rg.cells) q1 /\ n1 = xs.length) (fun c xs (H : Hp) => False) ⟨none,0,0,[],rfl,Ow.nil _ _,rfl⟩ (fun lp3 rr4 xs5 x6 H hLI hf hJ hN => ?_) (fun D2 xs5 H hS hJ => ?_) (fun D2 c xs5 H hS hJ => ?_)
 ·obtain ⟨p1,n1,k1,q1,rfl,how,hn⟩ := hJ
  refine YDoes.intro hLI rfl (env_par1 (lt rfl)) (fun Blp3 => ?_)
  refine TrR.region Z ?_
  refine Run.alloc xzo66 (lt rfl) (fun b7 => ?_)
  refine Run.store (s := [(b7,.cells #[.int .u32 x6.low,.int .u32 x6.high] 66 (0,0))]) Z Z xsz66 (i := 0) Z Z (le Z) Z Z<|Ze<|Ex.keep [1,0,0,0]<|Ex.begin hf.1<|TrR.block<|TrR.region Z<|Zv (Y.load Z xts33 (Kn.at 3 Z) Z)<|Zv (Y.loadAgg Z xag66 (Kn.at 1 Z) Z)<|?_
  refine Run.buildSlice (l := [(0,.tmp 9)]) xes33 xzo66 rfl WD rfl rfl WD (lt rfl) (fun b8 => ?_)
  refine Run.append (n := n1) (m := 1) (xs := (xs5).flatMap Rg.cells) (ys := [.int .u32 x6.low,.int .u32 x6.high]) rfl rfl xes33 xzi66 WD (j := 3) rfl how (Src.of_rd xes33 (Rd.one (Kn.at 0 rfl) rfl)) W W rfl (lt rfl) (fun v9 s10 ho11 hf => ?_)
  obtain ⟨p9,c9,rfl⟩ := hf
  replace ho11 := Ow.app1 (f := Rg.cells) (l := xs5) (x := (⟨x6.low,x6.high⟩ : Rg)) ho11
  refine Run.store (s := [(b1,.cells #[.slice p9 (n1 + 1) c9] 33 (0,0))]) Z Z xsz33 (i := 4) Z Z (le Z) Z Z<|Ze<|Zc<|Ex.keepTo (H' := [rec_ lp3 { rr4 with state := .busy },s10,[(b1,.cells #[.slice p9 (n1 + 1) c9] 33 (0,0))]]) [1,2,2] Z<|?_
  exact Ex.next ⟨rfl,.inl ⟨rfl,_,_,hLI.with _ _,⟨rfl,rfl⟩,rfl,⟨_,_,_,_,rfl,ho11,by rw [List.length_append,List.length_singleton]; omega⟩⟩⟩
 ·obtain ⟨p1,n1,k1,q1,rfl,how,hn⟩ := hJ
  subst hn
  refine Ex.perm (H' := defd D2 :: [(b1,.cells #[.slice p1 xs5.length k1] 33 (0,0))] :: q1 :: Hs) (List.Perm.cons _ ((List.Perm.swap _ _ _).trans (List.perm_append_comm (l₁ := [q1,[(b1,.cells #[.slice p1 xs5.length k1] 33 (0,0))]]))))<|Zc<|Zg<|Zs<|Zr<|Zv (Y.load Z xts33 (Kn.at 1 Z) Z)<|Za Z<|Ze<|Zg<|Zu<|Ex.unmark (.inl Z)<|Ex.bodyM (.inl Z)<|Ex.drop<|?_
  exact Ex.ret1 rfl rfl  ⟨rfl,xs5,q1,hS,how,rfl⟩
 ·exact hJ.elim
theorem collect_r {V : Vw} {Hs : Hp} {gf : FuncId} {caps : List Value} {S Sp : List Rg -> Prop} {N : Nat} (hit : Iterates Tryz.prog gf caps V Hs Rg.yv S Sp N) (hNb : N <= 1000000000)  : Does Tryz.prog 152 [.func (.func gf) #[] caps.toArray] V Hs (fun v V' H' => V' = V /\ ∃ xs q,S xs /\ Ow 66 2 v xs.length (xs.flatMap Rg.cells) q /\ H' = q :: Hs) := by
 refine Does.intro Tryz.func152 rfl rfl (le rfl) (fun B => ?_)
 refine Zs<|Zr<|Za Z<|Ze<|Zg<|Zs<|Zr<|Zm Z<|?_
 refine Run.callW (l := [.const (.slice none 0 0),.tmp 3]) rfl rfl rfl (lt rfl) (appseq_r hit hNb) (fun v3 V2 H2 hle hR => ?_)
 obtain ⟨hV,xs,q,hS,ho,rfl⟩ := hR; replace hV := hV.symm; subst hV
 refine Za Z<|Ze<|Zg<|Zu<|?_
 exact Ex.ret1 rfl rfl  ⟨rfl,xs,q,hS,ho,rfl⟩
theorem sortedf_r {V : Vw} {Hs : Hp} {gf : FuncId} {caps : List Value} {S Sp : List Rg -> Prop} {N : Nat} (hit : Iterates Tryz.prog gf caps V Hs Rg.yv S Sp N) (hNb : N <= 1000000000) (hlen : ∀ xs,S xs -> xs.length <= 1000000000) {gf2 : FuncId} {caps2 : List Value} {cm : Rg -> Rg -> Int} (hcmp : ∀ x y : Rg,Does Tryz.prog gf2 (.agg (Rg.cells x).toArray :: .agg (Rg.cells y).toArray :: caps2) V [] (Pv (.int .i64 (cm x y)) V [])) (hswo : SWO (ltc cm))  : Does Tryz.prog 112 [.func (.func gf) #[] caps.toArray,.func (.func gf2) #[] caps2.toArray] V Hs (fun v V' H' => V' = V /\ ∃ xs ys q,S xs /\ ys.Perm xs /\ Srt (ltc cm) ys /\ Ow 66 2 v ys.length (ys.flatMap Rg.cells) q /\ H' = q :: Hs) := by
 refine Does.intro Tryz.func112 rfl rfl (le rfl) (fun B => ?_)
 refine Zs<|Zr<|Za Z<|Ze<|Zg<|Zs<|Zr<|Zm Z<|?_
 refine Run.callW (l := [.tmp 6]) rfl rfl rfl (lt rfl) (collect_r hit hNb) (fun v3 V2 H2 hle hR => ?_)
 obtain ⟨hV,xs,q,hS,ho,rfl⟩ := hR; replace hV := hV.symm; subst hV
 have hxl := hlen xs hS
 refine Za Z<|Ze<|Zg<|Zs<|Zr<|Zm Z<|Zm Z<|?_
 refine Yk [0] Z Z Z (sort_r hcmp hswo ho W) (fun v4 V3 H3 hle3 hR3 => ?_)
 obtain ⟨hV,rfl,l2,q2,hp2,hs2,ho2,rfl⟩ := hR3; replace hV := hV.symm; subst hV
 refine Run.perm (H' := q2 :: Hs) (List.perm_append_comm (l₁ := [q2]))<|Ze<|Zg<|Zs<|Zr<|Zm Z<|Za Z<|Ze<|Zg<|Zu<|?_
 exact Ex.ret1 rfl rfl  ⟨rfl,xs,l2,q2,hS,hp2,hs2,ho2,rfl⟩
theorem pool_c {V : Vw} {l : List Rg} {p : Option Addr} {c : Nat} (hv : Rd V [] 2 (.slice p l.length c) l.length (l.flatMap Rg.cells)) (hlm : l.length <= 1000) (hok : Rg.Oks l)  : Does Tryz.prog 52 [.slice p l.length c] V [] (fun v V' H' => V.le V' /\ H' = [] /\ ∃ w,v = .tuple #[w,.int .i64 (Rg.pool l).2] /\ Rd V' [] 2 w (Rg.pool l).1.length ((Rg.pool l).1.flatMap Rg.cells)) := by
 refine Does.intro Tryz.func52 rfl rfl (le rfl) (fun B => ?_)
 refine Zs<|Zr<|Za Z<|Za Z<|Ze<|Zg<|Zs<|Zr<|Za Z<|Ze<|Zg<|Zs<|Zs<|Zr<|Zm Z<|Zm Z<|?_
 refine Run.callW (l := [.tmp 9,.tmp 10]) rfl rfl rfl (lt rfl) (contains_r (caps := []) (pb := Rg.odd) hv.of_nil W (fun q => odd_c.frame)) (fun v3 V2 H2 hle hR => ?_)
 obtain ⟨rfl,hV,rfl⟩ := hR; replace hV := hV.symm; subst hV
 refine Run.heapTo (H' := []) Z<|Ze<|Zg<|?_
 refine Zq (l.any Rg.odd) (fun h1 g1 => ?_) fun h1 g1 => ?_
 ·refine Tr.cond_t Z h1<|Zs<|Zr<|Za Z<|Za Z<|Ze<|Zg<|Zu<|Zn<|Ex.keep []<|?_
  exact Ex.ret2 rfl rfl rfl  ⟨Vw.le_refl _,rfl,_,by rw [Rg.pool_odd h1],by rw [Rg.pool_odd h1]; exact Rd.nil _ _ _⟩
 refine Tr.cond_f Z h1<|Zt<|Zg<|Zs<|Zr<|Zm Z<|?_
 refine Yk [] Z Z Z (values_r_top (l := l) (p := p) (c := c)) (fun v4 V2 H2 hle hR => ?_)
 obtain ⟨hV,bk,rfl,rfl⟩ := hR; replace hV := hV.symm; subst hV
 refine Run.heapTo (H' := [[(bk,.cells #[.slice p l.length c] 33 (0,0))]]) Z ?_
 refine Yk [0] Z Z Z (sortedf_r (caps := [(pZ bk)]) (caps2 := []) (cm := Rg.cmp) (values_r_it hv W) W (fun xs hx => by rw [hx]; omega) (fun x y => by_c (q := x) (r := y)) Rg.swo_cmp) (fun v5 V3 H3 hle3 hR3 => ?_)
 obtain ⟨hV,xs,m,qm,hxl,hpm,hsm,hom,rfl⟩ := hR3; replace hV := hV.symm; subst hV
 rw [hxl] at hpm; clear hxl
 have hml := hpm.length_eq
 have hokm := hok.perm hpm
 obtain ⟨pm,km,rfl⟩ := hom.form
 refine Run.heapTo (H' := [qm,[(bk,.cells #[.slice p l.length c] 33 (0,0))]]) Z<|Za Z<|Ze<|Zg<|Zs<|Zr<|Run.nilseg<|Za Z<|Ze<|Zg<|Zs<|Zs<|Zr<|Run.keepTo (H' := [[],qm]) [0,0] Z<|Zm Z<|Zv (Y.lenSl Z xes33)<|?_
 refine Zm Z<|Ze<|Zg<|Zb<|?_
 refine ZL (X := Nat × Option Addr × Nat × Nat × Sg) (fun z0 => V) (fun z0 => [z0.2.2.2.2,qm]) (fun z0 => [(5,.slice z0.2.1 z0.2.2.1 z0.2.2.2.1),(15,.slice pm m.length km),(16,.int .i64 ((m.length : Nat) : Int)),(17,.int .i64 (z0.1 : Int))]) (fun z0 => Ow 66 2 (.slice z0.2.1 z0.2.2.1 z0.2.2.2.1) z0.2.2.1 ((Rg.join (m.take z0.1)).flatMap Rg.cells) z0.2.2.2.2 /\ z0.2.2.1 = (Rg.join (m.take z0.1)).length /\ z0.1 <= m.length) (fun z0 => m.length - z0.1) (⟨0,none,0,0,[]⟩ : Nat × Option Addr × Nat × Nat × Sg) ⟨Ow.nil _ _,rfl,Nat.zero_le _⟩ ?_
 rintro ⟨i1,p1,n1,k1,q1⟩ ⟨how,hn,hi⟩
 try dsimp only at how hn hi ⊢
 have hjl := Rg.join_len (m.take i1)
 rw [List.length_take] at hjl
 have hbm := hokm.bd i1
 have hbj := (Rg.join_ok (hokm.take i1)).bd (n1 - 1)
 refine Zs<|Zr<|Zv (Y.int Z Z Z)<|Ze<|Zg<|Zs<|?_
 refine Zq (decide ((i1 : Int) < ((m.length : Nat) : Int))) (fun h2 g2 => ?_) fun h2 g2 => ?_
 ·refine Tr.cond_t Z h2<|Zt<|Zg<|Zs<|Zb<|Zs<|Zr<|Zv (Y.idxR i1 Z Z xes33 (hom.rd 1 rfl) W W)<|Zv (Y.ldRA (vs := [.int .u32 ((m.getD i1 Rg.dflt).low),.int .u32 ((m.getD i1 Rg.dflt).high)]) rfl xag66 (hom.rd 1 rfl) rfl WD (fun o ho => flatm_atA Rg.len W Rg.dflt o ho))<|?_
  refine Run.alloc xzo66 (lt rfl) (fun b3 => ?_)
  refine Run.store (s := [(b3,.cells #[.int .u32 ((m.getD i1 Rg.dflt).low),.int .u32 ((m.getD i1 Rg.dflt).high)] 66 (0,0))]) Z Z xsz66 (i := 0) Z Z (le Z) Z Z<|Ze<|Zg<|Zs<|Zs<|Zr<|Zm Z<|Zv (Y.lenSl Z xes33)<|Za Z<|Ze<|Zg<|Zs<|Tr.quiet xmo WK<|ZM Z<|ZV (Y.int Z Z Z)<|ZM Z<|?_
  refine Zq (decide (((n1 : Nat) : Int) > 0)) (fun h4 g4 => ?_) fun h4 g4 => ?_
  ·refine ZP h4<|ZV (Y.fieldAddr Z xfo66_0)<|ZP h4<|ZV (Y.load Z xts24 (Kn.at 0 Z) Z)<|ZP h4<|ZV (Y.conv ((m.getD i1 Rg.dflt).low) rfl xit24_3 (wrap_i64 W))<|ZP h4<|ZM Z<|ZP h4<|ZM Z<|ZP h4<|ZV (Y.sub Z Z W)<|ZP h4<|ZV (Y.idxR (n1 - 1) rfl rfl xes33 (how.rd 1 rfl) W W)<|ZP h4<|ZV (Y.fieldR Z xfo66_1 (how.rd 1 rfl) W)<|?_
   refine ZP h4<|ZV (Y.ldR Z xts24 (how.rd 1 rfl) (flatm_at Rg.len W Rg.dflt WD rfl))<|ZP h4<|ZV (Y.conv (((Rg.join (m.take i1)).getD (n1 - 1) Rg.dflt).high) rfl xit24_3 (wrap_i64 W))<|ZP h4<|ZV (Y.add Z Z W)<|ZP h4<|ZV (Y.int Z Z Z)<|ZV (Y.pick_t Z h4 Z)<|ZE<|Zg<|?_
   refine Zq (decide (((m.getD i1 Rg.dflt).low) <= ((((Rg.join (m.take i1)).getD (n1 - 1) Rg.dflt).high) + 1))) (fun h5 g5 => ?_) fun h5 g5 => ?_
   ·refine Tr.cond_t Z h5<|Zs<|Tr.tail 13 xmo WK<|ZM Z<|ZM Z<|ZV (Y.sub Z Z W)<|ZM Z<|ZM Z<|ZV (Y.sub Z Z W)<|ZV (Y.idxR (n1 - 1) rfl rfl xes33 (how.rd 1 rfl) W W)<|ZV (Y.fieldR Z xfo66_1 (how.rd 1 rfl) W)<|ZV (Y.ldR Z xts24 (how.rd 1 rfl) (flatm_at Rg.len W Rg.dflt WD rfl))<|ZV (Y.fieldAddr Z xfo66_1)<|ZV (Y.load Z xts24 (Kn.at 0 Z) Z)<|?_
    refine ZV (Y.max2 Z Z)<|ZV (Y.idxR (n1 - 1) rfl rfl xes33 (how.rd 1 rfl) W W)<|RunQ.nil_run<|Zv (Y.fieldR Z xfo66_1 (how.rd 1 rfl) W)<|?_
    refine Run.stO rfl rfl xsz24 how (i := 1) rfl W rfl rfl (fun s6 ho7 => ?_)
    replace ho7 := Ow.upd (l := Rg.join (m.take i1)) (i := (n1 - 1)) (o := 1) (d := Rg.dflt) (x := (⟨((Rg.join (m.take i1)).getD (n1 - 1) Rg.dflt).low,max (((Rg.join (m.take i1)).getD (n1 - 1) Rg.dflt).high) ((m.getD i1 Rg.dflt).high)⟩ : Rg)) Rg.len ho7 W WD rfl
    refine Run.heapTo (H' := [[(b3,.cells #[.int .u32 ((m.getD i1 Rg.dflt).low),.int .u32 ((m.getD i1 Rg.dflt).high)] 66 (0,0))],s6,qm]) Z<|Ze<|Zg<|Zx<|Zy<|Zi<|Zg<|Zr<|Zv (Y.add Z Z W)<|Zm Z<|Ze<|Ex.keep [1,1]<|?_
    have er : Rg.join (m.take (i1 + 1)) = _ := Rg.join_set (n := n1) W hn W W
    exact ZR (⟨i1 + 1,p1,n1,k1,s6⟩ : Nat × Option Addr × Nat × Nat × Sg) ⟨by rw [er]; exact ho7,by rw [er,List.length_set]; exact hn,by omega⟩ (by dsimp only; omega)
   refine Tr.cond_f Z h5<|Zt<|Zg<|Zr<|Zm Z<|Zv (Y.loadAgg Z xag66 (Kn.at 0 Z) Z)<|?_
   refine Run.buildSlice (l := [(0,.tmp 54)]) xes33 xzo66 rfl WD rfl rfl WD (lt rfl) (fun b8 => ?_)
   refine Run.append (n := n1) (m := 1) (xs := (Rg.join (m.take i1)).flatMap Rg.cells) (ys := [.int .u32 ((m.getD i1 Rg.dflt).low),.int .u32 ((m.getD i1 Rg.dflt).high)]) rfl rfl xes33 xzi66 WD (j := 2) rfl how (Src.of_rd xes33 (Rd.one (Kn.at 0 rfl) rfl)) W W rfl (lt rfl) (fun v9 s10 ho11 hf => ?_)
   obtain ⟨p9,c9,rfl⟩ := hf
   replace ho11 := Ow.app1 (f := Rg.cells) (l := Rg.join (m.take i1)) (x := (⟨(m.getD i1 Rg.dflt).low,(m.getD i1 Rg.dflt).high⟩ : Rg)) ho11
   refine Za Z<|Ze<|Zc<|Zg<|Zr<|Zv (Y.add Z Z W)<|Zm Z<|Ze<|Ex.keep [2,2]<|?_
   have er : Rg.join (m.take (i1 + 1)) = _ := Rg.join_add (n := n1) W hn (by first | (left; omega) | (right; omega))
   exact ZR (⟨i1 + 1,p9,(n1 + 1),c9,s10⟩ : Nat × Option Addr × Nat × Nat × Sg) ⟨by rw [er]; exact ho11,by rw [er,List.length_append,List.length_singleton]; dsimp only; omega,by omega⟩ (by dsimp only; omega)
  refine ZO h4 Z<|ZO h4 Z<|ZO h4 Z<|ZO h4 Z<|ZO h4 Z<|ZO h4 Z<|ZO h4 Z<|ZO h4 Z<|ZO h4 Z<|ZO h4 Z<|ZO h4 Z<|ZO h4 Z<|ZV (Y.pick_f Z h4 Z)<|ZE<|Zg<|Tr.cond_f Z Z<|?_
  refine Zt<|Zg<|Zr<|Zm Z<|Zv (Y.loadAgg Z xag66 (Kn.at 0 Z) Z)<|?_
  refine Run.buildSlice (l := [(0,.tmp 54)]) xes33 xzo66 rfl WD rfl rfl WD (lt rfl) (fun b12 => ?_)
  refine Run.append (n := n1) (m := 1) (xs := (Rg.join (m.take i1)).flatMap Rg.cells) (ys := [.int .u32 ((m.getD i1 Rg.dflt).low),.int .u32 ((m.getD i1 Rg.dflt).high)]) rfl rfl xes33 xzi66 WD (j := 2) rfl how (Src.of_rd xes33 (Rd.one (Kn.at 0 rfl) rfl)) W W rfl (lt rfl) (fun v13 s14 ho15 hf => ?_)
  obtain ⟨p13,c13,rfl⟩ := hf
  replace ho15 := Ow.app1 (f := Rg.cells) (l := Rg.join (m.take i1)) (x := (⟨(m.getD i1 Rg.dflt).low,(m.getD i1 Rg.dflt).high⟩ : Rg)) ho15
  refine Za Z<|Ze<|Zc<|Zg<|Zr<|Zv (Y.add Z Z W)<|Zm Z<|Ze<|Ex.keep [2,2]<|?_
  have er : Rg.join (m.take (i1 + 1)) = _ := Rg.join_add (n := n1) W hn (by first | (left; omega) | (right; omega))
  exact ZR (⟨i1 + 1,p13,(n1 + 1),c13,s14⟩ : Nat × Option Addr × Nat × Nat × Sg) ⟨by rw [er]; exact ho15,by rw [er,List.length_append,List.length_singleton]; dsimp only; omega,by omega⟩ (by dsimp only; omega)
 refine Tr.cond_f Z h2<|Zx<|Zy<|Zy<|Zi<|Zg<|Zs<|Zs<|Zr<|?_
 obtain rfl : i1 = m.length := by omega
 rw [List.take_length,Rg.join_any (Rg.odd_all (by assumption)) hpm (Rg.lows_of hsm)] at how hn
 subst hn
 have hcl := Rg.can_len l
 refine Zm Z<|Yc Z Z Z (count_h (how.rd 0 rfl) W (Rg.can_ok hok))<|Zv (Y.int Z Z Z)<|Ze<|Zg<|?_
 refine Zq (decide ((Rg.cnt (Rg.can l)) > 256)) (fun h16 g16 => ?_) fun h16 g16 => ?_
 ·refine Tr.cond_t Z h16<|Zs<|Zr<|Za Z<|Za Z<|Ze<|Zg<|Zu<|Zn<|Ex.keep []<|?_
  exact Ex.ret2 rfl rfl rfl  ⟨Vw.le_refl _,rfl,_,by rw [Rg.pool_full h1 W],by rw [Rg.pool_full h1 W]; exact Rd.nil _ _ _⟩
 refine Tr.cond_f Z h16<|Zt<|Zg<|Zs<|Zr<|Zm Z<|Za Z<|Za Z<|Ze<|Zg<|Zu<|Ex.keepTo (H' := [q1]) [0] Z<|?_
 refine Ex.show (fun V2 hle2 hsh2 => ?_)
 exact Ex.ret2 rfl rfl rfl  ⟨hle2,rfl,_,by rw [Rg.pool_ok h1 W],by rw [Rg.pool_ok h1 W]; exact how.show hsh2⟩
theorem pool_h {V : Vw} {l : List Rg} {v : Value} (hv : Rd V [] 2 v l.length (l.flatMap Rg.cells)) (hlm : l.length <= 1000) (hok : Rg.Oks l) : Does Tryz.prog 52 [v] V [] (fun v V' H' => V.le V' /\ H' = [] /\ ∃ w,v = .tuple #[w,.int .i64 (Rg.pool l).2] /\ Rd V' [] 2 w (Rg.pool l).1.length ((Rg.pool l).1.flatMap Rg.cells)) := by
  obtain ⟨p,c,rfl,_⟩ := hv.form
  exact pool_c hv hlm hok
end Go.Proofs.YtfgblingojgafaaGreat
namespace Go.Proofs.YtfgblingojgafaaGreat
open Go Go.K
attribute [local irreducible] Code.wp wpList Calls wpQuiet
theorem bare_c {a b v : Int} {V : Vw} : Does Tryz.prog 44 [.int .u32 a,.int .i64 b,.int .i64 v] V [] (Pv (.agg #[.int .u32 a,.int .i64 b,.string ⟨#[]⟩,.int .i64 0,.int .i64 0,.int .i64 0,.int .i64 0,.int .i64 v]) V []) := by
 refine Does.intro Tryz.func44 rfl rfl (le rfl) (fun B => ?_)
 refine Zs<|Zr<|?_
 refine Run.alloc xzo43 (lt rfl) (fun b1 => ?_)
 refine Ze<|Zg<|Zs<|Zr<|Zm Z<|Zm Z<|Zm Z<|Zv (Y.buildS (l := [(0,.tmp 7),(1,.tmp 8),(7,.tmp 9)]) xzo43 xpl43 Z Z)<|Run.store (s := [(b1,.cells #[.int .u32 a,.int .i64 b,.string ⟨#[]⟩,.int .i64 0,.int .i64 0,.int .i64 0,.int .i64 0,.int .i64 v] 43 (0,0))]) Z Z xsz43 (i := 0) Z Z (le Z) Z Z<|Ze<|Zg<|Zu<|?_
 exact Ex.retCell [] rfl rfl xag43 (Kn.at 0 rfl) rfl ⟨rfl,rfl,rfl⟩
theorem bare_c_h {a b v : Int} {V : Vw} {H : Hp} : Does Tryz.prog 44 [.int .u32 a,.int .i64 b,.int .i64 v] V H (Pv (.agg #[.int .u32 a,.int .i64 b,.string ⟨#[]⟩,.int .i64 0,.int .i64 0,.int .i64 0,.int .i64 0,.int .i64 v]) V H) := bare_c.frame
theorem held_c {b : Int} {V : Vw} : Does Tryz.prog 138 [.int .i64 b] V [] (Pv (.bool (Le.held b)) V []) := by
 refine Does.intro Tryz.func138 rfl rfl (le rfl) (fun B => ?_)
 refine Zs<|Zr<|Za Z<|Ze<|Zg<|Zs<|Zr<|Zm Z<|Zv (Y.int Z Z Z)<|Zm Z<|?_
 refine Zq (decide (b >= 2)) (fun h1 g1 => ?_) fun h1 g1 => ?_
 ·refine Zp h1<|Zm Z<|Zp h1<|Zv (Y.int Z Z Z)<|Zv (Y.pick_t Z h1 Z)<|Za Z<|Ze<|Zg<|Zu<|Ex.keep []<|?_
  exact Ex.ret1 rfl rfl  ⟨congrArg Value.bool (by unfold Le.held; rw [decide_eq_true (p := b >= 2) W]; rfl),rfl,rfl⟩
 refine Zo h1 Z<|Zo h1 Z<|Zv (Y.pick_f Z h1 Z)<|Za Z<|Ze<|Zg<|Zu<|Ex.keep []<|?_
 exact Ex.ret1 rfl rfl  ⟨congrArg Value.bool (by unfold Le.held; rw [decide_eq_false (p := b >= 2) W]; rfl),rfl,rfl⟩
theorem held_c_h {b : Int} {V : Vw} {H : Hp} : Does Tryz.prog 138 [.int .i64 b] V H (Pv (.bool (Le.held b)) V H) := held_c.frame
theorem times_c {b : Nat} {V : Vw} {H : Hp} : Does Tryz.prog 137 [(pZ b)] V H (Pv (.agg #[.pointer (some ⟨b,3,none⟩),.pointer (some ⟨b,4,none⟩),.pointer (some ⟨b,5,none⟩),.pointer (some ⟨b,6,none⟩),.pointer (some ⟨b,7,none⟩)]) V H) := by
 refine Does.intro Tryz.func137 rfl rfl (le rfl) (fun B => ?_)
 refine Zs<|Zr<|?_
 refine Run.alloc xzo174 (lt rfl) (fun b1 => ?_)
 refine Ze<|Zg<|Zs<|Tr.anyL [] 16 xmo<|Zh 0 Z (fun _ => (Y.move rfl))<|Zh 1 Z (fun _ => (Y.nilCheck rfl))<|Zh 2 Z (fun _ => (Y.fieldAddr rfl xfo43_3))<|Zh 3 Z (fun _ => (Y.move rfl))<|Zh 4 Z (fun _ => (Y.nilCheck rfl))<|Zh 5 Z (fun _ => (Y.fieldAddr rfl xfo43_4))<|Zh 6 Z (fun _ => (Y.move rfl))<|Zh 7 Z (fun _ => (Y.nilCheck rfl))<|Zh 8 Z (fun _ => (Y.fieldAddr rfl xfo43_5))<|Zh 9 Z (fun _ => (Y.move rfl))<|Zh 10 Z (fun _ => (Y.nilCheck rfl))<|?_
 refine Zh 11 Z (fun _ => (Y.fieldAddr rfl xfo43_6))<|Zh 12 Z (fun _ => (Y.move rfl))<|Zh 13 Z (fun _ => (Y.nilCheck rfl))<|Zh 14 Z (fun _ => (Y.fieldAddr rfl xfo43_7))<|Zh 15 Z (fun _ => (Y.buildA (l := [(0,.tmp 5),(1,.tmp 8),(2,.tmp 11),(3,.tmp 14),(4,.tmp 17)]) xzo174 xea174 rfl rfl))<|?_
 refine RunL.one (i := 16) WK rfl  ?_
 refine Run.store (s := [(b1,.cells #[.pointer (some ⟨b,3,none⟩),.pointer (some ⟨b,4,none⟩),.pointer (some ⟨b,5,none⟩),.pointer (some ⟨b,6,none⟩),.pointer (some ⟨b,7,none⟩)] 174 (0,0))]) Z Z xsz174 (i := 0) Z Z (le Z) Z Z<|Ze<|Ex.anyLz Z<|RunL.done WK<|Zg<|Zu<|?_
 exact Ex.retCellT 1 rfl rfl xag174 (Kn.at 0 rfl) rfl rfl ⟨rfl,rfl,rfl⟩
theorem right_c {q : Le} (hs : q.client.size <= 9223372036854775807) {V : Vw} : Does Tryz.prog 78 [.agg #[.int .u32 q.addr,.int .i64 q.bind,.string q.client,.int .i64 q.till,.int .i64 q.acked,.int .i64 q.told,.int .i64 q.at_,.int .i64 q.ver]] V [] (Pv (.bool (Le.right q)) V []) := by
 refine Does.intro Tryz.func78 rfl rfl (le rfl) (fun B => ?_)
 refine Zs<|Zr<|?_
 refine Run.box rfl (lt rfl) (fun b1 => ?_)
 refine Za Z<|Ze<|Zg<|Zs<|Zs<|Zr<|Yc Z Z Z times_c<|Zm Z<|Ze<|Zg<|Zb<|?_
 refine ZL (X := Nat) (fun z0 => V) (fun z0 => [[(b1,.cells #[.int .u32 q.addr,.int .i64 q.bind,.string q.client,.int .i64 q.till,.int .i64 q.acked,.int .i64 q.told,.int .i64 q.at_,.int .i64 q.ver] 43 (0,0))]]) (fun z0 => [(1,(pZ b1)),(5,.agg #[.pointer (some ⟨b1,3,none⟩),.pointer (some ⟨b1,4,none⟩),.pointer (some ⟨b1,5,none⟩),.pointer (some ⟨b1,6,none⟩),.pointer (some ⟨b1,7,none⟩)]),(6,.int .i64 (z0 : Int))]) (fun z0 => z0 <= 5 /\ ∀ j,j < z0 -> Le.tm (Le.tms q j) = true) (fun z0 => 5 - z0) (0 : Nat) ⟨Nat.zero_le _,fun j hj => absurd hj (Nat.not_lt_zero j)⟩ ?_
 rintro i1 ⟨hi,hall⟩
 refine Zs<|Zr<|Zv (Y.int Z Z Z)<|Ze<|Zg<|Zs<|?_
 refine Zq (decide ((i1 : Int) < 5)) (fun h2 g2 => ?_) fun h2 g2 => ?_
 ·refine Tr.cond_t Z h2<|Zt<|Zg<|Zs<|Zb<|Zs<|Zr<|?_
  rcases (show i1 = 0 \/ i1 = 1 \/ i1 = 2 \/ i1 = 3 \/ i1 = 4 from by omega) with rfl | rfl | rfl | rfl | rfl
  ·refine Zv (Y.idxAgg Z Z xas174 WD WD rfl)<|Za Z<|Ze<|Zg<|Zs<|Zr<|Zm Z<|Zv (Y.nilCheck Z)<|Zv (Y.load Z xts3 (Kn.at 0 Z) Z)<|Zv (Y.int Z Z Z)<|Zm Z<|?_
   refine Zq (decide (q.till < 0)) (fun h3 g3 => ?_) fun h3 g3 => ?_
   ·refine Zo h3 Z<|Zo h3 Z<|Zo h3 Z<|Zo h3 Z<|Zv (Y.pick_t Z h3 Z)<|Ze<|Zg<|Tr.cond_t Z Z<|Zs<|Zr<|Za Z<|Ze<|Zg<|Zu<|Zk<|Zn<|?_
    refine Zn<|Zk<|Zn<|Ex.keep []<|?_
    exact Ex.ret1 rfl rfl  ⟨congrArg Value.bool (Le.tms_not (x := q) (j := 0) WD (by show q.till < 0 \/ q.till > 1099511627776; omega)),rfl,rfl⟩
   refine Zp h3<|Zm Z<|Zp h3<|Zv (Y.nilCheck Z)<|Zp h3<|Zv (Y.load Z xts3 (Kn.at 0 Z) Z)<|Zp h3<|Zv (Y.int Z Z Z)<|Zv (Y.pick_f Z h3 Z)<|Ze<|Zg<|?_
   refine Zq (decide (q.till > 1099511627776)) (fun h4 g4 => ?_) fun h4 g4 => ?_
   ·refine Tr.cond_t Z h4<|Zs<|Zr<|Za Z<|Ze<|Zg<|Zu<|Zk<|Zn<|Zn<|Zk<|Zn<|Ex.keep []<|?_
    exact Ex.ret1 rfl rfl  ⟨congrArg Value.bool (Le.tms_not (x := q) (j := 0) WD (by show q.till < 0 \/ q.till > 1099511627776; omega)),rfl,rfl⟩
   refine Tr.cond_f Z h4<|Zt<|Zc<|Zg<|Zr<|Zv (Y.add Z Z W)<|Zm Z<|Ze<|?_
   have ht : Le.tm (Le.tms q 0) = true := Le.tm_iff.2 (by show 0 <= q.till /\ q.till <= 1099511627776; omega)
   exact ZR (0 + 1 : Nat) ⟨by omega,upto_succ hall ht⟩ W
  ·refine Zv (Y.idxAgg Z Z xas174 WD WD rfl)<|Za Z<|Ze<|Zg<|Zs<|Zr<|Zm Z<|Zv (Y.nilCheck Z)<|Zv (Y.load Z xts3 (Kn.at 0 Z) Z)<|Zv (Y.int Z Z Z)<|Zm Z<|?_
   refine Zq (decide (q.acked < 0)) (fun h5 g5 => ?_) fun h5 g5 => ?_
   ·refine Zo h5 Z<|Zo h5 Z<|Zo h5 Z<|Zo h5 Z<|Zv (Y.pick_t Z h5 Z)<|Ze<|Zg<|Tr.cond_t Z Z<|Zs<|Zr<|Za Z<|Ze<|Zg<|Zu<|Zk<|Zn<|?_
    refine Zn<|Zk<|Zn<|Ex.keep []<|?_
    exact Ex.ret1 rfl rfl  ⟨congrArg Value.bool (Le.tms_not (x := q) (j := 1) WD (by show q.acked < 0 \/ q.acked > 1099511627776; omega)),rfl,rfl⟩
   refine Zp h5<|Zm Z<|Zp h5<|Zv (Y.nilCheck Z)<|Zp h5<|Zv (Y.load Z xts3 (Kn.at 0 Z) Z)<|Zp h5<|Zv (Y.int Z Z Z)<|Zv (Y.pick_f Z h5 Z)<|Ze<|Zg<|?_
   refine Zq (decide (q.acked > 1099511627776)) (fun h6 g6 => ?_) fun h6 g6 => ?_
   ·refine Tr.cond_t Z h6<|Zs<|Zr<|Za Z<|Ze<|Zg<|Zu<|Zk<|Zn<|Zn<|Zk<|Zn<|Ex.keep []<|?_
    exact Ex.ret1 rfl rfl  ⟨congrArg Value.bool (Le.tms_not (x := q) (j := 1) WD (by show q.acked < 0 \/ q.acked > 1099511627776; omega)),rfl,rfl⟩
   refine Tr.cond_f Z h6<|Zt<|Zc<|Zg<|Zr<|Zv (Y.add Z Z W)<|Zm Z<|Ze<|?_
   have ht : Le.tm (Le.tms q 1) = true := Le.tm_iff.2 (by show 0 <= q.acked /\ q.acked <= 1099511627776; omega)
   exact ZR (1 + 1 : Nat) ⟨by omega,upto_succ hall ht⟩ W
  ·refine Zv (Y.idxAgg Z Z xas174 WD WD rfl)<|Za Z<|Ze<|Zg<|Zs<|Zr<|Zm Z<|Zv (Y.nilCheck Z)<|Zv (Y.load Z xts3 (Kn.at 0 Z) Z)<|Zv (Y.int Z Z Z)<|Zm Z<|?_
   refine Zq (decide (q.told < 0)) (fun h7 g7 => ?_) fun h7 g7 => ?_
   ·refine Zo h7 Z<|Zo h7 Z<|Zo h7 Z<|Zo h7 Z<|Zv (Y.pick_t Z h7 Z)<|Ze<|Zg<|Tr.cond_t Z Z<|Zs<|Zr<|Za Z<|Ze<|Zg<|Zu<|Zk<|Zn<|?_
    refine Zn<|Zk<|Zn<|Ex.keep []<|?_
    exact Ex.ret1 rfl rfl  ⟨congrArg Value.bool (Le.tms_not (x := q) (j := 2) WD (by show q.told < 0 \/ q.told > 1099511627776; omega)),rfl,rfl⟩
   refine Zp h7<|Zm Z<|Zp h7<|Zv (Y.nilCheck Z)<|Zp h7<|Zv (Y.load Z xts3 (Kn.at 0 Z) Z)<|Zp h7<|Zv (Y.int Z Z Z)<|Zv (Y.pick_f Z h7 Z)<|Ze<|Zg<|?_
   refine Zq (decide (q.told > 1099511627776)) (fun h8 g8 => ?_) fun h8 g8 => ?_
   ·refine Tr.cond_t Z h8<|Zs<|Zr<|Za Z<|Ze<|Zg<|Zu<|Zk<|Zn<|Zn<|Zk<|Zn<|Ex.keep []<|?_
    exact Ex.ret1 rfl rfl  ⟨congrArg Value.bool (Le.tms_not (x := q) (j := 2) WD (by show q.told < 0 \/ q.told > 1099511627776; omega)),rfl,rfl⟩
   refine Tr.cond_f Z h8<|Zt<|Zc<|Zg<|Zr<|Zv (Y.add Z Z W)<|Zm Z<|Ze<|?_
   have ht : Le.tm (Le.tms q 2) = true := Le.tm_iff.2 (by show 0 <= q.told /\ q.told <= 1099511627776; omega)
   exact ZR (2 + 1 : Nat) ⟨by omega,upto_succ hall ht⟩ W
  ·refine Zv (Y.idxAgg Z Z xas174 WD WD rfl)<|Za Z<|Ze<|Zg<|Zs<|Zr<|Zm Z<|Zv (Y.nilCheck Z)<|Zv (Y.load Z xts3 (Kn.at 0 Z) Z)<|Zv (Y.int Z Z Z)<|Zm Z<|?_
   refine Zq (decide (q.at_ < 0)) (fun h9 g9 => ?_) fun h9 g9 => ?_
   ·refine Zo h9 Z<|Zo h9 Z<|Zo h9 Z<|Zo h9 Z<|Zv (Y.pick_t Z h9 Z)<|Ze<|Zg<|Tr.cond_t Z Z<|Zs<|Zr<|Za Z<|Ze<|Zg<|Zu<|Zk<|Zn<|?_
    refine Zn<|Zk<|Zn<|Ex.keep []<|?_
    exact Ex.ret1 rfl rfl  ⟨congrArg Value.bool (Le.tms_not (x := q) (j := 3) WD (by show q.at_ < 0 \/ q.at_ > 1099511627776; omega)),rfl,rfl⟩
   refine Zp h9<|Zm Z<|Zp h9<|Zv (Y.nilCheck Z)<|Zp h9<|Zv (Y.load Z xts3 (Kn.at 0 Z) Z)<|Zp h9<|Zv (Y.int Z Z Z)<|Zv (Y.pick_f Z h9 Z)<|Ze<|Zg<|?_
   refine Zq (decide (q.at_ > 1099511627776)) (fun h10 g10 => ?_) fun h10 g10 => ?_
   ·refine Tr.cond_t Z h10<|Zs<|Zr<|Za Z<|Ze<|Zg<|Zu<|Zk<|Zn<|Zn<|Zk<|Zn<|Ex.keep []<|?_
    exact Ex.ret1 rfl rfl  ⟨congrArg Value.bool (Le.tms_not (x := q) (j := 3) WD (by show q.at_ < 0 \/ q.at_ > 1099511627776; omega)),rfl,rfl⟩
   refine Tr.cond_f Z h10<|Zt<|Zc<|Zg<|Zr<|Zv (Y.add Z Z W)<|Zm Z<|Ze<|?_
   have ht : Le.tm (Le.tms q 3) = true := Le.tm_iff.2 (by show 0 <= q.at_ /\ q.at_ <= 1099511627776; omega)
   exact ZR (3 + 1 : Nat) ⟨by omega,upto_succ hall ht⟩ W
  refine Zv (Y.idxAgg Z Z xas174 WD WD rfl)<|Za Z<|Ze<|Zg<|Zs<|Zr<|Zm Z<|Zv (Y.nilCheck Z)<|Zv (Y.load Z xts3 (Kn.at 0 Z) Z)<|Zv (Y.int Z Z Z)<|Zm Z<|?_
  refine Zq (decide (q.ver < 0)) (fun h11 g11 => ?_) fun h11 g11 => ?_
  ·refine Zo h11 Z<|Zo h11 Z<|Zo h11 Z<|Zo h11 Z<|Zv (Y.pick_t Z h11 Z)<|Ze<|Zg<|Tr.cond_t Z Z<|Zs<|Zr<|Za Z<|Ze<|Zg<|Zu<|Zk<|Zn<|?_
   refine Zn<|Zk<|Zn<|Ex.keep []<|?_
   exact Ex.ret1 rfl rfl  ⟨congrArg Value.bool (Le.tms_not (x := q) (j := 4) WD (by show q.ver < 0 \/ q.ver > 1099511627776; omega)),rfl,rfl⟩
  refine Zp h11<|Zm Z<|Zp h11<|Zv (Y.nilCheck Z)<|Zp h11<|Zv (Y.load Z xts3 (Kn.at 0 Z) Z)<|Zp h11<|Zv (Y.int Z Z Z)<|Zv (Y.pick_f Z h11 Z)<|Ze<|Zg<|?_
  refine Zq (decide (q.ver > 1099511627776)) (fun h12 g12 => ?_) fun h12 g12 => ?_
  ·refine Tr.cond_t Z h12<|Zs<|Zr<|Za Z<|Ze<|Zg<|Zu<|Zk<|Zn<|Zn<|Zk<|Zn<|Ex.keep []<|?_
   exact Ex.ret1 rfl rfl  ⟨congrArg Value.bool (Le.tms_not (x := q) (j := 4) WD (by show q.ver < 0 \/ q.ver > 1099511627776; omega)),rfl,rfl⟩
  refine Tr.cond_f Z h12<|Zt<|Zc<|Zg<|Zr<|Zv (Y.add Z Z W)<|Zm Z<|Ze<|?_
  have ht : Le.tm (Le.tms q 4) = true := Le.tm_iff.2 (by show 0 <= q.ver /\ q.ver <= 1099511627776; omega)
  exact ZR (4 + 1 : Nat) ⟨by omega,upto_succ hall ht⟩ W
 refine Tr.cond_f Z h2<|Zx<|Zy<|Zy<|Zi<|Zg<|Zs<|Zb<|Zs<|Zr<|Zv (Y.fieldAddr Z xfo43_1)<|Zv (Y.load Z xts3 (Kn.at 0 Z) Z)<|Zv (Y.int Z Z Z)<|Zm Z<|?_
 refine Zq (decide (q.bind < 0)) (fun h13 g13 => ?_) fun h13 g13 => ?_
 ·refine Zo h13 Z<|Zo h13 Z<|Zo h13 Z<|Zv (Y.pick_t Z h13 Z)<|Za Z<|Ze<|Zg<|Tr.cond_t Z Z<|Zs<|Zr<|Za Z<|Ze<|Zg<|Zu<|Zk<|Zn<|?_
  refine Ex.keep [] ?_
  have hta := Le.tms_all (x := q) fun j hj => hall j W
  exact Ex.ret1 rfl rfl  ⟨congrArg Value.bool (Le.right_f W),rfl,rfl⟩
 refine Zp h13<|Zv (Y.fieldAddr Z xfo43_1)<|Zp h13<|Zv (Y.load Z xts3 (Kn.at 0 Z) Z)<|Zp h13<|Zv (Y.int Z Z Z)<|Zv (Y.pick_f Z h13 Z)<|Za Z<|Ze<|Zg<|?_
 refine Zq (decide (q.bind > 5)) (fun h14 g14 => ?_) fun h14 g14 => ?_
 ·refine Tr.cond_t Z h14<|Zs<|Zr<|Za Z<|Ze<|Zg<|Zu<|Zk<|Zn<|Ex.keep []<|?_
  have hta := Le.tms_all (x := q) fun j hj => hall j W
  exact Ex.ret1 rfl rfl  ⟨congrArg Value.bool (Le.right_f W),rfl,rfl⟩
 refine Tr.cond_f Z h14<|Zs<|Zr<|Zv (Y.fieldAddr Z xfo43_1)<|Zv (Y.load Z xts3 (Kn.at 0 Z) Z)<|Yc Z Z Z held_c_h<|Za Z<|Ze<|Zg<|?_
 refine Zq (Le.held q.bind) (fun h15 g15 => ?_) fun h15 g15 => ?_
 ·have z16 := Le.held_t h15
  refine Tr.cond_t Z h15<|Zs<|Zr<|Zv (Y.fieldAddr Z xfo43_2)<|Zv (Y.load Z xts9 (Kn.at 0 Z) Z)<|Zv (Y.neStr Z Z)<|Zm Z<|?_
  refine Zq (q.client.toList == (⟨#[]⟩ : ByteArray).toList) (fun h17 g17 => ?_) fun h17 g17 => ?_
  ·have z18 := Le.str0_t h17
   refine Zo (congrArg Bool.not h17) Z<|Zo (congrArg Bool.not h17) Z<|Zo (congrArg Bool.not h17) Z<|Zo (congrArg Bool.not h17) Z<|Zv (Y.pick_f Z (congrArg Bool.not h17) Z)<|Za Z<|Ze<|Zg<|Zu<|Zk<|Zn<|Ex.keep []<|?_
   have hta := Le.tms_all (x := q) fun j hj => hall j W
   exact Ex.ret1 rfl rfl  ⟨congrArg Value.bool (Le.right_f W),rfl,rfl⟩
  have z19 := Le.str0_f h17
  refine Zp (congrArg Bool.not h17)<|Zv (Y.fieldAddr Z xfo43_2)<|Zp (congrArg Bool.not h17)<|Zv (Y.load Z xts9 (Kn.at 0 Z) Z)<|Zp (congrArg Bool.not h17)<|Zv (Y.lenStr Z xst9)<|Zp (congrArg Bool.not h17)<|Zv (Y.int Z Z Z)<|Zv (Y.pick_t Z (congrArg Bool.not h17) Z)<|Za Z<|Ze<|Zg<|Zu<|Zk<|Zn<|Ex.keep []<|?_
  have hta := Le.tms_all (x := q) fun j hj => hall j W
  exact Ex.ret1 rfl rfl  ⟨congrArg Value.bool (Le.right_d W),rfl,rfl⟩
 have z20 := Le.held_f h15
 refine Tr.cond_f Z h15<|Zt<|Zc<|Zg<|Zs<|Tr.quiet xmo WK<|ZV (Y.loadAgg Z xag43 (Kn.at 0 Z) Z)<|ZV (Y.fieldAddr Z xfo43_0)<|ZV (Y.load Z xts24 (Kn.at 0 Z) Z)<|ZV (Y.fieldAddr Z xfo43_1)<|ZV (Y.load Z xts3 (Kn.at 0 Z) Z)<|ZV (Y.fieldAddr Z xfo43_7)<|ZV (Y.load Z xts3 (Kn.at 0 Z) Z)<|YC Z Z Z bare_c_h<|ZV (Y.eqS Z Z xtgs43 Z Z)<|ZA Z<|?_
 refine ZE<|Zg<|Zu<|Ex.keep []<|?_
 have hta := Le.tms_all (x := q) fun j hj => hall j W
 exact Ex.ret1 rfl rfl  ⟨congrArg Value.bool (Le.right_s (Le.tms_all fun j hj => hall j W) W W),rfl,rfl⟩
theorem right_h {q : Le} (hs : q.client.size <= 9223372036854775807) {V : Vw} {H : Hp} : Does Tryz.prog 78 [.agg q.cells.toArray] V H (Pv (.bool (Le.right q)) V H) := (right_c hs).frame
theorem isnan_n0 {m : Int} {V : Vw} : Does Tryz.prog 201 [.int .i64 m] V [] (Pv (.bool false) V []) := by
 refine Does.intro Tryz.func201 rfl rfl (le rfl) (fun B => ?_)
 refine Zs<|Zr<|Za Z<|Ze<|Zg<|Zs<|Zr<|Zm Z<|Zm Z<|Zv (Y.int Z Z Z)<|Za Z<|Ze<|Zg<|Zu<|?_
 exact Ex.ret1 rfl rfl  ⟨by simp,rfl,rfl⟩
theorem isnan_n0_h {m : Int} {V : Vw} {H : Hp} : Does Tryz.prog 201 [.int .i64 m] V H (Pv (.bool false) V H) := isnan_n0.frame
theorem cmp_n {m n : Int} {V : Vw} : Does Tryz.prog 186 [.int .i64 m,.int .i64 n] V [] (Pv (.int .i64 (Rg.cmp3 m n)) V []) := by
 refine Does.intro Tryz.func186 rfl rfl (le rfl) (fun B => ?_)
 refine Zs<|Zr<|Za Z<|Ze<|Zg<|Zs<|Zr<|Zm Z<|Yc Z Z Z isnan_n0_h<|Za Z<|Ze<|Zg<|Zs<|Zr<|Zm Z<|Yc Z Z Z isnan_n0_h<|?_
 refine Za Z<|Ze<|Zg<|Zs<|Zs<|Zr<|Zm Z<|Ze<|Zg<|Tr.cond_f Z Z<|Zt<|Zg<|Zs<|Zs<|Zr<|Zm Z<|?_
 refine Ze<|Zg<|Tr.cond_f Z Z<|Zt<|Zg<|Zs<|Zs<|Zr<|Zm Z<|Zm Z<|Zv (Y.int Z Z Z)<|Ze<|Zg<|?_
 refine Zq (decide (m < n)) (fun h1 g1 => ?_) fun h1 g1 => ?_
 ·refine Tr.cond_t Z h1<|Zs<|Zr<|Za Z<|Ze<|Zg<|Zu<|Zn<|Ex.keep []<|?_
  exact Ex.ret1 rfl rfl  ⟨congrArg (Value.int _) (by unfold Rg.cmp3; (repeat' split) <;> omega),rfl,rfl⟩
 refine Tr.cond_f Z h1<|Zt<|Zg<|Zs<|Zs<|Zr<|Zm Z<|Zm Z<|Zv (Y.int Z Z Z)<|Ze<|Zg<|?_
 refine Zq (decide (m > n)) (fun h2 g2 => ?_) fun h2 g2 => ?_
 ·refine Tr.cond_t Z h2<|Zs<|Zr<|Za Z<|Ze<|Zg<|Zu<|Zn<|Ex.keep []<|?_
  exact Ex.ret1 rfl rfl  ⟨congrArg (Value.int _) (by unfold Rg.cmp3; (repeat' split) <;> omega),rfl,rfl⟩
 refine Tr.cond_f Z h2<|Zt<|Zg<|Zs<|Zr<|Za Z<|Ze<|Zg<|Zu<|Ex.keep []<|?_
 exact Ex.ret1 rfl rfl  ⟨congrArg (Value.int _) (by unfold Rg.cmp3; (repeat' split) <;> omega),rfl,rfl⟩
theorem cmp_n_h {m n : Int} {V : Vw} {H : Hp} : Does Tryz.prog 186 [.int .i64 m,.int .i64 n] V H (Pv (.int .i64 (Rg.cmp3 m n)) V H) := cmp_n.frame
theorem or_c {V : Vw} {H : Hp} {x y : Int} {p : Option Addr} {c : Nat} (hv : Rd V H 1 (.slice p 2 c) 2 ([x,y].flatMap nI))  : Does Tryz.prog 185 [.slice p 2 c] V H (Pv (.int .i64 (if x ≠ 0 then x else y)) V H) := by
 have hl2 : [x,y].length = 2 := rfl
 refine Does.intro Tryz.func185 rfl rfl (le rfl) (fun B => ?_)
 refine Zs<|Zr<|Za Z<|Ze<|Zg<|Zs<|Zr<|Za Z<|Ze<|Zg<|Zs<|Zs<|Zr<|Zm Z<|Zv (Y.lenSl Z xes148)<|Zm Z<|?_
 refine Ze<|Zg<|Zb<|?_
 refine ZL (X := Nat) (fun z0 => V) (fun z0 => H) (fun z0 => [(3,.int .i64 0),(6,.slice p 2 c),(7,.int .i64 ((2 : Nat) : Int)),(8,.int .i64 (z0 : Int))]) (fun z0 => z0 <= 2 /\ (1 <= z0 -> x = 0) /\ (2 <= z0 -> y = 0)) (fun z0 => 2 - z0) (0 : Nat) ⟨by decide,fun h => absurd h WD,fun h => absurd h WD⟩ ?_
 rintro i1 ⟨hi,hx,hy⟩
 refine Zs<|Zr<|Zv (Y.int Z Z Z)<|Ze<|Zg<|Zs<|?_
 refine Zq (decide ((i1 : Int) < ((2 : Nat) : Int))) (fun h1 g1 => ?_) fun h1 g1 => ?_
 ·refine Tr.cond_t Z h1<|Zt<|Zg<|Zs<|Zb<|Zs<|Zr<|Zv (Y.idxR i1 Z Z xes148 hv W W)<|Zv (Y.ldR Z xts3 hv (flatm_at0 nI_enc.len W 0 WD rfl))<|Za Z<|Ze<|Zg<|Zs<|Zr<|Zm Z<|Zm Z<|?_
  refine Zv (Y.int Z Z Z)<|Ze<|Zg<|?_
  refine Zq (([x,y].getD i1 0) != 0) (fun h2 g2 => ?_) fun h2 g2 => ?_
  ·refine Tr.cond_t Z h2<|Zs<|Zr<|Zm Z<|Za Z<|Ze<|Zg<|Zu<|Zk<|Zn<|Zn<|Zk<|Zn<|?_
   have hz : (i1 = 0 -> [x,y].getD i1 0 = x) /\ (i1 = 1 -> [x,y].getD i1 0 = y) := ⟨fun h => by rw [h]; rfl,fun h => by rw [h]; rfl⟩
   exact Ex.ret1 rfl rfl  ⟨congrArg (Value.int _) (by rcases Nat.eq_zero_or_pos i1 with h9 | h9; have := hz.1 h9; rw [if_pos W]; exact this; have := hz.2 W; rw [if_neg (by have := hx h9; omega)]; exact this),rfl,rfl⟩
  refine Tr.cond_f Z h2<|Zt<|Zc<|Zg<|Zr<|Zv (Y.add Z Z W)<|Zm Z<|Ze<|?_
  have hz : (i1 = 0 -> [x,y].getD i1 0 = x) /\ (i1 = 1 -> [x,y].getD i1 0 = y) := ⟨fun h => by rw [h]; rfl,fun h => by rw [h]; rfl⟩
  exact ZR (i1 + 1 : Nat) ⟨by omega,fun _ => by rcases Nat.eq_zero_or_pos i1 with h9 | h9; have := hz.1 h9; omega; exact hx h9,fun _ => by have := hz.2 W; omega⟩ W
 refine Tr.cond_f Z h1<|Zx<|Zy<|Zy<|Zi<|Zg<|Zs<|Zr<|Zm Z<|Za Z<|Ze<|Zg<|Zu<|?_
 exact Ex.ret1 rfl rfl  ⟨congrArg (Value.int _) (by rw [if_neg (by have := hx W; omega)]; exact (hy W).symm),rfl,rfl⟩
end Go.Proofs.YtfgblingojgafaaGreat
