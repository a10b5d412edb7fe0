/- The library's sort by a comparison, at leases, walked.
Conditions: as each theorem names them. -/
import Derived.Test.YtfgblingojgafaaGreatFx
import Derived.Test.YtfgblingojgafaaGreatProg
import Derived.Test.YtfgblingojgafaaGreatSA
import Derived.Test.YtfgblingojgafaaGreatRA
import Derived.Test.YtfgblingojgafaaGreatKD
set_option linter.unusedSimpArgs false
set_option linter.unusedVariables false
set_option maxRecDepth 4000
namespace Go.Proofs.YtfgblingojgafaaGreat
open Go Go.K
attribute [local irreducible] Code.wp wpList Calls wpQuiet
open Go.Sort
theorem ins_l {V : Vw} {n c b : Nat} {rest : List Value} {d0 : Array Le} {gf : FuncId} {caps : List Value} {cm : Le -> Le -> Int} {x y : Nat}  (hN : n <= 1073741824) (hd : d0.size = n) (hx : x <= n) (hy : y <= n)  (hcmp : ∀ x y : Le,Does Tryz.prog gf (.agg (Le.cells x).toArray :: .agg (Le.cells y).toArray :: caps) V [] (Pv (.int .i64 (cm x y)) V [])) (hswo : SWO (ltc cm))  : Does Tryz.prog 210 [.slice (some ⟨b,0,none⟩) n c,.int .i64 ((x : Nat) : Int),.int .i64 ((y : Nat) : Int),.func (.func gf) #[] caps.toArray] V [sgD Le.cells 43 b rest d0] (fun v V' H' => V' = V /\ v = .tuple #[] /\ H' = [sgD Le.cells 43 b rest (insertionSort (ltc cm) d0 x y)]) := by
 refine Does.intro Tryz.func210 rfl rfl (le rfl) (fun B => ?_)
 refine Zs<|Zr<|Zm Z<|Zv (Y.addN ((x + 1 : Nat) : Int) rfl rfl W W)<|Za Z<|Ze<|Zg<|Zb<|?_
 refine ZL (X := Nat × Array Le) (fun z0 => V) (fun z0 => [sgD Le.cells 43 b rest z0.2]) (fun z0 => [(0,.slice (some ⟨b,0,none⟩) n c),(1,.int .i64 ((x : Nat) : Int)),(2,.int .i64 ((y : Nat) : Int)),(3,.func (.func gf) #[] caps.toArray),(8,.int .i64 ((z0.1 : Nat) : Int))]) (fun z0 => insOuter (ltc cm) x y z0.1 z0.2 = insOuter (ltc cm) x y (x + 1) d0 /\ z0.2.size = n /\ x < z0.1) (fun z0 => y - z0.1) (⟨x + 1,d0⟩ : Nat × Array Le) ⟨rfl,hd,by omega⟩ ?_
 rintro ⟨i,d⟩ ⟨r1,r2,r3⟩
 try dsimp only at r1 r2 r3 ⊢
 refine Zs<|Zs<|Zr<|Zm Z<|Zm Z<|Zv (Y.int Z Z Z)<|Ze<|Zg<|?_
 refine Zq (decide (((i : Nat) : Int) < ((y : Nat) : Int))) (fun h1 g1 => ?_) fun h1 g1 => ?_
 ·refine Tr.cond_t Z h1<|Zt<|Zg<|Zs<|Zb<|Zs<|Zr<|Zm Z<|Za Z<|Ze<|Zg<|Zb<|?_
  refine ZL (X := Nat × Array Le) (fun z0 => V) (fun z0 => [sgD Le.cells 43 b rest z0.2]) (fun z0 => [(0,.slice (some ⟨b,0,none⟩) n c),(1,.int .i64 ((x : Nat) : Int)),(2,.int .i64 ((y : Nat) : Int)),(3,.func (.func gf) #[] caps.toArray),(8,.int .i64 ((i : Nat) : Int)),(9,.int .i64 ((z0.1 : Nat) : Int))]) (fun z0 => insOuter (ltc cm) x y (i + 1) (insInner (ltc cm) x z0.1 z0.2) = insOuter (ltc cm) x y (x + 1) d0 /\ z0.2.size = n /\ z0.1 <= i) (fun z0 => z0.1) (⟨i,d⟩ : Nat × Array Le) ⟨(insOuter_go W).symm.trans r1,r2,Nat.le_refl _⟩ ?_
  rintro ⟨j,f⟩ ⟨k1,k2,k3⟩
  try dsimp only at k1 k2 k3 ⊢
  refine Zs<|Zs<|Tr.quiet xmo WK<|ZM Z<|ZM Z<|ZV (Y.int Z Z Z)<|ZM Z<|?_
  refine Zq (decide (((j : Nat) : Int) > ((x : Nat) : Int))) (fun h2 g2 => ?_) fun h2 g2 => ?_
  ·refine ZP h2<|ZM Z<|ZP h2<|ZM Z<|ZP h2<|ZM Z<|ZP h2<|ZV (Y.idxN j Z Z xes22 W W)<|ZP h2<|ZV (Y.ldA (enc := Le.cells) (d := f) (rest := rest) (e := 43) (i := j) Z xag43 (Kn.at 0 rfl) Le.enc1 WB rfl)<|ZP h2<|ZM Z<|ZP h2<|ZM Z<|ZP h2<|ZV (Y.subN ((j - 1 : Nat) : Int) rfl rfl W W)<|?_
   refine ZP h2<|ZV (Y.idxN (j - 1) rfl rfl xes22 W W)<|ZP h2<|ZV (Y.ldA (enc := Le.cells) (d := f) (rest := rest) (e := 43) (i := (j - 1)) rfl xag43 (Kn.at 0 rfl) Le.enc1 WB rfl)<|ZP h2<|YC Z Z Z ((hcmp (f[j]!) (f[j - 1]!)).frame)<|ZP h2<|ZV (Y.int Z Z Z)<|ZV (Y.pick_t Z h2 Z)<|ZE<|Zg<|?_
   refine Zq (decide ((cm (f[j]!) (f[j - 1]!)) < 0)) (fun h3 g3 => ?_) fun h3 g3 => ?_
   ·refine Tr.cond_t Z h3<|Zt<|Zg<|Zs<|Zb<|Tr.anyT [(b,.cells (cel Le.cells f rest).toArray 43 (0,0))] 15 xmo<|Zwm 0 Z Z (ZK 0 Z)<|Zwm 1 Z Z (ZK 0 Z)<|Zwm 2 Z Z (ZK 0 Z)<|Zwm 3 Z Z (ZK 0 Z)<|Zw 4 Z (ZK 0 Z) (fun _ => (Y.subN ((j - 1 : Nat) : Int) rfl rfl W W))<|Zwm 5 Z Z (ZK 0 Z)<|Zwm 6 Z Z (ZK 0 Z)<|Zw 7 Z (ZK 0 Z) (fun _ => (Y.subN ((j - 1 : Nat) : Int) rfl rfl W W))<|Zw 8 Z (ZK 0 Z) (fun _ => (Y.idxN (j - 1) rfl rfl xes22 W W))<|?_
    refine ZT 9 0 Z Z (ZK 0 Z) (fun _ => (Y.ldA (enc := Le.cells) (d := f) (rest := rest) (e := 43) (i := (j - 1)) rfl xag43 Kn.vk1 Le.enc1 WB rfl))<|Zwm 10 Z Z (ZK 0 Z)<|Zwm 11 Z Z (ZK 0 Z)<|Zw 12 Z (ZK 0 Z) (fun _ => (Y.idxN j rfl rfl xes22 W W))<|ZT 13 0 Z Z (ZK 0 Z) (fun _ => (Y.ldA (enc := Le.cells) (d := f) (rest := rest) (e := 43) (i := j) rfl xag43 Kn.vk1 Le.enc1 WB rfl))<|?_
    refine Zw 14 Z (ZK 0 Z) (fun _ => (Y.idxN j rfl rfl xes22 W W)) ?_
    refine RunT.one (i := 15) WK rfl  ?_
    refine Run.stD (enc := Le.cells) (d := f) (rest := rest) (e := 43) (i := j) (s := 0) (f[j - 1]!) rfl rfl xsz43 rfl Le.enc1 WB rfl<|Ze<|Zz 15<|?_
    refine RunT.one (i := 16) WK rfl  ?_
    refine Zv (Y.idxN (j - 1) rfl rfl xes22 W W)<|Ze<|Zz 16<|?_
    refine RunT.one (i := 17) WK rfl  ?_
    refine Run.stD (enc := Le.cells) (d := (f).setIfInBounds j (f[j - 1]!)) (rest := rest) (e := 43) (i := (j - 1)) (s := 0) (f[j]!) rfl rfl xsz43 rfl Le.enc1 WB rfl<|Run.heapTo (H' := [sgD Le.cells 43 b rest (swp f j (j - 1))]) Z<|Ze<|Zz 17<|RunT.done WK<|Zc<|Zg<|Zr<|Zm Z<|Zv (Y.subN ((j - 1 : Nat) : Int) rfl rfl W W)<|?_
    refine Za Z<|Ze<|?_
    exact ZR (⟨j - 1,swp f j (j - 1)⟩ : Nat × Array Le) ⟨by dsimp only; rw [<- insInner_go W (by assumption)]; exact k1,by simp only [swp_size]; exact k2,by omega⟩ (by dsimp only; omega)
   refine Tr.cond_f Z h3<|Zx<|Zy<|Zy<|Zi<|Zc<|Zg<|Zr<|Zm Z<|Zv (Y.addN ((i + 1 : Nat) : Int) rfl rfl W W)<|Za Z<|Ze<|?_
   exact ZR (⟨i + 1,f⟩ : Nat × Array Le) ⟨(congrArg (insOuter (ltc cm) x y (i + 1)) (insInner_stop (a := x) (by first | (left; omega) | (right; assumption)))).symm.trans k1,k2,by omega⟩ (by dsimp only; omega)
  refine ZO h2 Z<|ZO h2 Z<|ZO h2 Z<|ZO h2 Z<|ZO h2 Z<|ZO h2 Z<|ZO h2 Z<|ZO h2 Z<|ZO h2 Z<|ZO h2 Z<|ZO h2 Z<|ZO h2 Z<|ZV (Y.pick_f Z h2 Z)<|ZE<|Zg<|Tr.cond_f Z Z<|?_
  refine Zx<|Zy<|Zy<|Zi<|Zc<|Zg<|Zr<|Zm Z<|Zv (Y.addN ((i + 1 : Nat) : Int) rfl rfl W W)<|Za Z<|Ze<|?_
  exact ZR (⟨i + 1,f⟩ : Nat × Array Le) ⟨(congrArg (insOuter (ltc cm) x y (i + 1)) (insInner_stop (a := x) (by first | (left; omega) | (right; assumption)))).symm.trans k1,k2,by omega⟩ (by dsimp only; omega)
 refine Tr.cond_f Z h1<|Zx<|Zy<|Zy<|Zi<|Ex.keep [0]<|?_
 exact Ex.end0 rfl ⟨rfl,rfl,by rw [insertionSort,<- r1,insOuter_stop W]; rfl⟩
theorem sift_l {V : Vw} {n c b : Nat} {rest : List Value} {d0 : Array Le} {gf : FuncId} {caps : List Value} {cm : Le -> Le -> Int} {l m f : Nat}  (hN : n <= 1073741824) (hd : d0.size = n) (hl : l <= n) (hm : f + m <= n)  (hcmp : ∀ x y : Le,Does Tryz.prog gf (.agg (Le.cells x).toArray :: .agg (Le.cells y).toArray :: caps) V [] (Pv (.int .i64 (cm x y)) V [])) (hswo : SWO (ltc cm))  : Does Tryz.prog 218 [.slice (some ⟨b,0,none⟩) n c,.int .i64 ((l : Nat) : Int),.int .i64 ((m : Nat) : Int),.int .i64 ((f : Nat) : Int),.func (.func gf) #[] caps.toArray] V [sgD Le.cells 43 b rest d0] (fun v V' H' => V' = V /\ v = .tuple #[] /\ H' = [sgD Le.cells 43 b rest (siftDown (ltc cm) m f l d0)]) := by
 refine Does.intro Tryz.func218 rfl rfl (le rfl) (fun B => ?_)
 refine Zs<|Zr<|Zm Z<|Za Z<|Ze<|Zg<|Zb<|?_
 refine ZL (X := Nat × Array Le) (fun z0 => V) (fun z0 => [sgD Le.cells 43 b rest z0.2]) (fun z0 => [(0,.slice (some ⟨b,0,none⟩) n c),(1,.int .i64 ((l : Nat) : Int)),(2,.int .i64 ((m : Nat) : Int)),(3,.int .i64 ((f : Nat) : Int)),(4,.func (.func gf) #[] caps.toArray),(10,.int .i64 ((z0.1 : Nat) : Int))]) (fun z0 => siftDown (ltc cm) m f z0.1 z0.2 = siftDown (ltc cm) m f l d0 /\ z0.2.size = n /\ z0.1 <= n) (fun z0 => m - z0.1) (⟨l,d0⟩ : Nat × Array Le) ⟨rfl,hd,hl⟩ ?_
 rintro ⟨r,d⟩ ⟨r1,r2,r3⟩
 try dsimp only at r1 r2 r3 ⊢
 refine Zb<|Zs<|Zr<|Zm Z<|Zv (Y.mulN ((2 * r : Nat) : Int) rfl rfl W W)<|Zv (Y.addN (((2 * r) + 1 : Nat) : Int) rfl rfl W W)<|Za Z<|Ze<|Zg<|Zs<|Zs<|Zr<|Zm Z<|Zm Z<|Zv (Y.int Z Z Z)<|Ze<|?_
 refine Zg ?_
 refine Zq (decide ((((2 * r) + 1 : Nat) : Int) >= ((m : Nat) : Int))) (fun h1 g1 => ?_) fun h1 g1 => ?_
 ·refine Tr.cond_t Z h1<|Zx<|Zy<|Ex.exit_out Z<|Zy<|Zi<|Ex.keep [0]<|?_
  exact Ex.end0 rfl ⟨rfl,rfl,by rw [<- r1]; first | rw [sift_end W]; rfl | rw [sift_stop2 W (by assumption) (by assumption)]; rfl | rw [sift_stop1 W (by first | (left; omega) | (right; assumption)) (by assumption)]; rfl⟩
 refine Tr.cond_f Z h1<|Zt<|Zg<|Zs<|Zs<|Tr.quiet xmo WK<|ZM Z<|ZV (Y.addN ((((2 * r) + 1) + 1 : Nat) : Int) rfl rfl W W)<|ZM Z<|ZV (Y.int Z Z Z)<|ZM Z<|?_
 refine Zq (decide (((((2 * r) + 1) + 1 : Nat) : Int) < ((m : Nat) : Int))) (fun h2 g2 => ?_) fun h2 g2 => ?_
 ·refine ZP h2<|ZM Z<|ZP h2<|ZM Z<|ZP h2<|ZM Z<|ZP h2<|ZM Z<|ZP h2<|ZV (Y.addN ((f + ((2 * r) + 1) : Nat) : Int) rfl rfl W W)<|ZP h2<|ZV (Y.idxN (f + ((2 * r) + 1)) rfl rfl xes22 W W)<|ZP h2<|ZV (Y.ldA (enc := Le.cells) (d := d) (rest := rest) (e := 43) (i := (f + ((2 * r) + 1))) rfl xag43 (Kn.at 0 rfl) Le.enc1 WB rfl)<|?_
  refine ZP h2<|ZM Z<|ZP h2<|ZM Z<|ZP h2<|ZM Z<|ZP h2<|ZV (Y.addN ((f + ((2 * r) + 1) : Nat) : Int) rfl rfl W W)<|ZP h2<|ZV (Y.addN (((f + ((2 * r) + 1)) + 1 : Nat) : Int) rfl rfl W W)<|ZP h2<|ZV (Y.idxN ((f + ((2 * r) + 1)) + 1) rfl rfl xes22 W W)<|ZP h2<|ZV (Y.ldA (enc := Le.cells) (d := d) (rest := rest) (e := 43) (i := ((f + ((2 * r) + 1)) + 1)) rfl xag43 (Kn.at 0 rfl) Le.enc1 WB rfl)<|?_
  refine ZP h2<|YC Z Z Z ((hcmp (d[f + ((2 * r) + 1)]!) (d[(f + ((2 * r) + 1)) + 1]!)).frame)<|ZP h2<|ZV (Y.int Z Z Z)<|ZV (Y.pick_t Z h2 Z)<|ZE<|Zg<|?_
  refine Zq (decide ((cm (d[f + ((2 * r) + 1)]!) (d[(f + ((2 * r) + 1)) + 1]!)) < 0)) (fun h3 g3 => ?_) fun h3 g3 => ?_
  ·refine Tr.cond_t Z h3<|Zr<|Zm Z<|Zv (Y.addN ((((2 * r) + 1) + 1 : Nat) : Int) rfl rfl W W)<|Za Z<|Ze<|Zg<|Zs<|Zs<|Tr.quiet xmo WK<|ZM Z<|ZM Z<|ZM Z<|ZM Z<|ZV (Y.addN ((f + r : Nat) : Int) rfl rfl W W)<|ZV (Y.idxN (f + r) rfl rfl xes22 W W)<|?_
   refine ZV (Y.ldA (enc := Le.cells) (d := d) (rest := rest) (e := 43) (i := (f + r)) rfl xag43 (Kn.at 0 rfl) Le.enc1 WB rfl)<|ZM Z<|ZM Z<|ZM Z<|ZV (Y.addN ((f + (((2 * r) + 1) + 1) : Nat) : Int) rfl rfl W W)<|ZV (Y.idxN (f + (((2 * r) + 1) + 1)) rfl rfl xes22 W W)<|ZV (Y.ldA (enc := Le.cells) (d := d) (rest := rest) (e := 43) (i := (f + (((2 * r) + 1) + 1))) rfl xag43 (Kn.at 0 rfl) Le.enc1 WB rfl)<|?_
   refine YC Z Z Z ((hcmp (d[f + r]!) (d[f + (((2 * r) + 1) + 1)]!)).frame)<|ZV (Y.int Z Z Z)<|ZV (Y.not Z)<|ZE<|Zg<|?_
   refine Zq (decide ((cm (d[f + r]!) (d[f + (((2 * r) + 1) + 1)]!)) < 0)) (fun h4 g4 => ?_) fun h4 g4 => ?_
   ·refine Tr.cond_f Z (congrArg Bool.not h4)<|Zt<|Zg<|Zs<|Tr.anyT [(b,.cells (cel Le.cells d rest).toArray 43 (0,0))] 21 xmo<|Zwm 0 Z Z (ZK 0 Z)<|Zwm 1 Z Z (ZK 0 Z)<|Zwm 2 Z Z (ZK 0 Z)<|Zw 3 Z (ZK 0 Z) (fun _ => (Y.addN ((f + r : Nat) : Int) rfl rfl W W))<|Zwm 4 Z Z (ZK 0 Z)<|Zwm 5 Z Z (ZK 0 Z)<|Zwm 6 Z Z (ZK 0 Z)<|Zw 7 Z (ZK 0 Z) (fun _ => (Y.addN ((f + (((2 * r) + 1) + 1) : Nat) : Int) rfl rfl W W))<|?_
    refine Zwm 8 Z Z (ZK 0 Z)<|Zwm 9 Z Z (ZK 0 Z)<|Zwm 10 Z Z (ZK 0 Z)<|Zw 11 Z (ZK 0 Z) (fun _ => (Y.addN ((f + (((2 * r) + 1) + 1) : Nat) : Int) rfl rfl W W))<|Zw 12 Z (ZK 0 Z) (fun _ => (Y.idxN (f + (((2 * r) + 1) + 1)) rfl rfl xes22 W W))<|ZT 13 0 Z Z (ZK 0 Z) (fun _ => (Y.ldA (enc := Le.cells) (d := d) (rest := rest) (e := 43) (i := (f + (((2 * r) + 1) + 1))) rfl xag43 Kn.vk1 Le.enc1 WB rfl))<|?_
    refine Zwm 14 Z Z (ZK 0 Z)<|Zwm 15 Z Z (ZK 0 Z)<|Zwm 16 Z Z (ZK 0 Z)<|Zw 17 Z (ZK 0 Z) (fun _ => (Y.addN ((f + r : Nat) : Int) rfl rfl W W))<|Zw 18 Z (ZK 0 Z) (fun _ => (Y.idxN (f + r) rfl rfl xes22 W W))<|ZT 19 0 Z Z (ZK 0 Z) (fun _ => (Y.ldA (enc := Le.cells) (d := d) (rest := rest) (e := 43) (i := (f + r)) rfl xag43 Kn.vk1 Le.enc1 WB rfl))<|?_
    refine Zw 20 Z (ZK 0 Z) (fun _ => (Y.idxN (f + r) rfl rfl xes22 W W)) ?_
    refine RunT.one (i := 21) WK rfl  ?_
    refine Run.stD (enc := Le.cells) (d := d) (rest := rest) (e := 43) (i := (f + r)) (s := 0) (d[f + (((2 * r) + 1) + 1)]!) rfl rfl xsz43 rfl Le.enc1 WB rfl<|Ze<|Zz 21<|?_
    refine RunT.one (i := 22) WK rfl  ?_
    refine Zv (Y.idxN (f + (((2 * r) + 1) + 1)) rfl rfl xes22 W W)<|Ze<|Zz 22<|?_
    refine RunT.one (i := 23) WK rfl  ?_
    refine Run.stD (enc := Le.cells) (d := (d).setIfInBounds (f + r) (d[f + (((2 * r) + 1) + 1)]!)) (rest := rest) (e := 43) (i := (f + (((2 * r) + 1) + 1))) (s := 0) (d[f + r]!) rfl rfl xsz43 rfl Le.enc1 WB rfl<|Run.heapTo (H' := [sgD Le.cells 43 b rest (swp d (f + r) (f + (((2 * r) + 1) + 1)))]) Z<|Ze<|Zz 23<|RunT.done WK<|Zg<|?_
    refine Zr<|Zm Z<|Za Z<|Ze<|Zc<|?_
    exact ZR (⟨((2 * r) + 1) + 1,swp d (f + r) (f + (((2 * r) + 1) + 1))⟩ : Nat × Array Le) ⟨by first | exact (sift_go2 W (by assumption) (by assumption)).symm.trans r1 | exact (sift_go1 W (by first | (left; omega) | (right; assumption)) (by assumption)).symm.trans r1,by simp only [swp_size]; exact r2,by (try dsimp only); omega⟩ (by dsimp only; omega)
   refine Tr.cond_t Z (congrArg Bool.not h4)<|Zu<|Zn<|Zk<|Zn<|Zk<|Ex.keep [0]<|?_
   exact Ex.ret0 rfl ⟨rfl,rfl,by rw [<- r1]; first | rw [sift_end W]; rfl | rw [sift_stop2 W (by assumption) (by assumption)]; rfl | rw [sift_stop1 W (by first | (left; omega) | (right; assumption)) (by assumption)]; rfl⟩
  refine Tr.cond_f Z h3<|Zt<|Zg<|Zs<|Zs<|Tr.quiet xmo WK<|ZM Z<|ZM Z<|ZM Z<|ZM Z<|ZV (Y.addN ((f + r : Nat) : Int) rfl rfl W W)<|ZV (Y.idxN (f + r) rfl rfl xes22 W W)<|ZV (Y.ldA (enc := Le.cells) (d := d) (rest := rest) (e := 43) (i := (f + r)) rfl xag43 (Kn.at 0 rfl) Le.enc1 WB rfl)<|ZM Z<|ZM Z<|ZM Z<|?_
  refine ZV (Y.addN ((f + ((2 * r) + 1) : Nat) : Int) rfl rfl W W)<|ZV (Y.idxN (f + ((2 * r) + 1)) rfl rfl xes22 W W)<|ZV (Y.ldA (enc := Le.cells) (d := d) (rest := rest) (e := 43) (i := (f + ((2 * r) + 1))) rfl xag43 (Kn.at 0 rfl) Le.enc1 WB rfl)<|YC Z Z Z ((hcmp (d[f + r]!) (d[f + ((2 * r) + 1)]!)).frame)<|?_
  refine ZV (Y.int Z Z Z)<|ZV (Y.not Z)<|ZE<|Zg<|?_
  refine Zq (decide ((cm (d[f + r]!) (d[f + ((2 * r) + 1)]!)) < 0)) (fun h5 g5 => ?_) fun h5 g5 => ?_
  ·refine Tr.cond_f Z (congrArg Bool.not h5)<|Zt<|Zg<|Zs<|Tr.anyT [(b,.cells (cel Le.cells d rest).toArray 43 (0,0))] 21 xmo<|Zwm 0 Z Z (ZK 0 Z)<|Zwm 1 Z Z (ZK 0 Z)<|Zwm 2 Z Z (ZK 0 Z)<|Zw 3 Z (ZK 0 Z) (fun _ => (Y.addN ((f + r : Nat) : Int) rfl rfl W W))<|Zwm 4 Z Z (ZK 0 Z)<|Zwm 5 Z Z (ZK 0 Z)<|Zwm 6 Z Z (ZK 0 Z)<|Zw 7 Z (ZK 0 Z) (fun _ => (Y.addN ((f + ((2 * r) + 1) : Nat) : Int) rfl rfl W W))<|?_
   refine Zwm 8 Z Z (ZK 0 Z)<|Zwm 9 Z Z (ZK 0 Z)<|Zwm 10 Z Z (ZK 0 Z)<|Zw 11 Z (ZK 0 Z) (fun _ => (Y.addN ((f + ((2 * r) + 1) : Nat) : Int) rfl rfl W W))<|Zw 12 Z (ZK 0 Z) (fun _ => (Y.idxN (f + ((2 * r) + 1)) rfl rfl xes22 W W))<|ZT 13 0 Z Z (ZK 0 Z) (fun _ => (Y.ldA (enc := Le.cells) (d := d) (rest := rest) (e := 43) (i := (f + ((2 * r) + 1))) rfl xag43 Kn.vk1 Le.enc1 WB rfl))<|?_
   refine Zwm 14 Z Z (ZK 0 Z)<|Zwm 15 Z Z (ZK 0 Z)<|Zwm 16 Z Z (ZK 0 Z)<|Zw 17 Z (ZK 0 Z) (fun _ => (Y.addN ((f + r : Nat) : Int) rfl rfl W W))<|Zw 18 Z (ZK 0 Z) (fun _ => (Y.idxN (f + r) rfl rfl xes22 W W))<|ZT 19 0 Z Z (ZK 0 Z) (fun _ => (Y.ldA (enc := Le.cells) (d := d) (rest := rest) (e := 43) (i := (f + r)) rfl xag43 Kn.vk1 Le.enc1 WB rfl))<|?_
   refine Zw 20 Z (ZK 0 Z) (fun _ => (Y.idxN (f + r) rfl rfl xes22 W W)) ?_
   refine RunT.one (i := 21) WK rfl  ?_
   refine Run.stD (enc := Le.cells) (d := d) (rest := rest) (e := 43) (i := (f + r)) (s := 0) (d[f + ((2 * r) + 1)]!) rfl rfl xsz43 rfl Le.enc1 WB rfl<|Ze<|Zz 21<|?_
   refine RunT.one (i := 22) WK rfl  ?_
   refine Zv (Y.idxN (f + ((2 * r) + 1)) rfl rfl xes22 W W)<|Ze<|Zz 22<|?_
   refine RunT.one (i := 23) WK rfl  ?_
   refine Run.stD (enc := Le.cells) (d := (d).setIfInBounds (f + r) (d[f + ((2 * r) + 1)]!)) (rest := rest) (e := 43) (i := (f + ((2 * r) + 1))) (s := 0) (d[f + r]!) rfl rfl xsz43 rfl Le.enc1 WB rfl<|Run.heapTo (H' := [sgD Le.cells 43 b rest (swp d (f + r) (f + ((2 * r) + 1)))]) Z<|Ze<|Zz 23<|RunT.done WK<|Zg<|Zr<|Zm Z<|Za Z<|Ze<|Zc<|?_
   exact ZR (⟨(2 * r) + 1,swp d (f + r) (f + ((2 * r) + 1))⟩ : Nat × Array Le) ⟨by first | exact (sift_go2 W (by assumption) (by assumption)).symm.trans r1 | exact (sift_go1 W (by first | (left; omega) | (right; assumption)) (by assumption)).symm.trans r1,by simp only [swp_size]; exact r2,by (try dsimp only); omega⟩ (by dsimp only; omega)
  refine Tr.cond_t Z (congrArg Bool.not h5)<|Zu<|Zn<|Zk<|Zn<|Zk<|Ex.keep [0]<|?_
  exact Ex.ret0 rfl ⟨rfl,rfl,by rw [<- r1]; first | rw [sift_end W]; rfl | rw [sift_stop2 W (by assumption) (by assumption)]; rfl | rw [sift_stop1 W (by first | (left; omega) | (right; assumption)) (by assumption)]; rfl⟩
 refine ZO h2 Z<|ZO h2 Z<|ZO h2 Z<|ZO h2 Z<|ZO h2 Z<|ZO h2 Z<|ZO h2 Z<|ZO h2 Z<|ZO h2 Z<|ZO h2 Z<|ZO h2 Z<|ZO h2 Z<|ZO h2 Z<|ZO h2 Z<|ZO h2 Z<|ZO h2 Z<|?_
 refine ZV (Y.pick_f Z h2 Z)<|ZE<|Zg<|Tr.cond_f Z Z<|Zt<|Zg<|Zs<|Zs<|Tr.quiet xmo WK<|ZM Z<|ZM Z<|ZM Z<|ZM Z<|ZV (Y.addN ((f + r : Nat) : Int) rfl rfl W W)<|ZV (Y.idxN (f + r) rfl rfl xes22 W W)<|ZV (Y.ldA (enc := Le.cells) (d := d) (rest := rest) (e := 43) (i := (f + r)) rfl xag43 (Kn.at 0 rfl) Le.enc1 WB rfl)<|?_
 refine ZM Z<|ZM Z<|ZM Z<|ZV (Y.addN ((f + ((2 * r) + 1) : Nat) : Int) rfl rfl W W)<|ZV (Y.idxN (f + ((2 * r) + 1)) rfl rfl xes22 W W)<|ZV (Y.ldA (enc := Le.cells) (d := d) (rest := rest) (e := 43) (i := (f + ((2 * r) + 1))) rfl xag43 (Kn.at 0 rfl) Le.enc1 WB rfl)<|YC Z Z Z ((hcmp (d[f + r]!) (d[f + ((2 * r) + 1)]!)).frame)<|?_
 refine ZV (Y.int Z Z Z)<|ZV (Y.not Z)<|ZE<|Zg<|?_
 refine Zq (decide ((cm (d[f + r]!) (d[f + ((2 * r) + 1)]!)) < 0)) (fun h6 g6 => ?_) fun h6 g6 => ?_
 ·refine Tr.cond_f Z (congrArg Bool.not h6)<|Zt<|Zg<|Zs<|Tr.anyT [(b,.cells (cel Le.cells d rest).toArray 43 (0,0))] 21 xmo<|Zwm 0 Z Z (ZK 0 Z)<|Zwm 1 Z Z (ZK 0 Z)<|Zwm 2 Z Z (ZK 0 Z)<|Zw 3 Z (ZK 0 Z) (fun _ => (Y.addN ((f + r : Nat) : Int) rfl rfl W W))<|Zwm 4 Z Z (ZK 0 Z)<|Zwm 5 Z Z (ZK 0 Z)<|Zwm 6 Z Z (ZK 0 Z)<|Zw 7 Z (ZK 0 Z) (fun _ => (Y.addN ((f + ((2 * r) + 1) : Nat) : Int) rfl rfl W W))<|?_
  refine Zwm 8 Z Z (ZK 0 Z)<|Zwm 9 Z Z (ZK 0 Z)<|Zwm 10 Z Z (ZK 0 Z)<|Zw 11 Z (ZK 0 Z) (fun _ => (Y.addN ((f + ((2 * r) + 1) : Nat) : Int) rfl rfl W W))<|Zw 12 Z (ZK 0 Z) (fun _ => (Y.idxN (f + ((2 * r) + 1)) rfl rfl xes22 W W))<|ZT 13 0 Z Z (ZK 0 Z) (fun _ => (Y.ldA (enc := Le.cells) (d := d) (rest := rest) (e := 43) (i := (f + ((2 * r) + 1))) rfl xag43 Kn.vk1 Le.enc1 WB rfl))<|?_
  refine Zwm 14 Z Z (ZK 0 Z)<|Zwm 15 Z Z (ZK 0 Z)<|Zwm 16 Z Z (ZK 0 Z)<|Zw 17 Z (ZK 0 Z) (fun _ => (Y.addN ((f + r : Nat) : Int) rfl rfl W W))<|Zw 18 Z (ZK 0 Z) (fun _ => (Y.idxN (f + r) rfl rfl xes22 W W))<|ZT 19 0 Z Z (ZK 0 Z) (fun _ => (Y.ldA (enc := Le.cells) (d := d) (rest := rest) (e := 43) (i := (f + r)) rfl xag43 Kn.vk1 Le.enc1 WB rfl))<|?_
  refine Zw 20 Z (ZK 0 Z) (fun _ => (Y.idxN (f + r) rfl rfl xes22 W W)) ?_
  refine RunT.one (i := 21) WK rfl  ?_
  refine Run.stD (enc := Le.cells) (d := d) (rest := rest) (e := 43) (i := (f + r)) (s := 0) (d[f + ((2 * r) + 1)]!) rfl rfl xsz43 rfl Le.enc1 WB rfl<|Ze<|Zz 21<|?_
  refine RunT.one (i := 22) WK rfl  ?_
  refine Zv (Y.idxN (f + ((2 * r) + 1)) rfl rfl xes22 W W)<|Ze<|Zz 22<|?_
  refine RunT.one (i := 23) WK rfl  ?_
  refine Run.stD (enc := Le.cells) (d := (d).setIfInBounds (f + r) (d[f + ((2 * r) + 1)]!)) (rest := rest) (e := 43) (i := (f + ((2 * r) + 1))) (s := 0) (d[f + r]!) rfl rfl xsz43 rfl Le.enc1 WB rfl<|Run.heapTo (H' := [sgD Le.cells 43 b rest (swp d (f + r) (f + ((2 * r) + 1)))]) Z<|Ze<|Zz 23<|RunT.done WK<|Zg<|Zr<|Zm Z<|Za Z<|Ze<|Zc<|?_
  exact ZR (⟨(2 * r) + 1,swp d (f + r) (f + ((2 * r) + 1))⟩ : Nat × Array Le) ⟨by first | exact (sift_go2 W (by assumption) (by assumption)).symm.trans r1 | exact (sift_go1 W (by first | (left; omega) | (right; assumption)) (by assumption)).symm.trans r1,by simp only [swp_size]; exact r2,by (try dsimp only); omega⟩ (by dsimp only; omega)
 refine Tr.cond_t Z (congrArg Bool.not h6)<|Zu<|Zn<|Zk<|Zn<|Zk<|Ex.keep [0]<|?_
 exact Ex.ret0 rfl ⟨rfl,rfl,by rw [<- r1]; first | rw [sift_end W]; rfl | rw [sift_stop2 W (by assumption) (by assumption)]; rfl | rw [sift_stop1 W (by first | (left; omega) | (right; assumption)) (by assumption)]; rfl⟩
theorem heap_l {V : Vw} {n c b : Nat} {rest : List Value} {d0 : Array Le} {gf : FuncId} {caps : List Value} {cm : Le -> Le -> Int} {x y : Nat}  (hN : n <= 1073741824) (hd : d0.size = n) (hx : x < y) (hy : y <= n)  (hcmp : ∀ x y : Le,Does Tryz.prog gf (.agg (Le.cells x).toArray :: .agg (Le.cells y).toArray :: caps) V [] (Pv (.int .i64 (cm x y)) V [])) (hswo : SWO (ltc cm))  : Does Tryz.prog 211 [.slice (some ⟨b,0,none⟩) n c,.int .i64 ((x : Nat) : Int),.int .i64 ((y : Nat) : Int),.func (.func gf) #[] caps.toArray] V [sgD Le.cells 43 b rest d0] (fun v V' H' => V' = V /\ v = .tuple #[] /\ H' = [sgD Le.cells 43 b rest (heapSort (ltc cm) d0 x y)]) := by
 refine Does.intro Tryz.func211 rfl rfl (le rfl) (fun B => ?_)
 refine Zs<|Zr<|Zm Z<|Za Z<|Ze<|Zg<|Zs<|Zr<|Za Z<|Ze<|Zg<|Zs<|Zr<|Zm Z<|Zm Z<|Zv (Y.subN ((y - x : Nat) : Int) rfl rfl W W)<|?_
 refine Za Z<|Ze<|Zg<|Zs<|Zs<|Zr<|Zm Z<|Zv (Y.subN (((y - x) - 1 : Nat) : Int) rfl rfl W W)<|Zv (Y.quoN (m := (y - x) - 1) (n := 2) rfl rfl W W)<|Za Z<|Ze<|Zg<|Zb<|?_
 refine ZL (X := Int × Array Le) (fun z0 => V) (fun z0 => [sgD Le.cells 43 b rest z0.2]) (fun z0 => [(0,.slice (some ⟨b,0,none⟩) n c),(1,.int .i64 ((x : Nat) : Int)),(2,.int .i64 ((y : Nat) : Int)),(3,.func (.func gf) #[] caps.toArray),(8,.int .i64 ((x : Nat) : Int)),(9,.int .i64 0),(10,.int .i64 ((y - x : Nat) : Int)),(11,.int .i64 z0.1)]) (fun z0 => heapBuild (ltc cm) (y - x) x (z0.1 + 1).toNat z0.2 = heapBuild (ltc cm) (y - x) x ((y - x - 1) / 2 + 1) d0 /\ z0.2.size = n /\ -1 <= z0.1 /\ z0.1 < ((y - x : Nat) : Int)) (fun z0 => (z0.1 + 1).toNat) (⟨(((y - x) - 1) / 2 : Nat),d0⟩ : Int × Array Le) ⟨rfl,hd,by (try dsimp only); omega,by (try dsimp only); omega⟩ ?_
 rintro ⟨i,d⟩ ⟨r1,r2,r3,r4⟩
 try dsimp only at r1 r2 r3 r4 ⊢
 refine Zs<|Zs<|Zr<|Zm Z<|Zv (Y.int Z Z Z)<|Ze<|Zg<|?_
 refine Zq (decide (i >= 0)) (fun h1 g1 => ?_) fun h1 g1 => ?_
 ·obtain ⟨k,rfl⟩ : ∃ k : Nat,i = (k : Int) := ⟨i.toNat,by omega⟩
  refine Tr.cond_t Z h1<|Zt<|Zg<|Zs<|Zb<|Zr<|Zm Z<|Zm Z<|Zm Z<|Zm Z<|Zm Z<|?_
  refine Yk [0] Z Z Z (sift_l (l := k) (m := y - x) (f := x) (d0 := d) hN (by first | assumption | (simp only [swp_size,sift_sz]; assumption)) W W hcmp hswo) (fun v2 V2 H2 hle3 hR => ?_)
  obtain ⟨hV,rfl,rfl⟩ := hR; replace hV := hV.symm; subst hV
  refine Run.heapTo (H' := [sgD Le.cells 43 b rest (siftDown (ltc cm) (y - x) x k d)]) Z<|Ze<|Zc<|Zg<|Zr<|Zm Z<|Zv (Y.sub Z Z W)<|Za Z<|Ze<|?_
  exact ZR (⟨(k : Int) - 1,siftDown (ltc cm) (y - x) x k d⟩ : Int × Array Le) ⟨by dsimp only; rw [show ((k : Int) - 1 + 1).toNat = k by omega]; exact r1,by simp only [sift_sz]; exact r2,by (try dsimp only); omega,by (try dsimp only); omega⟩ (by dsimp only; omega)
 refine Tr.cond_f Z h1<|Zx<|Zy<|Zy<|Zi<|Zg<|Zs<|Zr<|Zm Z<|Zv (Y.subN (((y - x) - 1 : Nat) : Int) rfl rfl W W)<|Za Z<|Ze<|Zg<|Zb<|?_
 refine ZL (X := Int × Array Le) (fun z0 => V) (fun z0 => [sgD Le.cells 43 b rest z0.2]) (fun z0 => [(0,.slice (some ⟨b,0,none⟩) n c),(1,.int .i64 ((x : Nat) : Int)),(2,.int .i64 ((y : Nat) : Int)),(3,.func (.func gf) #[] caps.toArray),(8,.int .i64 ((x : Nat) : Int)),(9,.int .i64 0),(10,.int .i64 ((y - x : Nat) : Int)),(12,.int .i64 z0.1)]) (fun z0 => heapPop (ltc cm) x (z0.1 + 1).toNat z0.2 = heapSort (ltc cm) d0 x y /\ z0.2.size = n /\ -1 <= z0.1 /\ z0.1 < ((y - x : Nat) : Int)) (fun z0 => (z0.1 + 1).toNat) (⟨((y - x) - 1 : Nat),d⟩ : Int × Array Le) ⟨by dsimp only; rw [heapSort,<- r1,show i = -1 by omega,show ((((y - x) - 1 : Nat) : Int) + 1).toNat = y - x by omega]; rfl,r2,by (try dsimp only); omega,by (try dsimp only); omega⟩ ?_
 rintro ⟨u,f⟩ ⟨k1,k2,k3,k4⟩
 try dsimp only at k1 k2 k3 k4 ⊢
 refine Zs<|Zs<|Zr<|Zm Z<|Zv (Y.int Z Z Z)<|Ze<|Zg<|?_
 refine Zq (decide (u >= 0)) (fun h4 g4 => ?_) fun h4 g4 => ?_
 ·obtain ⟨k,rfl⟩ : ∃ k : Nat,u = (k : Int) := ⟨u.toNat,by omega⟩
  refine Tr.cond_t Z h4<|Zt<|Zg<|Zs<|Zb<|Zs<|Tr.anyT [(b,.cells (cel Le.cells f rest).toArray 43 (0,0))] 17 xmo<|Zwm 0 Z Z (ZK 0 Z)<|Zwm 1 Z Z (ZK 0 Z)<|Zwm 2 Z Z (ZK 0 Z)<|Zwm 3 Z Z (ZK 0 Z)<|Zwm 4 Z Z (ZK 0 Z)<|Zw 5 Z (ZK 0 Z) (fun _ => (Y.addN ((x + k : Nat) : Int) rfl rfl W W))<|Zwm 6 Z Z (ZK 0 Z)<|Zwm 7 Z Z (ZK 0 Z)<|Zwm 8 Z Z (ZK 0 Z)<|?_
  refine Zw 9 Z (ZK 0 Z) (fun _ => (Y.addN ((x + k : Nat) : Int) rfl rfl W W))<|Zw 10 Z (ZK 0 Z) (fun _ => (Y.idxN (x + k) rfl rfl xes22 W W))<|ZT 11 0 Z Z (ZK 0 Z) (fun _ => (Y.ldA (enc := Le.cells) (d := f) (rest := rest) (e := 43) (i := (x + k)) rfl xag43 Kn.vk1 Le.enc1 WB rfl))<|Zwm 12 Z Z (ZK 0 Z)<|?_
  refine Zwm 13 Z Z (ZK 0 Z)<|Zw 14 Z (ZK 0 Z) (fun _ => (Y.idxN x rfl rfl xes22 W W))<|ZT 15 0 Z Z (ZK 0 Z) (fun _ => (Y.ldA (enc := Le.cells) (d := f) (rest := rest) (e := 43) (i := x) rfl xag43 Kn.vk1 Le.enc1 WB rfl))<|Zw 16 Z (ZK 0 Z) (fun _ => (Y.idxN x rfl rfl xes22 W W))<|?_
  refine RunT.one (i := 17) WK rfl  ?_
  refine Run.stD (enc := Le.cells) (d := f) (rest := rest) (e := 43) (i := x) (s := 0) (f[x + k]!) rfl rfl xsz43 rfl Le.enc1 WB rfl<|Ze<|Zz 17<|?_
  refine RunT.one (i := 18) WK rfl  ?_
  refine Zv (Y.idxN (x + k) rfl rfl xes22 W W)<|Ze<|Zz 18<|?_
  refine RunT.one (i := 19) WK rfl  ?_
  refine Run.stD (enc := Le.cells) (d := (f).setIfInBounds x (f[x + k]!)) (rest := rest) (e := 43) (i := (x + k)) (s := 0) (f[x]!) rfl rfl xsz43 rfl Le.enc1 WB rfl<|Run.heapTo (H' := [sgD Le.cells 43 b rest (swp f x (x + k))]) Z<|Ze<|Zz 19<|RunT.done WK<|Zg<|Zr<|Zm Z<|Zm Z<|Zm Z<|Zm Z<|Zm Z<|?_
  refine Yk [0] Z Z Z (sift_l (l := 0) (m := k) (f := x) (d0 := swp f x (x + k)) hN (by first | assumption | (simp only [swp_size,sift_sz]; assumption)) W W hcmp hswo) (fun v5 V2 H2 hle6 hR => ?_)
  obtain ⟨hV,rfl,rfl⟩ := hR; replace hV := hV.symm; subst hV
  refine Run.heapTo (H' := [sgD Le.cells 43 b rest (siftDown (ltc cm) k x 0 (swp f x (x + k)))]) Z<|Ze<|Zc<|Zg<|Zr<|Zm Z<|Zv (Y.sub Z Z W)<|Za Z<|Ze<|?_
  exact ZR (⟨(k : Int) - 1,siftDown (ltc cm) k x 0 (swp f x (x + k))⟩ : Int × Array Le) ⟨by dsimp only; rw [show ((k : Int) - 1 + 1).toNat = k by omega]; exact k1,by simp only [sift_sz,swp_size]; exact k2,by (try dsimp only); omega,by (try dsimp only); omega⟩ (by dsimp only; omega)
 refine Tr.cond_f Z h4<|Zx<|Zy<|Zy<|Zi<|Ex.keep [0]<|?_
 exact Ex.end0 rfl ⟨rfl,rfl,by rw [<- k1,show u = -1 by omega]; rfl⟩
theorem rev_l {V : Vw} {n c b : Nat} {rest : List Value} {d0 : Array Le} {gf : FuncId} {caps : List Value} {cm : Le -> Le -> Int} {x y : Nat}  (hN : n <= 1073741824) (hd : d0.size = n) (hx : x < y) (hy : y <= n)  (hcmp : ∀ x y : Le,Does Tryz.prog gf (.agg (Le.cells x).toArray :: .agg (Le.cells y).toArray :: caps) V [] (Pv (.int .i64 (cm x y)) V [])) (hswo : SWO (ltc cm))  : Does Tryz.prog 214 [.slice (some ⟨b,0,none⟩) n c,.int .i64 ((x : Nat) : Int),.int .i64 ((y : Nat) : Int),.func (.func gf) #[] caps.toArray] V [sgD Le.cells 43 b rest d0] (fun v V' H' => V' = V /\ v = .tuple #[] /\ H' = [sgD Le.cells 43 b rest (reverseRange d0 x y)]) := by
 refine Does.intro Tryz.func214 rfl rfl (le rfl) (fun B => ?_)
 refine Zs<|Zr<|Zm Z<|Za Z<|Ze<|Zg<|Zs<|Zr<|Zm Z<|Zv (Y.subN ((y - 1 : Nat) : Int) rfl rfl W W)<|Za Z<|Ze<|Zg<|Zb<|?_
 refine ZL (X := Nat × Nat × Array Le) (fun z0 => V) (fun z0 => [sgD Le.cells 43 b rest z0.2.2]) (fun z0 => [(0,.slice (some ⟨b,0,none⟩) n c),(1,.int .i64 ((x : Nat) : Int)),(2,.int .i64 ((y : Nat) : Int)),(3,.func (.func gf) #[] caps.toArray),(8,.int .i64 ((z0.1 : Nat) : Int)),(9,.int .i64 ((z0.2.1 : Nat) : Int))]) (fun z0 => reverseLoop z0.1 z0.2.1 z0.2.2 = reverseRange d0 x y /\ z0.2.2.size = n /\ z0.2.1 < n) (fun z0 => z0.2.1 - z0.1) (⟨x,y - 1,d0⟩ : Nat × Nat × Array Le) ⟨rfl,hd,by (try dsimp only); omega⟩ ?_
 rintro ⟨i,j,d⟩ ⟨r1,r2,r3⟩
 try dsimp only at r1 r2 r3 ⊢
 refine Zs<|Zs<|Zr<|Zm Z<|Zm Z<|Zv (Y.int Z Z Z)<|Ze<|Zg<|?_
 refine Zq (decide (((i : Nat) : Int) < ((j : Nat) : Int))) (fun h1 g1 => ?_) fun h1 g1 => ?_
 ·refine Tr.cond_t Z h1<|Zt<|Zg<|Zb<|Zs<|Tr.anyT [(b,.cells (cel Le.cells d rest).toArray 43 (0,0))] 13 xmo<|Zwm 0 Z Z (ZK 0 Z)<|Zwm 1 Z Z (ZK 0 Z)<|Zwm 2 Z Z (ZK 0 Z)<|Zwm 3 Z Z (ZK 0 Z)<|Zwm 4 Z Z (ZK 0 Z)<|Zwm 5 Z Z (ZK 0 Z)<|Zw 6 Z (ZK 0 Z) (fun _ => (Y.idxN j rfl rfl xes22 W W))<|ZT 7 0 Z Z (ZK 0 Z) (fun _ => (Y.ldA (enc := Le.cells) (d := d) (rest := rest) (e := 43) (i := j) rfl xag43 Kn.vk1 Le.enc1 WB rfl))<|?_
  refine Zwm 8 Z Z (ZK 0 Z)<|Zwm 9 Z Z (ZK 0 Z)<|Zw 10 Z (ZK 0 Z) (fun _ => (Y.idxN i rfl rfl xes22 W W))<|ZT 11 0 Z Z (ZK 0 Z) (fun _ => (Y.ldA (enc := Le.cells) (d := d) (rest := rest) (e := 43) (i := i) rfl xag43 Kn.vk1 Le.enc1 WB rfl))<|Zw 12 Z (ZK 0 Z) (fun _ => (Y.idxN i rfl rfl xes22 W W))<|?_
  refine RunT.one (i := 13) WK rfl  ?_
  refine Run.stD (enc := Le.cells) (d := d) (rest := rest) (e := 43) (i := i) (s := 0) (d[j]!) rfl rfl xsz43 rfl Le.enc1 WB rfl<|Ze<|Zz 13<|?_
  refine RunT.one (i := 14) WK rfl  ?_
  refine Zv (Y.idxN j Z Z xes22 W W)<|Ze<|Zz 14<|?_
  refine RunT.one (i := 15) WK rfl  ?_
  refine Run.stD (enc := Le.cells) (d := (d).setIfInBounds i (d[j]!)) (rest := rest) (e := 43) (i := j) (s := 0) (d[i]!) rfl rfl xsz43 rfl Le.enc1 WB rfl<|Run.heapTo (H' := [sgD Le.cells 43 b rest (swp d i j)]) Z<|Ze<|Zz 15<|RunT.done WK<|Zg<|Zs<|Zr<|Zm Z<|Zv (Y.addN ((i + 1 : Nat) : Int) rfl rfl W W)<|Za Z<|Ze<|Zg<|Zr<|Zm Z<|Zv (Y.subN ((j - 1 : Nat) : Int) rfl rfl W W)<|?_
  refine Za Z<|Ze<|Zc<|?_
  exact ZR (⟨i + 1,j - 1,swp d i j⟩ : Nat × Nat × Array Le) ⟨(reverseLoop_go W).symm.trans r1,by simp only [swp_size]; exact r2,by (try dsimp only); omega⟩ (by dsimp only; omega)
 refine Tr.cond_f Z h1<|Zx<|Zy<|Zy<|Zi<|Ex.keep [0]<|?_
 exact Ex.end0 rfl ⟨rfl,rfl,by rw [<- r1,reverseLoop_stop W]; rfl⟩
theorem part_l {V : Vw} {n c b : Nat} {rest : List Value} {d0 : Array Le} {gf : FuncId} {caps : List Value} {cm : Le -> Le -> Int} {x y p : Nat}  (hN : n <= 1073741824) (hd : d0.size = n) (hx : x <= p) (hp : p < y) (hy : y <= n)  (hcmp : ∀ x y : Le,Does Tryz.prog gf (.agg (Le.cells x).toArray :: .agg (Le.cells y).toArray :: caps) V [] (Pv (.int .i64 (cm x y)) V [])) (hswo : SWO (ltc cm))  : Does Tryz.prog 217 [.slice (some ⟨b,0,none⟩) n c,.int .i64 ((x : Nat) : Int),.int .i64 ((y : Nat) : Int),.int .i64 ((p : Nat) : Int),.func (.func gf) #[] caps.toArray] V [sgD Le.cells 43 b rest d0] (fun v V' H' => V' = V /\ v = .tuple #[.int .i64 ((partition (ltc cm) d0 x y p).1 : Int),.bool (partition (ltc cm) d0 x y p).2.1] /\ H' = [sgD Le.cells 43 b rest ((partition (ltc cm) d0 x y p).2.2)]) := by
 refine Does.intro Tryz.func217 rfl rfl (le rfl) (fun B => ?_)
 refine Zs<|Zr<|Za Z<|Za Z<|Ze<|Zg<|Zs<|Tr.anyT [(b,.cells (cel Le.cells d0 rest).toArray 43 (0,0))] 13 xmo<|Zwm 0 Z Z (ZK 0 Z)<|Zwm 1 Z Z (ZK 0 Z)<|Zwm 2 Z Z (ZK 0 Z)<|Zwm 3 Z Z (ZK 0 Z)<|Zwm 4 Z Z (ZK 0 Z)<|Zwm 5 Z Z (ZK 0 Z)<|Zw 6 Z (ZK 0 Z) (fun _ => (Y.idxN p rfl rfl xes22 W W))<|ZT 7 0 Z Z (ZK 0 Z) (fun _ => (Y.ldA (enc := Le.cells) (d := d0) (rest := rest) (e := 43) (i := p) rfl xag43 Kn.vk1 Le.enc1 WB rfl))<|?_
 refine Zwm 8 Z Z (ZK 0 Z)<|Zwm 9 Z Z (ZK 0 Z)<|Zw 10 Z (ZK 0 Z) (fun _ => (Y.idxN x rfl rfl xes22 W W))<|ZT 11 0 Z Z (ZK 0 Z) (fun _ => (Y.ldA (enc := Le.cells) (d := d0) (rest := rest) (e := 43) (i := x) rfl xag43 Kn.vk1 Le.enc1 WB rfl))<|Zw 12 Z (ZK 0 Z) (fun _ => (Y.idxN x rfl rfl xes22 W W))<|?_
 refine RunT.one (i := 13) WK rfl  ?_
 refine Run.stD (enc := Le.cells) (d := d0) (rest := rest) (e := 43) (i := x) (s := 0) (d0[p]!) rfl rfl xsz43 rfl Le.enc1 WB rfl<|Ze<|Zz 13<|?_
 refine RunT.one (i := 14) WK rfl  ?_
 refine Zv (Y.idxN p Z Z xes22 W W)<|Ze<|Zz 14<|?_
 refine RunT.one (i := 15) WK rfl  ?_
 refine Run.stD (enc := Le.cells) (d := (d0).setIfInBounds x (d0[p]!)) (rest := rest) (e := 43) (i := p) (s := 0) (d0[x]!) rfl rfl xsz43 rfl Le.enc1 WB rfl<|Run.heapTo (H' := [sgD Le.cells 43 b rest (swp d0 x p)]) Z<|Ze<|Zz 15<|RunT.done WK<|Zg<|Zs<|Zr<|?_
 obtain ⟨d1,hd1⟩ : ∃ z,swp d0 x p = z := ⟨_,rfl⟩
 rw [hd1]
 have sd1 : d1.size = n := by rw [<- hd1]; rw [swp_size]; exact hd
 refine Zm Z<|Zv (Y.addN ((x + 1 : Nat) : Int) rfl rfl W W)<|Zm Z<|Zv (Y.subN ((y - 1 : Nat) : Int) rfl rfl W W)<|Za Z<|Za Z<|Ze<|Zg<|?_
 refine Tr.cutx (X := Nat) (fun i1 => V) (fun i1 => [sgD Le.cells 43 b rest d1]) (fun i1 => [(0,.slice (some ⟨b,0,none⟩) n c),(1,.int .i64 ((x : Nat) : Int)),(2,.int .i64 ((y : Nat) : Int)),(3,.int .i64 ((p : Nat) : Int)),(4,.func (.func gf) #[] caps.toArray),(10,.int .i64 0),(11,.bool false),(12,.int .i64 ((i1 : Nat) : Int)),(13,.int .i64 ((y - 1 : Nat) : Int))]) (fun i1 => up1 (ltc cm) d1 x (y - 1) (x + 1) = i1 /\ x < i1 /\ i1 <= y) ?_ ?_
 ·refine Zb ?_
  refine ZL (X := Nat) (fun z0 => V) (fun z0 => [sgD Le.cells 43 b rest d1]) (fun z0 => [(0,.slice (some ⟨b,0,none⟩) n c),(1,.int .i64 ((x : Nat) : Int)),(2,.int .i64 ((y : Nat) : Int)),(3,.int .i64 ((p : Nat) : Int)),(4,.func (.func gf) #[] caps.toArray),(10,.int .i64 0),(11,.bool false),(12,.int .i64 ((z0 : Nat) : Int)),(13,.int .i64 ((y - 1 : Nat) : Int))]) (fun z0 => up1 (ltc cm) d1 x (y - 1) z0 = up1 (ltc cm) d1 x (y - 1) (x + 1) /\ x < z0 /\ z0 <= y) (fun z0 => y - z0) (x + 1 : Nat) ⟨rfl,by omega,by omega⟩ ?_
  rintro i ⟨r1,r2,r3⟩
  try dsimp only at r1 r2 r3 ⊢
  refine Zs<|Zs<|Tr.quiet xmo WK<|ZM Z<|ZM Z<|ZV (Y.int Z Z Z)<|ZM Z<|?_
  refine Zq (decide (((i : Nat) : Int) <= ((y - 1 : Nat) : Int))) (fun h1 g1 => ?_) fun h1 g1 => ?_
  ·refine ZP h1<|ZM Z<|ZP h1<|ZM Z<|ZP h1<|ZM Z<|ZP h1<|ZV (Y.idxN i Z Z xes22 W W)<|ZP h1<|ZV (Y.ldA (enc := Le.cells) (d := d1) (rest := rest) (e := 43) (i := i) Z xag43 (Kn.at 0 rfl) Le.enc1 WB rfl)<|ZP h1<|ZM Z<|ZP h1<|ZM Z<|ZP h1<|ZV (Y.idxN x Z Z xes22 W W)<|?_
   refine ZP h1<|ZV (Y.ldA (enc := Le.cells) (d := d1) (rest := rest) (e := 43) (i := x) Z xag43 (Kn.at 0 rfl) Le.enc1 WB rfl)<|ZP h1<|YC Z Z Z ((hcmp (d1[i]!) (d1[x]!)).frame)<|ZP h1<|ZV (Y.int Z Z Z)<|ZV (Y.pick_t Z h1 Z)<|ZE<|Zg<|?_
   refine Zq (decide ((cm (d1[i]!) (d1[x]!)) < 0)) (fun h2 g2 => ?_) fun h2 g2 => ?_
   ·refine Tr.cond_t Z h2<|Zt<|Zg<|Zb<|Zr<|Zm Z<|Zv (Y.addN ((i + 1 : Nat) : Int) rfl rfl W W)<|Za Z<|Ze<|Zc<|?_
    exact ZR (i + 1 : Nat) ⟨(up1_go W (by assumption)).trans r1,by omega,by omega⟩ W
   refine Tr.cond_f Z h2<|Zx<|Zy<|Zy<|Zi<|?_
   exact ZX i ⟨r1.symm.trans (up1_stop (by first | (left; omega) | (right; assumption))),r2,r3⟩
  refine ZO h1 Z<|ZO h1 Z<|ZO h1 Z<|ZO h1 Z<|ZO h1 Z<|ZO h1 Z<|ZO h1 Z<|ZO h1 Z<|ZO h1 Z<|ZO h1 Z<|ZO h1 Z<|ZV (Y.pick_f Z h1 Z)<|ZE<|Zg<|Tr.cond_f Z Z<|Zx<|?_
  refine Zy<|Zy<|Zi<|?_
  exact ZX i ⟨r1.symm.trans (up1_stop (by first | (left; omega) | (right; assumption))),r2,r3⟩
 rintro i1 ⟨c1,c2,c3⟩
 refine Tr.cutx (X := Nat) (fun j1 => V) (fun j1 => [sgD Le.cells 43 b rest d1]) (fun j1 => [(0,.slice (some ⟨b,0,none⟩) n c),(1,.int .i64 ((x : Nat) : Int)),(2,.int .i64 ((y : Nat) : Int)),(3,.int .i64 ((p : Nat) : Int)),(4,.func (.func gf) #[] caps.toArray),(10,.int .i64 0),(11,.bool false),(12,.int .i64 ((i1 : Nat) : Int)),(13,.int .i64 ((j1 : Nat) : Int))]) (fun j1 => dn1 (ltc cm) d1 x i1 (y - 1) = j1 /\ i1 <= j1 + 1 /\ j1 < y) ?_ ?_
 ·refine Zb ?_
  refine ZL (X := Nat) (fun z0 => V) (fun z0 => [sgD Le.cells 43 b rest d1]) (fun z0 => [(0,.slice (some ⟨b,0,none⟩) n c),(1,.int .i64 ((x : Nat) : Int)),(2,.int .i64 ((y : Nat) : Int)),(3,.int .i64 ((p : Nat) : Int)),(4,.func (.func gf) #[] caps.toArray),(10,.int .i64 0),(11,.bool false),(12,.int .i64 ((i1 : Nat) : Int)),(13,.int .i64 ((z0 : Nat) : Int))]) (fun z0 => dn1 (ltc cm) d1 x i1 z0 = dn1 (ltc cm) d1 x i1 (y - 1) /\ i1 <= z0 + 1 /\ z0 < y) (fun z0 => z0) (y - 1 : Nat) ⟨rfl,by omega,by omega⟩ ?_
  rintro j ⟨q1,q2,q3⟩
  try dsimp only at q1 q2 q3 ⊢
  refine Zs<|Zs<|Tr.quiet xmo WK<|ZM Z<|ZM Z<|ZV (Y.int Z Z Z)<|ZM Z<|?_
  refine Zq (decide (((i1 : Nat) : Int) <= ((j : Nat) : Int))) (fun h3 g3 => ?_) fun h3 g3 => ?_
  ·refine ZP h3<|ZM Z<|ZP h3<|ZM Z<|ZP h3<|ZM Z<|ZP h3<|ZV (Y.idxN j Z Z xes22 W W)<|ZP h3<|ZV (Y.ldA (enc := Le.cells) (d := d1) (rest := rest) (e := 43) (i := j) Z xag43 (Kn.at 0 rfl) Le.enc1 WB rfl)<|ZP h3<|ZM Z<|ZP h3<|ZM Z<|ZP h3<|ZV (Y.idxN x Z Z xes22 W W)<|?_
   refine ZP h3<|ZV (Y.ldA (enc := Le.cells) (d := d1) (rest := rest) (e := 43) (i := x) Z xag43 (Kn.at 0 rfl) Le.enc1 WB rfl)<|ZP h3<|YC Z Z Z ((hcmp (d1[j]!) (d1[x]!)).frame)<|ZP h3<|ZV (Y.int Z Z Z)<|ZP h3<|ZV (Y.not Z)<|ZV (Y.pick_t Z h3 Z)<|ZE<|Zg<|?_
   refine Zq (decide ((cm (d1[j]!) (d1[x]!)) < 0)) (fun h4 g4 => ?_) fun h4 g4 => ?_
   ·refine Tr.cond_f Z (congrArg Bool.not h4)<|Zx<|Zy<|Zy<|Zi<|?_
    exact ZX j ⟨q1.symm.trans (dn1_stop W (by first | (left; omega) | (right; assumption))),q2,q3⟩
   refine Tr.cond_t Z (congrArg Bool.not h4)<|Zt<|Zg<|Zb<|Zr<|Zm Z<|Zv (Y.subN ((j - 1 : Nat) : Int) rfl rfl W W)<|Za Z<|Ze<|Zc<|?_
   exact ZR (j - 1 : Nat) ⟨(dn1_go W W (by assumption)).trans q1,by omega,by omega⟩ W
  refine ZO h3 Z<|ZO h3 Z<|ZO h3 Z<|ZO h3 Z<|ZO h3 Z<|ZO h3 Z<|ZO h3 Z<|ZO h3 Z<|ZO h3 Z<|ZO h3 Z<|ZO h3 Z<|ZO h3 Z<|ZV (Y.pick_f Z h3 Z)<|ZE<|Zg<|Tr.cond_f Z Z<|?_
  refine Zx<|Zy<|Zy<|Zi<|?_
  exact ZX j ⟨q1.symm.trans (dn1_stop W (by first | (left; omega) | (right; assumption))),q2,q3⟩
 rintro j1 ⟨e1,e2,e3⟩
 refine Zs<|Zs<|Zr<|Zm Z<|Zm Z<|Zv (Y.int Z Z Z)<|Ze<|Zg<|?_
 refine Zq (decide (((i1 : Nat) : Int) > ((j1 : Nat) : Int))) (fun h5 g5 => ?_) fun h5 g5 => ?_
 ·refine Tr.cond_t Z h5<|Zs<|Tr.anyT [(b,.cells (cel Le.cells d1 rest).toArray 43 (0,0))] 13 xmo<|Zwm 0 Z Z (ZK 0 Z)<|Zwm 1 Z Z (ZK 0 Z)<|Zwm 2 Z Z (ZK 0 Z)<|Zwm 3 Z Z (ZK 0 Z)<|Zwm 4 Z Z (ZK 0 Z)<|Zwm 5 Z Z (ZK 0 Z)<|Zw 6 Z (ZK 0 Z) (fun _ => (Y.idxN x rfl rfl xes22 W W))<|ZT 7 0 Z Z (ZK 0 Z) (fun _ => (Y.ldA (enc := Le.cells) (d := d1) (rest := rest) (e := 43) (i := x) rfl xag43 Kn.vk1 Le.enc1 WB rfl))<|?_
  refine Zwm 8 Z Z (ZK 0 Z)<|Zwm 9 Z Z (ZK 0 Z)<|Zw 10 Z (ZK 0 Z) (fun _ => (Y.idxN j1 rfl rfl xes22 W W))<|ZT 11 0 Z Z (ZK 0 Z) (fun _ => (Y.ldA (enc := Le.cells) (d := d1) (rest := rest) (e := 43) (i := j1) rfl xag43 Kn.vk1 Le.enc1 WB rfl))<|Zw 12 Z (ZK 0 Z) (fun _ => (Y.idxN j1 rfl rfl xes22 W W))<|?_
  refine RunT.one (i := 13) WK rfl  ?_
  refine Run.stD (enc := Le.cells) (d := d1) (rest := rest) (e := 43) (i := j1) (s := 0) (d1[x]!) rfl rfl xsz43 rfl Le.enc1 WB rfl<|Ze<|Zz 13<|?_
  refine RunT.one (i := 14) WK rfl  ?_
  refine Zv (Y.idxN x Z Z xes22 W W)<|Ze<|Zz 14<|?_
  refine RunT.one (i := 15) WK rfl  ?_
  refine Run.stD (enc := Le.cells) (d := (d1).setIfInBounds j1 (d1[x]!)) (rest := rest) (e := 43) (i := x) (s := 0) (d1[j1]!) rfl rfl xsz43 rfl Le.enc1 WB rfl<|Run.heapTo (H' := [sgD Le.cells 43 b rest (swp d1 j1 x)]) Z<|Ze<|Zz 15<|RunT.done WK<|Zg<|Zs<|Zr<|Zm Z<|Za Z<|Za Z<|Ze<|Zg<|Zu<|Zn<|Ex.keep [0]<|?_
  exact Ex.ret2 rfl rfl rfl  ⟨rfl,by subst hd1; rw [partition_one c1 e1 W],by subst hd1; rw [partition_one c1 e1 W]; rfl⟩
 refine Tr.cond_f Z h5<|Zt<|Zg<|Zs<|Tr.anyT [(b,.cells (cel Le.cells d1 rest).toArray 43 (0,0))] 13 xmo<|Zwm 0 Z Z (ZK 0 Z)<|Zwm 1 Z Z (ZK 0 Z)<|Zwm 2 Z Z (ZK 0 Z)<|Zwm 3 Z Z (ZK 0 Z)<|Zwm 4 Z Z (ZK 0 Z)<|Zwm 5 Z Z (ZK 0 Z)<|Zw 6 Z (ZK 0 Z) (fun _ => (Y.idxN j1 rfl rfl xes22 W W))<|ZT 7 0 Z Z (ZK 0 Z) (fun _ => (Y.ldA (enc := Le.cells) (d := d1) (rest := rest) (e := 43) (i := j1) rfl xag43 Kn.vk1 Le.enc1 WB rfl))<|?_
 refine Zwm 8 Z Z (ZK 0 Z)<|Zwm 9 Z Z (ZK 0 Z)<|Zw 10 Z (ZK 0 Z) (fun _ => (Y.idxN i1 rfl rfl xes22 W W))<|ZT 11 0 Z Z (ZK 0 Z) (fun _ => (Y.ldA (enc := Le.cells) (d := d1) (rest := rest) (e := 43) (i := i1) rfl xag43 Kn.vk1 Le.enc1 WB rfl))<|Zw 12 Z (ZK 0 Z) (fun _ => (Y.idxN i1 rfl rfl xes22 W W))<|?_
 refine RunT.one (i := 13) WK rfl  ?_
 refine Run.stD (enc := Le.cells) (d := d1) (rest := rest) (e := 43) (i := i1) (s := 0) (d1[j1]!) rfl rfl xsz43 rfl Le.enc1 WB rfl<|Ze<|Zz 13<|?_
 refine RunT.one (i := 14) WK rfl  ?_
 refine Zv (Y.idxN j1 Z Z xes22 W W)<|Ze<|Zz 14<|?_
 refine RunT.one (i := 15) WK rfl  ?_
 refine Run.stD (enc := Le.cells) (d := (d1).setIfInBounds i1 (d1[j1]!)) (rest := rest) (e := 43) (i := j1) (s := 0) (d1[i1]!) rfl rfl xsz43 rfl Le.enc1 WB rfl<|Run.heapTo (H' := [sgD Le.cells 43 b rest (swp d1 i1 j1)]) Z<|Ze<|Zz 15<|RunT.done WK<|Zg<|Zs<|Zr<|?_
 have hx1 := cross1 c1 e1 W W W
 refine Zm Z<|Zv (Y.addN ((i1 + 1 : Nat) : Int) rfl rfl W W)<|Za Z<|Ze<|Zg<|Zs<|Zr<|Zm Z<|Zv (Y.subN ((j1 - 1 : Nat) : Int) rfl rfl W W)<|Za Z<|Ze<|Zg<|Zs<|Zb<|?_
 refine ZL (X := Nat × Nat × Array Le) (fun z0 => V) (fun z0 => [sgD Le.cells 43 b rest z0.2.2]) (fun z0 => [(0,.slice (some ⟨b,0,none⟩) n c),(1,.int .i64 ((x : Nat) : Int)),(2,.int .i64 ((y : Nat) : Int)),(3,.int .i64 ((p : Nat) : Int)),(4,.func (.func gf) #[] caps.toArray),(10,.int .i64 0),(11,.bool false),(12,.int .i64 ((z0.1 : Nat) : Int)),(13,.int .i64 ((z0.2.1 : Nat) : Int))]) (fun z0 => partLoop (ltc cm) x z0.1 z0.2.1 z0.2.2 = partLoop (ltc cm) x (i1 + 1) (j1 - 1) (swp d1 i1 j1) /\ z0.2.2.size = n /\ x < z0.1 /\ z0.1 <= z0.2.1 + 1 /\ z0.2.1 < y) (fun z0 => z0.2.1 + 1 - z0.1) (⟨i1 + 1,j1 - 1,swp d1 i1 j1⟩ : Nat × Nat × Array Le) ⟨rfl,by simp only [swp_size]; exact sd1,by (try dsimp only); omega,by (try dsimp only); omega,by (try dsimp only); omega⟩ ?_
 rintro ⟨i,j,d⟩ ⟨k1,k2,k3,k4,k5⟩
 try dsimp only at k1 k2 k3 k4 k5 ⊢
 refine Zb ?_
 refine Tr.cutx (X := Nat) (fun i2 => V) (fun i2 => [sgD Le.cells 43 b rest d]) (fun i2 => [(0,.slice (some ⟨b,0,none⟩) n c),(1,.int .i64 ((x : Nat) : Int)),(2,.int .i64 ((y : Nat) : Int)),(3,.int .i64 ((p : Nat) : Int)),(4,.func (.func gf) #[] caps.toArray),(10,.int .i64 0),(11,.bool false),(12,.int .i64 ((i2 : Nat) : Int)),(13,.int .i64 ((j : Nat) : Int))]) (fun i2 => up1 (ltc cm) d x j i = i2 /\ i <= i2 /\ i2 <= j + 1) ?_ ?_
 ·refine Zb ?_
  refine ZL (X := Nat) (fun z0 => V) (fun z0 => [sgD Le.cells 43 b rest d]) (fun z0 => [(0,.slice (some ⟨b,0,none⟩) n c),(1,.int .i64 ((x : Nat) : Int)),(2,.int .i64 ((y : Nat) : Int)),(3,.int .i64 ((p : Nat) : Int)),(4,.func (.func gf) #[] caps.toArray),(10,.int .i64 0),(11,.bool false),(12,.int .i64 ((z0 : Nat) : Int)),(13,.int .i64 ((j : Nat) : Int))]) (fun z0 => up1 (ltc cm) d x j z0 = up1 (ltc cm) d x j i /\ i <= z0 /\ z0 <= j + 1) (fun z0 => j + 1 - z0) (i : Nat) ⟨rfl,Nat.le_refl _,by omega⟩ ?_
  rintro u ⟨m1,m2,m3⟩
  try dsimp only at m1 m2 m3 ⊢
  refine Zs<|Zs<|Tr.quiet xmo WK<|ZM Z<|ZM Z<|ZV (Y.int Z Z Z)<|ZM Z<|?_
  refine Zq (decide (((u : Nat) : Int) <= ((j : Nat) : Int))) (fun h6 g6 => ?_) fun h6 g6 => ?_
  ·refine ZP h6<|ZM Z<|ZP h6<|ZM Z<|ZP h6<|ZM Z<|ZP h6<|ZV (Y.idxN u Z Z xes22 W W)<|ZP h6<|ZV (Y.ldA (enc := Le.cells) (d := d) (rest := rest) (e := 43) (i := u) Z xag43 (Kn.at 0 rfl) Le.enc1 WB rfl)<|ZP h6<|ZM Z<|ZP h6<|ZM Z<|ZP h6<|ZV (Y.idxN x Z Z xes22 W W)<|?_
   refine ZP h6<|ZV (Y.ldA (enc := Le.cells) (d := d) (rest := rest) (e := 43) (i := x) Z xag43 (Kn.at 0 rfl) Le.enc1 WB rfl)<|ZP h6<|YC Z Z Z ((hcmp (d[u]!) (d[x]!)).frame)<|ZP h6<|ZV (Y.int Z Z Z)<|ZV (Y.pick_t Z h6 Z)<|ZE<|Zg<|?_
   refine Zq (decide ((cm (d[u]!) (d[x]!)) < 0)) (fun h7 g7 => ?_) fun h7 g7 => ?_
   ·refine Tr.cond_t Z h7<|Zt<|Zg<|Zb<|Zr<|Zm Z<|Zv (Y.addN ((u + 1 : Nat) : Int) rfl rfl W W)<|Za Z<|Ze<|Zc<|?_
    exact ZR (u + 1 : Nat) ⟨(up1_go W (by assumption)).trans m1,by omega,by omega⟩ W
   refine Tr.cond_f Z h7<|Zx<|Zy<|Zy<|Zi<|?_
   exact ZX u ⟨m1.symm.trans (up1_stop (by first | (left; omega) | (right; assumption))),m2,m3⟩
  refine ZO h6 Z<|ZO h6 Z<|ZO h6 Z<|ZO h6 Z<|ZO h6 Z<|ZO h6 Z<|ZO h6 Z<|ZO h6 Z<|ZO h6 Z<|ZO h6 Z<|ZO h6 Z<|ZV (Y.pick_f Z h6 Z)<|ZE<|Zg<|Tr.cond_f Z Z<|Zx<|?_
  refine Zy<|Zy<|Zi<|?_
  exact ZX u ⟨m1.symm.trans (up1_stop (by first | (left; omega) | (right; assumption))),m2,m3⟩
 rintro i2 ⟨f1,f2,f3⟩
 refine Tr.cutx (X := Nat) (fun j2 => V) (fun j2 => [sgD Le.cells 43 b rest d]) (fun j2 => [(0,.slice (some ⟨b,0,none⟩) n c),(1,.int .i64 ((x : Nat) : Int)),(2,.int .i64 ((y : Nat) : Int)),(3,.int .i64 ((p : Nat) : Int)),(4,.func (.func gf) #[] caps.toArray),(10,.int .i64 0),(11,.bool false),(12,.int .i64 ((i2 : Nat) : Int)),(13,.int .i64 ((j2 : Nat) : Int))]) (fun j2 => dn1 (ltc cm) d x i2 j = j2 /\ i2 <= j2 + 1 /\ j2 <= j) ?_ ?_
 ·refine Zb ?_
  refine ZL (X := Nat) (fun z0 => V) (fun z0 => [sgD Le.cells 43 b rest d]) (fun z0 => [(0,.slice (some ⟨b,0,none⟩) n c),(1,.int .i64 ((x : Nat) : Int)),(2,.int .i64 ((y : Nat) : Int)),(3,.int .i64 ((p : Nat) : Int)),(4,.func (.func gf) #[] caps.toArray),(10,.int .i64 0),(11,.bool false),(12,.int .i64 ((i2 : Nat) : Int)),(13,.int .i64 ((z0 : Nat) : Int))]) (fun z0 => dn1 (ltc cm) d x i2 z0 = dn1 (ltc cm) d x i2 j /\ i2 <= z0 + 1 /\ z0 <= j) (fun z0 => z0) (j : Nat) ⟨rfl,by omega,Nat.le_refl _⟩ ?_
  rintro t ⟨n1,n2,n3⟩
  try dsimp only at n1 n2 n3 ⊢
  refine Zs<|Zs<|Tr.quiet xmo WK<|ZM Z<|ZM Z<|ZV (Y.int Z Z Z)<|ZM Z<|?_
  refine Zq (decide (((i2 : Nat) : Int) <= ((t : Nat) : Int))) (fun h8 g8 => ?_) fun h8 g8 => ?_
  ·refine ZP h8<|ZM Z<|ZP h8<|ZM Z<|ZP h8<|ZM Z<|ZP h8<|ZV (Y.idxN t Z Z xes22 W W)<|ZP h8<|ZV (Y.ldA (enc := Le.cells) (d := d) (rest := rest) (e := 43) (i := t) Z xag43 (Kn.at 0 rfl) Le.enc1 WB rfl)<|ZP h8<|ZM Z<|ZP h8<|ZM Z<|ZP h8<|ZV (Y.idxN x Z Z xes22 W W)<|?_
   refine ZP h8<|ZV (Y.ldA (enc := Le.cells) (d := d) (rest := rest) (e := 43) (i := x) Z xag43 (Kn.at 0 rfl) Le.enc1 WB rfl)<|ZP h8<|YC Z Z Z ((hcmp (d[t]!) (d[x]!)).frame)<|ZP h8<|ZV (Y.int Z Z Z)<|ZP h8<|ZV (Y.not Z)<|ZV (Y.pick_t Z h8 Z)<|ZE<|Zg<|?_
   refine Zq (decide ((cm (d[t]!) (d[x]!)) < 0)) (fun h9 g9 => ?_) fun h9 g9 => ?_
   ·refine Tr.cond_f Z (congrArg Bool.not h9)<|Zx<|Zy<|Zy<|Zi<|?_
    exact ZX t ⟨n1.symm.trans (dn1_stop W (by first | (left; omega) | (right; assumption))),n2,n3⟩
   refine Tr.cond_t Z (congrArg Bool.not h9)<|Zt<|Zg<|Zb<|Zr<|Zm Z<|Zv (Y.subN ((t - 1 : Nat) : Int) rfl rfl W W)<|Za Z<|Ze<|Zc<|?_
   exact ZR (t - 1 : Nat) ⟨(dn1_go W W (by assumption)).trans n1,by omega,by omega⟩ W
  refine ZO h8 Z<|ZO h8 Z<|ZO h8 Z<|ZO h8 Z<|ZO h8 Z<|ZO h8 Z<|ZO h8 Z<|ZO h8 Z<|ZO h8 Z<|ZO h8 Z<|ZO h8 Z<|ZO h8 Z<|ZV (Y.pick_f Z h8 Z)<|ZE<|Zg<|Tr.cond_f Z Z<|?_
  refine Zx<|Zy<|Zy<|Zi<|?_
  exact ZX t ⟨n1.symm.trans (dn1_stop W (by first | (left; omega) | (right; assumption))),n2,n3⟩
 rintro j2 ⟨g1,g2,g3⟩
 refine Zs<|Zs<|Zr<|Zm Z<|Zm Z<|Zv (Y.int Z Z Z)<|Ze<|Zg<|?_
 refine Zq (decide (((i2 : Nat) : Int) > ((j2 : Nat) : Int))) (fun h10 g10 => ?_) fun h10 g10 => ?_
 ·refine Tr.cond_t Z h10<|Zx<|Zy<|Ex.exit_out Z<|Zy<|Zi<|Zg<|Zs<|Tr.anyT [(b,.cells (cel Le.cells d rest).toArray 43 (0,0))] 13 xmo<|Zwm 0 Z Z (ZK 0 Z)<|Zwm 1 Z Z (ZK 0 Z)<|Zwm 2 Z Z (ZK 0 Z)<|Zwm 3 Z Z (ZK 0 Z)<|Zwm 4 Z Z (ZK 0 Z)<|Zwm 5 Z Z (ZK 0 Z)<|Zw 6 Z (ZK 0 Z) (fun _ => (Y.idxN x rfl rfl xes22 W W))<|?_
  refine ZT 7 0 Z Z (ZK 0 Z) (fun _ => (Y.ldA (enc := Le.cells) (d := d) (rest := rest) (e := 43) (i := x) rfl xag43 Kn.vk1 Le.enc1 WB rfl))<|Zwm 8 Z Z (ZK 0 Z)<|Zwm 9 Z Z (ZK 0 Z)<|Zw 10 Z (ZK 0 Z) (fun _ => (Y.idxN j2 rfl rfl xes22 W W))<|ZT 11 0 Z Z (ZK 0 Z) (fun _ => (Y.ldA (enc := Le.cells) (d := d) (rest := rest) (e := 43) (i := j2) rfl xag43 Kn.vk1 Le.enc1 WB rfl))<|?_
  refine Zw 12 Z (ZK 0 Z) (fun _ => (Y.idxN j2 rfl rfl xes22 W W)) ?_
  refine RunT.one (i := 13) WK rfl  ?_
  refine Run.stD (enc := Le.cells) (d := d) (rest := rest) (e := 43) (i := j2) (s := 0) (d[x]!) rfl rfl xsz43 rfl Le.enc1 WB rfl<|Ze<|Zz 13<|?_
  refine RunT.one (i := 14) WK rfl  ?_
  refine Zv (Y.idxN x Z Z xes22 W W)<|Ze<|Zz 14<|?_
  refine RunT.one (i := 15) WK rfl  ?_
  refine Run.stD (enc := Le.cells) (d := (d).setIfInBounds j2 (d[x]!)) (rest := rest) (e := 43) (i := x) (s := 0) (d[j2]!) rfl rfl xsz43 rfl Le.enc1 WB rfl<|Run.heapTo (H' := [sgD Le.cells 43 b rest (swp d j2 x)]) Z<|Ze<|Zz 15<|RunT.done WK<|Zg<|Zs<|Zr<|Zm Z<|Za Z<|Za Z<|Ze<|Zg<|Zu<|Ex.keep [0]<|?_
  exact Ex.ret2 rfl rfl rfl  ⟨rfl,by subst hd1; rw [partition_two c1 e1 W (k1.symm.trans (partLoop_end f1 g1 W))],by subst hd1; rw [partition_two c1 e1 W (k1.symm.trans (partLoop_end f1 g1 W))]; rfl⟩
 refine Tr.cond_f Z h10<|Zt<|Zg<|Zs<|Tr.anyT [(b,.cells (cel Le.cells d rest).toArray 43 (0,0))] 13 xmo<|Zwm 0 Z Z (ZK 0 Z)<|Zwm 1 Z Z (ZK 0 Z)<|Zwm 2 Z Z (ZK 0 Z)<|Zwm 3 Z Z (ZK 0 Z)<|Zwm 4 Z Z (ZK 0 Z)<|Zwm 5 Z Z (ZK 0 Z)<|Zw 6 Z (ZK 0 Z) (fun _ => (Y.idxN j2 rfl rfl xes22 W W))<|ZT 7 0 Z Z (ZK 0 Z) (fun _ => (Y.ldA (enc := Le.cells) (d := d) (rest := rest) (e := 43) (i := j2) rfl xag43 Kn.vk1 Le.enc1 WB rfl))<|?_
 refine Zwm 8 Z Z (ZK 0 Z)<|Zwm 9 Z Z (ZK 0 Z)<|Zw 10 Z (ZK 0 Z) (fun _ => (Y.idxN i2 rfl rfl xes22 W W))<|ZT 11 0 Z Z (ZK 0 Z) (fun _ => (Y.ldA (enc := Le.cells) (d := d) (rest := rest) (e := 43) (i := i2) rfl xag43 Kn.vk1 Le.enc1 WB rfl))<|Zw 12 Z (ZK 0 Z) (fun _ => (Y.idxN i2 rfl rfl xes22 W W))<|?_
 refine RunT.one (i := 13) WK rfl  ?_
 refine Run.stD (enc := Le.cells) (d := d) (rest := rest) (e := 43) (i := i2) (s := 0) (d[j2]!) rfl rfl xsz43 rfl Le.enc1 WB rfl<|Ze<|Zz 13<|?_
 refine RunT.one (i := 14) WK rfl  ?_
 refine Zv (Y.idxN j2 Z Z xes22 W W)<|Ze<|Zz 14<|?_
 refine RunT.one (i := 15) WK rfl  ?_
 refine Run.stD (enc := Le.cells) (d := (d).setIfInBounds i2 (d[j2]!)) (rest := rest) (e := 43) (i := j2) (s := 0) (d[i2]!) rfl rfl xsz43 rfl Le.enc1 WB rfl<|Run.heapTo (H' := [sgD Le.cells 43 b rest (swp d i2 j2)]) Z<|Ze<|Zz 15<|RunT.done WK<|Zg<|Zs<|Zr<|Zm Z<|Zv (Y.addN ((i2 + 1 : Nat) : Int) rfl rfl W W)<|Za Z<|Ze<|Zg<|?_
 refine Zr<|Zm Z<|Zv (Y.subN ((j2 - 1 : Nat) : Int) rfl rfl W W)<|Za Z<|Ze<|Zc<|?_
 exact ZR (⟨i2 + 1,j2 - 1,swp d i2 j2⟩ : Nat × Nat × Array Le) ⟨(partLoop_go f1 g1 W).symm.trans k1,by simp only [swp_size]; exact k2,by have := cross1 f1 g1 W W W; dsimp only; omega,by have := cross1 f1 g1 W W W; dsimp only; omega,by (try dsimp only); omega⟩ (by dsimp only; omega)
theorem pareq_l {V : Vw} {n c b : Nat} {rest : List Value} {d0 : Array Le} {gf : FuncId} {caps : List Value} {cm : Le -> Le -> Int} {x y p : Nat}  (hN : n <= 1073741824) (hd : d0.size = n) (hx : x <= p) (hp : p < y) (hy : y <= n)  (hcmp : ∀ x y : Le,Does Tryz.prog gf (.agg (Le.cells x).toArray :: .agg (Le.cells y).toArray :: caps) V [] (Pv (.int .i64 (cm x y)) V [])) (hswo : SWO (ltc cm))  : Does Tryz.prog 216 [.slice (some ⟨b,0,none⟩) n c,.int .i64 ((x : Nat) : Int),.int .i64 ((y : Nat) : Int),.int .i64 ((p : Nat) : Int),.func (.func gf) #[] caps.toArray] V [sgD Le.cells 43 b rest d0] (fun v V' H' => V' = V /\ v = .int .i64 ((partitionEqual (ltc cm) d0 x y p).1 : Int) /\ H' = [sgD Le.cells 43 b rest ((partitionEqual (ltc cm) d0 x y p).2)]) := by
 refine Does.intro Tryz.func216 rfl rfl (le rfl) (fun B => ?_)
 refine Zs<|Zr<|Za Z<|Ze<|Zg<|Zs<|Tr.anyT [(b,.cells (cel Le.cells d0 rest).toArray 43 (0,0))] 13 xmo<|Zwm 0 Z Z (ZK 0 Z)<|Zwm 1 Z Z (ZK 0 Z)<|Zwm 2 Z Z (ZK 0 Z)<|Zwm 3 Z Z (ZK 0 Z)<|Zwm 4 Z Z (ZK 0 Z)<|Zwm 5 Z Z (ZK 0 Z)<|Zw 6 Z (ZK 0 Z) (fun _ => (Y.idxN p rfl rfl xes22 W W))<|ZT 7 0 Z Z (ZK 0 Z) (fun _ => (Y.ldA (enc := Le.cells) (d := d0) (rest := rest) (e := 43) (i := p) rfl xag43 Kn.vk1 Le.enc1 WB rfl))<|?_
 refine Zwm 8 Z Z (ZK 0 Z)<|Zwm 9 Z Z (ZK 0 Z)<|Zw 10 Z (ZK 0 Z) (fun _ => (Y.idxN x rfl rfl xes22 W W))<|ZT 11 0 Z Z (ZK 0 Z) (fun _ => (Y.ldA (enc := Le.cells) (d := d0) (rest := rest) (e := 43) (i := x) rfl xag43 Kn.vk1 Le.enc1 WB rfl))<|Zw 12 Z (ZK 0 Z) (fun _ => (Y.idxN x rfl rfl xes22 W W))<|?_
 refine RunT.one (i := 13) WK rfl  ?_
 refine Run.stD (enc := Le.cells) (d := d0) (rest := rest) (e := 43) (i := x) (s := 0) (d0[p]!) rfl rfl xsz43 rfl Le.enc1 WB rfl<|Ze<|Zz 13<|?_
 refine RunT.one (i := 14) WK rfl  ?_
 refine Zv (Y.idxN p Z Z xes22 W W)<|Ze<|Zz 14<|?_
 refine RunT.one (i := 15) WK rfl  ?_
 refine Run.stD (enc := Le.cells) (d := (d0).setIfInBounds x (d0[p]!)) (rest := rest) (e := 43) (i := p) (s := 0) (d0[x]!) rfl rfl xsz43 rfl Le.enc1 WB rfl<|Run.heapTo (H' := [sgD Le.cells 43 b rest (swp d0 x p)]) Z<|Ze<|Zz 15<|RunT.done WK<|Zg<|Zs<|Zr<|Zm Z<|Zv (Y.addN ((x + 1 : Nat) : Int) rfl rfl W W)<|Zm Z<|Zv (Y.subN ((y - 1 : Nat) : Int) rfl rfl W W)<|?_
 refine Za Z<|Za Z<|Ze<|Zg<|Zs<|Zb<|?_
 refine ZL (X := Nat × Nat × Array Le) (fun z0 => V) (fun z0 => [sgD Le.cells 43 b rest z0.2.2]) (fun z0 => [(0,.slice (some ⟨b,0,none⟩) n c),(1,.int .i64 ((x : Nat) : Int)),(2,.int .i64 ((y : Nat) : Int)),(3,.int .i64 ((p : Nat) : Int)),(4,.func (.func gf) #[] caps.toArray),(10,.int .i64 0),(11,.int .i64 ((z0.1 : Nat) : Int)),(12,.int .i64 ((z0.2.1 : Nat) : Int))]) (fun z0 => partEqLoop (ltc cm) x z0.1 z0.2.1 z0.2.2 = partitionEqual (ltc cm) d0 x y p /\ z0.2.2.size = n /\ x < z0.1 /\ z0.1 <= z0.2.1 + 1 /\ z0.2.1 < y) (fun z0 => z0.2.1 + 1 - z0.1) (⟨x + 1,y - 1,swp d0 x p⟩ : Nat × Nat × Array Le) ⟨rfl,by simp only [swp_size]; exact hd,by (try dsimp only); omega,by (try dsimp only); omega,by (try dsimp only); omega⟩ ?_
 rintro ⟨i,j,d⟩ ⟨k1,k2,k3,k4,k5⟩
 try dsimp only at k1 k2 k3 k4 k5 ⊢
 refine Zb ?_
 refine Tr.cutx (X := Nat) (fun i2 => V) (fun i2 => [sgD Le.cells 43 b rest d]) (fun i2 => [(0,.slice (some ⟨b,0,none⟩) n c),(1,.int .i64 ((x : Nat) : Int)),(2,.int .i64 ((y : Nat) : Int)),(3,.int .i64 ((p : Nat) : Int)),(4,.func (.func gf) #[] caps.toArray),(10,.int .i64 0),(11,.int .i64 ((i2 : Nat) : Int)),(12,.int .i64 ((j : Nat) : Int))]) (fun i2 => up2 (ltc cm) d x j i = i2 /\ i <= i2 /\ i2 <= j + 1) ?_ ?_
 ·refine Zb ?_
  refine ZL (X := Nat) (fun z0 => V) (fun z0 => [sgD Le.cells 43 b rest d]) (fun z0 => [(0,.slice (some ⟨b,0,none⟩) n c),(1,.int .i64 ((x : Nat) : Int)),(2,.int .i64 ((y : Nat) : Int)),(3,.int .i64 ((p : Nat) : Int)),(4,.func (.func gf) #[] caps.toArray),(10,.int .i64 0),(11,.int .i64 ((z0 : Nat) : Int)),(12,.int .i64 ((j : Nat) : Int))]) (fun z0 => up2 (ltc cm) d x j z0 = up2 (ltc cm) d x j i /\ i <= z0 /\ z0 <= j + 1) (fun z0 => j + 1 - z0) (i : Nat) ⟨rfl,Nat.le_refl _,by omega⟩ ?_
  rintro u ⟨m1,m2,m3⟩
  try dsimp only at m1 m2 m3 ⊢
  refine Zs<|Zs<|Tr.quiet xmo WK<|ZM Z<|ZM Z<|ZV (Y.int Z Z Z)<|ZM Z<|?_
  refine Zq (decide (((u : Nat) : Int) <= ((j : Nat) : Int))) (fun h1 g1 => ?_) fun h1 g1 => ?_
  ·refine ZP h1<|ZM Z<|ZP h1<|ZM Z<|ZP h1<|ZM Z<|ZP h1<|ZV (Y.idxN x Z Z xes22 W W)<|ZP h1<|ZV (Y.ldA (enc := Le.cells) (d := d) (rest := rest) (e := 43) (i := x) Z xag43 (Kn.at 0 rfl) Le.enc1 WB rfl)<|ZP h1<|ZM Z<|ZP h1<|ZM Z<|ZP h1<|ZV (Y.idxN u Z Z xes22 W W)<|?_
   refine ZP h1<|ZV (Y.ldA (enc := Le.cells) (d := d) (rest := rest) (e := 43) (i := u) Z xag43 (Kn.at 0 rfl) Le.enc1 WB rfl)<|ZP h1<|YC Z Z Z ((hcmp (d[x]!) (d[u]!)).frame)<|ZP h1<|ZV (Y.int Z Z Z)<|ZP h1<|ZV (Y.not Z)<|ZV (Y.pick_t Z h1 Z)<|ZE<|Zg<|?_
   refine Zq (decide ((cm (d[x]!) (d[u]!)) < 0)) (fun h2 g2 => ?_) fun h2 g2 => ?_
   ·refine Tr.cond_f Z (congrArg Bool.not h2)<|Zx<|Zy<|Zy<|Zi<|?_
    exact ZX u ⟨m1.symm.trans (up2_stop (by first | (left; omega) | (right; assumption))),m2,m3⟩
   refine Tr.cond_t Z (congrArg Bool.not h2)<|Zt<|Zg<|Zb<|Zr<|Zm Z<|Zv (Y.addN ((u + 1 : Nat) : Int) rfl rfl W W)<|Za Z<|Ze<|Zc<|?_
   exact ZR (u + 1 : Nat) ⟨(up2_go W (by assumption)).trans m1,by omega,by omega⟩ W
  refine ZO h1 Z<|ZO h1 Z<|ZO h1 Z<|ZO h1 Z<|ZO h1 Z<|ZO h1 Z<|ZO h1 Z<|ZO h1 Z<|ZO h1 Z<|ZO h1 Z<|ZO h1 Z<|ZO h1 Z<|ZV (Y.pick_f Z h1 Z)<|ZE<|Zg<|Tr.cond_f Z Z<|?_
  refine Zx<|Zy<|Zy<|Zi<|?_
  exact ZX u ⟨m1.symm.trans (up2_stop (by first | (left; omega) | (right; assumption))),m2,m3⟩
 rintro i2 ⟨f1,f2,f3⟩
 refine Tr.cutx (X := Nat) (fun j2 => V) (fun j2 => [sgD Le.cells 43 b rest d]) (fun j2 => [(0,.slice (some ⟨b,0,none⟩) n c),(1,.int .i64 ((x : Nat) : Int)),(2,.int .i64 ((y : Nat) : Int)),(3,.int .i64 ((p : Nat) : Int)),(4,.func (.func gf) #[] caps.toArray),(10,.int .i64 0),(11,.int .i64 ((i2 : Nat) : Int)),(12,.int .i64 ((j2 : Nat) : Int))]) (fun j2 => dn2 (ltc cm) d x i2 j = j2 /\ i2 <= j2 + 1 /\ j2 <= j) ?_ ?_
 ·refine Zb ?_
  refine ZL (X := Nat) (fun z0 => V) (fun z0 => [sgD Le.cells 43 b rest d]) (fun z0 => [(0,.slice (some ⟨b,0,none⟩) n c),(1,.int .i64 ((x : Nat) : Int)),(2,.int .i64 ((y : Nat) : Int)),(3,.int .i64 ((p : Nat) : Int)),(4,.func (.func gf) #[] caps.toArray),(10,.int .i64 0),(11,.int .i64 ((i2 : Nat) : Int)),(12,.int .i64 ((z0 : Nat) : Int))]) (fun z0 => dn2 (ltc cm) d x i2 z0 = dn2 (ltc cm) d x i2 j /\ i2 <= z0 + 1 /\ z0 <= j) (fun z0 => z0) (j : Nat) ⟨rfl,by omega,Nat.le_refl _⟩ ?_
  rintro t ⟨n1,n2,n3⟩
  try dsimp only at n1 n2 n3 ⊢
  refine Zs<|Zs<|Tr.quiet xmo WK<|ZM Z<|ZM Z<|ZV (Y.int Z Z Z)<|ZM Z<|?_
  refine Zq (decide (((i2 : Nat) : Int) <= ((t : Nat) : Int))) (fun h3 g3 => ?_) fun h3 g3 => ?_
  ·refine ZP h3<|ZM Z<|ZP h3<|ZM Z<|ZP h3<|ZM Z<|ZP h3<|ZV (Y.idxN x Z Z xes22 W W)<|ZP h3<|ZV (Y.ldA (enc := Le.cells) (d := d) (rest := rest) (e := 43) (i := x) Z xag43 (Kn.at 0 rfl) Le.enc1 WB rfl)<|ZP h3<|ZM Z<|ZP h3<|ZM Z<|ZP h3<|ZV (Y.idxN t Z Z xes22 W W)<|?_
   refine ZP h3<|ZV (Y.ldA (enc := Le.cells) (d := d) (rest := rest) (e := 43) (i := t) Z xag43 (Kn.at 0 rfl) Le.enc1 WB rfl)<|ZP h3<|YC Z Z Z ((hcmp (d[x]!) (d[t]!)).frame)<|ZP h3<|ZV (Y.int Z Z Z)<|ZV (Y.pick_t Z h3 Z)<|ZE<|Zg<|?_
   refine Zq (decide ((cm (d[x]!) (d[t]!)) < 0)) (fun h4 g4 => ?_) fun h4 g4 => ?_
   ·refine Tr.cond_t Z h4<|Zt<|Zg<|Zb<|Zr<|Zm Z<|Zv (Y.subN ((t - 1 : Nat) : Int) rfl rfl W W)<|Za Z<|Ze<|Zc<|?_
    exact ZR (t - 1 : Nat) ⟨(dn2_go W W (by assumption)).trans n1,by omega,by omega⟩ W
   refine Tr.cond_f Z h4<|Zx<|Zy<|Zy<|Zi<|?_
   exact ZX t ⟨n1.symm.trans (dn2_stop W (by first | (left; omega) | (right; assumption))),n2,n3⟩
  refine ZO h3 Z<|ZO h3 Z<|ZO h3 Z<|ZO h3 Z<|ZO h3 Z<|ZO h3 Z<|ZO h3 Z<|ZO h3 Z<|ZO h3 Z<|ZO h3 Z<|ZO h3 Z<|ZV (Y.pick_f Z h3 Z)<|ZE<|Zg<|Tr.cond_f Z Z<|Zx<|?_
  refine Zy<|Zy<|Zi<|?_
  exact ZX t ⟨n1.symm.trans (dn2_stop W (by first | (left; omega) | (right; assumption))),n2,n3⟩
 rintro j2 ⟨g1,g2,g3⟩
 refine Zs<|Zs<|Zr<|Zm Z<|Zm Z<|Zv (Y.int Z Z Z)<|Ze<|Zg<|?_
 refine Zq (decide (((i2 : Nat) : Int) > ((j2 : Nat) : Int))) (fun h5 g5 => ?_) fun h5 g5 => ?_
 ·refine Tr.cond_t Z h5<|Zx<|Zy<|Ex.exit_out Z<|Zy<|Zi<|Zg<|Zs<|Zr<|Zm Z<|Za Z<|Ze<|Zg<|Zu<|Ex.keep [0]<|?_
  exact Ex.ret1 rfl rfl  ⟨rfl,by rw [<- k1,partEqLoop_end f1 g1 W],by rw [<- k1,partEqLoop_end f1 g1 W]; rfl⟩
 refine Tr.cond_f Z h5<|Zt<|Zg<|Zs<|Tr.anyT [(b,.cells (cel Le.cells d rest).toArray 43 (0,0))] 13 xmo<|Zwm 0 Z Z (ZK 0 Z)<|Zwm 1 Z Z (ZK 0 Z)<|Zwm 2 Z Z (ZK 0 Z)<|Zwm 3 Z Z (ZK 0 Z)<|Zwm 4 Z Z (ZK 0 Z)<|Zwm 5 Z Z (ZK 0 Z)<|Zw 6 Z (ZK 0 Z) (fun _ => (Y.idxN j2 rfl rfl xes22 W W))<|ZT 7 0 Z Z (ZK 0 Z) (fun _ => (Y.ldA (enc := Le.cells) (d := d) (rest := rest) (e := 43) (i := j2) rfl xag43 Kn.vk1 Le.enc1 WB rfl))<|?_
 refine Zwm 8 Z Z (ZK 0 Z)<|Zwm 9 Z Z (ZK 0 Z)<|Zw 10 Z (ZK 0 Z) (fun _ => (Y.idxN i2 rfl rfl xes22 W W))<|ZT 11 0 Z Z (ZK 0 Z) (fun _ => (Y.ldA (enc := Le.cells) (d := d) (rest := rest) (e := 43) (i := i2) rfl xag43 Kn.vk1 Le.enc1 WB rfl))<|Zw 12 Z (ZK 0 Z) (fun _ => (Y.idxN i2 rfl rfl xes22 W W))<|?_
 refine RunT.one (i := 13) WK rfl  ?_
 refine Run.stD (enc := Le.cells) (d := d) (rest := rest) (e := 43) (i := i2) (s := 0) (d[j2]!) rfl rfl xsz43 rfl Le.enc1 WB rfl<|Ze<|Zz 13<|?_
 refine RunT.one (i := 14) WK rfl  ?_
 refine Zv (Y.idxN j2 Z Z xes22 W W)<|Ze<|Zz 14<|?_
 refine RunT.one (i := 15) WK rfl  ?_
 refine Run.stD (enc := Le.cells) (d := (d).setIfInBounds i2 (d[j2]!)) (rest := rest) (e := 43) (i := j2) (s := 0) (d[i2]!) rfl rfl xsz43 rfl Le.enc1 WB rfl<|Run.heapTo (H' := [sgD Le.cells 43 b rest (swp d i2 j2)]) Z<|Ze<|Zz 15<|RunT.done WK<|Zg<|Zs<|Zr<|Zm Z<|Zv (Y.addN ((i2 + 1 : Nat) : Int) rfl rfl W W)<|Za Z<|Ze<|Zg<|?_
 refine Zr<|Zm Z<|Zv (Y.subN ((j2 - 1 : Nat) : Int) rfl rfl W W)<|Za Z<|Ze<|Zc<|?_
 exact ZR (⟨i2 + 1,j2 - 1,swp d i2 j2⟩ : Nat × Nat × Array Le) ⟨(partEqLoop_go f1 g1 W).symm.trans k1,by simp only [swp_size]; exact k2,by have := cross2 f1 g1 W W W; dsimp only; omega,by have := cross2 f1 g1 W W W; dsimp only; omega,by (try dsimp only); omega⟩ (by dsimp only; omega)
end Go.Proofs.YtfgblingojgafaaGreat
