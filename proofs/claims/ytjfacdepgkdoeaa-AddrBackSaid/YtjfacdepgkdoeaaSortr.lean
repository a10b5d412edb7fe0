/- The library's sort by a comparison, at ranges, walked.
Conditions: as each theorem names them. -/
import Derived.Test.YtjfacdepgkdoeaaProg
import Derived.Test.YtjfacdepgkdoeaaSA
import Derived.Test.YtjfacdepgkdoeaaRA
set_option linter.unusedSimpArgs false
set_option linter.unusedVariables false
set_option maxRecDepth 4000
namespace Go.Proofs.Ytjfacdepgkdoeaa
open Go Go.K
attribute [local irreducible] Code.wp wpList Calls wpQuiet
theorem Sortr_mo : Try.prog.follows .mixedOrders = true := by kernel_rfl
theorem Sortr_es51 : elemS Try.prog 51 = some (53, 2) := by kernel_rfl
theorem Sortr_ag53 : aggsz Try.prog 53 = some 2 := by kernel_rfl
theorem Sortr_sz53 : sizeT Try.prog 53 = some 2 := by kernel_rfl

open Go.Sort

theorem ins_r {V : Vw} {n c b : Nat} {rest : List Value} {d0 : Array Rg} {gf : FuncId} {caps : List Value} {cm : Rg → Rg → Int} {x y : Nat}  (hN : n ≤ 1073741824) (hd : d0.size = n) (hx : x ≤ n) (hy : y ≤ n)  (hcmp : ∀ x y : Rg, Does Try.prog gf (.agg (Rg.cells x).toArray :: .agg (Rg.cells y).toArray :: caps) V [] (Pv (.int .i64 (cm x y)) V [])) (hswo : SWO (ltc cm))  : Does Try.prog 159 [.slice (some ⟨b, 0, none⟩) n c, .int .i64 ((x : Nat) : Int), .int .i64 ((y : Nat) : Int), .func (.func gf) #[] caps.toArray] V [sgD Rg.cells 53 b rest d0] (fun v V' H' => V' = V ∧ v = .tuple #[] ∧ H' = [sgD Rg.cells 53 b rest (insertionSort (ltc cm) d0 x y)]) := by
 refine Does.intro Try.func159 rfl rfl (le rfl) (fun B => ?_)
 refine Tr.seq ?_
 refine Tr.region ?_
 refine Run.val (lt rfl) (Y.move rfl) ?_
 refine Run.val (lt rfl) (Y.addN ((x + 1 : Nat) : Int) rfl rfl (by omega) (by omega)) ?_
 refine Run.val (lt rfl) (Y.assign rfl) ?_
 refine Run.to_end ?_
 refine Ex.go ?_
 refine Tr.block ?_
 refine Tr.loop (X := Nat × Array Rg) (fun z0 => V) (fun z0 => [sgD Rg.cells 53 b rest z0.2]) (fun z0 => [(0, .slice (some ⟨b, 0, none⟩) n c), (1, .int .i64 ((x : Nat) : Int)), (2, .int .i64 ((y : Nat) : Int)), (3, .func (.func gf) #[] caps.toArray), (8, .int .i64 ((z0.1 : Nat) : Int))]) (fun z0 => insOuter (ltc cm) x y z0.1 z0.2 = insOuter (ltc cm) x y (x + 1) d0 ∧ z0.2.size = n ∧ x < z0.1) (fun z0 => y - z0.1) (⟨x + 1, d0⟩ : Nat × Array Rg) ⟨rfl, hd, by omega⟩ (fun a w i => ⟨i.1.sub (subB_cons (by first | rfl | exact congrArg (fun z => some (Value.int _ z)) (by omega)) (subB_cons (by first | rfl | exact congrArg (fun z => some (Value.int _ z)) (by omega)) (subB_cons (by first | rfl | exact congrArg (fun z => some (Value.int _ z)) (by omega)) (subB_cons (by first | rfl | exact congrArg (fun z => some (Value.int _ z)) (by omega)) (subB_cons (by first | rfl | exact congrArg (fun z => some (Value.int _ z)) (by omega)) (subB_nil _)))))), i.2⟩) ?_
 rintro ⟨i, d⟩ ⟨r1, r2, r3⟩
 try dsimp only at r1 r2 r3 ⊢
 refine Tr.seq ?_
 refine Tr.seq ?_
 refine Tr.region ?_
 refine Run.val (lt rfl) (Y.move rfl) ?_
 refine Run.val (lt rfl) (Y.move rfl) ?_
 refine Run.val (lt rfl) (Y.int rfl rfl rfl) ?_
 refine Run.to_end ?_
 refine Ex.go ?_
 rcases Bool.eq_false_or_eq_true (decide (((i : Nat) : Int) < ((y : Nat) : Int))) with h1 | h1
 ·have g1 := h1
  try simp only [kb] at g1
  refine Tr.cond_t rfl h1 ?_
  refine Tr.to_end ?_
  refine Ex.go ?_
  refine Tr.seq ?_
  refine Tr.block ?_
  refine Tr.seq ?_
  refine Tr.region ?_
  refine Run.val (lt rfl) (Y.move rfl) ?_
  refine Run.val (lt rfl) (Y.assign rfl) ?_
  refine Run.to_end ?_
  refine Ex.go ?_
  refine Tr.block ?_
  refine Tr.loop (X := Nat × Array Rg) (fun z0 => V) (fun z0 => [sgD Rg.cells 53 b rest z0.2]) (fun z0 => [(0, .slice (some ⟨b, 0, none⟩) n c), (1, .int .i64 ((x : Nat) : Int)), (2, .int .i64 ((y : Nat) : Int)), (3, .func (.func gf) #[] caps.toArray), (8, .int .i64 ((i : Nat) : Int)), (9, .int .i64 ((z0.1 : Nat) : Int))]) (fun z0 => insOuter (ltc cm) x y (i + 1) (insInner (ltc cm) x z0.1 z0.2) = insOuter (ltc cm) x y (x + 1) d0 ∧ z0.2.size = n ∧ z0.1 ≤ i) (fun z0 => z0.1) (⟨i, d⟩ : Nat × Array Rg) ⟨(insOuter_go (by omega)).symm.trans r1, r2, Nat.le_refl _⟩ (fun a w i => ⟨i.1.sub (subB_cons (by first | rfl | exact congrArg (fun z => some (Value.int _ z)) (by omega)) (subB_cons (by first | rfl | exact congrArg (fun z => some (Value.int _ z)) (by omega)) (subB_cons (by first | rfl | exact congrArg (fun z => some (Value.int _ z)) (by omega)) (subB_cons (by first | rfl | exact congrArg (fun z => some (Value.int _ z)) (by omega)) (subB_cons (by first | rfl | exact congrArg (fun z => some (Value.int _ z)) (by omega)) (subB_cons (by first | rfl | exact congrArg (fun z => some (Value.int _ z)) (by omega)) (subB_nil _))))))), i.2⟩) ?_
  rintro ⟨j, f⟩ ⟨k1, k2, k3⟩
  try dsimp only at k1 k2 k3 ⊢
  refine Tr.seq ?_
  refine Tr.seq ?_
  refine Tr.quiet Sortr_mo (by kernel_rfl) ?_
  refine RunQ.val (lt rfl) (Y.move rfl) ?_
  refine RunQ.val (lt rfl) (Y.move rfl) ?_
  refine RunQ.val (lt rfl) (Y.int rfl rfl rfl) ?_
  refine RunQ.val (lt rfl) (Y.move rfl) ?_
  rcases Bool.eq_false_or_eq_true (decide (((j : Nat) : Int) > ((x : Nat) : Int))) with h2 | h2
  ·have g2 := h2
   try simp only [kb] at g2
   refine RunQ.on rfl rfl rfl h2 ?_
   refine RunQ.val (lt rfl) (Y.move rfl) ?_
   refine RunQ.on rfl rfl rfl h2 ?_
   refine RunQ.val (lt rfl) (Y.move rfl) ?_
   refine RunQ.on rfl rfl rfl h2 ?_
   refine RunQ.val (lt rfl) (Y.move rfl) ?_
   refine RunQ.on rfl rfl rfl h2 ?_
   refine RunQ.val (lt rfl) (Y.idxN j rfl rfl Sortr_es51 (by omega) (by omega)) ?_
   refine RunQ.on rfl rfl rfl h2 ?_
   refine RunQ.val (lt rfl) (Y.ldA (enc := Rg.cells) (d := f) (rest := rest) (e := 53) (i := j) rfl Sortr_ag53 (Kn.at 0 rfl) Rg.enc (by first | omega | (simp only [swp_size, Array.size_setIfInBounds]; omega)) rfl) ?_
   refine RunQ.on rfl rfl rfl h2 ?_
   refine RunQ.val (lt rfl) (Y.move rfl) ?_
   refine RunQ.on rfl rfl rfl h2 ?_
   refine RunQ.val (lt rfl) (Y.move rfl) ?_
   refine RunQ.on rfl rfl rfl h2 ?_
   refine RunQ.val (lt rfl) (Y.subN ((j - 1 : Nat) : Int) rfl rfl (by omega) (by omega)) ?_
   refine RunQ.on rfl rfl rfl h2 ?_
   refine RunQ.val (lt rfl) (Y.idxN (j - 1) rfl rfl Sortr_es51 (by omega) (by omega)) ?_
   refine RunQ.on rfl rfl rfl h2 ?_
   refine RunQ.val (lt rfl) (Y.ldA (enc := Rg.cells) (d := f) (rest := rest) (e := 53) (i := (j - 1)) rfl Sortr_ag53 (Kn.at 0 rfl) Rg.enc (by first | omega | (simp only [swp_size, Array.size_setIfInBounds]; omega)) rfl) ?_
   refine RunQ.on rfl rfl rfl h2 ?_
   refine RunQ.call0 (l := [.tmp 26, .tmp 31]) rfl rfl rfl (lt rfl) ((hcmp (f[j]!) (f[j - 1]!)).frame) ?_
   refine RunQ.on rfl rfl rfl h2 ?_
   refine RunQ.val (lt rfl) (Y.int rfl rfl rfl) ?_
   refine RunQ.val (lt rfl) (Y.pick_t rfl h2 rfl) ?_
   refine RunQ.to_end ?_
   refine Ex.go ?_
   rcases Bool.eq_false_or_eq_true (decide ((cm (f[j]!) (f[j - 1]!)) < 0)) with h3 | h3
   ·have g3 := h3
    try simp only [kb] at g3
    refine Tr.cond_t rfl h3 ?_
    refine Tr.to_end ?_
    refine Ex.go ?_
    refine Tr.seq ?_
    refine Tr.block ?_
    refine Tr.anyT [(b, .cells (cel Rg.cells f rest).toArray 53 (0, 0))] 15 Sortr_mo ?_
    refine RunT.pure (i := 0) rfl (by kernel_rfl) (by kernel_rfl) (by kernel_rfl) (by kernel_rfl) (fun _ _ _ h => h) (lt rfl) (KnAll.cons (Kn.at 0 rfl) KnAll.nil) (fun _ => (Y.move rfl)) ?_
    refine RunT.pure (i := 1) rfl (by kernel_rfl) (by kernel_rfl) (by kernel_rfl) (by kernel_rfl) (fun _ _ _ h => h) (lt rfl) (KnAll.cons (Kn.at 0 rfl) KnAll.nil) (fun _ => (Y.move rfl)) ?_
    refine RunT.pure (i := 2) rfl (by kernel_rfl) (by kernel_rfl) (by kernel_rfl) (by kernel_rfl) (fun _ _ _ h => h) (lt rfl) (KnAll.cons (Kn.at 0 rfl) KnAll.nil) (fun _ => (Y.move rfl)) ?_
    refine RunT.pure (i := 3) rfl (by kernel_rfl) (by kernel_rfl) (by kernel_rfl) (by kernel_rfl) (fun _ _ _ h => h) (lt rfl) (KnAll.cons (Kn.at 0 rfl) KnAll.nil) (fun _ => (Y.move rfl)) ?_
    refine RunT.pure (i := 4) rfl (by kernel_rfl) (by kernel_rfl) (by kernel_rfl) (by kernel_rfl) (fun _ _ _ h => h) (lt rfl) (KnAll.cons (Kn.at 0 rfl) KnAll.nil) (fun _ => (Y.subN ((j - 1 : Nat) : Int) rfl rfl (by omega) (by omega))) ?_
    refine RunT.pure (i := 5) rfl (by kernel_rfl) (by kernel_rfl) (by kernel_rfl) (by kernel_rfl) (fun _ _ _ h => h) (lt rfl) (KnAll.cons (Kn.at 0 rfl) KnAll.nil) (fun _ => (Y.move rfl)) ?_
    refine RunT.pure (i := 6) rfl (by kernel_rfl) (by kernel_rfl) (by kernel_rfl) (by kernel_rfl) (fun _ _ _ h => h) (lt rfl) (KnAll.cons (Kn.at 0 rfl) KnAll.nil) (fun _ => (Y.move rfl)) ?_
    refine RunT.pure (i := 7) rfl (by kernel_rfl) (by kernel_rfl) (by kernel_rfl) (by kernel_rfl) (fun _ _ _ h => h) (lt rfl) (KnAll.cons (Kn.at 0 rfl) KnAll.nil) (fun _ => (Y.subN ((j - 1 : Nat) : Int) rfl rfl (by omega) (by omega))) ?_
    refine RunT.pure (i := 8) rfl (by kernel_rfl) (by kernel_rfl) (by kernel_rfl) (by kernel_rfl) (fun _ _ _ h => h) (lt rfl) (KnAll.cons (Kn.at 0 rfl) KnAll.nil) (fun _ => (Y.idxN (j - 1) rfl rfl Sortr_es51 (by omega) (by omega))) ?_
    refine RunT.take (i := 9) 0 rfl rfl (by kernel_rfl) (by kernel_rfl) (by kernel_rfl) (by kernel_rfl) (fun _ _ _ h => h) (lt rfl) (KnAll.cons (Kn.at 0 rfl) KnAll.nil) (fun _ => (Y.ldA (enc := Rg.cells) (d := f) (rest := rest) (e := 53) (i := (j - 1)) rfl Sortr_ag53 Kn.vk1 Rg.enc (by first | omega | (simp only [swp_size, Array.size_setIfInBounds]; omega)) rfl)) ?_
    refine RunT.pure (i := 10) rfl (by kernel_rfl) (by kernel_rfl) (by kernel_rfl) (by kernel_rfl) (fun _ _ _ h => h) (lt rfl) (KnAll.cons (Kn.at 0 rfl) KnAll.nil) (fun _ => (Y.move rfl)) ?_
    refine RunT.pure (i := 11) rfl (by kernel_rfl) (by kernel_rfl) (by kernel_rfl) (by kernel_rfl) (fun _ _ _ h => h) (lt rfl) (KnAll.cons (Kn.at 0 rfl) KnAll.nil) (fun _ => (Y.move rfl)) ?_
    refine RunT.pure (i := 12) rfl (by kernel_rfl) (by kernel_rfl) (by kernel_rfl) (by kernel_rfl) (fun _ _ _ h => h) (lt rfl) (KnAll.cons (Kn.at 0 rfl) KnAll.nil) (fun _ => (Y.idxN j rfl rfl Sortr_es51 (by omega) (by omega))) ?_
    refine RunT.take (i := 13) 0 rfl rfl (by kernel_rfl) (by kernel_rfl) (by kernel_rfl) (by kernel_rfl) (fun _ _ _ h => h) (lt rfl) (KnAll.cons (Kn.at 0 rfl) KnAll.nil) (fun _ => (Y.ldA (enc := Rg.cells) (d := f) (rest := rest) (e := 53) (i := j) rfl Sortr_ag53 Kn.vk1 Rg.enc (by first | omega | (simp only [swp_size, Array.size_setIfInBounds]; omega)) rfl)) ?_
    refine RunT.pure (i := 14) rfl (by kernel_rfl) (by kernel_rfl) (by kernel_rfl) (by kernel_rfl) (fun _ _ _ h => h) (lt rfl) (KnAll.cons (Kn.at 0 rfl) KnAll.nil) (fun _ => (Y.idxN j rfl rfl Sortr_es51 (by omega) (by omega))) ?_
    refine RunT.one (i := 15) (by kernel_rfl) rfl  ?_ 
    refine Run.stD (enc := Rg.cells) (d := f) (rest := rest) (e := 53) (i := j) (s := 0) (f[j - 1]!) rfl rfl Sortr_sz53 rfl Rg.enc (by first | omega | (simp only [swp_size, Array.size_setIfInBounds]; omega)) rfl ?_
    refine Run.to_end ?_
    refine Ex.anyTz (i := 15) rfl rfl rfl ?_
    refine RunT.one (i := 16) (by kernel_rfl) rfl  ?_ 
    refine Run.val (lt rfl) (Y.idxN (j - 1) rfl rfl Sortr_es51 (by omega) (by omega)) ?_
    refine Run.to_end ?_
    refine Ex.anyTz (i := 16) rfl rfl rfl ?_
    refine RunT.one (i := 17) (by kernel_rfl) rfl  ?_ 
    refine Run.stD (enc := Rg.cells) (d := (f).setIfInBounds j (f[j - 1]!)) (rest := rest) (e := 53) (i := (j - 1)) (s := 0) (f[j]!) rfl rfl Sortr_sz53 rfl Rg.enc (by first | omega | (simp only [swp_size, Array.size_setIfInBounds]; omega)) rfl ?_
    refine Run.heapTo (H' := [sgD Rg.cells 53 b rest (swp f j (j - 1))]) rfl ?_
    refine Run.to_end ?_
    refine Ex.anyTz (i := 17) rfl rfl rfl ?_
    refine RunT.done (by kernel_rfl) ?_
    refine Ex.end_block ?_
    refine Ex.go ?_
    refine Tr.region ?_
    refine Run.val (lt rfl) (Y.move rfl) ?_
    refine Run.val (lt rfl) (Y.subN ((j - 1 : Nat) : Int) rfl rfl (by omega) (by omega)) ?_
    refine Run.val (lt rfl) (Y.assign rfl) ?_
    refine Run.to_end ?_
    exact Ex.round (⟨j - 1, swp f j (j - 1)⟩ : Nat × Array Rg) ⟨by dsimp only; rw [← insInner_go (by omega) (by assumption)]; exact k1, by simp only [swp_size]; exact k2, by omega⟩ (by dsimp only; omega) rfl rfl (subB_cons (by first | rfl | exact congrArg (fun z => some (Value.int _ z)) (by omega)) (subB_cons (by first | rfl | exact congrArg (fun z => some (Value.int _ z)) (by omega)) (subB_cons (by first | rfl | exact congrArg (fun z => some (Value.int _ z)) (by omega)) (subB_cons (by first | rfl | exact congrArg (fun z => some (Value.int _ z)) (by omega)) (subB_cons (by first | rfl | exact congrArg (fun z => some (Value.int _ z)) (by omega)) (subB_cons (by first | rfl | exact congrArg (fun z => some (Value.int _ z)) (by omega)) (subB_nil _)))))))
   ·have g3 := h3
    try simp only [kb] at g3
    refine Tr.cond_f rfl h3 ?_
    refine Tr.to_exit ?_
    refine Ex.exit_then ?_
    refine Ex.exit_then ?_
    refine Ex.exit_in ?_
    refine Ex.end_block ?_
    refine Ex.go ?_
    refine Tr.region ?_
    refine Run.val (lt rfl) (Y.move rfl) ?_
    refine Run.val (lt rfl) (Y.addN ((i + 1 : Nat) : Int) rfl rfl (by omega) (by omega)) ?_
    refine Run.val (lt rfl) (Y.assign rfl) ?_
    refine Run.to_end ?_
    exact Ex.round (⟨i + 1, f⟩ : Nat × Array Rg) ⟨(congrArg (insOuter (ltc cm) x y (i + 1)) (insInner_stop (a := x) (by first | (left; omega) | (right; assumption)))).symm.trans k1, k2, by omega⟩ (by dsimp only; omega) rfl rfl (subB_cons (by first | rfl | exact congrArg (fun z => some (Value.int _ z)) (by omega)) (subB_cons (by first | rfl | exact congrArg (fun z => some (Value.int _ z)) (by omega)) (subB_cons (by first | rfl | exact congrArg (fun z => some (Value.int _ z)) (by omega)) (subB_cons (by first | rfl | exact congrArg (fun z => some (Value.int _ z)) (by omega)) (subB_cons (by first | rfl | exact congrArg (fun z => some (Value.int _ z)) (by omega)) (subB_nil _))))))
  ·have g2 := h2
   try simp only [kb] at g2
   refine RunQ.off rfl rfl rfl h2 rfl (lt rfl) ?_
   refine RunQ.off rfl rfl rfl h2 rfl (lt rfl) ?_
   refine RunQ.off rfl rfl rfl h2 rfl (lt rfl) ?_
   refine RunQ.off rfl rfl rfl h2 rfl (lt rfl) ?_
   refine RunQ.off rfl rfl rfl h2 rfl (lt rfl) ?_
   refine RunQ.off rfl rfl rfl h2 rfl (lt rfl) ?_
   refine RunQ.off rfl rfl rfl h2 rfl (lt rfl) ?_
   refine RunQ.off rfl rfl rfl h2 rfl (lt rfl) ?_
   refine RunQ.off rfl rfl rfl h2 rfl (lt rfl) ?_
   refine RunQ.off rfl rfl rfl h2 rfl (lt rfl) ?_
   refine RunQ.off rfl rfl rfl h2 rfl (lt rfl) ?_
   refine RunQ.off rfl rfl rfl h2 rfl (lt rfl) ?_
   refine RunQ.val (lt rfl) (Y.pick_f rfl h2 rfl) ?_
   refine RunQ.to_end ?_
   refine Ex.go ?_
   refine Tr.cond_f rfl rfl ?_
   refine Tr.to_exit ?_
   refine Ex.exit_then ?_
   refine Ex.exit_then ?_
   refine Ex.exit_in ?_
   refine Ex.end_block ?_
   refine Ex.go ?_
   refine Tr.region ?_
   refine Run.val (lt rfl) (Y.move rfl) ?_
   refine Run.val (lt rfl) (Y.addN ((i + 1 : Nat) : Int) rfl rfl (by omega) (by omega)) ?_
   refine Run.val (lt rfl) (Y.assign rfl) ?_
   refine Run.to_end ?_
   exact Ex.round (⟨i + 1, f⟩ : Nat × Array Rg) ⟨(congrArg (insOuter (ltc cm) x y (i + 1)) (insInner_stop (a := x) (by first | (left; omega) | (right; assumption)))).symm.trans k1, k2, by omega⟩ (by dsimp only; omega) rfl rfl (subB_cons (by first | rfl | exact congrArg (fun z => some (Value.int _ z)) (by omega)) (subB_cons (by first | rfl | exact congrArg (fun z => some (Value.int _ z)) (by omega)) (subB_cons (by first | rfl | exact congrArg (fun z => some (Value.int _ z)) (by omega)) (subB_cons (by first | rfl | exact congrArg (fun z => some (Value.int _ z)) (by omega)) (subB_cons (by first | rfl | exact congrArg (fun z => some (Value.int _ z)) (by omega)) (subB_nil _))))))
 ·have g1 := h1
  try simp only [kb] at g1
  refine Tr.cond_f rfl h1 ?_
  refine Tr.to_exit ?_
  refine Ex.exit_then ?_
  refine Ex.exit_then ?_
  refine Ex.exit_in ?_
  refine Ex.keep [0] ?_
  exact Ex.end0 rfl ⟨rfl, rfl, by rw [insertionSort, ← r1, insOuter_stop (by omega)]; rfl⟩

theorem sift_r {V : Vw} {n c b : Nat} {rest : List Value} {d0 : Array Rg} {gf : FuncId} {caps : List Value} {cm : Rg → Rg → Int} {l m f : Nat}  (hN : n ≤ 1073741824) (hd : d0.size = n) (hl : l ≤ n) (hm : f + m ≤ n)  (hcmp : ∀ x y : Rg, Does Try.prog gf (.agg (Rg.cells x).toArray :: .agg (Rg.cells y).toArray :: caps) V [] (Pv (.int .i64 (cm x y)) V [])) (hswo : SWO (ltc cm))  : Does Try.prog 170 [.slice (some ⟨b, 0, none⟩) n c, .int .i64 ((l : Nat) : Int), .int .i64 ((m : Nat) : Int), .int .i64 ((f : Nat) : Int), .func (.func gf) #[] caps.toArray] V [sgD Rg.cells 53 b rest d0] (fun v V' H' => V' = V ∧ v = .tuple #[] ∧ H' = [sgD Rg.cells 53 b rest (siftDown (ltc cm) m f l d0)]) := by
 refine Does.intro Try.func170 rfl rfl (le rfl) (fun B => ?_)
 refine Tr.seq ?_
 refine Tr.region ?_
 refine Run.val (lt rfl) (Y.move rfl) ?_
 refine Run.val (lt rfl) (Y.assign rfl) ?_
 refine Run.to_end ?_
 refine Ex.go ?_
 refine Tr.block ?_
 refine Tr.loop (X := Nat × Array Rg) (fun z0 => V) (fun z0 => [sgD Rg.cells 53 b rest z0.2]) (fun z0 => [(0, .slice (some ⟨b, 0, none⟩) n c), (1, .int .i64 ((l : Nat) : Int)), (2, .int .i64 ((m : Nat) : Int)), (3, .int .i64 ((f : Nat) : Int)), (4, .func (.func gf) #[] caps.toArray), (10, .int .i64 ((z0.1 : Nat) : Int))]) (fun z0 => siftDown (ltc cm) m f z0.1 z0.2 = siftDown (ltc cm) m f l d0 ∧ z0.2.size = n ∧ z0.1 ≤ n) (fun z0 => m - z0.1) (⟨l, d0⟩ : Nat × Array Rg) ⟨rfl, hd, hl⟩ (fun a w i => ⟨i.1.sub (subB_cons (by first | rfl | exact congrArg (fun z => some (Value.int _ z)) (by omega)) (subB_cons (by first | rfl | exact congrArg (fun z => some (Value.int _ z)) (by omega)) (subB_cons (by first | rfl | exact congrArg (fun z => some (Value.int _ z)) (by omega)) (subB_cons (by first | rfl | exact congrArg (fun z => some (Value.int _ z)) (by omega)) (subB_cons (by first | rfl | exact congrArg (fun z => some (Value.int _ z)) (by omega)) (subB_cons (by first | rfl | exact congrArg (fun z => some (Value.int _ z)) (by omega)) (subB_nil _))))))), i.2⟩) ?_
 rintro ⟨r, d⟩ ⟨r1, r2, r3⟩
 try dsimp only at r1 r2 r3 ⊢
 refine Tr.block ?_
 refine Tr.seq ?_
 refine Tr.region ?_
 refine Run.val (lt rfl) (Y.move rfl) ?_
 refine Run.val (lt rfl) (Y.mulN ((2 * r : Nat) : Int) rfl rfl (by omega) (by omega)) ?_
 refine Run.val (lt rfl) (Y.addN (((2 * r) + 1 : Nat) : Int) rfl rfl (by omega) (by omega)) ?_
 refine Run.val (lt rfl) (Y.assign rfl) ?_
 refine Run.to_end ?_
 refine Ex.go ?_
 refine Tr.seq ?_
 refine Tr.seq ?_
 refine Tr.region ?_
 refine Run.val (lt rfl) (Y.move rfl) ?_
 refine Run.val (lt rfl) (Y.move rfl) ?_
 refine Run.val (lt rfl) (Y.int rfl rfl rfl) ?_
 refine Run.to_end ?_
 refine Ex.go ?_
 rcases Bool.eq_false_or_eq_true (decide ((((2 * r) + 1 : Nat) : Int) ≥ ((m : Nat) : Int))) with h1 | h1
 ·have g1 := h1
  try simp only [kb] at g1
  refine Tr.cond_t rfl h1 ?_
  refine Tr.to_exit ?_
  refine Ex.exit_then ?_
  refine Ex.exit_out rfl ?_
  refine Ex.exit_then ?_
  refine Ex.exit_in ?_
  refine Ex.keep [0] ?_
  exact Ex.end0 rfl ⟨rfl, rfl, by rw [← r1]; first | rw [sift_end (by omega)]; rfl | rw [sift_stop2 (by omega) (by assumption) (by assumption)]; rfl | rw [sift_stop1 (by omega) (by first | (left; omega) | (right; assumption)) (by assumption)]; rfl⟩
 ·have g1 := h1
  try simp only [kb] at g1
  refine Tr.cond_f rfl h1 ?_
  refine Tr.to_end ?_
  refine Ex.go ?_
  refine Tr.seq ?_
  refine Tr.seq ?_
  refine Tr.quiet Sortr_mo (by kernel_rfl) ?_
  refine RunQ.val (lt rfl) (Y.move rfl) ?_
  refine RunQ.val (lt rfl) (Y.addN ((((2 * r) + 1) + 1 : Nat) : Int) rfl rfl (by omega) (by omega)) ?_
  refine RunQ.val (lt rfl) (Y.move rfl) ?_
  refine RunQ.val (lt rfl) (Y.int rfl rfl rfl) ?_
  refine RunQ.val (lt rfl) (Y.move rfl) ?_
  rcases Bool.eq_false_or_eq_true (decide (((((2 * r) + 1) + 1 : Nat) : Int) < ((m : Nat) : Int))) with h2 | h2
  ·have g2 := h2
   try simp only [kb] at g2
   refine RunQ.on rfl rfl rfl h2 ?_
   refine RunQ.val (lt rfl) (Y.move rfl) ?_
   refine RunQ.on rfl rfl rfl h2 ?_
   refine RunQ.val (lt rfl) (Y.move rfl) ?_
   refine RunQ.on rfl rfl rfl h2 ?_
   refine RunQ.val (lt rfl) (Y.move rfl) ?_
   refine RunQ.on rfl rfl rfl h2 ?_
   refine RunQ.val (lt rfl) (Y.move rfl) ?_
   refine RunQ.on rfl rfl rfl h2 ?_
   refine RunQ.val (lt rfl) (Y.addN ((f + ((2 * r) + 1) : Nat) : Int) rfl rfl (by omega) (by omega)) ?_
   refine RunQ.on rfl rfl rfl h2 ?_
   refine RunQ.val (lt rfl) (Y.idxN (f + ((2 * r) + 1)) rfl rfl Sortr_es51 (by omega) (by omega)) ?_
   refine RunQ.on rfl rfl rfl h2 ?_
   refine RunQ.val (lt rfl) (Y.ldA (enc := Rg.cells) (d := d) (rest := rest) (e := 53) (i := (f + ((2 * r) + 1))) rfl Sortr_ag53 (Kn.at 0 rfl) Rg.enc (by first | omega | (simp only [swp_size, Array.size_setIfInBounds]; omega)) rfl) ?_
   refine RunQ.on rfl rfl rfl h2 ?_
   refine RunQ.val (lt rfl) (Y.move rfl) ?_
   refine RunQ.on rfl rfl rfl h2 ?_
   refine RunQ.val (lt rfl) (Y.move rfl) ?_
   refine RunQ.on rfl rfl rfl h2 ?_
   refine RunQ.val (lt rfl) (Y.move rfl) ?_
   refine RunQ.on rfl rfl rfl h2 ?_
   refine RunQ.val (lt rfl) (Y.addN ((f + ((2 * r) + 1) : Nat) : Int) rfl rfl (by omega) (by omega)) ?_
   refine RunQ.on rfl rfl rfl h2 ?_
   refine RunQ.val (lt rfl) (Y.addN (((f + ((2 * r) + 1)) + 1 : Nat) : Int) rfl rfl (by omega) (by omega)) ?_
   refine RunQ.on rfl rfl rfl h2 ?_
   refine RunQ.val (lt rfl) (Y.idxN ((f + ((2 * r) + 1)) + 1) rfl rfl Sortr_es51 (by omega) (by omega)) ?_
   refine RunQ.on rfl rfl rfl h2 ?_
   refine RunQ.val (lt rfl) (Y.ldA (enc := Rg.cells) (d := d) (rest := rest) (e := 53) (i := ((f + ((2 * r) + 1)) + 1)) rfl Sortr_ag53 (Kn.at 0 rfl) Rg.enc (by first | omega | (simp only [swp_size, Array.size_setIfInBounds]; omega)) rfl) ?_
   refine RunQ.on rfl rfl rfl h2 ?_
   refine RunQ.call0 (l := [.tmp 30, .tmp 37]) rfl rfl rfl (lt rfl) ((hcmp (d[f + ((2 * r) + 1)]!) (d[(f + ((2 * r) + 1)) + 1]!)).frame) ?_
   refine RunQ.on rfl rfl rfl h2 ?_
   refine RunQ.val (lt rfl) (Y.int rfl rfl rfl) ?_
   refine RunQ.val (lt rfl) (Y.pick_t rfl h2 rfl) ?_
   refine RunQ.to_end ?_
   refine Ex.go ?_
   rcases Bool.eq_false_or_eq_true (decide ((cm (d[f + ((2 * r) + 1)]!) (d[(f + ((2 * r) + 1)) + 1]!)) < 0)) with h3 | h3
   ·have g3 := h3
    try simp only [kb] at g3
    refine Tr.cond_t rfl h3 ?_
    refine Tr.region ?_
    refine Run.val (lt rfl) (Y.move rfl) ?_
    refine Run.val (lt rfl) (Y.addN ((((2 * r) + 1) + 1 : Nat) : Int) rfl rfl (by omega) (by omega)) ?_
    refine Run.val (lt rfl) (Y.assign rfl) ?_
    refine Run.to_end ?_
    refine Ex.go ?_
    refine Tr.seq ?_
    refine Tr.seq ?_
    refine Tr.quiet Sortr_mo (by kernel_rfl) ?_
    refine RunQ.val (lt rfl) (Y.move rfl) ?_
    refine RunQ.val (lt rfl) (Y.move rfl) ?_
    refine RunQ.val (lt rfl) (Y.move rfl) ?_
    refine RunQ.val (lt rfl) (Y.move rfl) ?_
    refine RunQ.val (lt rfl) (Y.addN ((f + r : Nat) : Int) rfl rfl (by omega) (by omega)) ?_
    refine RunQ.val (lt rfl) (Y.idxN (f + r) rfl rfl Sortr_es51 (by omega) (by omega)) ?_
    refine RunQ.val (lt rfl) (Y.ldA (enc := Rg.cells) (d := d) (rest := rest) (e := 53) (i := (f + r)) rfl Sortr_ag53 (Kn.at 0 rfl) Rg.enc (by first | omega | (simp only [swp_size, Array.size_setIfInBounds]; omega)) rfl) ?_
    refine RunQ.val (lt rfl) (Y.move rfl) ?_
    refine RunQ.val (lt rfl) (Y.move rfl) ?_
    refine RunQ.val (lt rfl) (Y.move rfl) ?_
    refine RunQ.val (lt rfl) (Y.addN ((f + (((2 * r) + 1) + 1) : Nat) : Int) rfl rfl (by omega) (by omega)) ?_
    refine RunQ.val (lt rfl) (Y.idxN (f + (((2 * r) + 1) + 1)) rfl rfl Sortr_es51 (by omega) (by omega)) ?_
    refine RunQ.val (lt rfl) (Y.ldA (enc := Rg.cells) (d := d) (rest := rest) (e := 53) (i := (f + (((2 * r) + 1) + 1))) rfl Sortr_ag53 (Kn.at 0 rfl) Rg.enc (by first | omega | (simp only [swp_size, Array.size_setIfInBounds]; omega)) rfl) ?_
    refine RunQ.call0 (l := [.tmp 49, .tmp 55]) rfl rfl rfl (lt rfl) ((hcmp (d[f + r]!) (d[f + (((2 * r) + 1) + 1)]!)).frame) ?_
    refine RunQ.val (lt rfl) (Y.int rfl rfl rfl) ?_
    refine RunQ.val (lt rfl) (Y.not rfl) ?_
    refine RunQ.to_end ?_
    refine Ex.go ?_
    rcases Bool.eq_false_or_eq_true (decide ((cm (d[f + r]!) (d[f + (((2 * r) + 1) + 1)]!)) < 0)) with h4 | h4
    ·have g4 := h4
     try simp only [kb] at g4
     refine Tr.cond_f rfl (congrArg Bool.not h4) ?_
     refine Tr.to_end ?_
     refine Ex.go ?_
     refine Tr.seq ?_
     refine Tr.anyT [(b, .cells (cel Rg.cells d rest).toArray 53 (0, 0))] 21 Sortr_mo ?_
     refine RunT.pure (i := 0) rfl (by kernel_rfl) (by kernel_rfl) (by kernel_rfl) (by kernel_rfl) (fun _ _ _ h => h) (lt rfl) (KnAll.cons (Kn.at 0 rfl) KnAll.nil) (fun _ => (Y.move rfl)) ?_
     refine RunT.pure (i := 1) rfl (by kernel_rfl) (by kernel_rfl) (by kernel_rfl) (by kernel_rfl) (fun _ _ _ h => h) (lt rfl) (KnAll.cons (Kn.at 0 rfl) KnAll.nil) (fun _ => (Y.move rfl)) ?_
     refine RunT.pure (i := 2) rfl (by kernel_rfl) (by kernel_rfl) (by kernel_rfl) (by kernel_rfl) (fun _ _ _ h => h) (lt rfl) (KnAll.cons (Kn.at 0 rfl) KnAll.nil) (fun _ => (Y.move rfl)) ?_
     refine RunT.pure (i := 3) rfl (by kernel_rfl) (by kernel_rfl) (by kernel_rfl) (by kernel_rfl) (fun _ _ _ h => h) (lt rfl) (KnAll.cons (Kn.at 0 rfl) KnAll.nil) (fun _ => (Y.addN ((f + r : Nat) : Int) rfl rfl (by omega) (by omega))) ?_
     refine RunT.pure (i := 4) rfl (by kernel_rfl) (by kernel_rfl) (by kernel_rfl) (by kernel_rfl) (fun _ _ _ h => h) (lt rfl) (KnAll.cons (Kn.at 0 rfl) KnAll.nil) (fun _ => (Y.move rfl)) ?_
     refine RunT.pure (i := 5) rfl (by kernel_rfl) (by kernel_rfl) (by kernel_rfl) (by kernel_rfl) (fun _ _ _ h => h) (lt rfl) (KnAll.cons (Kn.at 0 rfl) KnAll.nil) (fun _ => (Y.move rfl)) ?_
     refine RunT.pure (i := 6) rfl (by kernel_rfl) (by kernel_rfl) (by kernel_rfl) (by kernel_rfl) (fun _ _ _ h => h) (lt rfl) (KnAll.cons (Kn.at 0 rfl) KnAll.nil) (fun _ => (Y.move rfl)) ?_
     refine RunT.pure (i := 7) rfl (by kernel_rfl) (by kernel_rfl) (by kernel_rfl) (by kernel_rfl) (fun _ _ _ h => h) (lt rfl) (KnAll.cons (Kn.at 0 rfl) KnAll.nil) (fun _ => (Y.addN ((f + (((2 * r) + 1) + 1) : Nat) : Int) rfl rfl (by omega) (by omega))) ?_
     refine RunT.pure (i := 8) rfl (by kernel_rfl) (by kernel_rfl) (by kernel_rfl) (by kernel_rfl) (fun _ _ _ h => h) (lt rfl) (KnAll.cons (Kn.at 0 rfl) KnAll.nil) (fun _ => (Y.move rfl)) ?_
     refine RunT.pure (i := 9) rfl (by kernel_rfl) (by kernel_rfl) (by kernel_rfl) (by kernel_rfl) (fun _ _ _ h => h) (lt rfl) (KnAll.cons (Kn.at 0 rfl) KnAll.nil) (fun _ => (Y.move rfl)) ?_
     refine RunT.pure (i := 10) rfl (by kernel_rfl) (by kernel_rfl) (by kernel_rfl) (by kernel_rfl) (fun _ _ _ h => h) (lt rfl) (KnAll.cons (Kn.at 0 rfl) KnAll.nil) (fun _ => (Y.move rfl)) ?_
     refine RunT.pure (i := 11) rfl (by kernel_rfl) (by kernel_rfl) (by kernel_rfl) (by kernel_rfl) (fun _ _ _ h => h) (lt rfl) (KnAll.cons (Kn.at 0 rfl) KnAll.nil) (fun _ => (Y.addN ((f + (((2 * r) + 1) + 1) : Nat) : Int) rfl rfl (by omega) (by omega))) ?_
     refine RunT.pure (i := 12) rfl (by kernel_rfl) (by kernel_rfl) (by kernel_rfl) (by kernel_rfl) (fun _ _ _ h => h) (lt rfl) (KnAll.cons (Kn.at 0 rfl) KnAll.nil) (fun _ => (Y.idxN (f + (((2 * r) + 1) + 1)) rfl rfl Sortr_es51 (by omega) (by omega))) ?_
     refine RunT.take (i := 13) 0 rfl rfl (by kernel_rfl) (by kernel_rfl) (by kernel_rfl) (by kernel_rfl) (fun _ _ _ h => h) (lt rfl) (KnAll.cons (Kn.at 0 rfl) KnAll.nil) (fun _ => (Y.ldA (enc := Rg.cells) (d := d) (rest := rest) (e := 53) (i := (f + (((2 * r) + 1) + 1))) rfl Sortr_ag53 Kn.vk1 Rg.enc (by first | omega | (simp only [swp_size, Array.size_setIfInBounds]; omega)) rfl)) ?_
     refine RunT.pure (i := 14) rfl (by kernel_rfl) (by kernel_rfl) (by kernel_rfl) (by kernel_rfl) (fun _ _ _ h => h) (lt rfl) (KnAll.cons (Kn.at 0 rfl) KnAll.nil) (fun _ => (Y.move rfl)) ?_
     refine RunT.pure (i := 15) rfl (by kernel_rfl) (by kernel_rfl) (by kernel_rfl) (by kernel_rfl) (fun _ _ _ h => h) (lt rfl) (KnAll.cons (Kn.at 0 rfl) KnAll.nil) (fun _ => (Y.move rfl)) ?_
     refine RunT.pure (i := 16) rfl (by kernel_rfl) (by kernel_rfl) (by kernel_rfl) (by kernel_rfl) (fun _ _ _ h => h) (lt rfl) (KnAll.cons (Kn.at 0 rfl) KnAll.nil) (fun _ => (Y.move rfl)) ?_
     refine RunT.pure (i := 17) rfl (by kernel_rfl) (by kernel_rfl) (by kernel_rfl) (by kernel_rfl) (fun _ _ _ h => h) (lt rfl) (KnAll.cons (Kn.at 0 rfl) KnAll.nil) (fun _ => (Y.addN ((f + r : Nat) : Int) rfl rfl (by omega) (by omega))) ?_
     refine RunT.pure (i := 18) rfl (by kernel_rfl) (by kernel_rfl) (by kernel_rfl) (by kernel_rfl) (fun _ _ _ h => h) (lt rfl) (KnAll.cons (Kn.at 0 rfl) KnAll.nil) (fun _ => (Y.idxN (f + r) rfl rfl Sortr_es51 (by omega) (by omega))) ?_
     refine RunT.take (i := 19) 0 rfl rfl (by kernel_rfl) (by kernel_rfl) (by kernel_rfl) (by kernel_rfl) (fun _ _ _ h => h) (lt rfl) (KnAll.cons (Kn.at 0 rfl) KnAll.nil) (fun _ => (Y.ldA (enc := Rg.cells) (d := d) (rest := rest) (e := 53) (i := (f + r)) rfl Sortr_ag53 Kn.vk1 Rg.enc (by first | omega | (simp only [swp_size, Array.size_setIfInBounds]; omega)) rfl)) ?_
     refine RunT.pure (i := 20) rfl (by kernel_rfl) (by kernel_rfl) (by kernel_rfl) (by kernel_rfl) (fun _ _ _ h => h) (lt rfl) (KnAll.cons (Kn.at 0 rfl) KnAll.nil) (fun _ => (Y.idxN (f + r) rfl rfl Sortr_es51 (by omega) (by omega))) ?_
     refine RunT.one (i := 21) (by kernel_rfl) rfl  ?_ 
     refine Run.stD (enc := Rg.cells) (d := d) (rest := rest) (e := 53) (i := (f + r)) (s := 0) (d[f + (((2 * r) + 1) + 1)]!) rfl rfl Sortr_sz53 rfl Rg.enc (by first | omega | (simp only [swp_size, Array.size_setIfInBounds]; omega)) rfl ?_
     refine Run.to_end ?_
     refine Ex.anyTz (i := 21) rfl rfl rfl ?_
     refine RunT.one (i := 22) (by kernel_rfl) rfl  ?_ 
     refine Run.val (lt rfl) (Y.idxN (f + (((2 * r) + 1) + 1)) rfl rfl Sortr_es51 (by omega) (by omega)) ?_
     refine Run.to_end ?_
     refine Ex.anyTz (i := 22) rfl rfl rfl ?_
     refine RunT.one (i := 23) (by kernel_rfl) rfl  ?_ 
     refine Run.stD (enc := Rg.cells) (d := (d).setIfInBounds (f + r) (d[f + (((2 * r) + 1) + 1)]!)) (rest := rest) (e := 53) (i := (f + (((2 * r) + 1) + 1))) (s := 0) (d[f + r]!) rfl rfl Sortr_sz53 rfl Rg.enc (by first | omega | (simp only [swp_size, Array.size_setIfInBounds]; omega)) rfl ?_
     refine Run.heapTo (H' := [sgD Rg.cells 53 b rest (swp d (f + r) (f + (((2 * r) + 1) + 1)))]) rfl ?_
     refine Run.to_end ?_
     refine Ex.anyTz (i := 23) rfl rfl rfl ?_
     refine RunT.done (by kernel_rfl) ?_
     refine Ex.go ?_
     refine Tr.region ?_
     refine Run.val (lt rfl) (Y.move rfl) ?_
     refine Run.val (lt rfl) (Y.assign rfl) ?_
     refine Run.to_end ?_
     refine Ex.end_block ?_
     exact Ex.round (⟨((2 * r) + 1) + 1, swp d (f + r) (f + (((2 * r) + 1) + 1))⟩ : Nat × Array Rg) ⟨by first | exact (sift_go2 (by omega) (by assumption) (by assumption)).symm.trans r1 | exact (sift_go1 (by omega) (by first | (left; omega) | (right; assumption)) (by assumption)).symm.trans r1, by simp only [swp_size]; exact r2, by (try dsimp only); omega⟩ (by dsimp only; omega) rfl rfl (subB_cons (by first | rfl | exact congrArg (fun z => some (Value.int _ z)) (by omega)) (subB_cons (by first | rfl | exact congrArg (fun z => some (Value.int _ z)) (by omega)) (subB_cons (by first | rfl | exact congrArg (fun z => some (Value.int _ z)) (by omega)) (subB_cons (by first | rfl | exact congrArg (fun z => some (Value.int _ z)) (by omega)) (subB_cons (by first | rfl | exact congrArg (fun z => some (Value.int _ z)) (by omega)) (subB_cons (by first | rfl | exact congrArg (fun z => some (Value.int _ z)) (by omega)) (subB_nil _)))))))
    ·have g4 := h4
     try simp only [kb] at g4
     refine Tr.cond_t rfl (congrArg Bool.not h4) ?_
     refine Tr.to_ret ?_
     refine Ex.ret_then ?_
     refine Ex.ret_block ?_
     refine Ex.ret_then ?_
     refine Ex.ret_block ?_
     refine Ex.keep [0] ?_
     exact Ex.ret0 rfl ⟨rfl, rfl, by rw [← r1]; first | rw [sift_end (by omega)]; rfl | rw [sift_stop2 (by omega) (by assumption) (by assumption)]; rfl | rw [sift_stop1 (by omega) (by first | (left; omega) | (right; assumption)) (by assumption)]; rfl⟩
   ·have g3 := h3
    try simp only [kb] at g3
    refine Tr.cond_f rfl h3 ?_
    refine Tr.to_end ?_
    refine Ex.go ?_
    refine Tr.seq ?_
    refine Tr.seq ?_
    refine Tr.quiet Sortr_mo (by kernel_rfl) ?_
    refine RunQ.val (lt rfl) (Y.move rfl) ?_
    refine RunQ.val (lt rfl) (Y.move rfl) ?_
    refine RunQ.val (lt rfl) (Y.move rfl) ?_
    refine RunQ.val (lt rfl) (Y.move rfl) ?_
    refine RunQ.val (lt rfl) (Y.addN ((f + r : Nat) : Int) rfl rfl (by omega) (by omega)) ?_
    refine RunQ.val (lt rfl) (Y.idxN (f + r) rfl rfl Sortr_es51 (by omega) (by omega)) ?_
    refine RunQ.val (lt rfl) (Y.ldA (enc := Rg.cells) (d := d) (rest := rest) (e := 53) (i := (f + r)) rfl Sortr_ag53 (Kn.at 0 rfl) Rg.enc (by first | omega | (simp only [swp_size, Array.size_setIfInBounds]; omega)) rfl) ?_
    refine RunQ.val (lt rfl) (Y.move rfl) ?_
    refine RunQ.val (lt rfl) (Y.move rfl) ?_
    refine RunQ.val (lt rfl) (Y.move rfl) ?_
    refine RunQ.val (lt rfl) (Y.addN ((f + ((2 * r) + 1) : Nat) : Int) rfl rfl (by omega) (by omega)) ?_
    refine RunQ.val (lt rfl) (Y.idxN (f + ((2 * r) + 1)) rfl rfl Sortr_es51 (by omega) (by omega)) ?_
    refine RunQ.val (lt rfl) (Y.ldA (enc := Rg.cells) (d := d) (rest := rest) (e := 53) (i := (f + ((2 * r) + 1))) rfl Sortr_ag53 (Kn.at 0 rfl) Rg.enc (by first | omega | (simp only [swp_size, Array.size_setIfInBounds]; omega)) rfl) ?_
    refine RunQ.call0 (l := [.tmp 49, .tmp 55]) rfl rfl rfl (lt rfl) ((hcmp (d[f + r]!) (d[f + ((2 * r) + 1)]!)).frame) ?_
    refine RunQ.val (lt rfl) (Y.int rfl rfl rfl) ?_
    refine RunQ.val (lt rfl) (Y.not rfl) ?_
    refine RunQ.to_end ?_
    refine Ex.go ?_
    rcases Bool.eq_false_or_eq_true (decide ((cm (d[f + r]!) (d[f + ((2 * r) + 1)]!)) < 0)) with h5 | h5
    ·have g5 := h5
     try simp only [kb] at g5
     refine Tr.cond_f rfl (congrArg Bool.not h5) ?_
     refine Tr.to_end ?_
     refine Ex.go ?_
     refine Tr.seq ?_
     refine Tr.anyT [(b, .cells (cel Rg.cells d rest).toArray 53 (0, 0))] 21 Sortr_mo ?_
     refine RunT.pure (i := 0) rfl (by kernel_rfl) (by kernel_rfl) (by kernel_rfl) (by kernel_rfl) (fun _ _ _ h => h) (lt rfl) (KnAll.cons (Kn.at 0 rfl) KnAll.nil) (fun _ => (Y.move rfl)) ?_
     refine RunT.pure (i := 1) rfl (by kernel_rfl) (by kernel_rfl) (by kernel_rfl) (by kernel_rfl) (fun _ _ _ h => h) (lt rfl) (KnAll.cons (Kn.at 0 rfl) KnAll.nil) (fun _ => (Y.move rfl)) ?_
     refine RunT.pure (i := 2) rfl (by kernel_rfl) (by kernel_rfl) (by kernel_rfl) (by kernel_rfl) (fun _ _ _ h => h) (lt rfl) (KnAll.cons (Kn.at 0 rfl) KnAll.nil) (fun _ => (Y.move rfl)) ?_
     refine RunT.pure (i := 3) rfl (by kernel_rfl) (by kernel_rfl) (by kernel_rfl) (by kernel_rfl) (fun _ _ _ h => h) (lt rfl) (KnAll.cons (Kn.at 0 rfl) KnAll.nil) (fun _ => (Y.addN ((f + r : Nat) : Int) rfl rfl (by omega) (by omega))) ?_
     refine RunT.pure (i := 4) rfl (by kernel_rfl) (by kernel_rfl) (by kernel_rfl) (by kernel_rfl) (fun _ _ _ h => h) (lt rfl) (KnAll.cons (Kn.at 0 rfl) KnAll.nil) (fun _ => (Y.move rfl)) ?_
     refine RunT.pure (i := 5) rfl (by kernel_rfl) (by kernel_rfl) (by kernel_rfl) (by kernel_rfl) (fun _ _ _ h => h) (lt rfl) (KnAll.cons (Kn.at 0 rfl) KnAll.nil) (fun _ => (Y.move rfl)) ?_
     refine RunT.pure (i := 6) rfl (by kernel_rfl) (by kernel_rfl) (by kernel_rfl) (by kernel_rfl) (fun _ _ _ h => h) (lt rfl) (KnAll.cons (Kn.at 0 rfl) KnAll.nil) (fun _ => (Y.move rfl)) ?_
     refine RunT.pure (i := 7) rfl (by kernel_rfl) (by kernel_rfl) (by kernel_rfl) (by kernel_rfl) (fun _ _ _ h => h) (lt rfl) (KnAll.cons (Kn.at 0 rfl) KnAll.nil) (fun _ => (Y.addN ((f + ((2 * r) + 1) : Nat) : Int) rfl rfl (by omega) (by omega))) ?_
     refine RunT.pure (i := 8) rfl (by kernel_rfl) (by kernel_rfl) (by kernel_rfl) (by kernel_rfl) (fun _ _ _ h => h) (lt rfl) (KnAll.cons (Kn.at 0 rfl) KnAll.nil) (fun _ => (Y.move rfl)) ?_
     refine RunT.pure (i := 9) rfl (by kernel_rfl) (by kernel_rfl) (by kernel_rfl) (by kernel_rfl) (fun _ _ _ h => h) (lt rfl) (KnAll.cons (Kn.at 0 rfl) KnAll.nil) (fun _ => (Y.move rfl)) ?_
     refine RunT.pure (i := 10) rfl (by kernel_rfl) (by kernel_rfl) (by kernel_rfl) (by kernel_rfl) (fun _ _ _ h => h) (lt rfl) (KnAll.cons (Kn.at 0 rfl) KnAll.nil) (fun _ => (Y.move rfl)) ?_
     refine RunT.pure (i := 11) rfl (by kernel_rfl) (by kernel_rfl) (by kernel_rfl) (by kernel_rfl) (fun _ _ _ h => h) (lt rfl) (KnAll.cons (Kn.at 0 rfl) KnAll.nil) (fun _ => (Y.addN ((f + ((2 * r) + 1) : Nat) : Int) rfl rfl (by omega) (by omega))) ?_
     refine RunT.pure (i := 12) rfl (by kernel_rfl) (by kernel_rfl) (by kernel_rfl) (by kernel_rfl) (fun _ _ _ h => h) (lt rfl) (KnAll.cons (Kn.at 0 rfl) KnAll.nil) (fun _ => (Y.idxN (f + ((2 * r) + 1)) rfl rfl Sortr_es51 (by omega) (by omega))) ?_
     refine RunT.take (i := 13) 0 rfl rfl (by kernel_rfl) (by kernel_rfl) (by kernel_rfl) (by kernel_rfl) (fun _ _ _ h => h) (lt rfl) (KnAll.cons (Kn.at 0 rfl) KnAll.nil) (fun _ => (Y.ldA (enc := Rg.cells) (d := d) (rest := rest) (e := 53) (i := (f + ((2 * r) + 1))) rfl Sortr_ag53 Kn.vk1 Rg.enc (by first | omega | (simp only [swp_size, Array.size_setIfInBounds]; omega)) rfl)) ?_
     refine RunT.pure (i := 14) rfl (by kernel_rfl) (by kernel_rfl) (by kernel_rfl) (by kernel_rfl) (fun _ _ _ h => h) (lt rfl) (KnAll.cons (Kn.at 0 rfl) KnAll.nil) (fun _ => (Y.move rfl)) ?_
     refine RunT.pure (i := 15) rfl (by kernel_rfl) (by kernel_rfl) (by kernel_rfl) (by kernel_rfl) (fun _ _ _ h => h) (lt rfl) (KnAll.cons (Kn.at 0 rfl) KnAll.nil) (fun _ => (Y.move rfl)) ?_
     refine RunT.pure (i := 16) rfl (by kernel_rfl) (by kernel_rfl) (by kernel_rfl) (by kernel_rfl) (fun _ _ _ h => h) (lt rfl) (KnAll.cons (Kn.at 0 rfl) KnAll.nil) (fun _ => (Y.move rfl)) ?_
     refine RunT.pure (i := 17) rfl (by kernel_rfl) (by kernel_rfl) (by kernel_rfl) (by kernel_rfl) (fun _ _ _ h => h) (lt rfl) (KnAll.cons (Kn.at 0 rfl) KnAll.nil) (fun _ => (Y.addN ((f + r : Nat) : Int) rfl rfl (by omega) (by omega))) ?_
     refine RunT.pure (i := 18) rfl (by kernel_rfl) (by kernel_rfl) (by kernel_rfl) (by kernel_rfl) (fun _ _ _ h => h) (lt rfl) (KnAll.cons (Kn.at 0 rfl) KnAll.nil) (fun _ => (Y.idxN (f + r) rfl rfl Sortr_es51 (by omega) (by omega))) ?_
     refine RunT.take (i := 19) 0 rfl rfl (by kernel_rfl) (by kernel_rfl) (by kernel_rfl) (by kernel_rfl) (fun _ _ _ h => h) (lt rfl) (KnAll.cons (Kn.at 0 rfl) KnAll.nil) (fun _ => (Y.ldA (enc := Rg.cells) (d := d) (rest := rest) (e := 53) (i := (f + r)) rfl Sortr_ag53 Kn.vk1 Rg.enc (by first | omega | (simp only [swp_size, Array.size_setIfInBounds]; omega)) rfl)) ?_
     refine RunT.pure (i := 20) rfl (by kernel_rfl) (by kernel_rfl) (by kernel_rfl) (by kernel_rfl) (fun _ _ _ h => h) (lt rfl) (KnAll.cons (Kn.at 0 rfl) KnAll.nil) (fun _ => (Y.idxN (f + r) rfl rfl Sortr_es51 (by omega) (by omega))) ?_
     refine RunT.one (i := 21) (by kernel_rfl) rfl  ?_ 
     refine Run.stD (enc := Rg.cells) (d := d) (rest := rest) (e := 53) (i := (f + r)) (s := 0) (d[f + ((2 * r) + 1)]!) rfl rfl Sortr_sz53 rfl Rg.enc (by first | omega | (simp only [swp_size, Array.size_setIfInBounds]; omega)) rfl ?_
     refine Run.to_end ?_
     refine Ex.anyTz (i := 21) rfl rfl rfl ?_
     refine RunT.one (i := 22) (by kernel_rfl) rfl  ?_ 
     refine Run.val (lt rfl) (Y.idxN (f + ((2 * r) + 1)) rfl rfl Sortr_es51 (by omega) (by omega)) ?_
     refine Run.to_end ?_
     refine Ex.anyTz (i := 22) rfl rfl rfl ?_
     refine RunT.one (i := 23) (by kernel_rfl) rfl  ?_ 
     refine Run.stD (enc := Rg.cells) (d := (d).setIfInBounds (f + r) (d[f + ((2 * r) + 1)]!)) (rest := rest) (e := 53) (i := (f + ((2 * r) + 1))) (s := 0) (d[f + r]!) rfl rfl Sortr_sz53 rfl Rg.enc (by first | omega | (simp only [swp_size, Array.size_setIfInBounds]; omega)) rfl ?_
     refine Run.heapTo (H' := [sgD Rg.cells 53 b rest (swp d (f + r) (f + ((2 * r) + 1)))]) rfl ?_
     refine Run.to_end ?_
     refine Ex.anyTz (i := 23) rfl rfl rfl ?_
     refine RunT.done (by kernel_rfl) ?_
     refine Ex.go ?_
     refine Tr.region ?_
     refine Run.val (lt rfl) (Y.move rfl) ?_
     refine Run.val (lt rfl) (Y.assign rfl) ?_
     refine Run.to_end ?_
     refine Ex.end_block ?_
     exact Ex.round (⟨(2 * r) + 1, swp d (f + r) (f + ((2 * r) + 1))⟩ : Nat × Array Rg) ⟨by first | exact (sift_go2 (by omega) (by assumption) (by assumption)).symm.trans r1 | exact (sift_go1 (by omega) (by first | (left; omega) | (right; assumption)) (by assumption)).symm.trans r1, by simp only [swp_size]; exact r2, by (try dsimp only); omega⟩ (by dsimp only; omega) rfl rfl (subB_cons (by first | rfl | exact congrArg (fun z => some (Value.int _ z)) (by omega)) (subB_cons (by first | rfl | exact congrArg (fun z => some (Value.int _ z)) (by omega)) (subB_cons (by first | rfl | exact congrArg (fun z => some (Value.int _ z)) (by omega)) (subB_cons (by first | rfl | exact congrArg (fun z => some (Value.int _ z)) (by omega)) (subB_cons (by first | rfl | exact congrArg (fun z => some (Value.int _ z)) (by omega)) (subB_cons (by first | rfl | exact congrArg (fun z => some (Value.int _ z)) (by omega)) (subB_nil _)))))))
    ·have g5 := h5
     try simp only [kb] at g5
     refine Tr.cond_t rfl (congrArg Bool.not h5) ?_
     refine Tr.to_ret ?_
     refine Ex.ret_then ?_
     refine Ex.ret_block ?_
     refine Ex.ret_then ?_
     refine Ex.ret_block ?_
     refine Ex.keep [0] ?_
     exact Ex.ret0 rfl ⟨rfl, rfl, by rw [← r1]; first | rw [sift_end (by omega)]; rfl | rw [sift_stop2 (by omega) (by assumption) (by assumption)]; rfl | rw [sift_stop1 (by omega) (by first | (left; omega) | (right; assumption)) (by assumption)]; rfl⟩
  ·have g2 := h2
   try simp only [kb] at g2
   refine RunQ.off rfl rfl rfl h2 rfl (lt rfl) ?_
   refine RunQ.off rfl rfl rfl h2 rfl (lt rfl) ?_
   refine RunQ.off rfl rfl rfl h2 rfl (lt rfl) ?_
   refine RunQ.off rfl rfl rfl h2 rfl (lt rfl) ?_
   refine RunQ.off rfl rfl rfl h2 rfl (lt rfl) ?_
   refine RunQ.off rfl rfl rfl h2 rfl (lt rfl) ?_
   refine RunQ.off rfl rfl rfl h2 rfl (lt rfl) ?_
   refine RunQ.off rfl rfl rfl h2 rfl (lt rfl) ?_
   refine RunQ.off rfl rfl rfl h2 rfl (lt rfl) ?_
   refine RunQ.off rfl rfl rfl h2 rfl (lt rfl) ?_
   refine RunQ.off rfl rfl rfl h2 rfl (lt rfl) ?_
   refine RunQ.off rfl rfl rfl h2 rfl (lt rfl) ?_
   refine RunQ.off rfl rfl rfl h2 rfl (lt rfl) ?_
   refine RunQ.off rfl rfl rfl h2 rfl (lt rfl) ?_
   refine RunQ.off rfl rfl rfl h2 rfl (lt rfl) ?_
   refine RunQ.off rfl rfl rfl h2 rfl (lt rfl) ?_
   refine RunQ.val (lt rfl) (Y.pick_f rfl h2 rfl) ?_
   refine RunQ.to_end ?_
   refine Ex.go ?_
   refine Tr.cond_f rfl rfl ?_
   refine Tr.to_end ?_
   refine Ex.go ?_
   refine Tr.seq ?_
   refine Tr.seq ?_
   refine Tr.quiet Sortr_mo (by kernel_rfl) ?_
   refine RunQ.val (lt rfl) (Y.move rfl) ?_
   refine RunQ.val (lt rfl) (Y.move rfl) ?_
   refine RunQ.val (lt rfl) (Y.move rfl) ?_
   refine RunQ.val (lt rfl) (Y.move rfl) ?_
   refine RunQ.val (lt rfl) (Y.addN ((f + r : Nat) : Int) rfl rfl (by omega) (by omega)) ?_
   refine RunQ.val (lt rfl) (Y.idxN (f + r) rfl rfl Sortr_es51 (by omega) (by omega)) ?_
   refine RunQ.val (lt rfl) (Y.ldA (enc := Rg.cells) (d := d) (rest := rest) (e := 53) (i := (f + r)) rfl Sortr_ag53 (Kn.at 0 rfl) Rg.enc (by first | omega | (simp only [swp_size, Array.size_setIfInBounds]; omega)) rfl) ?_
   refine RunQ.val (lt rfl) (Y.move rfl) ?_
   refine RunQ.val (lt rfl) (Y.move rfl) ?_
   refine RunQ.val (lt rfl) (Y.move rfl) ?_
   refine RunQ.val (lt rfl) (Y.addN ((f + ((2 * r) + 1) : Nat) : Int) rfl rfl (by omega) (by omega)) ?_
   refine RunQ.val (lt rfl) (Y.idxN (f + ((2 * r) + 1)) rfl rfl Sortr_es51 (by omega) (by omega)) ?_
   refine RunQ.val (lt rfl) (Y.ldA (enc := Rg.cells) (d := d) (rest := rest) (e := 53) (i := (f + ((2 * r) + 1))) rfl Sortr_ag53 (Kn.at 0 rfl) Rg.enc (by first | omega | (simp only [swp_size, Array.size_setIfInBounds]; omega)) rfl) ?_
   refine RunQ.call0 (l := [.tmp 49, .tmp 55]) rfl rfl rfl (lt rfl) ((hcmp (d[f + r]!) (d[f + ((2 * r) + 1)]!)).frame) ?_
   refine RunQ.val (lt rfl) (Y.int rfl rfl rfl) ?_
   refine RunQ.val (lt rfl) (Y.not rfl) ?_
   refine RunQ.to_end ?_
   refine Ex.go ?_
   rcases Bool.eq_false_or_eq_true (decide ((cm (d[f + r]!) (d[f + ((2 * r) + 1)]!)) < 0)) with h6 | h6
   ·have g6 := h6
    try simp only [kb] at g6
    refine Tr.cond_f rfl (congrArg Bool.not h6) ?_
    refine Tr.to_end ?_
    refine Ex.go ?_
    refine Tr.seq ?_
    refine Tr.anyT [(b, .cells (cel Rg.cells d rest).toArray 53 (0, 0))] 21 Sortr_mo ?_
    refine RunT.pure (i := 0) rfl (by kernel_rfl) (by kernel_rfl) (by kernel_rfl) (by kernel_rfl) (fun _ _ _ h => h) (lt rfl) (KnAll.cons (Kn.at 0 rfl) KnAll.nil) (fun _ => (Y.move rfl)) ?_
    refine RunT.pure (i := 1) rfl (by kernel_rfl) (by kernel_rfl) (by kernel_rfl) (by kernel_rfl) (fun _ _ _ h => h) (lt rfl) (KnAll.cons (Kn.at 0 rfl) KnAll.nil) (fun _ => (Y.move rfl)) ?_
    refine RunT.pure (i := 2) rfl (by kernel_rfl) (by kernel_rfl) (by kernel_rfl) (by kernel_rfl) (fun _ _ _ h => h) (lt rfl) (KnAll.cons (Kn.at 0 rfl) KnAll.nil) (fun _ => (Y.move rfl)) ?_
    refine RunT.pure (i := 3) rfl (by kernel_rfl) (by kernel_rfl) (by kernel_rfl) (by kernel_rfl) (fun _ _ _ h => h) (lt rfl) (KnAll.cons (Kn.at 0 rfl) KnAll.nil) (fun _ => (Y.addN ((f + r : Nat) : Int) rfl rfl (by omega) (by omega))) ?_
    refine RunT.pure (i := 4) rfl (by kernel_rfl) (by kernel_rfl) (by kernel_rfl) (by kernel_rfl) (fun _ _ _ h => h) (lt rfl) (KnAll.cons (Kn.at 0 rfl) KnAll.nil) (fun _ => (Y.move rfl)) ?_
    refine RunT.pure (i := 5) rfl (by kernel_rfl) (by kernel_rfl) (by kernel_rfl) (by kernel_rfl) (fun _ _ _ h => h) (lt rfl) (KnAll.cons (Kn.at 0 rfl) KnAll.nil) (fun _ => (Y.move rfl)) ?_
    refine RunT.pure (i := 6) rfl (by kernel_rfl) (by kernel_rfl) (by kernel_rfl) (by kernel_rfl) (fun _ _ _ h => h) (lt rfl) (KnAll.cons (Kn.at 0 rfl) KnAll.nil) (fun _ => (Y.move rfl)) ?_
    refine RunT.pure (i := 7) rfl (by kernel_rfl) (by kernel_rfl) (by kernel_rfl) (by kernel_rfl) (fun _ _ _ h => h) (lt rfl) (KnAll.cons (Kn.at 0 rfl) KnAll.nil) (fun _ => (Y.addN ((f + ((2 * r) + 1) : Nat) : Int) rfl rfl (by omega) (by omega))) ?_
    refine RunT.pure (i := 8) rfl (by kernel_rfl) (by kernel_rfl) (by kernel_rfl) (by kernel_rfl) (fun _ _ _ h => h) (lt rfl) (KnAll.cons (Kn.at 0 rfl) KnAll.nil) (fun _ => (Y.move rfl)) ?_
    refine RunT.pure (i := 9) rfl (by kernel_rfl) (by kernel_rfl) (by kernel_rfl) (by kernel_rfl) (fun _ _ _ h => h) (lt rfl) (KnAll.cons (Kn.at 0 rfl) KnAll.nil) (fun _ => (Y.move rfl)) ?_
    refine RunT.pure (i := 10) rfl (by kernel_rfl) (by kernel_rfl) (by kernel_rfl) (by kernel_rfl) (fun _ _ _ h => h) (lt rfl) (KnAll.cons (Kn.at 0 rfl) KnAll.nil) (fun _ => (Y.move rfl)) ?_
    refine RunT.pure (i := 11) rfl (by kernel_rfl) (by kernel_rfl) (by kernel_rfl) (by kernel_rfl) (fun _ _ _ h => h) (lt rfl) (KnAll.cons (Kn.at 0 rfl) KnAll.nil) (fun _ => (Y.addN ((f + ((2 * r) + 1) : Nat) : Int) rfl rfl (by omega) (by omega))) ?_
    refine RunT.pure (i := 12) rfl (by kernel_rfl) (by kernel_rfl) (by kernel_rfl) (by kernel_rfl) (fun _ _ _ h => h) (lt rfl) (KnAll.cons (Kn.at 0 rfl) KnAll.nil) (fun _ => (Y.idxN (f + ((2 * r) + 1)) rfl rfl Sortr_es51 (by omega) (by omega))) ?_
    refine RunT.take (i := 13) 0 rfl rfl (by kernel_rfl) (by kernel_rfl) (by kernel_rfl) (by kernel_rfl) (fun _ _ _ h => h) (lt rfl) (KnAll.cons (Kn.at 0 rfl) KnAll.nil) (fun _ => (Y.ldA (enc := Rg.cells) (d := d) (rest := rest) (e := 53) (i := (f + ((2 * r) + 1))) rfl Sortr_ag53 Kn.vk1 Rg.enc (by first | omega | (simp only [swp_size, Array.size_setIfInBounds]; omega)) rfl)) ?_
    refine RunT.pure (i := 14) rfl (by kernel_rfl) (by kernel_rfl) (by kernel_rfl) (by kernel_rfl) (fun _ _ _ h => h) (lt rfl) (KnAll.cons (Kn.at 0 rfl) KnAll.nil) (fun _ => (Y.move rfl)) ?_
    refine RunT.pure (i := 15) rfl (by kernel_rfl) (by kernel_rfl) (by kernel_rfl) (by kernel_rfl) (fun _ _ _ h => h) (lt rfl) (KnAll.cons (Kn.at 0 rfl) KnAll.nil) (fun _ => (Y.move rfl)) ?_
    refine RunT.pure (i := 16) rfl (by kernel_rfl) (by kernel_rfl) (by kernel_rfl) (by kernel_rfl) (fun _ _ _ h => h) (lt rfl) (KnAll.cons (Kn.at 0 rfl) KnAll.nil) (fun _ => (Y.move rfl)) ?_
    refine RunT.pure (i := 17) rfl (by kernel_rfl) (by kernel_rfl) (by kernel_rfl) (by kernel_rfl) (fun _ _ _ h => h) (lt rfl) (KnAll.cons (Kn.at 0 rfl) KnAll.nil) (fun _ => (Y.addN ((f + r : Nat) : Int) rfl rfl (by omega) (by omega))) ?_
    refine RunT.pure (i := 18) rfl (by kernel_rfl) (by kernel_rfl) (by kernel_rfl) (by kernel_rfl) (fun _ _ _ h => h) (lt rfl) (KnAll.cons (Kn.at 0 rfl) KnAll.nil) (fun _ => (Y.idxN (f + r) rfl rfl Sortr_es51 (by omega) (by omega))) ?_
    refine RunT.take (i := 19) 0 rfl rfl (by kernel_rfl) (by kernel_rfl) (by kernel_rfl) (by kernel_rfl) (fun _ _ _ h => h) (lt rfl) (KnAll.cons (Kn.at 0 rfl) KnAll.nil) (fun _ => (Y.ldA (enc := Rg.cells) (d := d) (rest := rest) (e := 53) (i := (f + r)) rfl Sortr_ag53 Kn.vk1 Rg.enc (by first | omega | (simp only [swp_size, Array.size_setIfInBounds]; omega)) rfl)) ?_
    refine RunT.pure (i := 20) rfl (by kernel_rfl) (by kernel_rfl) (by kernel_rfl) (by kernel_rfl) (fun _ _ _ h => h) (lt rfl) (KnAll.cons (Kn.at 0 rfl) KnAll.nil) (fun _ => (Y.idxN (f + r) rfl rfl Sortr_es51 (by omega) (by omega))) ?_
    refine RunT.one (i := 21) (by kernel_rfl) rfl  ?_ 
    refine Run.stD (enc := Rg.cells) (d := d) (rest := rest) (e := 53) (i := (f + r)) (s := 0) (d[f + ((2 * r) + 1)]!) rfl rfl Sortr_sz53 rfl Rg.enc (by first | omega | (simp only [swp_size, Array.size_setIfInBounds]; omega)) rfl ?_
    refine Run.to_end ?_
    refine Ex.anyTz (i := 21) rfl rfl rfl ?_
    refine RunT.one (i := 22) (by kernel_rfl) rfl  ?_ 
    refine Run.val (lt rfl) (Y.idxN (f + ((2 * r) + 1)) rfl rfl Sortr_es51 (by omega) (by omega)) ?_
    refine Run.to_end ?_
    refine Ex.anyTz (i := 22) rfl rfl rfl ?_
    refine RunT.one (i := 23) (by kernel_rfl) rfl  ?_ 
    refine Run.stD (enc := Rg.cells) (d := (d).setIfInBounds (f + r) (d[f + ((2 * r) + 1)]!)) (rest := rest) (e := 53) (i := (f + ((2 * r) + 1))) (s := 0) (d[f + r]!) rfl rfl Sortr_sz53 rfl Rg.enc (by first | omega | (simp only [swp_size, Array.size_setIfInBounds]; omega)) rfl ?_
    refine Run.heapTo (H' := [sgD Rg.cells 53 b rest (swp d (f + r) (f + ((2 * r) + 1)))]) rfl ?_
    refine Run.to_end ?_
    refine Ex.anyTz (i := 23) rfl rfl rfl ?_
    refine RunT.done (by kernel_rfl) ?_
    refine Ex.go ?_
    refine Tr.region ?_
    refine Run.val (lt rfl) (Y.move rfl) ?_
    refine Run.val (lt rfl) (Y.assign rfl) ?_
    refine Run.to_end ?_
    refine Ex.end_block ?_
    exact Ex.round (⟨(2 * r) + 1, swp d (f + r) (f + ((2 * r) + 1))⟩ : Nat × Array Rg) ⟨by first | exact (sift_go2 (by omega) (by assumption) (by assumption)).symm.trans r1 | exact (sift_go1 (by omega) (by first | (left; omega) | (right; assumption)) (by assumption)).symm.trans r1, by simp only [swp_size]; exact r2, by (try dsimp only); omega⟩ (by dsimp only; omega) rfl rfl (subB_cons (by first | rfl | exact congrArg (fun z => some (Value.int _ z)) (by omega)) (subB_cons (by first | rfl | exact congrArg (fun z => some (Value.int _ z)) (by omega)) (subB_cons (by first | rfl | exact congrArg (fun z => some (Value.int _ z)) (by omega)) (subB_cons (by first | rfl | exact congrArg (fun z => some (Value.int _ z)) (by omega)) (subB_cons (by first | rfl | exact congrArg (fun z => some (Value.int _ z)) (by omega)) (subB_cons (by first | rfl | exact congrArg (fun z => some (Value.int _ z)) (by omega)) (subB_nil _)))))))
   ·have g6 := h6
    try simp only [kb] at g6
    refine Tr.cond_t rfl (congrArg Bool.not h6) ?_
    refine Tr.to_ret ?_
    refine Ex.ret_then ?_
    refine Ex.ret_block ?_
    refine Ex.ret_then ?_
    refine Ex.ret_block ?_
    refine Ex.keep [0] ?_
    exact Ex.ret0 rfl ⟨rfl, rfl, by rw [← r1]; first | rw [sift_end (by omega)]; rfl | rw [sift_stop2 (by omega) (by assumption) (by assumption)]; rfl | rw [sift_stop1 (by omega) (by first | (left; omega) | (right; assumption)) (by assumption)]; rfl⟩

theorem heap_r {V : Vw} {n c b : Nat} {rest : List Value} {d0 : Array Rg} {gf : FuncId} {caps : List Value} {cm : Rg → Rg → Int} {x y : Nat}  (hN : n ≤ 1073741824) (hd : d0.size = n) (hx : x < y) (hy : y ≤ n)  (hcmp : ∀ x y : Rg, Does Try.prog gf (.agg (Rg.cells x).toArray :: .agg (Rg.cells y).toArray :: caps) V [] (Pv (.int .i64 (cm x y)) V [])) (hswo : SWO (ltc cm))  : Does Try.prog 160 [.slice (some ⟨b, 0, none⟩) n c, .int .i64 ((x : Nat) : Int), .int .i64 ((y : Nat) : Int), .func (.func gf) #[] caps.toArray] V [sgD Rg.cells 53 b rest d0] (fun v V' H' => V' = V ∧ v = .tuple #[] ∧ H' = [sgD Rg.cells 53 b rest (heapSort (ltc cm) d0 x y)]) := by
 refine Does.intro Try.func160 rfl rfl (le rfl) (fun B => ?_)
 refine Tr.seq ?_
 refine Tr.region ?_
 refine Run.val (lt rfl) (Y.move rfl) ?_
 refine Run.val (lt rfl) (Y.assign rfl) ?_
 refine Run.to_end ?_
 refine Ex.go ?_
 refine Tr.seq ?_
 refine Tr.region ?_
 refine Run.val (lt rfl) (Y.assign rfl) ?_
 refine Run.to_end ?_
 refine Ex.go ?_
 refine Tr.seq ?_
 refine Tr.region ?_
 refine Run.val (lt rfl) (Y.move rfl) ?_
 refine Run.val (lt rfl) (Y.move rfl) ?_
 refine Run.val (lt rfl) (Y.subN ((y - x : Nat) : Int) rfl rfl (by omega) (by omega)) ?_
 refine Run.val (lt rfl) (Y.assign rfl) ?_
 refine Run.to_end ?_
 refine Ex.go ?_
 refine Tr.seq ?_
 refine Tr.seq ?_
 refine Tr.region ?_
 refine Run.val (lt rfl) (Y.move rfl) ?_
 refine Run.val (lt rfl) (Y.subN (((y - x) - 1 : Nat) : Int) rfl rfl (by omega) (by omega)) ?_
 refine Run.val (lt rfl) (Y.quoN (m := (y - x) - 1) (n := 2) rfl rfl (by omega) (by omega)) ?_
 refine Run.val (lt rfl) (Y.assign rfl) ?_
 refine Run.to_end ?_
 refine Ex.go ?_
 refine Tr.block ?_
 refine Tr.loop (X := Int × Array Rg) (fun z0 => V) (fun z0 => [sgD Rg.cells 53 b rest z0.2]) (fun z0 => [(0, .slice (some ⟨b, 0, none⟩) n c), (1, .int .i64 ((x : Nat) : Int)), (2, .int .i64 ((y : Nat) : Int)), (3, .func (.func gf) #[] caps.toArray), (8, .int .i64 ((x : Nat) : Int)), (9, .int .i64 0), (10, .int .i64 ((y - x : Nat) : Int)), (11, .int .i64 z0.1)]) (fun z0 => heapBuild (ltc cm) (y - x) x (z0.1 + 1).toNat z0.2 = heapBuild (ltc cm) (y - x) x ((y - x - 1) / 2 + 1) d0 ∧ z0.2.size = n ∧ -1 ≤ z0.1 ∧ z0.1 < ((y - x : Nat) : Int)) (fun z0 => (z0.1 + 1).toNat) (⟨(((y - x) - 1) / 2 : Nat), d0⟩ : Int × Array Rg) ⟨rfl, hd, by (try dsimp only); omega, by (try dsimp only); omega⟩ (fun a w i => ⟨i.1.sub (subB_cons (by first | rfl | exact congrArg (fun z => some (Value.int _ z)) (by omega)) (subB_cons (by first | rfl | exact congrArg (fun z => some (Value.int _ z)) (by omega)) (subB_cons (by first | rfl | exact congrArg (fun z => some (Value.int _ z)) (by omega)) (subB_cons (by first | rfl | exact congrArg (fun z => some (Value.int _ z)) (by omega)) (subB_cons (by first | rfl | exact congrArg (fun z => some (Value.int _ z)) (by omega)) (subB_cons (by first | rfl | exact congrArg (fun z => some (Value.int _ z)) (by omega)) (subB_cons (by first | rfl | exact congrArg (fun z => some (Value.int _ z)) (by omega)) (subB_cons (by first | rfl | exact congrArg (fun z => some (Value.int _ z)) (by omega)) (subB_nil _))))))))), i.2⟩) ?_
 rintro ⟨i, d⟩ ⟨r1, r2, r3, r4⟩
 try dsimp only at r1 r2 r3 r4 ⊢
 refine Tr.seq ?_
 refine Tr.seq ?_
 refine Tr.region ?_
 refine Run.val (lt rfl) (Y.move rfl) ?_
 refine Run.val (lt rfl) (Y.int rfl rfl rfl) ?_
 refine Run.to_end ?_
 refine Ex.go ?_
 rcases Bool.eq_false_or_eq_true (decide (i ≥ 0)) with h1 | h1
 ·have g1 := h1
  try simp only [kb] at g1
  obtain ⟨k, rfl⟩ : ∃ k : Nat, i = (k : Int) := ⟨i.toNat, by omega⟩
  refine Tr.cond_t rfl h1 ?_
  refine Tr.to_end ?_
  refine Ex.go ?_
  refine Tr.seq ?_
  refine Tr.block ?_
  refine Tr.region ?_
  refine Run.val (lt rfl) (Y.move rfl) ?_
  refine Run.val (lt rfl) (Y.move rfl) ?_
  refine Run.val (lt rfl) (Y.move rfl) ?_
  refine Run.val (lt rfl) (Y.move rfl) ?_
  refine Run.val (lt rfl) (Y.move rfl) ?_
  refine Run.call [0] (l := [.tmp 24, .tmp 25, .tmp 26, .tmp 27, .tmp 28]) rfl rfl rfl (lt rfl) (sift_r (l := k) (m := y - x) (f := x) (d0 := d) hN (by first | assumption | (simp only [swp_size, sift_sz]; assumption)) (by omega) (by omega) hcmp hswo) (fun v2 V2 H2 hle3 hR => ?_)
  obtain ⟨hV, rfl, rfl⟩ := hR; replace hV := hV.symm; subst hV
  refine Run.heapTo (H' := [sgD Rg.cells 53 b rest (siftDown (ltc cm) (y - x) x k d)]) rfl ?_
  refine Run.to_end ?_
  refine Ex.end_block ?_
  refine Ex.go ?_
  refine Tr.region ?_
  refine Run.val (lt rfl) (Y.move rfl) ?_
  refine Run.val (lt rfl) (Y.sub rfl rfl (by omega)) ?_
  refine Run.val (lt rfl) (Y.assign rfl) ?_
  refine Run.to_end ?_
  exact Ex.round (⟨(k : Int) - 1, siftDown (ltc cm) (y - x) x k d⟩ : Int × Array Rg) ⟨by dsimp only; rw [show ((k : Int) - 1 + 1).toNat = k by omega]; exact r1, by simp only [sift_sz]; exact r2, by (try dsimp only); omega, by (try dsimp only); omega⟩ (by dsimp only; omega) rfl rfl (subB_cons (by first | rfl | exact congrArg (fun z => some (Value.int _ z)) (by omega)) (subB_cons (by first | rfl | exact congrArg (fun z => some (Value.int _ z)) (by omega)) (subB_cons (by first | rfl | exact congrArg (fun z => some (Value.int _ z)) (by omega)) (subB_cons (by first | rfl | exact congrArg (fun z => some (Value.int _ z)) (by omega)) (subB_cons (by first | rfl | exact congrArg (fun z => some (Value.int _ z)) (by omega)) (subB_cons (by first | rfl | exact congrArg (fun z => some (Value.int _ z)) (by omega)) (subB_cons (by first | rfl | exact congrArg (fun z => some (Value.int _ z)) (by omega)) (subB_cons (by first | rfl | exact congrArg (fun z => some (Value.int _ z)) (by omega)) (subB_nil _)))))))))
 ·have g1 := h1
  try simp only [kb] at g1
  refine Tr.cond_f rfl h1 ?_
  refine Tr.to_exit ?_
  refine Ex.exit_then ?_
  refine Ex.exit_then ?_
  refine Ex.exit_in ?_
  refine Ex.go ?_
  refine Tr.seq ?_
  refine Tr.region ?_
  refine Run.val (lt rfl) (Y.move rfl) ?_
  refine Run.val (lt rfl) (Y.subN (((y - x) - 1 : Nat) : Int) rfl rfl (by omega) (by omega)) ?_
  refine Run.val (lt rfl) (Y.assign rfl) ?_
  refine Run.to_end ?_
  refine Ex.go ?_
  refine Tr.block ?_
  refine Tr.loop (X := Int × Array Rg) (fun z0 => V) (fun z0 => [sgD Rg.cells 53 b rest z0.2]) (fun z0 => [(0, .slice (some ⟨b, 0, none⟩) n c), (1, .int .i64 ((x : Nat) : Int)), (2, .int .i64 ((y : Nat) : Int)), (3, .func (.func gf) #[] caps.toArray), (8, .int .i64 ((x : Nat) : Int)), (9, .int .i64 0), (10, .int .i64 ((y - x : Nat) : Int)), (12, .int .i64 z0.1)]) (fun z0 => heapPop (ltc cm) x (z0.1 + 1).toNat z0.2 = heapSort (ltc cm) d0 x y ∧ z0.2.size = n ∧ -1 ≤ z0.1 ∧ z0.1 < ((y - x : Nat) : Int)) (fun z0 => (z0.1 + 1).toNat) (⟨((y - x) - 1 : Nat), d⟩ : Int × Array Rg) ⟨by dsimp only; rw [heapSort, ← r1, show i = -1 by omega, show ((((y - x) - 1 : Nat) : Int) + 1).toNat = y - x by omega]; rfl, r2, by (try dsimp only); omega, by (try dsimp only); omega⟩ (fun a w i => ⟨i.1.sub (subB_cons (by first | rfl | exact congrArg (fun z => some (Value.int _ z)) (by omega)) (subB_cons (by first | rfl | exact congrArg (fun z => some (Value.int _ z)) (by omega)) (subB_cons (by first | rfl | exact congrArg (fun z => some (Value.int _ z)) (by omega)) (subB_cons (by first | rfl | exact congrArg (fun z => some (Value.int _ z)) (by omega)) (subB_cons (by first | rfl | exact congrArg (fun z => some (Value.int _ z)) (by omega)) (subB_cons (by first | rfl | exact congrArg (fun z => some (Value.int _ z)) (by omega)) (subB_cons (by first | rfl | exact congrArg (fun z => some (Value.int _ z)) (by omega)) (subB_cons (by first | rfl | exact congrArg (fun z => some (Value.int _ z)) (by omega)) (subB_nil _))))))))), i.2⟩) ?_
  rintro ⟨u, f⟩ ⟨k1, k2, k3, k4⟩
  try dsimp only at k1 k2 k3 k4 ⊢
  refine Tr.seq ?_
  refine Tr.seq ?_
  refine Tr.region ?_
  refine Run.val (lt rfl) (Y.move rfl) ?_
  refine Run.val (lt rfl) (Y.int rfl rfl rfl) ?_
  refine Run.to_end ?_
  refine Ex.go ?_
  rcases Bool.eq_false_or_eq_true (decide (u ≥ 0)) with h4 | h4
  ·have g4 := h4
   try simp only [kb] at g4
   obtain ⟨k, rfl⟩ : ∃ k : Nat, u = (k : Int) := ⟨u.toNat, by omega⟩
   refine Tr.cond_t rfl h4 ?_
   refine Tr.to_end ?_
   refine Ex.go ?_
   refine Tr.seq ?_
   refine Tr.block ?_
   refine Tr.seq ?_
   refine Tr.anyT [(b, .cells (cel Rg.cells f rest).toArray 53 (0, 0))] 17 Sortr_mo ?_
   refine RunT.pure (i := 0) rfl (by kernel_rfl) (by kernel_rfl) (by kernel_rfl) (by kernel_rfl) (fun _ _ _ h => h) (lt rfl) (KnAll.cons (Kn.at 0 rfl) KnAll.nil) (fun _ => (Y.move rfl)) ?_
   refine RunT.pure (i := 1) rfl (by kernel_rfl) (by kernel_rfl) (by kernel_rfl) (by kernel_rfl) (fun _ _ _ h => h) (lt rfl) (KnAll.cons (Kn.at 0 rfl) KnAll.nil) (fun _ => (Y.move rfl)) ?_
   refine RunT.pure (i := 2) rfl (by kernel_rfl) (by kernel_rfl) (by kernel_rfl) (by kernel_rfl) (fun _ _ _ h => h) (lt rfl) (KnAll.cons (Kn.at 0 rfl) KnAll.nil) (fun _ => (Y.move rfl)) ?_
   refine RunT.pure (i := 3) rfl (by kernel_rfl) (by kernel_rfl) (by kernel_rfl) (by kernel_rfl) (fun _ _ _ h => h) (lt rfl) (KnAll.cons (Kn.at 0 rfl) KnAll.nil) (fun _ => (Y.move rfl)) ?_
   refine RunT.pure (i := 4) rfl (by kernel_rfl) (by kernel_rfl) (by kernel_rfl) (by kernel_rfl) (fun _ _ _ h => h) (lt rfl) (KnAll.cons (Kn.at 0 rfl) KnAll.nil) (fun _ => (Y.move rfl)) ?_
   refine RunT.pure (i := 5) rfl (by kernel_rfl) (by kernel_rfl) (by kernel_rfl) (by kernel_rfl) (fun _ _ _ h => h) (lt rfl) (KnAll.cons (Kn.at 0 rfl) KnAll.nil) (fun _ => (Y.addN ((x + k : Nat) : Int) rfl rfl (by omega) (by omega))) ?_
   refine RunT.pure (i := 6) rfl (by kernel_rfl) (by kernel_rfl) (by kernel_rfl) (by kernel_rfl) (fun _ _ _ h => h) (lt rfl) (KnAll.cons (Kn.at 0 rfl) KnAll.nil) (fun _ => (Y.move rfl)) ?_
   refine RunT.pure (i := 7) rfl (by kernel_rfl) (by kernel_rfl) (by kernel_rfl) (by kernel_rfl) (fun _ _ _ h => h) (lt rfl) (KnAll.cons (Kn.at 0 rfl) KnAll.nil) (fun _ => (Y.move rfl)) ?_
   refine RunT.pure (i := 8) rfl (by kernel_rfl) (by kernel_rfl) (by kernel_rfl) (by kernel_rfl) (fun _ _ _ h => h) (lt rfl) (KnAll.cons (Kn.at 0 rfl) KnAll.nil) (fun _ => (Y.move rfl)) ?_
   refine RunT.pure (i := 9) rfl (by kernel_rfl) (by kernel_rfl) (by kernel_rfl) (by kernel_rfl) (fun _ _ _ h => h) (lt rfl) (KnAll.cons (Kn.at 0 rfl) KnAll.nil) (fun _ => (Y.addN ((x + k : Nat) : Int) rfl rfl (by omega) (by omega))) ?_
   refine RunT.pure (i := 10) rfl (by kernel_rfl) (by kernel_rfl) (by kernel_rfl) (by kernel_rfl) (fun _ _ _ h => h) (lt rfl) (KnAll.cons (Kn.at 0 rfl) KnAll.nil) (fun _ => (Y.idxN (x + k) rfl rfl Sortr_es51 (by omega) (by omega))) ?_
   refine RunT.take (i := 11) 0 rfl rfl (by kernel_rfl) (by kernel_rfl) (by kernel_rfl) (by kernel_rfl) (fun _ _ _ h => h) (lt rfl) (KnAll.cons (Kn.at 0 rfl) KnAll.nil) (fun _ => (Y.ldA (enc := Rg.cells) (d := f) (rest := rest) (e := 53) (i := (x + k)) rfl Sortr_ag53 Kn.vk1 Rg.enc (by first | omega | (simp only [swp_size, Array.size_setIfInBounds]; omega)) rfl)) ?_
   refine RunT.pure (i := 12) rfl (by kernel_rfl) (by kernel_rfl) (by kernel_rfl) (by kernel_rfl) (fun _ _ _ h => h) (lt rfl) (KnAll.cons (Kn.at 0 rfl) KnAll.nil) (fun _ => (Y.move rfl)) ?_
   refine RunT.pure (i := 13) rfl (by kernel_rfl) (by kernel_rfl) (by kernel_rfl) (by kernel_rfl) (fun _ _ _ h => h) (lt rfl) (KnAll.cons (Kn.at 0 rfl) KnAll.nil) (fun _ => (Y.move rfl)) ?_
   refine RunT.pure (i := 14) rfl (by kernel_rfl) (by kernel_rfl) (by kernel_rfl) (by kernel_rfl) (fun _ _ _ h => h) (lt rfl) (KnAll.cons (Kn.at 0 rfl) KnAll.nil) (fun _ => (Y.idxN x rfl rfl Sortr_es51 (by omega) (by omega))) ?_
   refine RunT.take (i := 15) 0 rfl rfl (by kernel_rfl) (by kernel_rfl) (by kernel_rfl) (by kernel_rfl) (fun _ _ _ h => h) (lt rfl) (KnAll.cons (Kn.at 0 rfl) KnAll.nil) (fun _ => (Y.ldA (enc := Rg.cells) (d := f) (rest := rest) (e := 53) (i := x) rfl Sortr_ag53 Kn.vk1 Rg.enc (by first | omega | (simp only [swp_size, Array.size_setIfInBounds]; omega)) rfl)) ?_
   refine RunT.pure (i := 16) rfl (by kernel_rfl) (by kernel_rfl) (by kernel_rfl) (by kernel_rfl) (fun _ _ _ h => h) (lt rfl) (KnAll.cons (Kn.at 0 rfl) KnAll.nil) (fun _ => (Y.idxN x rfl rfl Sortr_es51 (by omega) (by omega))) ?_
   refine RunT.one (i := 17) (by kernel_rfl) rfl  ?_ 
   refine Run.stD (enc := Rg.cells) (d := f) (rest := rest) (e := 53) (i := x) (s := 0) (f[x + k]!) rfl rfl Sortr_sz53 rfl Rg.enc (by first | omega | (simp only [swp_size, Array.size_setIfInBounds]; omega)) rfl ?_
   refine Run.to_end ?_
   refine Ex.anyTz (i := 17) rfl rfl rfl ?_
   refine RunT.one (i := 18) (by kernel_rfl) rfl  ?_ 
   refine Run.val (lt rfl) (Y.idxN (x + k) rfl rfl Sortr_es51 (by omega) (by omega)) ?_
   refine Run.to_end ?_
   refine Ex.anyTz (i := 18) rfl rfl rfl ?_
   refine RunT.one (i := 19) (by kernel_rfl) rfl  ?_ 
   refine Run.stD (enc := Rg.cells) (d := (f).setIfInBounds x (f[x + k]!)) (rest := rest) (e := 53) (i := (x + k)) (s := 0) (f[x]!) rfl rfl Sortr_sz53 rfl Rg.enc (by first | omega | (simp only [swp_size, Array.size_setIfInBounds]; omega)) rfl ?_
   refine Run.heapTo (H' := [sgD Rg.cells 53 b rest (swp f x (x + k))]) rfl ?_
   refine Run.to_end ?_
   refine Ex.anyTz (i := 19) rfl rfl rfl ?_
   refine RunT.done (by kernel_rfl) ?_
   refine Ex.go ?_
   refine Tr.region ?_
   refine Run.val (lt rfl) (Y.move rfl) ?_
   refine Run.val (lt rfl) (Y.move rfl) ?_
   refine Run.val (lt rfl) (Y.move rfl) ?_
   refine Run.val (lt rfl) (Y.move rfl) ?_
   refine Run.val (lt rfl) (Y.move rfl) ?_
   refine Run.call [0] (l := [.tmp 54, .tmp 55, .tmp 56, .tmp 57, .tmp 58]) rfl rfl rfl (lt rfl) (sift_r (l := 0) (m := k) (f := x) (d0 := swp f x (x + k)) hN (by first | assumption | (simp only [swp_size, sift_sz]; assumption)) (by omega) (by omega) hcmp hswo) (fun v5 V2 H2 hle6 hR => ?_)
   obtain ⟨hV, rfl, rfl⟩ := hR; replace hV := hV.symm; subst hV
   refine Run.heapTo (H' := [sgD Rg.cells 53 b rest (siftDown (ltc cm) k x 0 (swp f x (x + k)))]) rfl ?_
   refine Run.to_end ?_
   refine Ex.end_block ?_
   refine Ex.go ?_
   refine Tr.region ?_
   refine Run.val (lt rfl) (Y.move rfl) ?_
   refine Run.val (lt rfl) (Y.sub rfl rfl (by omega)) ?_
   refine Run.val (lt rfl) (Y.assign rfl) ?_
   refine Run.to_end ?_
   exact Ex.round (⟨(k : Int) - 1, siftDown (ltc cm) k x 0 (swp f x (x + k))⟩ : Int × Array Rg) ⟨by dsimp only; rw [show ((k : Int) - 1 + 1).toNat = k by omega]; exact k1, by simp only [sift_sz, swp_size]; exact k2, by (try dsimp only); omega, by (try dsimp only); omega⟩ (by dsimp only; omega) rfl rfl (subB_cons (by first | rfl | exact congrArg (fun z => some (Value.int _ z)) (by omega)) (subB_cons (by first | rfl | exact congrArg (fun z => some (Value.int _ z)) (by omega)) (subB_cons (by first | rfl | exact congrArg (fun z => some (Value.int _ z)) (by omega)) (subB_cons (by first | rfl | exact congrArg (fun z => some (Value.int _ z)) (by omega)) (subB_cons (by first | rfl | exact congrArg (fun z => some (Value.int _ z)) (by omega)) (subB_cons (by first | rfl | exact congrArg (fun z => some (Value.int _ z)) (by omega)) (subB_cons (by first | rfl | exact congrArg (fun z => some (Value.int _ z)) (by omega)) (subB_cons (by first | rfl | exact congrArg (fun z => some (Value.int _ z)) (by omega)) (subB_nil _)))))))))
  ·have g4 := h4
   try simp only [kb] at g4
   refine Tr.cond_f rfl h4 ?_
   refine Tr.to_exit ?_
   refine Ex.exit_then ?_
   refine Ex.exit_then ?_
   refine Ex.exit_in ?_
   refine Ex.keep [0] ?_
   exact Ex.end0 rfl ⟨rfl, rfl, by rw [← k1, show u = -1 by omega]; rfl⟩

theorem rev_r {V : Vw} {n c b : Nat} {rest : List Value} {d0 : Array Rg} {gf : FuncId} {caps : List Value} {cm : Rg → Rg → Int} {x y : Nat}  (hN : n ≤ 1073741824) (hd : d0.size = n) (hx : x < y) (hy : y ≤ n)  (hcmp : ∀ x y : Rg, Does Try.prog gf (.agg (Rg.cells x).toArray :: .agg (Rg.cells y).toArray :: caps) V [] (Pv (.int .i64 (cm x y)) V [])) (hswo : SWO (ltc cm))  : Does Try.prog 163 [.slice (some ⟨b, 0, none⟩) n c, .int .i64 ((x : Nat) : Int), .int .i64 ((y : Nat) : Int), .func (.func gf) #[] caps.toArray] V [sgD Rg.cells 53 b rest d0] (fun v V' H' => V' = V ∧ v = .tuple #[] ∧ H' = [sgD Rg.cells 53 b rest (reverseRange d0 x y)]) := by
 refine Does.intro Try.func163 rfl rfl (le rfl) (fun B => ?_)
 refine Tr.seq ?_
 refine Tr.region ?_
 refine Run.val (lt rfl) (Y.move rfl) ?_
 refine Run.val (lt rfl) (Y.assign rfl) ?_
 refine Run.to_end ?_
 refine Ex.go ?_
 refine Tr.seq ?_
 refine Tr.region ?_
 refine Run.val (lt rfl) (Y.move rfl) ?_
 refine Run.val (lt rfl) (Y.subN ((y - 1 : Nat) : Int) rfl rfl (by omega) (by omega)) ?_
 refine Run.val (lt rfl) (Y.assign rfl) ?_
 refine Run.to_end ?_
 refine Ex.go ?_
 refine Tr.block ?_
 refine Tr.loop (X := Nat × Nat × Array Rg) (fun z0 => V) (fun z0 => [sgD Rg.cells 53 b rest z0.2.2]) (fun z0 => [(0, .slice (some ⟨b, 0, none⟩) n c), (1, .int .i64 ((x : Nat) : Int)), (2, .int .i64 ((y : Nat) : Int)), (3, .func (.func gf) #[] caps.toArray), (8, .int .i64 ((z0.1 : Nat) : Int)), (9, .int .i64 ((z0.2.1 : Nat) : Int))]) (fun z0 => reverseLoop z0.1 z0.2.1 z0.2.2 = reverseRange d0 x y ∧ z0.2.2.size = n ∧ z0.2.1 < n) (fun z0 => z0.2.1 - z0.1) (⟨x, y - 1, d0⟩ : Nat × Nat × Array Rg) ⟨rfl, hd, by (try dsimp only); omega⟩ (fun a w i => ⟨i.1.sub (subB_cons (by first | rfl | exact congrArg (fun z => some (Value.int _ z)) (by omega)) (subB_cons (by first | rfl | exact congrArg (fun z => some (Value.int _ z)) (by omega)) (subB_cons (by first | rfl | exact congrArg (fun z => some (Value.int _ z)) (by omega)) (subB_cons (by first | rfl | exact congrArg (fun z => some (Value.int _ z)) (by omega)) (subB_cons (by first | rfl | exact congrArg (fun z => some (Value.int _ z)) (by omega)) (subB_cons (by first | rfl | exact congrArg (fun z => some (Value.int _ z)) (by omega)) (subB_nil _))))))), i.2⟩) ?_
 rintro ⟨i, j, d⟩ ⟨r1, r2, r3⟩
 try dsimp only at r1 r2 r3 ⊢
 refine Tr.seq ?_
 refine Tr.seq ?_
 refine Tr.region ?_
 refine Run.val (lt rfl) (Y.move rfl) ?_
 refine Run.val (lt rfl) (Y.move rfl) ?_
 refine Run.val (lt rfl) (Y.int rfl rfl rfl) ?_
 refine Run.to_end ?_
 refine Ex.go ?_
 rcases Bool.eq_false_or_eq_true (decide (((i : Nat) : Int) < ((j : Nat) : Int))) with h1 | h1
 ·have g1 := h1
  try simp only [kb] at g1
  refine Tr.cond_t rfl h1 ?_
  refine Tr.to_end ?_
  refine Ex.go ?_
  refine Tr.block ?_
  refine Tr.seq ?_
  refine Tr.anyT [(b, .cells (cel Rg.cells d rest).toArray 53 (0, 0))] 13 Sortr_mo ?_
  refine RunT.pure (i := 0) rfl (by kernel_rfl) (by kernel_rfl) (by kernel_rfl) (by kernel_rfl) (fun _ _ _ h => h) (lt rfl) (KnAll.cons (Kn.at 0 rfl) KnAll.nil) (fun _ => (Y.move rfl)) ?_
  refine RunT.pure (i := 1) rfl (by kernel_rfl) (by kernel_rfl) (by kernel_rfl) (by kernel_rfl) (fun _ _ _ h => h) (lt rfl) (KnAll.cons (Kn.at 0 rfl) KnAll.nil) (fun _ => (Y.move rfl)) ?_
  refine RunT.pure (i := 2) rfl (by kernel_rfl) (by kernel_rfl) (by kernel_rfl) (by kernel_rfl) (fun _ _ _ h => h) (lt rfl) (KnAll.cons (Kn.at 0 rfl) KnAll.nil) (fun _ => (Y.move rfl)) ?_
  refine RunT.pure (i := 3) rfl (by kernel_rfl) (by kernel_rfl) (by kernel_rfl) (by kernel_rfl) (fun _ _ _ h => h) (lt rfl) (KnAll.cons (Kn.at 0 rfl) KnAll.nil) (fun _ => (Y.move rfl)) ?_
  refine RunT.pure (i := 4) rfl (by kernel_rfl) (by kernel_rfl) (by kernel_rfl) (by kernel_rfl) (fun _ _ _ h => h) (lt rfl) (KnAll.cons (Kn.at 0 rfl) KnAll.nil) (fun _ => (Y.move rfl)) ?_
  refine RunT.pure (i := 5) rfl (by kernel_rfl) (by kernel_rfl) (by kernel_rfl) (by kernel_rfl) (fun _ _ _ h => h) (lt rfl) (KnAll.cons (Kn.at 0 rfl) KnAll.nil) (fun _ => (Y.move rfl)) ?_
  refine RunT.pure (i := 6) rfl (by kernel_rfl) (by kernel_rfl) (by kernel_rfl) (by kernel_rfl) (fun _ _ _ h => h) (lt rfl) (KnAll.cons (Kn.at 0 rfl) KnAll.nil) (fun _ => (Y.idxN j rfl rfl Sortr_es51 (by omega) (by omega))) ?_
  refine RunT.take (i := 7) 0 rfl rfl (by kernel_rfl) (by kernel_rfl) (by kernel_rfl) (by kernel_rfl) (fun _ _ _ h => h) (lt rfl) (KnAll.cons (Kn.at 0 rfl) KnAll.nil) (fun _ => (Y.ldA (enc := Rg.cells) (d := d) (rest := rest) (e := 53) (i := j) rfl Sortr_ag53 Kn.vk1 Rg.enc (by first | omega | (simp only [swp_size, Array.size_setIfInBounds]; omega)) rfl)) ?_
  refine RunT.pure (i := 8) rfl (by kernel_rfl) (by kernel_rfl) (by kernel_rfl) (by kernel_rfl) (fun _ _ _ h => h) (lt rfl) (KnAll.cons (Kn.at 0 rfl) KnAll.nil) (fun _ => (Y.move rfl)) ?_
  refine RunT.pure (i := 9) rfl (by kernel_rfl) (by kernel_rfl) (by kernel_rfl) (by kernel_rfl) (fun _ _ _ h => h) (lt rfl) (KnAll.cons (Kn.at 0 rfl) KnAll.nil) (fun _ => (Y.move rfl)) ?_
  refine RunT.pure (i := 10) rfl (by kernel_rfl) (by kernel_rfl) (by kernel_rfl) (by kernel_rfl) (fun _ _ _ h => h) (lt rfl) (KnAll.cons (Kn.at 0 rfl) KnAll.nil) (fun _ => (Y.idxN i rfl rfl Sortr_es51 (by omega) (by omega))) ?_
  refine RunT.take (i := 11) 0 rfl rfl (by kernel_rfl) (by kernel_rfl) (by kernel_rfl) (by kernel_rfl) (fun _ _ _ h => h) (lt rfl) (KnAll.cons (Kn.at 0 rfl) KnAll.nil) (fun _ => (Y.ldA (enc := Rg.cells) (d := d) (rest := rest) (e := 53) (i := i) rfl Sortr_ag53 Kn.vk1 Rg.enc (by first | omega | (simp only [swp_size, Array.size_setIfInBounds]; omega)) rfl)) ?_
  refine RunT.pure (i := 12) rfl (by kernel_rfl) (by kernel_rfl) (by kernel_rfl) (by kernel_rfl) (fun _ _ _ h => h) (lt rfl) (KnAll.cons (Kn.at 0 rfl) KnAll.nil) (fun _ => (Y.idxN i rfl rfl Sortr_es51 (by omega) (by omega))) ?_
  refine RunT.one (i := 13) (by kernel_rfl) rfl  ?_ 
  refine Run.stD (enc := Rg.cells) (d := d) (rest := rest) (e := 53) (i := i) (s := 0) (d[j]!) rfl rfl Sortr_sz53 rfl Rg.enc (by first | omega | (simp only [swp_size, Array.size_setIfInBounds]; omega)) rfl ?_
  refine Run.to_end ?_
  refine Ex.anyTz (i := 13) rfl rfl rfl ?_
  refine RunT.one (i := 14) (by kernel_rfl) rfl  ?_ 
  refine Run.val (lt rfl) (Y.idxN j rfl rfl Sortr_es51 (by omega) (by omega)) ?_
  refine Run.to_end ?_
  refine Ex.anyTz (i := 14) rfl rfl rfl ?_
  refine RunT.one (i := 15) (by kernel_rfl) rfl  ?_ 
  refine Run.stD (enc := Rg.cells) (d := (d).setIfInBounds i (d[j]!)) (rest := rest) (e := 53) (i := j) (s := 0) (d[i]!) rfl rfl Sortr_sz53 rfl Rg.enc (by first | omega | (simp only [swp_size, Array.size_setIfInBounds]; omega)) rfl ?_
  refine Run.heapTo (H' := [sgD Rg.cells 53 b rest (swp d i j)]) rfl ?_
  refine Run.to_end ?_
  refine Ex.anyTz (i := 15) rfl rfl rfl ?_
  refine RunT.done (by kernel_rfl) ?_
  refine Ex.go ?_
  refine Tr.seq ?_
  refine Tr.region ?_
  refine Run.val (lt rfl) (Y.move rfl) ?_
  refine Run.val (lt rfl) (Y.addN ((i + 1 : Nat) : Int) rfl rfl (by omega) (by omega)) ?_
  refine Run.val (lt rfl) (Y.assign rfl) ?_
  refine Run.to_end ?_
  refine Ex.go ?_
  refine Tr.region ?_
  refine Run.val (lt rfl) (Y.move rfl) ?_
  refine Run.val (lt rfl) (Y.subN ((j - 1 : Nat) : Int) rfl rfl (by omega) (by omega)) ?_
  refine Run.val (lt rfl) (Y.assign rfl) ?_
  refine Run.to_end ?_
  refine Ex.end_block ?_
  exact Ex.round (⟨i + 1, j - 1, swp d i j⟩ : Nat × Nat × Array Rg) ⟨(reverseLoop_go (by omega)).symm.trans r1, by simp only [swp_size]; exact r2, by (try dsimp only); omega⟩ (by dsimp only; omega) rfl rfl (subB_cons (by first | rfl | exact congrArg (fun z => some (Value.int _ z)) (by omega)) (subB_cons (by first | rfl | exact congrArg (fun z => some (Value.int _ z)) (by omega)) (subB_cons (by first | rfl | exact congrArg (fun z => some (Value.int _ z)) (by omega)) (subB_cons (by first | rfl | exact congrArg (fun z => some (Value.int _ z)) (by omega)) (subB_cons (by first | rfl | exact congrArg (fun z => some (Value.int _ z)) (by omega)) (subB_cons (by first | rfl | exact congrArg (fun z => some (Value.int _ z)) (by omega)) (subB_nil _)))))))
 ·have g1 := h1
  try simp only [kb] at g1
  refine Tr.cond_f rfl h1 ?_
  refine Tr.to_exit ?_
  refine Ex.exit_then ?_
  refine Ex.exit_then ?_
  refine Ex.exit_in ?_
  refine Ex.keep [0] ?_
  exact Ex.end0 rfl ⟨rfl, rfl, by rw [← r1, reverseLoop_stop (by omega)]; rfl⟩

theorem part_r {V : Vw} {n c b : Nat} {rest : List Value} {d0 : Array Rg} {gf : FuncId} {caps : List Value} {cm : Rg → Rg → Int} {x y p : Nat}  (hN : n ≤ 1073741824) (hd : d0.size = n) (hx : x ≤ p) (hp : p < y) (hy : y ≤ n)  (hcmp : ∀ x y : Rg, Does Try.prog gf (.agg (Rg.cells x).toArray :: .agg (Rg.cells y).toArray :: caps) V [] (Pv (.int .i64 (cm x y)) V [])) (hswo : SWO (ltc cm))  : Does Try.prog 166 [.slice (some ⟨b, 0, none⟩) n c, .int .i64 ((x : Nat) : Int), .int .i64 ((y : Nat) : Int), .int .i64 ((p : Nat) : Int), .func (.func gf) #[] caps.toArray] V [sgD Rg.cells 53 b rest d0] (fun v V' H' => V' = V ∧ v = .tuple #[.int .i64 ((partition (ltc cm) d0 x y p).1 : Int), .bool (partition (ltc cm) d0 x y p).2.1] ∧ H' = [sgD Rg.cells 53 b rest ((partition (ltc cm) d0 x y p).2.2)]) := by
 refine Does.intro Try.func166 rfl rfl (le rfl) (fun B => ?_)
 refine Tr.seq ?_
 refine Tr.region ?_
 refine Run.val (lt rfl) (Y.assign rfl) ?_
 refine Run.val (lt rfl) (Y.assign rfl) ?_
 refine Run.to_end ?_
 refine Ex.go ?_
 refine Tr.seq ?_
 refine Tr.anyT [(b, .cells (cel Rg.cells d0 rest).toArray 53 (0, 0))] 13 Sortr_mo ?_
 refine RunT.pure (i := 0) rfl (by kernel_rfl) (by kernel_rfl) (by kernel_rfl) (by kernel_rfl) (fun _ _ _ h => h) (lt rfl) (KnAll.cons (Kn.at 0 rfl) KnAll.nil) (fun _ => (Y.move rfl)) ?_
 refine RunT.pure (i := 1) rfl (by kernel_rfl) (by kernel_rfl) (by kernel_rfl) (by kernel_rfl) (fun _ _ _ h => h) (lt rfl) (KnAll.cons (Kn.at 0 rfl) KnAll.nil) (fun _ => (Y.move rfl)) ?_
 refine RunT.pure (i := 2) rfl (by kernel_rfl) (by kernel_rfl) (by kernel_rfl) (by kernel_rfl) (fun _ _ _ h => h) (lt rfl) (KnAll.cons (Kn.at 0 rfl) KnAll.nil) (fun _ => (Y.move rfl)) ?_
 refine RunT.pure (i := 3) rfl (by kernel_rfl) (by kernel_rfl) (by kernel_rfl) (by kernel_rfl) (fun _ _ _ h => h) (lt rfl) (KnAll.cons (Kn.at 0 rfl) KnAll.nil) (fun _ => (Y.move rfl)) ?_
 refine RunT.pure (i := 4) rfl (by kernel_rfl) (by kernel_rfl) (by kernel_rfl) (by kernel_rfl) (fun _ _ _ h => h) (lt rfl) (KnAll.cons (Kn.at 0 rfl) KnAll.nil) (fun _ => (Y.move rfl)) ?_
 refine RunT.pure (i := 5) rfl (by kernel_rfl) (by kernel_rfl) (by kernel_rfl) (by kernel_rfl) (fun _ _ _ h => h) (lt rfl) (KnAll.cons (Kn.at 0 rfl) KnAll.nil) (fun _ => (Y.move rfl)) ?_
 refine RunT.pure (i := 6) rfl (by kernel_rfl) (by kernel_rfl) (by kernel_rfl) (by kernel_rfl) (fun _ _ _ h => h) (lt rfl) (KnAll.cons (Kn.at 0 rfl) KnAll.nil) (fun _ => (Y.idxN p rfl rfl Sortr_es51 (by omega) (by omega))) ?_
 refine RunT.take (i := 7) 0 rfl rfl (by kernel_rfl) (by kernel_rfl) (by kernel_rfl) (by kernel_rfl) (fun _ _ _ h => h) (lt rfl) (KnAll.cons (Kn.at 0 rfl) KnAll.nil) (fun _ => (Y.ldA (enc := Rg.cells) (d := d0) (rest := rest) (e := 53) (i := p) rfl Sortr_ag53 Kn.vk1 Rg.enc (by first | omega | (simp only [swp_size, Array.size_setIfInBounds]; omega)) rfl)) ?_
 refine RunT.pure (i := 8) rfl (by kernel_rfl) (by kernel_rfl) (by kernel_rfl) (by kernel_rfl) (fun _ _ _ h => h) (lt rfl) (KnAll.cons (Kn.at 0 rfl) KnAll.nil) (fun _ => (Y.move rfl)) ?_
 refine RunT.pure (i := 9) rfl (by kernel_rfl) (by kernel_rfl) (by kernel_rfl) (by kernel_rfl) (fun _ _ _ h => h) (lt rfl) (KnAll.cons (Kn.at 0 rfl) KnAll.nil) (fun _ => (Y.move rfl)) ?_
 refine RunT.pure (i := 10) rfl (by kernel_rfl) (by kernel_rfl) (by kernel_rfl) (by kernel_rfl) (fun _ _ _ h => h) (lt rfl) (KnAll.cons (Kn.at 0 rfl) KnAll.nil) (fun _ => (Y.idxN x rfl rfl Sortr_es51 (by omega) (by omega))) ?_
 refine RunT.take (i := 11) 0 rfl rfl (by kernel_rfl) (by kernel_rfl) (by kernel_rfl) (by kernel_rfl) (fun _ _ _ h => h) (lt rfl) (KnAll.cons (Kn.at 0 rfl) KnAll.nil) (fun _ => (Y.ldA (enc := Rg.cells) (d := d0) (rest := rest) (e := 53) (i := x) rfl Sortr_ag53 Kn.vk1 Rg.enc (by first | omega | (simp only [swp_size, Array.size_setIfInBounds]; omega)) rfl)) ?_
 refine RunT.pure (i := 12) rfl (by kernel_rfl) (by kernel_rfl) (by kernel_rfl) (by kernel_rfl) (fun _ _ _ h => h) (lt rfl) (KnAll.cons (Kn.at 0 rfl) KnAll.nil) (fun _ => (Y.idxN x rfl rfl Sortr_es51 (by omega) (by omega))) ?_
 refine RunT.one (i := 13) (by kernel_rfl) rfl  ?_ 
 refine Run.stD (enc := Rg.cells) (d := d0) (rest := rest) (e := 53) (i := x) (s := 0) (d0[p]!) rfl rfl Sortr_sz53 rfl Rg.enc (by first | omega | (simp only [swp_size, Array.size_setIfInBounds]; omega)) rfl ?_
 refine Run.to_end ?_
 refine Ex.anyTz (i := 13) rfl rfl rfl ?_
 refine RunT.one (i := 14) (by kernel_rfl) rfl  ?_ 
 refine Run.val (lt rfl) (Y.idxN p rfl rfl Sortr_es51 (by omega) (by omega)) ?_
 refine Run.to_end ?_
 refine Ex.anyTz (i := 14) rfl rfl rfl ?_
 refine RunT.one (i := 15) (by kernel_rfl) rfl  ?_ 
 refine Run.stD (enc := Rg.cells) (d := (d0).setIfInBounds x (d0[p]!)) (rest := rest) (e := 53) (i := p) (s := 0) (d0[x]!) rfl rfl Sortr_sz53 rfl Rg.enc (by first | omega | (simp only [swp_size, Array.size_setIfInBounds]; omega)) rfl ?_
 refine Run.heapTo (H' := [sgD Rg.cells 53 b rest (swp d0 x p)]) rfl ?_
 refine Run.to_end ?_
 refine Ex.anyTz (i := 15) rfl rfl rfl ?_
 refine RunT.done (by kernel_rfl) ?_
 refine Ex.go ?_
 refine Tr.seq ?_
 refine Tr.region ?_
 obtain ⟨d1, hd1⟩ : ∃ z, swp d0 x p = z := ⟨_, rfl⟩
 rw [hd1]
 have sd1 : d1.size = n := by rw [← hd1]; rw [swp_size]; exact hd
 refine Run.val (lt rfl) (Y.move rfl) ?_
 refine Run.val (lt rfl) (Y.addN ((x + 1 : Nat) : Int) rfl rfl (by omega) (by omega)) ?_
 refine Run.val (lt rfl) (Y.move rfl) ?_
 refine Run.val (lt rfl) (Y.subN ((y - 1 : Nat) : Int) rfl rfl (by omega) (by omega)) ?_
 refine Run.val (lt rfl) (Y.assign rfl) ?_
 refine Run.val (lt rfl) (Y.assign rfl) ?_
 refine Run.to_end ?_
 refine Ex.go ?_
 refine Tr.cutx (X := Nat) (fun i1 => V) (fun i1 => [sgD Rg.cells 53 b rest d1]) (fun i1 => [(0, .slice (some ⟨b, 0, none⟩) n c), (1, .int .i64 ((x : Nat) : Int)), (2, .int .i64 ((y : Nat) : Int)), (3, .int .i64 ((p : Nat) : Int)), (4, .func (.func gf) #[] caps.toArray), (10, .int .i64 0), (11, .bool false), (12, .int .i64 ((i1 : Nat) : Int)), (13, .int .i64 ((y - 1 : Nat) : Int))]) (fun i1 => up1 (ltc cm) d1 x (y - 1) (x + 1) = i1 ∧ x < i1 ∧ i1 ≤ y) ?_ ?_
 ·refine Tr.block ?_
  refine Tr.loop (X := Nat) (fun z0 => V) (fun z0 => [sgD Rg.cells 53 b rest d1]) (fun z0 => [(0, .slice (some ⟨b, 0, none⟩) n c), (1, .int .i64 ((x : Nat) : Int)), (2, .int .i64 ((y : Nat) : Int)), (3, .int .i64 ((p : Nat) : Int)), (4, .func (.func gf) #[] caps.toArray), (10, .int .i64 0), (11, .bool false), (12, .int .i64 ((z0 : Nat) : Int)), (13, .int .i64 ((y - 1 : Nat) : Int))]) (fun z0 => up1 (ltc cm) d1 x (y - 1) z0 = up1 (ltc cm) d1 x (y - 1) (x + 1) ∧ x < z0 ∧ z0 ≤ y) (fun z0 => y - z0) (x + 1 : Nat) ⟨rfl, by omega, by omega⟩ (fun a w i => ⟨i.1.sub (subB_cons (by first | rfl | exact congrArg (fun z => some (Value.int _ z)) (by omega)) (subB_cons (by first | rfl | exact congrArg (fun z => some (Value.int _ z)) (by omega)) (subB_cons (by first | rfl | exact congrArg (fun z => some (Value.int _ z)) (by omega)) (subB_cons (by first | rfl | exact congrArg (fun z => some (Value.int _ z)) (by omega)) (subB_cons (by first | rfl | exact congrArg (fun z => some (Value.int _ z)) (by omega)) (subB_cons (by first | rfl | exact congrArg (fun z => some (Value.int _ z)) (by omega)) (subB_cons (by first | rfl | exact congrArg (fun z => some (Value.int _ z)) (by omega)) (subB_cons (by first | rfl | exact congrArg (fun z => some (Value.int _ z)) (by omega)) (subB_cons (by first | rfl | exact congrArg (fun z => some (Value.int _ z)) (by omega)) (subB_nil _)))))))))), i.2⟩) ?_
  rintro i ⟨r1, r2, r3⟩
  try dsimp only at r1 r2 r3 ⊢
  refine Tr.seq ?_
  refine Tr.seq ?_
  refine Tr.quiet Sortr_mo (by kernel_rfl) ?_
  refine RunQ.val (lt rfl) (Y.move rfl) ?_
  refine RunQ.val (lt rfl) (Y.move rfl) ?_
  refine RunQ.val (lt rfl) (Y.int rfl rfl rfl) ?_
  refine RunQ.val (lt rfl) (Y.move rfl) ?_
  rcases Bool.eq_false_or_eq_true (decide (((i : Nat) : Int) ≤ ((y - 1 : Nat) : Int))) with h1 | h1
  ·have g1 := h1
   try simp only [kb] at g1
   refine RunQ.on rfl rfl rfl h1 ?_
   refine RunQ.val (lt rfl) (Y.move rfl) ?_
   refine RunQ.on rfl rfl rfl h1 ?_
   refine RunQ.val (lt rfl) (Y.move rfl) ?_
   refine RunQ.on rfl rfl rfl h1 ?_
   refine RunQ.val (lt rfl) (Y.move rfl) ?_
   refine RunQ.on rfl rfl rfl h1 ?_
   refine RunQ.val (lt rfl) (Y.idxN i rfl rfl Sortr_es51 (by omega) (by omega)) ?_
   refine RunQ.on rfl rfl rfl h1 ?_
   refine RunQ.val (lt rfl) (Y.ldA (enc := Rg.cells) (d := d1) (rest := rest) (e := 53) (i := i) rfl Sortr_ag53 (Kn.at 0 rfl) Rg.enc (by first | omega | (simp only [swp_size, Array.size_setIfInBounds]; omega)) rfl) ?_
   refine RunQ.on rfl rfl rfl h1 ?_
   refine RunQ.val (lt rfl) (Y.move rfl) ?_
   refine RunQ.on rfl rfl rfl h1 ?_
   refine RunQ.val (lt rfl) (Y.move rfl) ?_
   refine RunQ.on rfl rfl rfl h1 ?_
   refine RunQ.val (lt rfl) (Y.idxN x rfl rfl Sortr_es51 (by omega) (by omega)) ?_
   refine RunQ.on rfl rfl rfl h1 ?_
   refine RunQ.val (lt rfl) (Y.ldA (enc := Rg.cells) (d := d1) (rest := rest) (e := 53) (i := x) rfl Sortr_ag53 (Kn.at 0 rfl) Rg.enc (by first | omega | (simp only [swp_size, Array.size_setIfInBounds]; omega)) rfl) ?_
   refine RunQ.on rfl rfl rfl h1 ?_
   refine RunQ.call0 (l := [.tmp 40, .tmp 44]) rfl rfl rfl (lt rfl) ((hcmp (d1[i]!) (d1[x]!)).frame) ?_
   refine RunQ.on rfl rfl rfl h1 ?_
   refine RunQ.val (lt rfl) (Y.int rfl rfl rfl) ?_
   refine RunQ.val (lt rfl) (Y.pick_t rfl h1 rfl) ?_
   refine RunQ.to_end ?_
   refine Ex.go ?_
   rcases Bool.eq_false_or_eq_true (decide ((cm (d1[i]!) (d1[x]!)) < 0)) with h2 | h2
   ·have g2 := h2
    try simp only [kb] at g2
    refine Tr.cond_t rfl h2 ?_
    refine Tr.to_end ?_
    refine Ex.go ?_
    refine Tr.block ?_
    refine Tr.region ?_
    refine Run.val (lt rfl) (Y.move rfl) ?_
    refine Run.val (lt rfl) (Y.addN ((i + 1 : Nat) : Int) rfl rfl (by omega) (by omega)) ?_
    refine Run.val (lt rfl) (Y.assign rfl) ?_
    refine Run.to_end ?_
    refine Ex.end_block ?_
    exact Ex.round (i + 1 : Nat) ⟨(up1_go (by omega) (by assumption)).trans r1, by omega, by omega⟩ (by omega) rfl rfl (subB_cons (by first | rfl | exact congrArg (fun z => some (Value.int _ z)) (by omega)) (subB_cons (by first | rfl | exact congrArg (fun z => some (Value.int _ z)) (by omega)) (subB_cons (by first | rfl | exact congrArg (fun z => some (Value.int _ z)) (by omega)) (subB_cons (by first | rfl | exact congrArg (fun z => some (Value.int _ z)) (by omega)) (subB_cons (by first | rfl | exact congrArg (fun z => some (Value.int _ z)) (by omega)) (subB_cons (by first | rfl | exact congrArg (fun z => some (Value.int _ z)) (by omega)) (subB_cons (by first | rfl | exact congrArg (fun z => some (Value.int _ z)) (by omega)) (subB_cons (by first | rfl | exact congrArg (fun z => some (Value.int _ z)) (by omega)) (subB_cons (by first | rfl | exact congrArg (fun z => some (Value.int _ z)) (by omega)) (subB_nil _))))))))))
   ·have g2 := h2
    try simp only [kb] at g2
    refine Tr.cond_f rfl h2 ?_
    refine Tr.to_exit ?_
    refine Ex.exit_then ?_
    refine Ex.exit_then ?_
    refine Ex.exit_in ?_
    exact Ex.cutx i ⟨r1.symm.trans (up1_stop (by first | (left; omega) | (right; assumption))), r2, r3⟩ rfl rfl (subB_cons (by first | rfl | exact congrArg (fun z => some (Value.int _ z)) (by omega)) (subB_cons (by first | rfl | exact congrArg (fun z => some (Value.int _ z)) (by omega)) (subB_cons (by first | rfl | exact congrArg (fun z => some (Value.int _ z)) (by omega)) (subB_cons (by first | rfl | exact congrArg (fun z => some (Value.int _ z)) (by omega)) (subB_cons (by first | rfl | exact congrArg (fun z => some (Value.int _ z)) (by omega)) (subB_cons (by first | rfl | exact congrArg (fun z => some (Value.int _ z)) (by omega)) (subB_cons (by first | rfl | exact congrArg (fun z => some (Value.int _ z)) (by omega)) (subB_cons (by first | rfl | exact congrArg (fun z => some (Value.int _ z)) (by omega)) (subB_cons (by first | rfl | exact congrArg (fun z => some (Value.int _ z)) (by omega)) (subB_nil _))))))))))
  ·have g1 := h1
   try simp only [kb] at g1
   refine RunQ.off rfl rfl rfl h1 rfl (lt rfl) ?_
   refine RunQ.off rfl rfl rfl h1 rfl (lt rfl) ?_
   refine RunQ.off rfl rfl rfl h1 rfl (lt rfl) ?_
   refine RunQ.off rfl rfl rfl h1 rfl (lt rfl) ?_
   refine RunQ.off rfl rfl rfl h1 rfl (lt rfl) ?_
   refine RunQ.off rfl rfl rfl h1 rfl (lt rfl) ?_
   refine RunQ.off rfl rfl rfl h1 rfl (lt rfl) ?_
   refine RunQ.off rfl rfl rfl h1 rfl (lt rfl) ?_
   refine RunQ.off rfl rfl rfl h1 rfl (lt rfl) ?_
   refine RunQ.off rfl rfl rfl h1 rfl (lt rfl) ?_
   refine RunQ.off rfl rfl rfl h1 rfl (lt rfl) ?_
   refine RunQ.val (lt rfl) (Y.pick_f rfl h1 rfl) ?_
   refine RunQ.to_end ?_
   refine Ex.go ?_
   refine Tr.cond_f rfl rfl ?_
   refine Tr.to_exit ?_
   refine Ex.exit_then ?_
   refine Ex.exit_then ?_
   refine Ex.exit_in ?_
   exact Ex.cutx i ⟨r1.symm.trans (up1_stop (by first | (left; omega) | (right; assumption))), r2, r3⟩ rfl rfl (subB_cons (by first | rfl | exact congrArg (fun z => some (Value.int _ z)) (by omega)) (subB_cons (by first | rfl | exact congrArg (fun z => some (Value.int _ z)) (by omega)) (subB_cons (by first | rfl | exact congrArg (fun z => some (Value.int _ z)) (by omega)) (subB_cons (by first | rfl | exact congrArg (fun z => some (Value.int _ z)) (by omega)) (subB_cons (by first | rfl | exact congrArg (fun z => some (Value.int _ z)) (by omega)) (subB_cons (by first | rfl | exact congrArg (fun z => some (Value.int _ z)) (by omega)) (subB_cons (by first | rfl | exact congrArg (fun z => some (Value.int _ z)) (by omega)) (subB_cons (by first | rfl | exact congrArg (fun z => some (Value.int _ z)) (by omega)) (subB_cons (by first | rfl | exact congrArg (fun z => some (Value.int _ z)) (by omega)) (subB_nil _))))))))))
 ·rintro i1 ⟨c1, c2, c3⟩
  refine Tr.cutx (X := Nat) (fun j1 => V) (fun j1 => [sgD Rg.cells 53 b rest d1]) (fun j1 => [(0, .slice (some ⟨b, 0, none⟩) n c), (1, .int .i64 ((x : Nat) : Int)), (2, .int .i64 ((y : Nat) : Int)), (3, .int .i64 ((p : Nat) : Int)), (4, .func (.func gf) #[] caps.toArray), (10, .int .i64 0), (11, .bool false), (12, .int .i64 ((i1 : Nat) : Int)), (13, .int .i64 ((j1 : Nat) : Int))]) (fun j1 => dn1 (ltc cm) d1 x i1 (y - 1) = j1 ∧ i1 ≤ j1 + 1 ∧ j1 < y) ?_ ?_
  ·refine Tr.block ?_
   refine Tr.loop (X := Nat) (fun z0 => V) (fun z0 => [sgD Rg.cells 53 b rest d1]) (fun z0 => [(0, .slice (some ⟨b, 0, none⟩) n c), (1, .int .i64 ((x : Nat) : Int)), (2, .int .i64 ((y : Nat) : Int)), (3, .int .i64 ((p : Nat) : Int)), (4, .func (.func gf) #[] caps.toArray), (10, .int .i64 0), (11, .bool false), (12, .int .i64 ((i1 : Nat) : Int)), (13, .int .i64 ((z0 : Nat) : Int))]) (fun z0 => dn1 (ltc cm) d1 x i1 z0 = dn1 (ltc cm) d1 x i1 (y - 1) ∧ i1 ≤ z0 + 1 ∧ z0 < y) (fun z0 => z0) (y - 1 : Nat) ⟨rfl, by omega, by omega⟩ (fun a w i => ⟨i.1.sub (subB_cons (by first | rfl | exact congrArg (fun z => some (Value.int _ z)) (by omega)) (subB_cons (by first | rfl | exact congrArg (fun z => some (Value.int _ z)) (by omega)) (subB_cons (by first | rfl | exact congrArg (fun z => some (Value.int _ z)) (by omega)) (subB_cons (by first | rfl | exact congrArg (fun z => some (Value.int _ z)) (by omega)) (subB_cons (by first | rfl | exact congrArg (fun z => some (Value.int _ z)) (by omega)) (subB_cons (by first | rfl | exact congrArg (fun z => some (Value.int _ z)) (by omega)) (subB_cons (by first | rfl | exact congrArg (fun z => some (Value.int _ z)) (by omega)) (subB_cons (by first | rfl | exact congrArg (fun z => some (Value.int _ z)) (by omega)) (subB_cons (by first | rfl | exact congrArg (fun z => some (Value.int _ z)) (by omega)) (subB_nil _)))))))))), i.2⟩) ?_
   rintro j ⟨q1, q2, q3⟩
   try dsimp only at q1 q2 q3 ⊢
   refine Tr.seq ?_
   refine Tr.seq ?_
   refine Tr.quiet Sortr_mo (by kernel_rfl) ?_
   refine RunQ.val (lt rfl) (Y.move rfl) ?_
   refine RunQ.val (lt rfl) (Y.move rfl) ?_
   refine RunQ.val (lt rfl) (Y.int rfl rfl rfl) ?_
   refine RunQ.val (lt rfl) (Y.move rfl) ?_
   rcases Bool.eq_false_or_eq_true (decide (((i1 : Nat) : Int) ≤ ((j : Nat) : Int))) with h3 | h3
   ·have g3 := h3
    try simp only [kb] at g3
    refine RunQ.on rfl rfl rfl h3 ?_
    refine RunQ.val (lt rfl) (Y.move rfl) ?_
    refine RunQ.on rfl rfl rfl h3 ?_
    refine RunQ.val (lt rfl) (Y.move rfl) ?_
    refine RunQ.on rfl rfl rfl h3 ?_
    refine RunQ.val (lt rfl) (Y.move rfl) ?_
    refine RunQ.on rfl rfl rfl h3 ?_
    refine RunQ.val (lt rfl) (Y.idxN j rfl rfl Sortr_es51 (by omega) (by omega)) ?_
    refine RunQ.on rfl rfl rfl h3 ?_
    refine RunQ.val (lt rfl) (Y.ldA (enc := Rg.cells) (d := d1) (rest := rest) (e := 53) (i := j) rfl Sortr_ag53 (Kn.at 0 rfl) Rg.enc (by first | omega | (simp only [swp_size, Array.size_setIfInBounds]; omega)) rfl) ?_
    refine RunQ.on rfl rfl rfl h3 ?_
    refine RunQ.val (lt rfl) (Y.move rfl) ?_
    refine RunQ.on rfl rfl rfl h3 ?_
    refine RunQ.val (lt rfl) (Y.move rfl) ?_
    refine RunQ.on rfl rfl rfl h3 ?_
    refine RunQ.val (lt rfl) (Y.idxN x rfl rfl Sortr_es51 (by omega) (by omega)) ?_
    refine RunQ.on rfl rfl rfl h3 ?_
    refine RunQ.val (lt rfl) (Y.ldA (enc := Rg.cells) (d := d1) (rest := rest) (e := 53) (i := x) rfl Sortr_ag53 (Kn.at 0 rfl) Rg.enc (by first | omega | (simp only [swp_size, Array.size_setIfInBounds]; omega)) rfl) ?_
    refine RunQ.on rfl rfl rfl h3 ?_
    refine RunQ.call0 (l := [.tmp 58, .tmp 62]) rfl rfl rfl (lt rfl) ((hcmp (d1[j]!) (d1[x]!)).frame) ?_
    refine RunQ.on rfl rfl rfl h3 ?_
    refine RunQ.val (lt rfl) (Y.int rfl rfl rfl) ?_
    refine RunQ.on rfl rfl rfl h3 ?_
    refine RunQ.val (lt rfl) (Y.not rfl) ?_
    refine RunQ.val (lt rfl) (Y.pick_t rfl h3 rfl) ?_
    refine RunQ.to_end ?_
    refine Ex.go ?_
    rcases Bool.eq_false_or_eq_true (decide ((cm (d1[j]!) (d1[x]!)) < 0)) with h4 | h4
    ·have g4 := h4
     try simp only [kb] at g4
     refine Tr.cond_f rfl (congrArg Bool.not h4) ?_
     refine Tr.to_exit ?_
     refine Ex.exit_then ?_
     refine Ex.exit_then ?_
     refine Ex.exit_in ?_
     exact Ex.cutx j ⟨q1.symm.trans (dn1_stop (by omega) (by first | (left; omega) | (right; assumption))), q2, q3⟩ rfl rfl (subB_cons (by first | rfl | exact congrArg (fun z => some (Value.int _ z)) (by omega)) (subB_cons (by first | rfl | exact congrArg (fun z => some (Value.int _ z)) (by omega)) (subB_cons (by first | rfl | exact congrArg (fun z => some (Value.int _ z)) (by omega)) (subB_cons (by first | rfl | exact congrArg (fun z => some (Value.int _ z)) (by omega)) (subB_cons (by first | rfl | exact congrArg (fun z => some (Value.int _ z)) (by omega)) (subB_cons (by first | rfl | exact congrArg (fun z => some (Value.int _ z)) (by omega)) (subB_cons (by first | rfl | exact congrArg (fun z => some (Value.int _ z)) (by omega)) (subB_cons (by first | rfl | exact congrArg (fun z => some (Value.int _ z)) (by omega)) (subB_cons (by first | rfl | exact congrArg (fun z => some (Value.int _ z)) (by omega)) (subB_nil _))))))))))
    ·have g4 := h4
     try simp only [kb] at g4
     refine Tr.cond_t rfl (congrArg Bool.not h4) ?_
     refine Tr.to_end ?_
     refine Ex.go ?_
     refine Tr.block ?_
     refine Tr.region ?_
     refine Run.val (lt rfl) (Y.move rfl) ?_
     refine Run.val (lt rfl) (Y.subN ((j - 1 : Nat) : Int) rfl rfl (by omega) (by omega)) ?_
     refine Run.val (lt rfl) (Y.assign rfl) ?_
     refine Run.to_end ?_
     refine Ex.end_block ?_
     exact Ex.round (j - 1 : Nat) ⟨(dn1_go (by omega) (by omega) (by assumption)).trans q1, by omega, by omega⟩ (by omega) rfl rfl (subB_cons (by first | rfl | exact congrArg (fun z => some (Value.int _ z)) (by omega)) (subB_cons (by first | rfl | exact congrArg (fun z => some (Value.int _ z)) (by omega)) (subB_cons (by first | rfl | exact congrArg (fun z => some (Value.int _ z)) (by omega)) (subB_cons (by first | rfl | exact congrArg (fun z => some (Value.int _ z)) (by omega)) (subB_cons (by first | rfl | exact congrArg (fun z => some (Value.int _ z)) (by omega)) (subB_cons (by first | rfl | exact congrArg (fun z => some (Value.int _ z)) (by omega)) (subB_cons (by first | rfl | exact congrArg (fun z => some (Value.int _ z)) (by omega)) (subB_cons (by first | rfl | exact congrArg (fun z => some (Value.int _ z)) (by omega)) (subB_cons (by first | rfl | exact congrArg (fun z => some (Value.int _ z)) (by omega)) (subB_nil _))))))))))
   ·have g3 := h3
    try simp only [kb] at g3
    refine RunQ.off rfl rfl rfl h3 rfl (lt rfl) ?_
    refine RunQ.off rfl rfl rfl h3 rfl (lt rfl) ?_
    refine RunQ.off rfl rfl rfl h3 rfl (lt rfl) ?_
    refine RunQ.off rfl rfl rfl h3 rfl (lt rfl) ?_
    refine RunQ.off rfl rfl rfl h3 rfl (lt rfl) ?_
    refine RunQ.off rfl rfl rfl h3 rfl (lt rfl) ?_
    refine RunQ.off rfl rfl rfl h3 rfl (lt rfl) ?_
    refine RunQ.off rfl rfl rfl h3 rfl (lt rfl) ?_
    refine RunQ.off rfl rfl rfl h3 rfl (lt rfl) ?_
    refine RunQ.off rfl rfl rfl h3 rfl (lt rfl) ?_
    refine RunQ.off rfl rfl rfl h3 rfl (lt rfl) ?_
    refine RunQ.off rfl rfl rfl h3 rfl (lt rfl) ?_
    refine RunQ.val (lt rfl) (Y.pick_f rfl h3 rfl) ?_
    refine RunQ.to_end ?_
    refine Ex.go ?_
    refine Tr.cond_f rfl rfl ?_
    refine Tr.to_exit ?_
    refine Ex.exit_then ?_
    refine Ex.exit_then ?_
    refine Ex.exit_in ?_
    exact Ex.cutx j ⟨q1.symm.trans (dn1_stop (by omega) (by first | (left; omega) | (right; assumption))), q2, q3⟩ rfl rfl (subB_cons (by first | rfl | exact congrArg (fun z => some (Value.int _ z)) (by omega)) (subB_cons (by first | rfl | exact congrArg (fun z => some (Value.int _ z)) (by omega)) (subB_cons (by first | rfl | exact congrArg (fun z => some (Value.int _ z)) (by omega)) (subB_cons (by first | rfl | exact congrArg (fun z => some (Value.int _ z)) (by omega)) (subB_cons (by first | rfl | exact congrArg (fun z => some (Value.int _ z)) (by omega)) (subB_cons (by first | rfl | exact congrArg (fun z => some (Value.int _ z)) (by omega)) (subB_cons (by first | rfl | exact congrArg (fun z => some (Value.int _ z)) (by omega)) (subB_cons (by first | rfl | exact congrArg (fun z => some (Value.int _ z)) (by omega)) (subB_cons (by first | rfl | exact congrArg (fun z => some (Value.int _ z)) (by omega)) (subB_nil _))))))))))
  ·rintro j1 ⟨e1, e2, e3⟩
   refine Tr.seq ?_
   refine Tr.seq ?_
   refine Tr.region ?_
   refine Run.val (lt rfl) (Y.move rfl) ?_
   refine Run.val (lt rfl) (Y.move rfl) ?_
   refine Run.val (lt rfl) (Y.int rfl rfl rfl) ?_
   refine Run.to_end ?_
   refine Ex.go ?_
   rcases Bool.eq_false_or_eq_true (decide (((i1 : Nat) : Int) > ((j1 : Nat) : Int))) with h5 | h5
   ·have g5 := h5
    try simp only [kb] at g5
    refine Tr.cond_t rfl h5 ?_
    refine Tr.seq ?_
    refine Tr.anyT [(b, .cells (cel Rg.cells d1 rest).toArray 53 (0, 0))] 13 Sortr_mo ?_
    refine RunT.pure (i := 0) rfl (by kernel_rfl) (by kernel_rfl) (by kernel_rfl) (by kernel_rfl) (fun _ _ _ h => h) (lt rfl) (KnAll.cons (Kn.at 0 rfl) KnAll.nil) (fun _ => (Y.move rfl)) ?_
    refine RunT.pure (i := 1) rfl (by kernel_rfl) (by kernel_rfl) (by kernel_rfl) (by kernel_rfl) (fun _ _ _ h => h) (lt rfl) (KnAll.cons (Kn.at 0 rfl) KnAll.nil) (fun _ => (Y.move rfl)) ?_
    refine RunT.pure (i := 2) rfl (by kernel_rfl) (by kernel_rfl) (by kernel_rfl) (by kernel_rfl) (fun _ _ _ h => h) (lt rfl) (KnAll.cons (Kn.at 0 rfl) KnAll.nil) (fun _ => (Y.move rfl)) ?_
    refine RunT.pure (i := 3) rfl (by kernel_rfl) (by kernel_rfl) (by kernel_rfl) (by kernel_rfl) (fun _ _ _ h => h) (lt rfl) (KnAll.cons (Kn.at 0 rfl) KnAll.nil) (fun _ => (Y.move rfl)) ?_
    refine RunT.pure (i := 4) rfl (by kernel_rfl) (by kernel_rfl) (by kernel_rfl) (by kernel_rfl) (fun _ _ _ h => h) (lt rfl) (KnAll.cons (Kn.at 0 rfl) KnAll.nil) (fun _ => (Y.move rfl)) ?_
    refine RunT.pure (i := 5) rfl (by kernel_rfl) (by kernel_rfl) (by kernel_rfl) (by kernel_rfl) (fun _ _ _ h => h) (lt rfl) (KnAll.cons (Kn.at 0 rfl) KnAll.nil) (fun _ => (Y.move rfl)) ?_
    refine RunT.pure (i := 6) rfl (by kernel_rfl) (by kernel_rfl) (by kernel_rfl) (by kernel_rfl) (fun _ _ _ h => h) (lt rfl) (KnAll.cons (Kn.at 0 rfl) KnAll.nil) (fun _ => (Y.idxN x rfl rfl Sortr_es51 (by omega) (by omega))) ?_
    refine RunT.take (i := 7) 0 rfl rfl (by kernel_rfl) (by kernel_rfl) (by kernel_rfl) (by kernel_rfl) (fun _ _ _ h => h) (lt rfl) (KnAll.cons (Kn.at 0 rfl) KnAll.nil) (fun _ => (Y.ldA (enc := Rg.cells) (d := d1) (rest := rest) (e := 53) (i := x) rfl Sortr_ag53 Kn.vk1 Rg.enc (by first | omega | (simp only [swp_size, Array.size_setIfInBounds]; omega)) rfl)) ?_
    refine RunT.pure (i := 8) rfl (by kernel_rfl) (by kernel_rfl) (by kernel_rfl) (by kernel_rfl) (fun _ _ _ h => h) (lt rfl) (KnAll.cons (Kn.at 0 rfl) KnAll.nil) (fun _ => (Y.move rfl)) ?_
    refine RunT.pure (i := 9) rfl (by kernel_rfl) (by kernel_rfl) (by kernel_rfl) (by kernel_rfl) (fun _ _ _ h => h) (lt rfl) (KnAll.cons (Kn.at 0 rfl) KnAll.nil) (fun _ => (Y.move rfl)) ?_
    refine RunT.pure (i := 10) rfl (by kernel_rfl) (by kernel_rfl) (by kernel_rfl) (by kernel_rfl) (fun _ _ _ h => h) (lt rfl) (KnAll.cons (Kn.at 0 rfl) KnAll.nil) (fun _ => (Y.idxN j1 rfl rfl Sortr_es51 (by omega) (by omega))) ?_
    refine RunT.take (i := 11) 0 rfl rfl (by kernel_rfl) (by kernel_rfl) (by kernel_rfl) (by kernel_rfl) (fun _ _ _ h => h) (lt rfl) (KnAll.cons (Kn.at 0 rfl) KnAll.nil) (fun _ => (Y.ldA (enc := Rg.cells) (d := d1) (rest := rest) (e := 53) (i := j1) rfl Sortr_ag53 Kn.vk1 Rg.enc (by first | omega | (simp only [swp_size, Array.size_setIfInBounds]; omega)) rfl)) ?_
    refine RunT.pure (i := 12) rfl (by kernel_rfl) (by kernel_rfl) (by kernel_rfl) (by kernel_rfl) (fun _ _ _ h => h) (lt rfl) (KnAll.cons (Kn.at 0 rfl) KnAll.nil) (fun _ => (Y.idxN j1 rfl rfl Sortr_es51 (by omega) (by omega))) ?_
    refine RunT.one (i := 13) (by kernel_rfl) rfl  ?_ 
    refine Run.stD (enc := Rg.cells) (d := d1) (rest := rest) (e := 53) (i := j1) (s := 0) (d1[x]!) rfl rfl Sortr_sz53 rfl Rg.enc (by first | omega | (simp only [swp_size, Array.size_setIfInBounds]; omega)) rfl ?_
    refine Run.to_end ?_
    refine Ex.anyTz (i := 13) rfl rfl rfl ?_
    refine RunT.one (i := 14) (by kernel_rfl) rfl  ?_ 
    refine Run.val (lt rfl) (Y.idxN x rfl rfl Sortr_es51 (by omega) (by omega)) ?_
    refine Run.to_end ?_
    refine Ex.anyTz (i := 14) rfl rfl rfl ?_
    refine RunT.one (i := 15) (by kernel_rfl) rfl  ?_ 
    refine Run.stD (enc := Rg.cells) (d := (d1).setIfInBounds j1 (d1[x]!)) (rest := rest) (e := 53) (i := x) (s := 0) (d1[j1]!) rfl rfl Sortr_sz53 rfl Rg.enc (by first | omega | (simp only [swp_size, Array.size_setIfInBounds]; omega)) rfl ?_
    refine Run.heapTo (H' := [sgD Rg.cells 53 b rest (swp d1 j1 x)]) rfl ?_
    refine Run.to_end ?_
    refine Ex.anyTz (i := 15) rfl rfl rfl ?_
    refine RunT.done (by kernel_rfl) ?_
    refine Ex.go ?_
    refine Tr.seq ?_
    refine Tr.region ?_
    refine Run.val (lt rfl) (Y.move rfl) ?_
    refine Run.val (lt rfl) (Y.assign rfl) ?_
    refine Run.val (lt rfl) (Y.assign rfl) ?_
    refine Run.to_end ?_
    refine Ex.go ?_
    refine Tr.to_ret ?_
    refine Ex.ret_then ?_
    refine Ex.keep [0] ?_
    exact Ex.ret2 rfl rfl rfl  ⟨rfl, by subst hd1; rw [partition_one c1 e1 (by omega)], by subst hd1; rw [partition_one c1 e1 (by omega)]; rfl⟩
   ·have g5 := h5
    try simp only [kb] at g5
    refine Tr.cond_f rfl h5 ?_
    refine Tr.to_end ?_
    refine Ex.go ?_
    refine Tr.seq ?_
    refine Tr.anyT [(b, .cells (cel Rg.cells d1 rest).toArray 53 (0, 0))] 13 Sortr_mo ?_
    refine RunT.pure (i := 0) rfl (by kernel_rfl) (by kernel_rfl) (by kernel_rfl) (by kernel_rfl) (fun _ _ _ h => h) (lt rfl) (KnAll.cons (Kn.at 0 rfl) KnAll.nil) (fun _ => (Y.move rfl)) ?_
    refine RunT.pure (i := 1) rfl (by kernel_rfl) (by kernel_rfl) (by kernel_rfl) (by kernel_rfl) (fun _ _ _ h => h) (lt rfl) (KnAll.cons (Kn.at 0 rfl) KnAll.nil) (fun _ => (Y.move rfl)) ?_
    refine RunT.pure (i := 2) rfl (by kernel_rfl) (by kernel_rfl) (by kernel_rfl) (by kernel_rfl) (fun _ _ _ h => h) (lt rfl) (KnAll.cons (Kn.at 0 rfl) KnAll.nil) (fun _ => (Y.move rfl)) ?_
    refine RunT.pure (i := 3) rfl (by kernel_rfl) (by kernel_rfl) (by kernel_rfl) (by kernel_rfl) (fun _ _ _ h => h) (lt rfl) (KnAll.cons (Kn.at 0 rfl) KnAll.nil) (fun _ => (Y.move rfl)) ?_
    refine RunT.pure (i := 4) rfl (by kernel_rfl) (by kernel_rfl) (by kernel_rfl) (by kernel_rfl) (fun _ _ _ h => h) (lt rfl) (KnAll.cons (Kn.at 0 rfl) KnAll.nil) (fun _ => (Y.move rfl)) ?_
    refine RunT.pure (i := 5) rfl (by kernel_rfl) (by kernel_rfl) (by kernel_rfl) (by kernel_rfl) (fun _ _ _ h => h) (lt rfl) (KnAll.cons (Kn.at 0 rfl) KnAll.nil) (fun _ => (Y.move rfl)) ?_
    refine RunT.pure (i := 6) rfl (by kernel_rfl) (by kernel_rfl) (by kernel_rfl) (by kernel_rfl) (fun _ _ _ h => h) (lt rfl) (KnAll.cons (Kn.at 0 rfl) KnAll.nil) (fun _ => (Y.idxN j1 rfl rfl Sortr_es51 (by omega) (by omega))) ?_
    refine RunT.take (i := 7) 0 rfl rfl (by kernel_rfl) (by kernel_rfl) (by kernel_rfl) (by kernel_rfl) (fun _ _ _ h => h) (lt rfl) (KnAll.cons (Kn.at 0 rfl) KnAll.nil) (fun _ => (Y.ldA (enc := Rg.cells) (d := d1) (rest := rest) (e := 53) (i := j1) rfl Sortr_ag53 Kn.vk1 Rg.enc (by first | omega | (simp only [swp_size, Array.size_setIfInBounds]; omega)) rfl)) ?_
    refine RunT.pure (i := 8) rfl (by kernel_rfl) (by kernel_rfl) (by kernel_rfl) (by kernel_rfl) (fun _ _ _ h => h) (lt rfl) (KnAll.cons (Kn.at 0 rfl) KnAll.nil) (fun _ => (Y.move rfl)) ?_
    refine RunT.pure (i := 9) rfl (by kernel_rfl) (by kernel_rfl) (by kernel_rfl) (by kernel_rfl) (fun _ _ _ h => h) (lt rfl) (KnAll.cons (Kn.at 0 rfl) KnAll.nil) (fun _ => (Y.move rfl)) ?_
    refine RunT.pure (i := 10) rfl (by kernel_rfl) (by kernel_rfl) (by kernel_rfl) (by kernel_rfl) (fun _ _ _ h => h) (lt rfl) (KnAll.cons (Kn.at 0 rfl) KnAll.nil) (fun _ => (Y.idxN i1 rfl rfl Sortr_es51 (by omega) (by omega))) ?_
    refine RunT.take (i := 11) 0 rfl rfl (by kernel_rfl) (by kernel_rfl) (by kernel_rfl) (by kernel_rfl) (fun _ _ _ h => h) (lt rfl) (KnAll.cons (Kn.at 0 rfl) KnAll.nil) (fun _ => (Y.ldA (enc := Rg.cells) (d := d1) (rest := rest) (e := 53) (i := i1) rfl Sortr_ag53 Kn.vk1 Rg.enc (by first | omega | (simp only [swp_size, Array.size_setIfInBounds]; omega)) rfl)) ?_
    refine RunT.pure (i := 12) rfl (by kernel_rfl) (by kernel_rfl) (by kernel_rfl) (by kernel_rfl) (fun _ _ _ h => h) (lt rfl) (KnAll.cons (Kn.at 0 rfl) KnAll.nil) (fun _ => (Y.idxN i1 rfl rfl Sortr_es51 (by omega) (by omega))) ?_
    refine RunT.one (i := 13) (by kernel_rfl) rfl  ?_ 
    refine Run.stD (enc := Rg.cells) (d := d1) (rest := rest) (e := 53) (i := i1) (s := 0) (d1[j1]!) rfl rfl Sortr_sz53 rfl Rg.enc (by first | omega | (simp only [swp_size, Array.size_setIfInBounds]; omega)) rfl ?_
    refine Run.to_end ?_
    refine Ex.anyTz (i := 13) rfl rfl rfl ?_
    refine RunT.one (i := 14) (by kernel_rfl) rfl  ?_ 
    refine Run.val (lt rfl) (Y.idxN j1 rfl rfl Sortr_es51 (by omega) (by omega)) ?_
    refine Run.to_end ?_
    refine Ex.anyTz (i := 14) rfl rfl rfl ?_
    refine RunT.one (i := 15) (by kernel_rfl) rfl  ?_ 
    refine Run.stD (enc := Rg.cells) (d := (d1).setIfInBounds i1 (d1[j1]!)) (rest := rest) (e := 53) (i := j1) (s := 0) (d1[i1]!) rfl rfl Sortr_sz53 rfl Rg.enc (by first | omega | (simp only [swp_size, Array.size_setIfInBounds]; omega)) rfl ?_
    refine Run.heapTo (H' := [sgD Rg.cells 53 b rest (swp d1 i1 j1)]) rfl ?_
    refine Run.to_end ?_
    refine Ex.anyTz (i := 15) rfl rfl rfl ?_
    refine RunT.done (by kernel_rfl) ?_
    refine Ex.go ?_
    refine Tr.seq ?_
    refine Tr.region ?_
    have hx1 := cross1 c1 e1 (by omega) (by omega) (by omega)
    refine Run.val (lt rfl) (Y.move rfl) ?_
    refine Run.val (lt rfl) (Y.addN ((i1 + 1 : Nat) : Int) rfl rfl (by omega) (by omega)) ?_
    refine Run.val (lt rfl) (Y.assign rfl) ?_
    refine Run.to_end ?_
    refine Ex.go ?_
    refine Tr.seq ?_
    refine Tr.region ?_
    refine Run.val (lt rfl) (Y.move rfl) ?_
    refine Run.val (lt rfl) (Y.subN ((j1 - 1 : Nat) : Int) rfl rfl (by omega) (by omega)) ?_
    refine Run.val (lt rfl) (Y.assign rfl) ?_
    refine Run.to_end ?_
    refine Ex.go ?_
    refine Tr.seq ?_
    refine Tr.block ?_
    refine Tr.loop (X := Nat × Nat × Array Rg) (fun z0 => V) (fun z0 => [sgD Rg.cells 53 b rest z0.2.2]) (fun z0 => [(0, .slice (some ⟨b, 0, none⟩) n c), (1, .int .i64 ((x : Nat) : Int)), (2, .int .i64 ((y : Nat) : Int)), (3, .int .i64 ((p : Nat) : Int)), (4, .func (.func gf) #[] caps.toArray), (10, .int .i64 0), (11, .bool false), (12, .int .i64 ((z0.1 : Nat) : Int)), (13, .int .i64 ((z0.2.1 : Nat) : Int))]) (fun z0 => partLoop (ltc cm) x z0.1 z0.2.1 z0.2.2 = partLoop (ltc cm) x (i1 + 1) (j1 - 1) (swp d1 i1 j1) ∧ z0.2.2.size = n ∧ x < z0.1 ∧ z0.1 ≤ z0.2.1 + 1 ∧ z0.2.1 < y) (fun z0 => z0.2.1 + 1 - z0.1) (⟨i1 + 1, j1 - 1, swp d1 i1 j1⟩ : Nat × Nat × Array Rg) ⟨rfl, by simp only [swp_size]; exact sd1, by (try dsimp only); omega, by (try dsimp only); omega, by (try dsimp only); omega⟩ (fun a w i => ⟨i.1.sub (subB_cons (by first | rfl | exact congrArg (fun z => some (Value.int _ z)) (by omega)) (subB_cons (by first | rfl | exact congrArg (fun z => some (Value.int _ z)) (by omega)) (subB_cons (by first | rfl | exact congrArg (fun z => some (Value.int _ z)) (by omega)) (subB_cons (by first | rfl | exact congrArg (fun z => some (Value.int _ z)) (by omega)) (subB_cons (by first | rfl | exact congrArg (fun z => some (Value.int _ z)) (by omega)) (subB_cons (by first | rfl | exact congrArg (fun z => some (Value.int _ z)) (by omega)) (subB_cons (by first | rfl | exact congrArg (fun z => some (Value.int _ z)) (by omega)) (subB_cons (by first | rfl | exact congrArg (fun z => some (Value.int _ z)) (by omega)) (subB_cons (by first | rfl | exact congrArg (fun z => some (Value.int _ z)) (by omega)) (subB_nil _)))))))))), i.2⟩) ?_
    rintro ⟨i, j, d⟩ ⟨k1, k2, k3, k4, k5⟩
    try dsimp only at k1 k2 k3 k4 k5 ⊢
    refine Tr.block ?_
    refine Tr.cutx (X := Nat) (fun i2 => V) (fun i2 => [sgD Rg.cells 53 b rest d]) (fun i2 => [(0, .slice (some ⟨b, 0, none⟩) n c), (1, .int .i64 ((x : Nat) : Int)), (2, .int .i64 ((y : Nat) : Int)), (3, .int .i64 ((p : Nat) : Int)), (4, .func (.func gf) #[] caps.toArray), (10, .int .i64 0), (11, .bool false), (12, .int .i64 ((i2 : Nat) : Int)), (13, .int .i64 ((j : Nat) : Int))]) (fun i2 => up1 (ltc cm) d x j i = i2 ∧ i ≤ i2 ∧ i2 ≤ j + 1) ?_ ?_
    ·refine Tr.block ?_
     refine Tr.loop (X := Nat) (fun z0 => V) (fun z0 => [sgD Rg.cells 53 b rest d]) (fun z0 => [(0, .slice (some ⟨b, 0, none⟩) n c), (1, .int .i64 ((x : Nat) : Int)), (2, .int .i64 ((y : Nat) : Int)), (3, .int .i64 ((p : Nat) : Int)), (4, .func (.func gf) #[] caps.toArray), (10, .int .i64 0), (11, .bool false), (12, .int .i64 ((z0 : Nat) : Int)), (13, .int .i64 ((j : Nat) : Int))]) (fun z0 => up1 (ltc cm) d x j z0 = up1 (ltc cm) d x j i ∧ i ≤ z0 ∧ z0 ≤ j + 1) (fun z0 => j + 1 - z0) (i : Nat) ⟨rfl, Nat.le_refl _, by omega⟩ (fun a w i => ⟨i.1.sub (subB_cons (by first | rfl | exact congrArg (fun z => some (Value.int _ z)) (by omega)) (subB_cons (by first | rfl | exact congrArg (fun z => some (Value.int _ z)) (by omega)) (subB_cons (by first | rfl | exact congrArg (fun z => some (Value.int _ z)) (by omega)) (subB_cons (by first | rfl | exact congrArg (fun z => some (Value.int _ z)) (by omega)) (subB_cons (by first | rfl | exact congrArg (fun z => some (Value.int _ z)) (by omega)) (subB_cons (by first | rfl | exact congrArg (fun z => some (Value.int _ z)) (by omega)) (subB_cons (by first | rfl | exact congrArg (fun z => some (Value.int _ z)) (by omega)) (subB_cons (by first | rfl | exact congrArg (fun z => some (Value.int _ z)) (by omega)) (subB_cons (by first | rfl | exact congrArg (fun z => some (Value.int _ z)) (by omega)) (subB_nil _)))))))))), i.2⟩) ?_
     rintro u ⟨m1, m2, m3⟩
     try dsimp only at m1 m2 m3 ⊢
     refine Tr.seq ?_
     refine Tr.seq ?_
     refine Tr.quiet Sortr_mo (by kernel_rfl) ?_
     refine RunQ.val (lt rfl) (Y.move rfl) ?_
     refine RunQ.val (lt rfl) (Y.move rfl) ?_
     refine RunQ.val (lt rfl) (Y.int rfl rfl rfl) ?_
     refine RunQ.val (lt rfl) (Y.move rfl) ?_
     rcases Bool.eq_false_or_eq_true (decide (((u : Nat) : Int) ≤ ((j : Nat) : Int))) with h6 | h6
     ·have g6 := h6
      try simp only [kb] at g6
      refine RunQ.on rfl rfl rfl h6 ?_
      refine RunQ.val (lt rfl) (Y.move rfl) ?_
      refine RunQ.on rfl rfl rfl h6 ?_
      refine RunQ.val (lt rfl) (Y.move rfl) ?_
      refine RunQ.on rfl rfl rfl h6 ?_
      refine RunQ.val (lt rfl) (Y.move rfl) ?_
      refine RunQ.on rfl rfl rfl h6 ?_
      refine RunQ.val (lt rfl) (Y.idxN u rfl rfl Sortr_es51 (by omega) (by omega)) ?_
      refine RunQ.on rfl rfl rfl h6 ?_
      refine RunQ.val (lt rfl) (Y.ldA (enc := Rg.cells) (d := d) (rest := rest) (e := 53) (i := u) rfl Sortr_ag53 (Kn.at 0 rfl) Rg.enc (by first | omega | (simp only [swp_size, Array.size_setIfInBounds]; omega)) rfl) ?_
      refine RunQ.on rfl rfl rfl h6 ?_
      refine RunQ.val (lt rfl) (Y.move rfl) ?_
      refine RunQ.on rfl rfl rfl h6 ?_
      refine RunQ.val (lt rfl) (Y.move rfl) ?_
      refine RunQ.on rfl rfl rfl h6 ?_
      refine RunQ.val (lt rfl) (Y.idxN x rfl rfl Sortr_es51 (by omega) (by omega)) ?_
      refine RunQ.on rfl rfl rfl h6 ?_
      refine RunQ.val (lt rfl) (Y.ldA (enc := Rg.cells) (d := d) (rest := rest) (e := 53) (i := x) rfl Sortr_ag53 (Kn.at 0 rfl) Rg.enc (by first | omega | (simp only [swp_size, Array.size_setIfInBounds]; omega)) rfl) ?_
      refine RunQ.on rfl rfl rfl h6 ?_
      refine RunQ.call0 (l := [.tmp 113, .tmp 117]) rfl rfl rfl (lt rfl) ((hcmp (d[u]!) (d[x]!)).frame) ?_
      refine RunQ.on rfl rfl rfl h6 ?_
      refine RunQ.val (lt rfl) (Y.int rfl rfl rfl) ?_
      refine RunQ.val (lt rfl) (Y.pick_t rfl h6 rfl) ?_
      refine RunQ.to_end ?_
      refine Ex.go ?_
      rcases Bool.eq_false_or_eq_true (decide ((cm (d[u]!) (d[x]!)) < 0)) with h7 | h7
      ·have g7 := h7
       try simp only [kb] at g7
       refine Tr.cond_t rfl h7 ?_
       refine Tr.to_end ?_
       refine Ex.go ?_
       refine Tr.block ?_
       refine Tr.region ?_
       refine Run.val (lt rfl) (Y.move rfl) ?_
       refine Run.val (lt rfl) (Y.addN ((u + 1 : Nat) : Int) rfl rfl (by omega) (by omega)) ?_
       refine Run.val (lt rfl) (Y.assign rfl) ?_
       refine Run.to_end ?_
       refine Ex.end_block ?_
       exact Ex.round (u + 1 : Nat) ⟨(up1_go (by omega) (by assumption)).trans m1, by omega, by omega⟩ (by omega) rfl rfl (subB_cons (by first | rfl | exact congrArg (fun z => some (Value.int _ z)) (by omega)) (subB_cons (by first | rfl | exact congrArg (fun z => some (Value.int _ z)) (by omega)) (subB_cons (by first | rfl | exact congrArg (fun z => some (Value.int _ z)) (by omega)) (subB_cons (by first | rfl | exact congrArg (fun z => some (Value.int _ z)) (by omega)) (subB_cons (by first | rfl | exact congrArg (fun z => some (Value.int _ z)) (by omega)) (subB_cons (by first | rfl | exact congrArg (fun z => some (Value.int _ z)) (by omega)) (subB_cons (by first | rfl | exact congrArg (fun z => some (Value.int _ z)) (by omega)) (subB_cons (by first | rfl | exact congrArg (fun z => some (Value.int _ z)) (by omega)) (subB_cons (by first | rfl | exact congrArg (fun z => some (Value.int _ z)) (by omega)) (subB_nil _))))))))))
      ·have g7 := h7
       try simp only [kb] at g7
       refine Tr.cond_f rfl h7 ?_
       refine Tr.to_exit ?_
       refine Ex.exit_then ?_
       refine Ex.exit_then ?_
       refine Ex.exit_in ?_
       exact Ex.cutx u ⟨m1.symm.trans (up1_stop (by first | (left; omega) | (right; assumption))), m2, m3⟩ rfl rfl (subB_cons (by first | rfl | exact congrArg (fun z => some (Value.int _ z)) (by omega)) (subB_cons (by first | rfl | exact congrArg (fun z => some (Value.int _ z)) (by omega)) (subB_cons (by first | rfl | exact congrArg (fun z => some (Value.int _ z)) (by omega)) (subB_cons (by first | rfl | exact congrArg (fun z => some (Value.int _ z)) (by omega)) (subB_cons (by first | rfl | exact congrArg (fun z => some (Value.int _ z)) (by omega)) (subB_cons (by first | rfl | exact congrArg (fun z => some (Value.int _ z)) (by omega)) (subB_cons (by first | rfl | exact congrArg (fun z => some (Value.int _ z)) (by omega)) (subB_cons (by first | rfl | exact congrArg (fun z => some (Value.int _ z)) (by omega)) (subB_cons (by first | rfl | exact congrArg (fun z => some (Value.int _ z)) (by omega)) (subB_nil _))))))))))
     ·have g6 := h6
      try simp only [kb] at g6
      refine RunQ.off rfl rfl rfl h6 rfl (lt rfl) ?_
      refine RunQ.off rfl rfl rfl h6 rfl (lt rfl) ?_
      refine RunQ.off rfl rfl rfl h6 rfl (lt rfl) ?_
      refine RunQ.off rfl rfl rfl h6 rfl (lt rfl) ?_
      refine RunQ.off rfl rfl rfl h6 rfl (lt rfl) ?_
      refine RunQ.off rfl rfl rfl h6 rfl (lt rfl) ?_
      refine RunQ.off rfl rfl rfl h6 rfl (lt rfl) ?_
      refine RunQ.off rfl rfl rfl h6 rfl (lt rfl) ?_
      refine RunQ.off rfl rfl rfl h6 rfl (lt rfl) ?_
      refine RunQ.off rfl rfl rfl h6 rfl (lt rfl) ?_
      refine RunQ.off rfl rfl rfl h6 rfl (lt rfl) ?_
      refine RunQ.val (lt rfl) (Y.pick_f rfl h6 rfl) ?_
      refine RunQ.to_end ?_
      refine Ex.go ?_
      refine Tr.cond_f rfl rfl ?_
      refine Tr.to_exit ?_
      refine Ex.exit_then ?_
      refine Ex.exit_then ?_
      refine Ex.exit_in ?_
      exact Ex.cutx u ⟨m1.symm.trans (up1_stop (by first | (left; omega) | (right; assumption))), m2, m3⟩ rfl rfl (subB_cons (by first | rfl | exact congrArg (fun z => some (Value.int _ z)) (by omega)) (subB_cons (by first | rfl | exact congrArg (fun z => some (Value.int _ z)) (by omega)) (subB_cons (by first | rfl | exact congrArg (fun z => some (Value.int _ z)) (by omega)) (subB_cons (by first | rfl | exact congrArg (fun z => some (Value.int _ z)) (by omega)) (subB_cons (by first | rfl | exact congrArg (fun z => some (Value.int _ z)) (by omega)) (subB_cons (by first | rfl | exact congrArg (fun z => some (Value.int _ z)) (by omega)) (subB_cons (by first | rfl | exact congrArg (fun z => some (Value.int _ z)) (by omega)) (subB_cons (by first | rfl | exact congrArg (fun z => some (Value.int _ z)) (by omega)) (subB_cons (by first | rfl | exact congrArg (fun z => some (Value.int _ z)) (by omega)) (subB_nil _))))))))))
    ·rintro i2 ⟨f1, f2, f3⟩
     refine Tr.cutx (X := Nat) (fun j2 => V) (fun j2 => [sgD Rg.cells 53 b rest d]) (fun j2 => [(0, .slice (some ⟨b, 0, none⟩) n c), (1, .int .i64 ((x : Nat) : Int)), (2, .int .i64 ((y : Nat) : Int)), (3, .int .i64 ((p : Nat) : Int)), (4, .func (.func gf) #[] caps.toArray), (10, .int .i64 0), (11, .bool false), (12, .int .i64 ((i2 : Nat) : Int)), (13, .int .i64 ((j2 : Nat) : Int))]) (fun j2 => dn1 (ltc cm) d x i2 j = j2 ∧ i2 ≤ j2 + 1 ∧ j2 ≤ j) ?_ ?_
     ·refine Tr.block ?_
      refine Tr.loop (X := Nat) (fun z0 => V) (fun z0 => [sgD Rg.cells 53 b rest d]) (fun z0 => [(0, .slice (some ⟨b, 0, none⟩) n c), (1, .int .i64 ((x : Nat) : Int)), (2, .int .i64 ((y : Nat) : Int)), (3, .int .i64 ((p : Nat) : Int)), (4, .func (.func gf) #[] caps.toArray), (10, .int .i64 0), (11, .bool false), (12, .int .i64 ((i2 : Nat) : Int)), (13, .int .i64 ((z0 : Nat) : Int))]) (fun z0 => dn1 (ltc cm) d x i2 z0 = dn1 (ltc cm) d x i2 j ∧ i2 ≤ z0 + 1 ∧ z0 ≤ j) (fun z0 => z0) (j : Nat) ⟨rfl, by omega, Nat.le_refl _⟩ (fun a w i => ⟨i.1.sub (subB_cons (by first | rfl | exact congrArg (fun z => some (Value.int _ z)) (by omega)) (subB_cons (by first | rfl | exact congrArg (fun z => some (Value.int _ z)) (by omega)) (subB_cons (by first | rfl | exact congrArg (fun z => some (Value.int _ z)) (by omega)) (subB_cons (by first | rfl | exact congrArg (fun z => some (Value.int _ z)) (by omega)) (subB_cons (by first | rfl | exact congrArg (fun z => some (Value.int _ z)) (by omega)) (subB_cons (by first | rfl | exact congrArg (fun z => some (Value.int _ z)) (by omega)) (subB_cons (by first | rfl | exact congrArg (fun z => some (Value.int _ z)) (by omega)) (subB_cons (by first | rfl | exact congrArg (fun z => some (Value.int _ z)) (by omega)) (subB_cons (by first | rfl | exact congrArg (fun z => some (Value.int _ z)) (by omega)) (subB_nil _)))))))))), i.2⟩) ?_
      rintro t ⟨n1, n2, n3⟩
      try dsimp only at n1 n2 n3 ⊢
      refine Tr.seq ?_
      refine Tr.seq ?_
      refine Tr.quiet Sortr_mo (by kernel_rfl) ?_
      refine RunQ.val (lt rfl) (Y.move rfl) ?_
      refine RunQ.val (lt rfl) (Y.move rfl) ?_
      refine RunQ.val (lt rfl) (Y.int rfl rfl rfl) ?_
      refine RunQ.val (lt rfl) (Y.move rfl) ?_
      rcases Bool.eq_false_or_eq_true (decide (((i2 : Nat) : Int) ≤ ((t : Nat) : Int))) with h8 | h8
      ·have g8 := h8
       try simp only [kb] at g8
       refine RunQ.on rfl rfl rfl h8 ?_
       refine RunQ.val (lt rfl) (Y.move rfl) ?_
       refine RunQ.on rfl rfl rfl h8 ?_
       refine RunQ.val (lt rfl) (Y.move rfl) ?_
       refine RunQ.on rfl rfl rfl h8 ?_
       refine RunQ.val (lt rfl) (Y.move rfl) ?_
       refine RunQ.on rfl rfl rfl h8 ?_
       refine RunQ.val (lt rfl) (Y.idxN t rfl rfl Sortr_es51 (by omega) (by omega)) ?_
       refine RunQ.on rfl rfl rfl h8 ?_
       refine RunQ.val (lt rfl) (Y.ldA (enc := Rg.cells) (d := d) (rest := rest) (e := 53) (i := t) rfl Sortr_ag53 (Kn.at 0 rfl) Rg.enc (by first | omega | (simp only [swp_size, Array.size_setIfInBounds]; omega)) rfl) ?_
       refine RunQ.on rfl rfl rfl h8 ?_
       refine RunQ.val (lt rfl) (Y.move rfl) ?_
       refine RunQ.on rfl rfl rfl h8 ?_
       refine RunQ.val (lt rfl) (Y.move rfl) ?_
       refine RunQ.on rfl rfl rfl h8 ?_
       refine RunQ.val (lt rfl) (Y.idxN x rfl rfl Sortr_es51 (by omega) (by omega)) ?_
       refine RunQ.on rfl rfl rfl h8 ?_
       refine RunQ.val (lt rfl) (Y.ldA (enc := Rg.cells) (d := d) (rest := rest) (e := 53) (i := x) rfl Sortr_ag53 (Kn.at 0 rfl) Rg.enc (by first | omega | (simp only [swp_size, Array.size_setIfInBounds]; omega)) rfl) ?_
       refine RunQ.on rfl rfl rfl h8 ?_
       refine RunQ.call0 (l := [.tmp 131, .tmp 135]) rfl rfl rfl (lt rfl) ((hcmp (d[t]!) (d[x]!)).frame) ?_
       refine RunQ.on rfl rfl rfl h8 ?_
       refine RunQ.val (lt rfl) (Y.int rfl rfl rfl) ?_
       refine RunQ.on rfl rfl rfl h8 ?_
       refine RunQ.val (lt rfl) (Y.not rfl) ?_
       refine RunQ.val (lt rfl) (Y.pick_t rfl h8 rfl) ?_
       refine RunQ.to_end ?_
       refine Ex.go ?_
       rcases Bool.eq_false_or_eq_true (decide ((cm (d[t]!) (d[x]!)) < 0)) with h9 | h9
       ·have g9 := h9
        try simp only [kb] at g9
        refine Tr.cond_f rfl (congrArg Bool.not h9) ?_
        refine Tr.to_exit ?_
        refine Ex.exit_then ?_
        refine Ex.exit_then ?_
        refine Ex.exit_in ?_
        exact Ex.cutx t ⟨n1.symm.trans (dn1_stop (by omega) (by first | (left; omega) | (right; assumption))), n2, n3⟩ rfl rfl (subB_cons (by first | rfl | exact congrArg (fun z => some (Value.int _ z)) (by omega)) (subB_cons (by first | rfl | exact congrArg (fun z => some (Value.int _ z)) (by omega)) (subB_cons (by first | rfl | exact congrArg (fun z => some (Value.int _ z)) (by omega)) (subB_cons (by first | rfl | exact congrArg (fun z => some (Value.int _ z)) (by omega)) (subB_cons (by first | rfl | exact congrArg (fun z => some (Value.int _ z)) (by omega)) (subB_cons (by first | rfl | exact congrArg (fun z => some (Value.int _ z)) (by omega)) (subB_cons (by first | rfl | exact congrArg (fun z => some (Value.int _ z)) (by omega)) (subB_cons (by first | rfl | exact congrArg (fun z => some (Value.int _ z)) (by omega)) (subB_cons (by first | rfl | exact congrArg (fun z => some (Value.int _ z)) (by omega)) (subB_nil _))))))))))
       ·have g9 := h9
        try simp only [kb] at g9
        refine Tr.cond_t rfl (congrArg Bool.not h9) ?_
        refine Tr.to_end ?_
        refine Ex.go ?_
        refine Tr.block ?_
        refine Tr.region ?_
        refine Run.val (lt rfl) (Y.move rfl) ?_
        refine Run.val (lt rfl) (Y.subN ((t - 1 : Nat) : Int) rfl rfl (by omega) (by omega)) ?_
        refine Run.val (lt rfl) (Y.assign rfl) ?_
        refine Run.to_end ?_
        refine Ex.end_block ?_
        exact Ex.round (t - 1 : Nat) ⟨(dn1_go (by omega) (by omega) (by assumption)).trans n1, by omega, by omega⟩ (by omega) rfl rfl (subB_cons (by first | rfl | exact congrArg (fun z => some (Value.int _ z)) (by omega)) (subB_cons (by first | rfl | exact congrArg (fun z => some (Value.int _ z)) (by omega)) (subB_cons (by first | rfl | exact congrArg (fun z => some (Value.int _ z)) (by omega)) (subB_cons (by first | rfl | exact congrArg (fun z => some (Value.int _ z)) (by omega)) (subB_cons (by first | rfl | exact congrArg (fun z => some (Value.int _ z)) (by omega)) (subB_cons (by first | rfl | exact congrArg (fun z => some (Value.int _ z)) (by omega)) (subB_cons (by first | rfl | exact congrArg (fun z => some (Value.int _ z)) (by omega)) (subB_cons (by first | rfl | exact congrArg (fun z => some (Value.int _ z)) (by omega)) (subB_cons (by first | rfl | exact congrArg (fun z => some (Value.int _ z)) (by omega)) (subB_nil _))))))))))
      ·have g8 := h8
       try simp only [kb] at g8
       refine RunQ.off rfl rfl rfl h8 rfl (lt rfl) ?_
       refine RunQ.off rfl rfl rfl h8 rfl (lt rfl) ?_
       refine RunQ.off rfl rfl rfl h8 rfl (lt rfl) ?_
       refine RunQ.off rfl rfl rfl h8 rfl (lt rfl) ?_
       refine RunQ.off rfl rfl rfl h8 rfl (lt rfl) ?_
       refine RunQ.off rfl rfl rfl h8 rfl (lt rfl) ?_
       refine RunQ.off rfl rfl rfl h8 rfl (lt rfl) ?_
       refine RunQ.off rfl rfl rfl h8 rfl (lt rfl) ?_
       refine RunQ.off rfl rfl rfl h8 rfl (lt rfl) ?_
       refine RunQ.off rfl rfl rfl h8 rfl (lt rfl) ?_
       refine RunQ.off rfl rfl rfl h8 rfl (lt rfl) ?_
       refine RunQ.off rfl rfl rfl h8 rfl (lt rfl) ?_
       refine RunQ.val (lt rfl) (Y.pick_f rfl h8 rfl) ?_
       refine RunQ.to_end ?_
       refine Ex.go ?_
       refine Tr.cond_f rfl rfl ?_
       refine Tr.to_exit ?_
       refine Ex.exit_then ?_
       refine Ex.exit_then ?_
       refine Ex.exit_in ?_
       exact Ex.cutx t ⟨n1.symm.trans (dn1_stop (by omega) (by first | (left; omega) | (right; assumption))), n2, n3⟩ rfl rfl (subB_cons (by first | rfl | exact congrArg (fun z => some (Value.int _ z)) (by omega)) (subB_cons (by first | rfl | exact congrArg (fun z => some (Value.int _ z)) (by omega)) (subB_cons (by first | rfl | exact congrArg (fun z => some (Value.int _ z)) (by omega)) (subB_cons (by first | rfl | exact congrArg (fun z => some (Value.int _ z)) (by omega)) (subB_cons (by first | rfl | exact congrArg (fun z => some (Value.int _ z)) (by omega)) (subB_cons (by first | rfl | exact congrArg (fun z => some (Value.int _ z)) (by omega)) (subB_cons (by first | rfl | exact congrArg (fun z => some (Value.int _ z)) (by omega)) (subB_cons (by first | rfl | exact congrArg (fun z => some (Value.int _ z)) (by omega)) (subB_cons (by first | rfl | exact congrArg (fun z => some (Value.int _ z)) (by omega)) (subB_nil _))))))))))
     ·rintro j2 ⟨g1, g2, g3⟩
      refine Tr.seq ?_
      refine Tr.seq ?_
      refine Tr.region ?_
      refine Run.val (lt rfl) (Y.move rfl) ?_
      refine Run.val (lt rfl) (Y.move rfl) ?_
      refine Run.val (lt rfl) (Y.int rfl rfl rfl) ?_
      refine Run.to_end ?_
      refine Ex.go ?_
      rcases Bool.eq_false_or_eq_true (decide (((i2 : Nat) : Int) > ((j2 : Nat) : Int))) with h10 | h10
      ·have g10 := h10
       try simp only [kb] at g10
       refine Tr.cond_t rfl h10 ?_
       refine Tr.to_exit ?_
       refine Ex.exit_then ?_
       refine Ex.exit_out rfl ?_
       refine Ex.exit_then ?_
       refine Ex.exit_in ?_
       refine Ex.go ?_
       refine Tr.seq ?_
       refine Tr.anyT [(b, .cells (cel Rg.cells d rest).toArray 53 (0, 0))] 13 Sortr_mo ?_
       refine RunT.pure (i := 0) rfl (by kernel_rfl) (by kernel_rfl) (by kernel_rfl) (by kernel_rfl) (fun _ _ _ h => h) (lt rfl) (KnAll.cons (Kn.at 0 rfl) KnAll.nil) (fun _ => (Y.move rfl)) ?_
       refine RunT.pure (i := 1) rfl (by kernel_rfl) (by kernel_rfl) (by kernel_rfl) (by kernel_rfl) (fun _ _ _ h => h) (lt rfl) (KnAll.cons (Kn.at 0 rfl) KnAll.nil) (fun _ => (Y.move rfl)) ?_
       refine RunT.pure (i := 2) rfl (by kernel_rfl) (by kernel_rfl) (by kernel_rfl) (by kernel_rfl) (fun _ _ _ h => h) (lt rfl) (KnAll.cons (Kn.at 0 rfl) KnAll.nil) (fun _ => (Y.move rfl)) ?_
       refine RunT.pure (i := 3) rfl (by kernel_rfl) (by kernel_rfl) (by kernel_rfl) (by kernel_rfl) (fun _ _ _ h => h) (lt rfl) (KnAll.cons (Kn.at 0 rfl) KnAll.nil) (fun _ => (Y.move rfl)) ?_
       refine RunT.pure (i := 4) rfl (by kernel_rfl) (by kernel_rfl) (by kernel_rfl) (by kernel_rfl) (fun _ _ _ h => h) (lt rfl) (KnAll.cons (Kn.at 0 rfl) KnAll.nil) (fun _ => (Y.move rfl)) ?_
       refine RunT.pure (i := 5) rfl (by kernel_rfl) (by kernel_rfl) (by kernel_rfl) (by kernel_rfl) (fun _ _ _ h => h) (lt rfl) (KnAll.cons (Kn.at 0 rfl) KnAll.nil) (fun _ => (Y.move rfl)) ?_
       refine RunT.pure (i := 6) rfl (by kernel_rfl) (by kernel_rfl) (by kernel_rfl) (by kernel_rfl) (fun _ _ _ h => h) (lt rfl) (KnAll.cons (Kn.at 0 rfl) KnAll.nil) (fun _ => (Y.idxN x rfl rfl Sortr_es51 (by omega) (by omega))) ?_
       refine RunT.take (i := 7) 0 rfl rfl (by kernel_rfl) (by kernel_rfl) (by kernel_rfl) (by kernel_rfl) (fun _ _ _ h => h) (lt rfl) (KnAll.cons (Kn.at 0 rfl) KnAll.nil) (fun _ => (Y.ldA (enc := Rg.cells) (d := d) (rest := rest) (e := 53) (i := x) rfl Sortr_ag53 Kn.vk1 Rg.enc (by first | omega | (simp only [swp_size, Array.size_setIfInBounds]; omega)) rfl)) ?_
       refine RunT.pure (i := 8) rfl (by kernel_rfl) (by kernel_rfl) (by kernel_rfl) (by kernel_rfl) (fun _ _ _ h => h) (lt rfl) (KnAll.cons (Kn.at 0 rfl) KnAll.nil) (fun _ => (Y.move rfl)) ?_
       refine RunT.pure (i := 9) rfl (by kernel_rfl) (by kernel_rfl) (by kernel_rfl) (by kernel_rfl) (fun _ _ _ h => h) (lt rfl) (KnAll.cons (Kn.at 0 rfl) KnAll.nil) (fun _ => (Y.move rfl)) ?_
       refine RunT.pure (i := 10) rfl (by kernel_rfl) (by kernel_rfl) (by kernel_rfl) (by kernel_rfl) (fun _ _ _ h => h) (lt rfl) (KnAll.cons (Kn.at 0 rfl) KnAll.nil) (fun _ => (Y.idxN j2 rfl rfl Sortr_es51 (by omega) (by omega))) ?_
       refine RunT.take (i := 11) 0 rfl rfl (by kernel_rfl) (by kernel_rfl) (by kernel_rfl) (by kernel_rfl) (fun _ _ _ h => h) (lt rfl) (KnAll.cons (Kn.at 0 rfl) KnAll.nil) (fun _ => (Y.ldA (enc := Rg.cells) (d := d) (rest := rest) (e := 53) (i := j2) rfl Sortr_ag53 Kn.vk1 Rg.enc (by first | omega | (simp only [swp_size, Array.size_setIfInBounds]; omega)) rfl)) ?_
       refine RunT.pure (i := 12) rfl (by kernel_rfl) (by kernel_rfl) (by kernel_rfl) (by kernel_rfl) (fun _ _ _ h => h) (lt rfl) (KnAll.cons (Kn.at 0 rfl) KnAll.nil) (fun _ => (Y.idxN j2 rfl rfl Sortr_es51 (by omega) (by omega))) ?_
       refine RunT.one (i := 13) (by kernel_rfl) rfl  ?_ 
       refine Run.stD (enc := Rg.cells) (d := d) (rest := rest) (e := 53) (i := j2) (s := 0) (d[x]!) rfl rfl Sortr_sz53 rfl Rg.enc (by first | omega | (simp only [swp_size, Array.size_setIfInBounds]; omega)) rfl ?_
       refine Run.to_end ?_
       refine Ex.anyTz (i := 13) rfl rfl rfl ?_
       refine RunT.one (i := 14) (by kernel_rfl) rfl  ?_ 
       refine Run.val (lt rfl) (Y.idxN x rfl rfl Sortr_es51 (by omega) (by omega)) ?_
       refine Run.to_end ?_
       refine Ex.anyTz (i := 14) rfl rfl rfl ?_
       refine RunT.one (i := 15) (by kernel_rfl) rfl  ?_ 
       refine Run.stD (enc := Rg.cells) (d := (d).setIfInBounds j2 (d[x]!)) (rest := rest) (e := 53) (i := x) (s := 0) (d[j2]!) rfl rfl Sortr_sz53 rfl Rg.enc (by first | omega | (simp only [swp_size, Array.size_setIfInBounds]; omega)) rfl ?_
       refine Run.heapTo (H' := [sgD Rg.cells 53 b rest (swp d j2 x)]) rfl ?_
       refine Run.to_end ?_
       refine Ex.anyTz (i := 15) rfl rfl rfl ?_
       refine RunT.done (by kernel_rfl) ?_
       refine Ex.go ?_
       refine Tr.seq ?_
       refine Tr.region ?_
       refine Run.val (lt rfl) (Y.move rfl) ?_
       refine Run.val (lt rfl) (Y.assign rfl) ?_
       refine Run.val (lt rfl) (Y.assign rfl) ?_
       refine Run.to_end ?_
       refine Ex.go ?_
       refine Tr.to_ret ?_
       refine Ex.keep [0] ?_
       exact Ex.ret2 rfl rfl rfl  ⟨rfl, by subst hd1; rw [partition_two c1 e1 (by omega) (k1.symm.trans (partLoop_end f1 g1 (by omega)))], by subst hd1; rw [partition_two c1 e1 (by omega) (k1.symm.trans (partLoop_end f1 g1 (by omega)))]; rfl⟩
      ·have g10 := h10
       try simp only [kb] at g10
       refine Tr.cond_f rfl h10 ?_
       refine Tr.to_end ?_
       refine Ex.go ?_
       refine Tr.seq ?_
       refine Tr.anyT [(b, .cells (cel Rg.cells d rest).toArray 53 (0, 0))] 13 Sortr_mo ?_
       refine RunT.pure (i := 0) rfl (by kernel_rfl) (by kernel_rfl) (by kernel_rfl) (by kernel_rfl) (fun _ _ _ h => h) (lt rfl) (KnAll.cons (Kn.at 0 rfl) KnAll.nil) (fun _ => (Y.move rfl)) ?_
       refine RunT.pure (i := 1) rfl (by kernel_rfl) (by kernel_rfl) (by kernel_rfl) (by kernel_rfl) (fun _ _ _ h => h) (lt rfl) (KnAll.cons (Kn.at 0 rfl) KnAll.nil) (fun _ => (Y.move rfl)) ?_
       refine RunT.pure (i := 2) rfl (by kernel_rfl) (by kernel_rfl) (by kernel_rfl) (by kernel_rfl) (fun _ _ _ h => h) (lt rfl) (KnAll.cons (Kn.at 0 rfl) KnAll.nil) (fun _ => (Y.move rfl)) ?_
       refine RunT.pure (i := 3) rfl (by kernel_rfl) (by kernel_rfl) (by kernel_rfl) (by kernel_rfl) (fun _ _ _ h => h) (lt rfl) (KnAll.cons (Kn.at 0 rfl) KnAll.nil) (fun _ => (Y.move rfl)) ?_
       refine RunT.pure (i := 4) rfl (by kernel_rfl) (by kernel_rfl) (by kernel_rfl) (by kernel_rfl) (fun _ _ _ h => h) (lt rfl) (KnAll.cons (Kn.at 0 rfl) KnAll.nil) (fun _ => (Y.move rfl)) ?_
       refine RunT.pure (i := 5) rfl (by kernel_rfl) (by kernel_rfl) (by kernel_rfl) (by kernel_rfl) (fun _ _ _ h => h) (lt rfl) (KnAll.cons (Kn.at 0 rfl) KnAll.nil) (fun _ => (Y.move rfl)) ?_
       refine RunT.pure (i := 6) rfl (by kernel_rfl) (by kernel_rfl) (by kernel_rfl) (by kernel_rfl) (fun _ _ _ h => h) (lt rfl) (KnAll.cons (Kn.at 0 rfl) KnAll.nil) (fun _ => (Y.idxN j2 rfl rfl Sortr_es51 (by omega) (by omega))) ?_
       refine RunT.take (i := 7) 0 rfl rfl (by kernel_rfl) (by kernel_rfl) (by kernel_rfl) (by kernel_rfl) (fun _ _ _ h => h) (lt rfl) (KnAll.cons (Kn.at 0 rfl) KnAll.nil) (fun _ => (Y.ldA (enc := Rg.cells) (d := d) (rest := rest) (e := 53) (i := j2) rfl Sortr_ag53 Kn.vk1 Rg.enc (by first | omega | (simp only [swp_size, Array.size_setIfInBounds]; omega)) rfl)) ?_
       refine RunT.pure (i := 8) rfl (by kernel_rfl) (by kernel_rfl) (by kernel_rfl) (by kernel_rfl) (fun _ _ _ h => h) (lt rfl) (KnAll.cons (Kn.at 0 rfl) KnAll.nil) (fun _ => (Y.move rfl)) ?_
       refine RunT.pure (i := 9) rfl (by kernel_rfl) (by kernel_rfl) (by kernel_rfl) (by kernel_rfl) (fun _ _ _ h => h) (lt rfl) (KnAll.cons (Kn.at 0 rfl) KnAll.nil) (fun _ => (Y.move rfl)) ?_
       refine RunT.pure (i := 10) rfl (by kernel_rfl) (by kernel_rfl) (by kernel_rfl) (by kernel_rfl) (fun _ _ _ h => h) (lt rfl) (KnAll.cons (Kn.at 0 rfl) KnAll.nil) (fun _ => (Y.idxN i2 rfl rfl Sortr_es51 (by omega) (by omega))) ?_
       refine RunT.take (i := 11) 0 rfl rfl (by kernel_rfl) (by kernel_rfl) (by kernel_rfl) (by kernel_rfl) (fun _ _ _ h => h) (lt rfl) (KnAll.cons (Kn.at 0 rfl) KnAll.nil) (fun _ => (Y.ldA (enc := Rg.cells) (d := d) (rest := rest) (e := 53) (i := i2) rfl Sortr_ag53 Kn.vk1 Rg.enc (by first | omega | (simp only [swp_size, Array.size_setIfInBounds]; omega)) rfl)) ?_
       refine RunT.pure (i := 12) rfl (by kernel_rfl) (by kernel_rfl) (by kernel_rfl) (by kernel_rfl) (fun _ _ _ h => h) (lt rfl) (KnAll.cons (Kn.at 0 rfl) KnAll.nil) (fun _ => (Y.idxN i2 rfl rfl Sortr_es51 (by omega) (by omega))) ?_
       refine RunT.one (i := 13) (by kernel_rfl) rfl  ?_ 
       refine Run.stD (enc := Rg.cells) (d := d) (rest := rest) (e := 53) (i := i2) (s := 0) (d[j2]!) rfl rfl Sortr_sz53 rfl Rg.enc (by first | omega | (simp only [swp_size, Array.size_setIfInBounds]; omega)) rfl ?_
       refine Run.to_end ?_
       refine Ex.anyTz (i := 13) rfl rfl rfl ?_
       refine RunT.one (i := 14) (by kernel_rfl) rfl  ?_ 
       refine Run.val (lt rfl) (Y.idxN j2 rfl rfl Sortr_es51 (by omega) (by omega)) ?_
       refine Run.to_end ?_
       refine Ex.anyTz (i := 14) rfl rfl rfl ?_
       refine RunT.one (i := 15) (by kernel_rfl) rfl  ?_ 
       refine Run.stD (enc := Rg.cells) (d := (d).setIfInBounds i2 (d[j2]!)) (rest := rest) (e := 53) (i := j2) (s := 0) (d[i2]!) rfl rfl Sortr_sz53 rfl Rg.enc (by first | omega | (simp only [swp_size, Array.size_setIfInBounds]; omega)) rfl ?_
       refine Run.heapTo (H' := [sgD Rg.cells 53 b rest (swp d i2 j2)]) rfl ?_
       refine Run.to_end ?_
       refine Ex.anyTz (i := 15) rfl rfl rfl ?_
       refine RunT.done (by kernel_rfl) ?_
       refine Ex.go ?_
       refine Tr.seq ?_
       refine Tr.region ?_
       refine Run.val (lt rfl) (Y.move rfl) ?_
       refine Run.val (lt rfl) (Y.addN ((i2 + 1 : Nat) : Int) rfl rfl (by omega) (by omega)) ?_
       refine Run.val (lt rfl) (Y.assign rfl) ?_
       refine Run.to_end ?_
       refine Ex.go ?_
       refine Tr.region ?_
       refine Run.val (lt rfl) (Y.move rfl) ?_
       refine Run.val (lt rfl) (Y.subN ((j2 - 1 : Nat) : Int) rfl rfl (by omega) (by omega)) ?_
       refine Run.val (lt rfl) (Y.assign rfl) ?_
       refine Run.to_end ?_
       refine Ex.end_block ?_
       exact Ex.round (⟨i2 + 1, j2 - 1, swp d i2 j2⟩ : Nat × Nat × Array Rg) ⟨(partLoop_go f1 g1 (by omega)).symm.trans k1, by simp only [swp_size]; exact k2, by have := cross1 f1 g1 (by omega) (by omega) (by omega); dsimp only; omega, by have := cross1 f1 g1 (by omega) (by omega) (by omega); dsimp only; omega, by (try dsimp only); omega⟩ (by dsimp only; omega) rfl rfl (subB_cons (by first | rfl | exact congrArg (fun z => some (Value.int _ z)) (by omega)) (subB_cons (by first | rfl | exact congrArg (fun z => some (Value.int _ z)) (by omega)) (subB_cons (by first | rfl | exact congrArg (fun z => some (Value.int _ z)) (by omega)) (subB_cons (by first | rfl | exact congrArg (fun z => some (Value.int _ z)) (by omega)) (subB_cons (by first | rfl | exact congrArg (fun z => some (Value.int _ z)) (by omega)) (subB_cons (by first | rfl | exact congrArg (fun z => some (Value.int _ z)) (by omega)) (subB_cons (by first | rfl | exact congrArg (fun z => some (Value.int _ z)) (by omega)) (subB_cons (by first | rfl | exact congrArg (fun z => some (Value.int _ z)) (by omega)) (subB_cons (by first | rfl | exact congrArg (fun z => some (Value.int _ z)) (by omega)) (subB_nil _))))))))))

theorem pareq_r {V : Vw} {n c b : Nat} {rest : List Value} {d0 : Array Rg} {gf : FuncId} {caps : List Value} {cm : Rg → Rg → Int} {x y p : Nat}  (hN : n ≤ 1073741824) (hd : d0.size = n) (hx : x ≤ p) (hp : p < y) (hy : y ≤ n)  (hcmp : ∀ x y : Rg, Does Try.prog gf (.agg (Rg.cells x).toArray :: .agg (Rg.cells y).toArray :: caps) V [] (Pv (.int .i64 (cm x y)) V [])) (hswo : SWO (ltc cm))  : Does Try.prog 165 [.slice (some ⟨b, 0, none⟩) n c, .int .i64 ((x : Nat) : Int), .int .i64 ((y : Nat) : Int), .int .i64 ((p : Nat) : Int), .func (.func gf) #[] caps.toArray] V [sgD Rg.cells 53 b rest d0] (fun v V' H' => V' = V ∧ v = .int .i64 ((partitionEqual (ltc cm) d0 x y p).1 : Int) ∧ H' = [sgD Rg.cells 53 b rest ((partitionEqual (ltc cm) d0 x y p).2)]) := by
 refine Does.intro Try.func165 rfl rfl (le rfl) (fun B => ?_)
 refine Tr.seq ?_
 refine Tr.region ?_
 refine Run.val (lt rfl) (Y.assign rfl) ?_
 refine Run.to_end ?_
 refine Ex.go ?_
 refine Tr.seq ?_
 refine Tr.anyT [(b, .cells (cel Rg.cells d0 rest).toArray 53 (0, 0))] 13 Sortr_mo ?_
 refine RunT.pure (i := 0) rfl (by kernel_rfl) (by kernel_rfl) (by kernel_rfl) (by kernel_rfl) (fun _ _ _ h => h) (lt rfl) (KnAll.cons (Kn.at 0 rfl) KnAll.nil) (fun _ => (Y.move rfl)) ?_
 refine RunT.pure (i := 1) rfl (by kernel_rfl) (by kernel_rfl) (by kernel_rfl) (by kernel_rfl) (fun _ _ _ h => h) (lt rfl) (KnAll.cons (Kn.at 0 rfl) KnAll.nil) (fun _ => (Y.move rfl)) ?_
 refine RunT.pure (i := 2) rfl (by kernel_rfl) (by kernel_rfl) (by kernel_rfl) (by kernel_rfl) (fun _ _ _ h => h) (lt rfl) (KnAll.cons (Kn.at 0 rfl) KnAll.nil) (fun _ => (Y.move rfl)) ?_
 refine RunT.pure (i := 3) rfl (by kernel_rfl) (by kernel_rfl) (by kernel_rfl) (by kernel_rfl) (fun _ _ _ h => h) (lt rfl) (KnAll.cons (Kn.at 0 rfl) KnAll.nil) (fun _ => (Y.move rfl)) ?_
 refine RunT.pure (i := 4) rfl (by kernel_rfl) (by kernel_rfl) (by kernel_rfl) (by kernel_rfl) (fun _ _ _ h => h) (lt rfl) (KnAll.cons (Kn.at 0 rfl) KnAll.nil) (fun _ => (Y.move rfl)) ?_
 refine RunT.pure (i := 5) rfl (by kernel_rfl) (by kernel_rfl) (by kernel_rfl) (by kernel_rfl) (fun _ _ _ h => h) (lt rfl) (KnAll.cons (Kn.at 0 rfl) KnAll.nil) (fun _ => (Y.move rfl)) ?_
 refine RunT.pure (i := 6) rfl (by kernel_rfl) (by kernel_rfl) (by kernel_rfl) (by kernel_rfl) (fun _ _ _ h => h) (lt rfl) (KnAll.cons (Kn.at 0 rfl) KnAll.nil) (fun _ => (Y.idxN p rfl rfl Sortr_es51 (by omega) (by omega))) ?_
 refine RunT.take (i := 7) 0 rfl rfl (by kernel_rfl) (by kernel_rfl) (by kernel_rfl) (by kernel_rfl) (fun _ _ _ h => h) (lt rfl) (KnAll.cons (Kn.at 0 rfl) KnAll.nil) (fun _ => (Y.ldA (enc := Rg.cells) (d := d0) (rest := rest) (e := 53) (i := p) rfl Sortr_ag53 Kn.vk1 Rg.enc (by first | omega | (simp only [swp_size, Array.size_setIfInBounds]; omega)) rfl)) ?_
 refine RunT.pure (i := 8) rfl (by kernel_rfl) (by kernel_rfl) (by kernel_rfl) (by kernel_rfl) (fun _ _ _ h => h) (lt rfl) (KnAll.cons (Kn.at 0 rfl) KnAll.nil) (fun _ => (Y.move rfl)) ?_
 refine RunT.pure (i := 9) rfl (by kernel_rfl) (by kernel_rfl) (by kernel_rfl) (by kernel_rfl) (fun _ _ _ h => h) (lt rfl) (KnAll.cons (Kn.at 0 rfl) KnAll.nil) (fun _ => (Y.move rfl)) ?_
 refine RunT.pure (i := 10) rfl (by kernel_rfl) (by kernel_rfl) (by kernel_rfl) (by kernel_rfl) (fun _ _ _ h => h) (lt rfl) (KnAll.cons (Kn.at 0 rfl) KnAll.nil) (fun _ => (Y.idxN x rfl rfl Sortr_es51 (by omega) (by omega))) ?_
 refine RunT.take (i := 11) 0 rfl rfl (by kernel_rfl) (by kernel_rfl) (by kernel_rfl) (by kernel_rfl) (fun _ _ _ h => h) (lt rfl) (KnAll.cons (Kn.at 0 rfl) KnAll.nil) (fun _ => (Y.ldA (enc := Rg.cells) (d := d0) (rest := rest) (e := 53) (i := x) rfl Sortr_ag53 Kn.vk1 Rg.enc (by first | omega | (simp only [swp_size, Array.size_setIfInBounds]; omega)) rfl)) ?_
 refine RunT.pure (i := 12) rfl (by kernel_rfl) (by kernel_rfl) (by kernel_rfl) (by kernel_rfl) (fun _ _ _ h => h) (lt rfl) (KnAll.cons (Kn.at 0 rfl) KnAll.nil) (fun _ => (Y.idxN x rfl rfl Sortr_es51 (by omega) (by omega))) ?_
 refine RunT.one (i := 13) (by kernel_rfl) rfl  ?_ 
 refine Run.stD (enc := Rg.cells) (d := d0) (rest := rest) (e := 53) (i := x) (s := 0) (d0[p]!) rfl rfl Sortr_sz53 rfl Rg.enc (by first | omega | (simp only [swp_size, Array.size_setIfInBounds]; omega)) rfl ?_
 refine Run.to_end ?_
 refine Ex.anyTz (i := 13) rfl rfl rfl ?_
 refine RunT.one (i := 14) (by kernel_rfl) rfl  ?_ 
 refine Run.val (lt rfl) (Y.idxN p rfl rfl Sortr_es51 (by omega) (by omega)) ?_
 refine Run.to_end ?_
 refine Ex.anyTz (i := 14) rfl rfl rfl ?_
 refine RunT.one (i := 15) (by kernel_rfl) rfl  ?_ 
 refine Run.stD (enc := Rg.cells) (d := (d0).setIfInBounds x (d0[p]!)) (rest := rest) (e := 53) (i := p) (s := 0) (d0[x]!) rfl rfl Sortr_sz53 rfl Rg.enc (by first | omega | (simp only [swp_size, Array.size_setIfInBounds]; omega)) rfl ?_
 refine Run.heapTo (H' := [sgD Rg.cells 53 b rest (swp d0 x p)]) rfl ?_
 refine Run.to_end ?_
 refine Ex.anyTz (i := 15) rfl rfl rfl ?_
 refine RunT.done (by kernel_rfl) ?_
 refine Ex.go ?_
 refine Tr.seq ?_
 refine Tr.region ?_
 refine Run.val (lt rfl) (Y.move rfl) ?_
 refine Run.val (lt rfl) (Y.addN ((x + 1 : Nat) : Int) rfl rfl (by omega) (by omega)) ?_
 refine Run.val (lt rfl) (Y.move rfl) ?_
 refine Run.val (lt rfl) (Y.subN ((y - 1 : Nat) : Int) rfl rfl (by omega) (by omega)) ?_
 refine Run.val (lt rfl) (Y.assign rfl) ?_
 refine Run.val (lt rfl) (Y.assign rfl) ?_
 refine Run.to_end ?_
 refine Ex.go ?_
 refine Tr.seq ?_
 refine Tr.block ?_
 refine Tr.loop (X := Nat × Nat × Array Rg) (fun z0 => V) (fun z0 => [sgD Rg.cells 53 b rest z0.2.2]) (fun z0 => [(0, .slice (some ⟨b, 0, none⟩) n c), (1, .int .i64 ((x : Nat) : Int)), (2, .int .i64 ((y : Nat) : Int)), (3, .int .i64 ((p : Nat) : Int)), (4, .func (.func gf) #[] caps.toArray), (10, .int .i64 0), (11, .int .i64 ((z0.1 : Nat) : Int)), (12, .int .i64 ((z0.2.1 : Nat) : Int))]) (fun z0 => partEqLoop (ltc cm) x z0.1 z0.2.1 z0.2.2 = partitionEqual (ltc cm) d0 x y p ∧ z0.2.2.size = n ∧ x < z0.1 ∧ z0.1 ≤ z0.2.1 + 1 ∧ z0.2.1 < y) (fun z0 => z0.2.1 + 1 - z0.1) (⟨x + 1, y - 1, swp d0 x p⟩ : Nat × Nat × Array Rg) ⟨rfl, by simp only [swp_size]; exact hd, by (try dsimp only); omega, by (try dsimp only); omega, by (try dsimp only); omega⟩ (fun a w i => ⟨i.1.sub (subB_cons (by first | rfl | exact congrArg (fun z => some (Value.int _ z)) (by omega)) (subB_cons (by first | rfl | exact congrArg (fun z => some (Value.int _ z)) (by omega)) (subB_cons (by first | rfl | exact congrArg (fun z => some (Value.int _ z)) (by omega)) (subB_cons (by first | rfl | exact congrArg (fun z => some (Value.int _ z)) (by omega)) (subB_cons (by first | rfl | exact congrArg (fun z => some (Value.int _ z)) (by omega)) (subB_cons (by first | rfl | exact congrArg (fun z => some (Value.int _ z)) (by omega)) (subB_cons (by first | rfl | exact congrArg (fun z => some (Value.int _ z)) (by omega)) (subB_cons (by first | rfl | exact congrArg (fun z => some (Value.int _ z)) (by omega)) (subB_nil _))))))))), i.2⟩) ?_
 rintro ⟨i, j, d⟩ ⟨k1, k2, k3, k4, k5⟩
 try dsimp only at k1 k2 k3 k4 k5 ⊢
 refine Tr.block ?_
 refine Tr.cutx (X := Nat) (fun i2 => V) (fun i2 => [sgD Rg.cells 53 b rest d]) (fun i2 => [(0, .slice (some ⟨b, 0, none⟩) n c), (1, .int .i64 ((x : Nat) : Int)), (2, .int .i64 ((y : Nat) : Int)), (3, .int .i64 ((p : Nat) : Int)), (4, .func (.func gf) #[] caps.toArray), (10, .int .i64 0), (11, .int .i64 ((i2 : Nat) : Int)), (12, .int .i64 ((j : Nat) : Int))]) (fun i2 => up2 (ltc cm) d x j i = i2 ∧ i ≤ i2 ∧ i2 ≤ j + 1) ?_ ?_
 ·refine Tr.block ?_
  refine Tr.loop (X := Nat) (fun z0 => V) (fun z0 => [sgD Rg.cells 53 b rest d]) (fun z0 => [(0, .slice (some ⟨b, 0, none⟩) n c), (1, .int .i64 ((x : Nat) : Int)), (2, .int .i64 ((y : Nat) : Int)), (3, .int .i64 ((p : Nat) : Int)), (4, .func (.func gf) #[] caps.toArray), (10, .int .i64 0), (11, .int .i64 ((z0 : Nat) : Int)), (12, .int .i64 ((j : Nat) : Int))]) (fun z0 => up2 (ltc cm) d x j z0 = up2 (ltc cm) d x j i ∧ i ≤ z0 ∧ z0 ≤ j + 1) (fun z0 => j + 1 - z0) (i : Nat) ⟨rfl, Nat.le_refl _, by omega⟩ (fun a w i => ⟨i.1.sub (subB_cons (by first | rfl | exact congrArg (fun z => some (Value.int _ z)) (by omega)) (subB_cons (by first | rfl | exact congrArg (fun z => some (Value.int _ z)) (by omega)) (subB_cons (by first | rfl | exact congrArg (fun z => some (Value.int _ z)) (by omega)) (subB_cons (by first | rfl | exact congrArg (fun z => some (Value.int _ z)) (by omega)) (subB_cons (by first | rfl | exact congrArg (fun z => some (Value.int _ z)) (by omega)) (subB_cons (by first | rfl | exact congrArg (fun z => some (Value.int _ z)) (by omega)) (subB_cons (by first | rfl | exact congrArg (fun z => some (Value.int _ z)) (by omega)) (subB_cons (by first | rfl | exact congrArg (fun z => some (Value.int _ z)) (by omega)) (subB_nil _))))))))), i.2⟩) ?_
  rintro u ⟨m1, m2, m3⟩
  try dsimp only at m1 m2 m3 ⊢
  refine Tr.seq ?_
  refine Tr.seq ?_
  refine Tr.quiet Sortr_mo (by kernel_rfl) ?_
  refine RunQ.val (lt rfl) (Y.move rfl) ?_
  refine RunQ.val (lt rfl) (Y.move rfl) ?_
  refine RunQ.val (lt rfl) (Y.int rfl rfl rfl) ?_
  refine RunQ.val (lt rfl) (Y.move rfl) ?_
  rcases Bool.eq_false_or_eq_true (decide (((u : Nat) : Int) ≤ ((j : Nat) : Int))) with h1 | h1
  ·have g1 := h1
   try simp only [kb] at g1
   refine RunQ.on rfl rfl rfl h1 ?_
   refine RunQ.val (lt rfl) (Y.move rfl) ?_
   refine RunQ.on rfl rfl rfl h1 ?_
   refine RunQ.val (lt rfl) (Y.move rfl) ?_
   refine RunQ.on rfl rfl rfl h1 ?_
   refine RunQ.val (lt rfl) (Y.move rfl) ?_
   refine RunQ.on rfl rfl rfl h1 ?_
   refine RunQ.val (lt rfl) (Y.idxN x rfl rfl Sortr_es51 (by omega) (by omega)) ?_
   refine RunQ.on rfl rfl rfl h1 ?_
   refine RunQ.val (lt rfl) (Y.ldA (enc := Rg.cells) (d := d) (rest := rest) (e := 53) (i := x) rfl Sortr_ag53 (Kn.at 0 rfl) Rg.enc (by first | omega | (simp only [swp_size, Array.size_setIfInBounds]; omega)) rfl) ?_
   refine RunQ.on rfl rfl rfl h1 ?_
   refine RunQ.val (lt rfl) (Y.move rfl) ?_
   refine RunQ.on rfl rfl rfl h1 ?_
   refine RunQ.val (lt rfl) (Y.move rfl) ?_
   refine RunQ.on rfl rfl rfl h1 ?_
   refine RunQ.val (lt rfl) (Y.idxN u rfl rfl Sortr_es51 (by omega) (by omega)) ?_
   refine RunQ.on rfl rfl rfl h1 ?_
   refine RunQ.val (lt rfl) (Y.ldA (enc := Rg.cells) (d := d) (rest := rest) (e := 53) (i := u) rfl Sortr_ag53 (Kn.at 0 rfl) Rg.enc (by first | omega | (simp only [swp_size, Array.size_setIfInBounds]; omega)) rfl) ?_
   refine RunQ.on rfl rfl rfl h1 ?_
   refine RunQ.call0 (l := [.tmp 39, .tmp 43]) rfl rfl rfl (lt rfl) ((hcmp (d[x]!) (d[u]!)).frame) ?_
   refine RunQ.on rfl rfl rfl h1 ?_
   refine RunQ.val (lt rfl) (Y.int rfl rfl rfl) ?_
   refine RunQ.on rfl rfl rfl h1 ?_
   refine RunQ.val (lt rfl) (Y.not rfl) ?_
   refine RunQ.val (lt rfl) (Y.pick_t rfl h1 rfl) ?_
   refine RunQ.to_end ?_
   refine Ex.go ?_
   rcases Bool.eq_false_or_eq_true (decide ((cm (d[x]!) (d[u]!)) < 0)) with h2 | h2
   ·have g2 := h2
    try simp only [kb] at g2
    refine Tr.cond_f rfl (congrArg Bool.not h2) ?_
    refine Tr.to_exit ?_
    refine Ex.exit_then ?_
    refine Ex.exit_then ?_
    refine Ex.exit_in ?_
    exact Ex.cutx u ⟨m1.symm.trans (up2_stop (by first | (left; omega) | (right; assumption))), m2, m3⟩ rfl rfl (subB_cons (by first | rfl | exact congrArg (fun z => some (Value.int _ z)) (by omega)) (subB_cons (by first | rfl | exact congrArg (fun z => some (Value.int _ z)) (by omega)) (subB_cons (by first | rfl | exact congrArg (fun z => some (Value.int _ z)) (by omega)) (subB_cons (by first | rfl | exact congrArg (fun z => some (Value.int _ z)) (by omega)) (subB_cons (by first | rfl | exact congrArg (fun z => some (Value.int _ z)) (by omega)) (subB_cons (by first | rfl | exact congrArg (fun z => some (Value.int _ z)) (by omega)) (subB_cons (by first | rfl | exact congrArg (fun z => some (Value.int _ z)) (by omega)) (subB_cons (by first | rfl | exact congrArg (fun z => some (Value.int _ z)) (by omega)) (subB_nil _)))))))))
   ·have g2 := h2
    try simp only [kb] at g2
    refine Tr.cond_t rfl (congrArg Bool.not h2) ?_
    refine Tr.to_end ?_
    refine Ex.go ?_
    refine Tr.block ?_
    refine Tr.region ?_
    refine Run.val (lt rfl) (Y.move rfl) ?_
    refine Run.val (lt rfl) (Y.addN ((u + 1 : Nat) : Int) rfl rfl (by omega) (by omega)) ?_
    refine Run.val (lt rfl) (Y.assign rfl) ?_
    refine Run.to_end ?_
    refine Ex.end_block ?_
    exact Ex.round (u + 1 : Nat) ⟨(up2_go (by omega) (by assumption)).trans m1, by omega, by omega⟩ (by omega) rfl rfl (subB_cons (by first | rfl | exact congrArg (fun z => some (Value.int _ z)) (by omega)) (subB_cons (by first | rfl | exact congrArg (fun z => some (Value.int _ z)) (by omega)) (subB_cons (by first | rfl | exact congrArg (fun z => some (Value.int _ z)) (by omega)) (subB_cons (by first | rfl | exact congrArg (fun z => some (Value.int _ z)) (by omega)) (subB_cons (by first | rfl | exact congrArg (fun z => some (Value.int _ z)) (by omega)) (subB_cons (by first | rfl | exact congrArg (fun z => some (Value.int _ z)) (by omega)) (subB_cons (by first | rfl | exact congrArg (fun z => some (Value.int _ z)) (by omega)) (subB_cons (by first | rfl | exact congrArg (fun z => some (Value.int _ z)) (by omega)) (subB_nil _)))))))))
  ·have g1 := h1
   try simp only [kb] at g1
   refine RunQ.off rfl rfl rfl h1 rfl (lt rfl) ?_
   refine RunQ.off rfl rfl rfl h1 rfl (lt rfl) ?_
   refine RunQ.off rfl rfl rfl h1 rfl (lt rfl) ?_
   refine RunQ.off rfl rfl rfl h1 rfl (lt rfl) ?_
   refine RunQ.off rfl rfl rfl h1 rfl (lt rfl) ?_
   refine RunQ.off rfl rfl rfl h1 rfl (lt rfl) ?_
   refine RunQ.off rfl rfl rfl h1 rfl (lt rfl) ?_
   refine RunQ.off rfl rfl rfl h1 rfl (lt rfl) ?_
   refine RunQ.off rfl rfl rfl h1 rfl (lt rfl) ?_
   refine RunQ.off rfl rfl rfl h1 rfl (lt rfl) ?_
   refine RunQ.off rfl rfl rfl h1 rfl (lt rfl) ?_
   refine RunQ.off rfl rfl rfl h1 rfl (lt rfl) ?_
   refine RunQ.val (lt rfl) (Y.pick_f rfl h1 rfl) ?_
   refine RunQ.to_end ?_
   refine Ex.go ?_
   refine Tr.cond_f rfl rfl ?_
   refine Tr.to_exit ?_
   refine Ex.exit_then ?_
   refine Ex.exit_then ?_
   refine Ex.exit_in ?_
   exact Ex.cutx u ⟨m1.symm.trans (up2_stop (by first | (left; omega) | (right; assumption))), m2, m3⟩ rfl rfl (subB_cons (by first | rfl | exact congrArg (fun z => some (Value.int _ z)) (by omega)) (subB_cons (by first | rfl | exact congrArg (fun z => some (Value.int _ z)) (by omega)) (subB_cons (by first | rfl | exact congrArg (fun z => some (Value.int _ z)) (by omega)) (subB_cons (by first | rfl | exact congrArg (fun z => some (Value.int _ z)) (by omega)) (subB_cons (by first | rfl | exact congrArg (fun z => some (Value.int _ z)) (by omega)) (subB_cons (by first | rfl | exact congrArg (fun z => some (Value.int _ z)) (by omega)) (subB_cons (by first | rfl | exact congrArg (fun z => some (Value.int _ z)) (by omega)) (subB_cons (by first | rfl | exact congrArg (fun z => some (Value.int _ z)) (by omega)) (subB_nil _)))))))))
 ·rintro i2 ⟨f1, f2, f3⟩
  refine Tr.cutx (X := Nat) (fun j2 => V) (fun j2 => [sgD Rg.cells 53 b rest d]) (fun j2 => [(0, .slice (some ⟨b, 0, none⟩) n c), (1, .int .i64 ((x : Nat) : Int)), (2, .int .i64 ((y : Nat) : Int)), (3, .int .i64 ((p : Nat) : Int)), (4, .func (.func gf) #[] caps.toArray), (10, .int .i64 0), (11, .int .i64 ((i2 : Nat) : Int)), (12, .int .i64 ((j2 : Nat) : Int))]) (fun j2 => dn2 (ltc cm) d x i2 j = j2 ∧ i2 ≤ j2 + 1 ∧ j2 ≤ j) ?_ ?_
  ·refine Tr.block ?_
   refine Tr.loop (X := Nat) (fun z0 => V) (fun z0 => [sgD Rg.cells 53 b rest d]) (fun z0 => [(0, .slice (some ⟨b, 0, none⟩) n c), (1, .int .i64 ((x : Nat) : Int)), (2, .int .i64 ((y : Nat) : Int)), (3, .int .i64 ((p : Nat) : Int)), (4, .func (.func gf) #[] caps.toArray), (10, .int .i64 0), (11, .int .i64 ((i2 : Nat) : Int)), (12, .int .i64 ((z0 : Nat) : Int))]) (fun z0 => dn2 (ltc cm) d x i2 z0 = dn2 (ltc cm) d x i2 j ∧ i2 ≤ z0 + 1 ∧ z0 ≤ j) (fun z0 => z0) (j : Nat) ⟨rfl, by omega, Nat.le_refl _⟩ (fun a w i => ⟨i.1.sub (subB_cons (by first | rfl | exact congrArg (fun z => some (Value.int _ z)) (by omega)) (subB_cons (by first | rfl | exact congrArg (fun z => some (Value.int _ z)) (by omega)) (subB_cons (by first | rfl | exact congrArg (fun z => some (Value.int _ z)) (by omega)) (subB_cons (by first | rfl | exact congrArg (fun z => some (Value.int _ z)) (by omega)) (subB_cons (by first | rfl | exact congrArg (fun z => some (Value.int _ z)) (by omega)) (subB_cons (by first | rfl | exact congrArg (fun z => some (Value.int _ z)) (by omega)) (subB_cons (by first | rfl | exact congrArg (fun z => some (Value.int _ z)) (by omega)) (subB_cons (by first | rfl | exact congrArg (fun z => some (Value.int _ z)) (by omega)) (subB_nil _))))))))), i.2⟩) ?_
   rintro t ⟨n1, n2, n3⟩
   try dsimp only at n1 n2 n3 ⊢
   refine Tr.seq ?_
   refine Tr.seq ?_
   refine Tr.quiet Sortr_mo (by kernel_rfl) ?_
   refine RunQ.val (lt rfl) (Y.move rfl) ?_
   refine RunQ.val (lt rfl) (Y.move rfl) ?_
   refine RunQ.val (lt rfl) (Y.int rfl rfl rfl) ?_
   refine RunQ.val (lt rfl) (Y.move rfl) ?_
   rcases Bool.eq_false_or_eq_true (decide (((i2 : Nat) : Int) ≤ ((t : Nat) : Int))) with h3 | h3
   ·have g3 := h3
    try simp only [kb] at g3
    refine RunQ.on rfl rfl rfl h3 ?_
    refine RunQ.val (lt rfl) (Y.move rfl) ?_
    refine RunQ.on rfl rfl rfl h3 ?_
    refine RunQ.val (lt rfl) (Y.move rfl) ?_
    refine RunQ.on rfl rfl rfl h3 ?_
    refine RunQ.val (lt rfl) (Y.move rfl) ?_
    refine RunQ.on rfl rfl rfl h3 ?_
    refine RunQ.val (lt rfl) (Y.idxN x rfl rfl Sortr_es51 (by omega) (by omega)) ?_
    refine RunQ.on rfl rfl rfl h3 ?_
    refine RunQ.val (lt rfl) (Y.ldA (enc := Rg.cells) (d := d) (rest := rest) (e := 53) (i := x) rfl Sortr_ag53 (Kn.at 0 rfl) Rg.enc (by first | omega | (simp only [swp_size, Array.size_setIfInBounds]; omega)) rfl) ?_
    refine RunQ.on rfl rfl rfl h3 ?_
    refine RunQ.val (lt rfl) (Y.move rfl) ?_
    refine RunQ.on rfl rfl rfl h3 ?_
    refine RunQ.val (lt rfl) (Y.move rfl) ?_
    refine RunQ.on rfl rfl rfl h3 ?_
    refine RunQ.val (lt rfl) (Y.idxN t rfl rfl Sortr_es51 (by omega) (by omega)) ?_
    refine RunQ.on rfl rfl rfl h3 ?_
    refine RunQ.val (lt rfl) (Y.ldA (enc := Rg.cells) (d := d) (rest := rest) (e := 53) (i := t) rfl Sortr_ag53 (Kn.at 0 rfl) Rg.enc (by first | omega | (simp only [swp_size, Array.size_setIfInBounds]; omega)) rfl) ?_
    refine RunQ.on rfl rfl rfl h3 ?_
    refine RunQ.call0 (l := [.tmp 58, .tmp 62]) rfl rfl rfl (lt rfl) ((hcmp (d[x]!) (d[t]!)).frame) ?_
    refine RunQ.on rfl rfl rfl h3 ?_
    refine RunQ.val (lt rfl) (Y.int rfl rfl rfl) ?_
    refine RunQ.val (lt rfl) (Y.pick_t rfl h3 rfl) ?_
    refine RunQ.to_end ?_
    refine Ex.go ?_
    rcases Bool.eq_false_or_eq_true (decide ((cm (d[x]!) (d[t]!)) < 0)) with h4 | h4
    ·have g4 := h4
     try simp only [kb] at g4
     refine Tr.cond_t rfl h4 ?_
     refine Tr.to_end ?_
     refine Ex.go ?_
     refine Tr.block ?_
     refine Tr.region ?_
     refine Run.val (lt rfl) (Y.move rfl) ?_
     refine Run.val (lt rfl) (Y.subN ((t - 1 : Nat) : Int) rfl rfl (by omega) (by omega)) ?_
     refine Run.val (lt rfl) (Y.assign rfl) ?_
     refine Run.to_end ?_
     refine Ex.end_block ?_
     exact Ex.round (t - 1 : Nat) ⟨(dn2_go (by omega) (by omega) (by assumption)).trans n1, by omega, by omega⟩ (by omega) rfl rfl (subB_cons (by first | rfl | exact congrArg (fun z => some (Value.int _ z)) (by omega)) (subB_cons (by first | rfl | exact congrArg (fun z => some (Value.int _ z)) (by omega)) (subB_cons (by first | rfl | exact congrArg (fun z => some (Value.int _ z)) (by omega)) (subB_cons (by first | rfl | exact congrArg (fun z => some (Value.int _ z)) (by omega)) (subB_cons (by first | rfl | exact congrArg (fun z => some (Value.int _ z)) (by omega)) (subB_cons (by first | rfl | exact congrArg (fun z => some (Value.int _ z)) (by omega)) (subB_cons (by first | rfl | exact congrArg (fun z => some (Value.int _ z)) (by omega)) (subB_cons (by first | rfl | exact congrArg (fun z => some (Value.int _ z)) (by omega)) (subB_nil _)))))))))
    ·have g4 := h4
     try simp only [kb] at g4
     refine Tr.cond_f rfl h4 ?_
     refine Tr.to_exit ?_
     refine Ex.exit_then ?_
     refine Ex.exit_then ?_
     refine Ex.exit_in ?_
     exact Ex.cutx t ⟨n1.symm.trans (dn2_stop (by omega) (by first | (left; omega) | (right; assumption))), n2, n3⟩ rfl rfl (subB_cons (by first | rfl | exact congrArg (fun z => some (Value.int _ z)) (by omega)) (subB_cons (by first | rfl | exact congrArg (fun z => some (Value.int _ z)) (by omega)) (subB_cons (by first | rfl | exact congrArg (fun z => some (Value.int _ z)) (by omega)) (subB_cons (by first | rfl | exact congrArg (fun z => some (Value.int _ z)) (by omega)) (subB_cons (by first | rfl | exact congrArg (fun z => some (Value.int _ z)) (by omega)) (subB_cons (by first | rfl | exact congrArg (fun z => some (Value.int _ z)) (by omega)) (subB_cons (by first | rfl | exact congrArg (fun z => some (Value.int _ z)) (by omega)) (subB_cons (by first | rfl | exact congrArg (fun z => some (Value.int _ z)) (by omega)) (subB_nil _)))))))))
   ·have g3 := h3
    try simp only [kb] at g3
    refine RunQ.off rfl rfl rfl h3 rfl (lt rfl) ?_
    refine RunQ.off rfl rfl rfl h3 rfl (lt rfl) ?_
    refine RunQ.off rfl rfl rfl h3 rfl (lt rfl) ?_
    refine RunQ.off rfl rfl rfl h3 rfl (lt rfl) ?_
    refine RunQ.off rfl rfl rfl h3 rfl (lt rfl) ?_
    refine RunQ.off rfl rfl rfl h3 rfl (lt rfl) ?_
    refine RunQ.off rfl rfl rfl h3 rfl (lt rfl) ?_
    refine RunQ.off rfl rfl rfl h3 rfl (lt rfl) ?_
    refine RunQ.off rfl rfl rfl h3 rfl (lt rfl) ?_
    refine RunQ.off rfl rfl rfl h3 rfl (lt rfl) ?_
    refine RunQ.off rfl rfl rfl h3 rfl (lt rfl) ?_
    refine RunQ.val (lt rfl) (Y.pick_f rfl h3 rfl) ?_
    refine RunQ.to_end ?_
    refine Ex.go ?_
    refine Tr.cond_f rfl rfl ?_
    refine Tr.to_exit ?_
    refine Ex.exit_then ?_
    refine Ex.exit_then ?_
    refine Ex.exit_in ?_
    exact Ex.cutx t ⟨n1.symm.trans (dn2_stop (by omega) (by first | (left; omega) | (right; assumption))), n2, n3⟩ rfl rfl (subB_cons (by first | rfl | exact congrArg (fun z => some (Value.int _ z)) (by omega)) (subB_cons (by first | rfl | exact congrArg (fun z => some (Value.int _ z)) (by omega)) (subB_cons (by first | rfl | exact congrArg (fun z => some (Value.int _ z)) (by omega)) (subB_cons (by first | rfl | exact congrArg (fun z => some (Value.int _ z)) (by omega)) (subB_cons (by first | rfl | exact congrArg (fun z => some (Value.int _ z)) (by omega)) (subB_cons (by first | rfl | exact congrArg (fun z => some (Value.int _ z)) (by omega)) (subB_cons (by first | rfl | exact congrArg (fun z => some (Value.int _ z)) (by omega)) (subB_cons (by first | rfl | exact congrArg (fun z => some (Value.int _ z)) (by omega)) (subB_nil _)))))))))
  ·rintro j2 ⟨g1, g2, g3⟩
   refine Tr.seq ?_
   refine Tr.seq ?_
   refine Tr.region ?_
   refine Run.val (lt rfl) (Y.move rfl) ?_
   refine Run.val (lt rfl) (Y.move rfl) ?_
   refine Run.val (lt rfl) (Y.int rfl rfl rfl) ?_
   refine Run.to_end ?_
   refine Ex.go ?_
   rcases Bool.eq_false_or_eq_true (decide (((i2 : Nat) : Int) > ((j2 : Nat) : Int))) with h5 | h5
   ·have g5 := h5
    try simp only [kb] at g5
    refine Tr.cond_t rfl h5 ?_
    refine Tr.to_exit ?_
    refine Ex.exit_then ?_
    refine Ex.exit_out rfl ?_
    refine Ex.exit_then ?_
    refine Ex.exit_in ?_
    refine Ex.go ?_
    refine Tr.seq ?_
    refine Tr.region ?_
    refine Run.val (lt rfl) (Y.move rfl) ?_
    refine Run.val (lt rfl) (Y.assign rfl) ?_
    refine Run.to_end ?_
    refine Ex.go ?_
    refine Tr.to_ret ?_
    refine Ex.keep [0] ?_
    exact Ex.ret1 rfl rfl  ⟨rfl, by rw [← k1, partEqLoop_end f1 g1 (by omega)], by rw [← k1, partEqLoop_end f1 g1 (by omega)]; rfl⟩
   ·have g5 := h5
    try simp only [kb] at g5
    refine Tr.cond_f rfl h5 ?_
    refine Tr.to_end ?_
    refine Ex.go ?_
    refine Tr.seq ?_
    refine Tr.anyT [(b, .cells (cel Rg.cells d rest).toArray 53 (0, 0))] 13 Sortr_mo ?_
    refine RunT.pure (i := 0) rfl (by kernel_rfl) (by kernel_rfl) (by kernel_rfl) (by kernel_rfl) (fun _ _ _ h => h) (lt rfl) (KnAll.cons (Kn.at 0 rfl) KnAll.nil) (fun _ => (Y.move rfl)) ?_
    refine RunT.pure (i := 1) rfl (by kernel_rfl) (by kernel_rfl) (by kernel_rfl) (by kernel_rfl) (fun _ _ _ h => h) (lt rfl) (KnAll.cons (Kn.at 0 rfl) KnAll.nil) (fun _ => (Y.move rfl)) ?_
    refine RunT.pure (i := 2) rfl (by kernel_rfl) (by kernel_rfl) (by kernel_rfl) (by kernel_rfl) (fun _ _ _ h => h) (lt rfl) (KnAll.cons (Kn.at 0 rfl) KnAll.nil) (fun _ => (Y.move rfl)) ?_
    refine RunT.pure (i := 3) rfl (by kernel_rfl) (by kernel_rfl) (by kernel_rfl) (by kernel_rfl) (fun _ _ _ h => h) (lt rfl) (KnAll.cons (Kn.at 0 rfl) KnAll.nil) (fun _ => (Y.move rfl)) ?_
    refine RunT.pure (i := 4) rfl (by kernel_rfl) (by kernel_rfl) (by kernel_rfl) (by kernel_rfl) (fun _ _ _ h => h) (lt rfl) (KnAll.cons (Kn.at 0 rfl) KnAll.nil) (fun _ => (Y.move rfl)) ?_
    refine RunT.pure (i := 5) rfl (by kernel_rfl) (by kernel_rfl) (by kernel_rfl) (by kernel_rfl) (fun _ _ _ h => h) (lt rfl) (KnAll.cons (Kn.at 0 rfl) KnAll.nil) (fun _ => (Y.move rfl)) ?_
    refine RunT.pure (i := 6) rfl (by kernel_rfl) (by kernel_rfl) (by kernel_rfl) (by kernel_rfl) (fun _ _ _ h => h) (lt rfl) (KnAll.cons (Kn.at 0 rfl) KnAll.nil) (fun _ => (Y.idxN j2 rfl rfl Sortr_es51 (by omega) (by omega))) ?_
    refine RunT.take (i := 7) 0 rfl rfl (by kernel_rfl) (by kernel_rfl) (by kernel_rfl) (by kernel_rfl) (fun _ _ _ h => h) (lt rfl) (KnAll.cons (Kn.at 0 rfl) KnAll.nil) (fun _ => (Y.ldA (enc := Rg.cells) (d := d) (rest := rest) (e := 53) (i := j2) rfl Sortr_ag53 Kn.vk1 Rg.enc (by first | omega | (simp only [swp_size, Array.size_setIfInBounds]; omega)) rfl)) ?_
    refine RunT.pure (i := 8) rfl (by kernel_rfl) (by kernel_rfl) (by kernel_rfl) (by kernel_rfl) (fun _ _ _ h => h) (lt rfl) (KnAll.cons (Kn.at 0 rfl) KnAll.nil) (fun _ => (Y.move rfl)) ?_
    refine RunT.pure (i := 9) rfl (by kernel_rfl) (by kernel_rfl) (by kernel_rfl) (by kernel_rfl) (fun _ _ _ h => h) (lt rfl) (KnAll.cons (Kn.at 0 rfl) KnAll.nil) (fun _ => (Y.move rfl)) ?_
    refine RunT.pure (i := 10) rfl (by kernel_rfl) (by kernel_rfl) (by kernel_rfl) (by kernel_rfl) (fun _ _ _ h => h) (lt rfl) (KnAll.cons (Kn.at 0 rfl) KnAll.nil) (fun _ => (Y.idxN i2 rfl rfl Sortr_es51 (by omega) (by omega))) ?_
    refine RunT.take (i := 11) 0 rfl rfl (by kernel_rfl) (by kernel_rfl) (by kernel_rfl) (by kernel_rfl) (fun _ _ _ h => h) (lt rfl) (KnAll.cons (Kn.at 0 rfl) KnAll.nil) (fun _ => (Y.ldA (enc := Rg.cells) (d := d) (rest := rest) (e := 53) (i := i2) rfl Sortr_ag53 Kn.vk1 Rg.enc (by first | omega | (simp only [swp_size, Array.size_setIfInBounds]; omega)) rfl)) ?_
    refine RunT.pure (i := 12) rfl (by kernel_rfl) (by kernel_rfl) (by kernel_rfl) (by kernel_rfl) (fun _ _ _ h => h) (lt rfl) (KnAll.cons (Kn.at 0 rfl) KnAll.nil) (fun _ => (Y.idxN i2 rfl rfl Sortr_es51 (by omega) (by omega))) ?_
    refine RunT.one (i := 13) (by kernel_rfl) rfl  ?_ 
    refine Run.stD (enc := Rg.cells) (d := d) (rest := rest) (e := 53) (i := i2) (s := 0) (d[j2]!) rfl rfl Sortr_sz53 rfl Rg.enc (by first | omega | (simp only [swp_size, Array.size_setIfInBounds]; omega)) rfl ?_
    refine Run.to_end ?_
    refine Ex.anyTz (i := 13) rfl rfl rfl ?_
    refine RunT.one (i := 14) (by kernel_rfl) rfl  ?_ 
    refine Run.val (lt rfl) (Y.idxN j2 rfl rfl Sortr_es51 (by omega) (by omega)) ?_
    refine Run.to_end ?_
    refine Ex.anyTz (i := 14) rfl rfl rfl ?_
    refine RunT.one (i := 15) (by kernel_rfl) rfl  ?_ 
    refine Run.stD (enc := Rg.cells) (d := (d).setIfInBounds i2 (d[j2]!)) (rest := rest) (e := 53) (i := j2) (s := 0) (d[i2]!) rfl rfl Sortr_sz53 rfl Rg.enc (by first | omega | (simp only [swp_size, Array.size_setIfInBounds]; omega)) rfl ?_
    refine Run.heapTo (H' := [sgD Rg.cells 53 b rest (swp d i2 j2)]) rfl ?_
    refine Run.to_end ?_
    refine Ex.anyTz (i := 15) rfl rfl rfl ?_
    refine RunT.done (by kernel_rfl) ?_
    refine Ex.go ?_
    refine Tr.seq ?_
    refine Tr.region ?_
    refine Run.val (lt rfl) (Y.move rfl) ?_
    refine Run.val (lt rfl) (Y.addN ((i2 + 1 : Nat) : Int) rfl rfl (by omega) (by omega)) ?_
    refine Run.val (lt rfl) (Y.assign rfl) ?_
    refine Run.to_end ?_
    refine Ex.go ?_
    refine Tr.region ?_
    refine Run.val (lt rfl) (Y.move rfl) ?_
    refine Run.val (lt rfl) (Y.subN ((j2 - 1 : Nat) : Int) rfl rfl (by omega) (by omega)) ?_
    refine Run.val (lt rfl) (Y.assign rfl) ?_
    refine Run.to_end ?_
    refine Ex.end_block ?_
    exact Ex.round (⟨i2 + 1, j2 - 1, swp d i2 j2⟩ : Nat × Nat × Array Rg) ⟨(partEqLoop_go f1 g1 (by omega)).symm.trans k1, by simp only [swp_size]; exact k2, by have := cross2 f1 g1 (by omega) (by omega) (by omega); dsimp only; omega, by have := cross2 f1 g1 (by omega) (by omega) (by omega); dsimp only; omega, by (try dsimp only); omega⟩ (by dsimp only; omega) rfl rfl (subB_cons (by first | rfl | exact congrArg (fun z => some (Value.int _ z)) (by omega)) (subB_cons (by first | rfl | exact congrArg (fun z => some (Value.int _ z)) (by omega)) (subB_cons (by first | rfl | exact congrArg (fun z => some (Value.int _ z)) (by omega)) (subB_cons (by first | rfl | exact congrArg (fun z => some (Value.int _ z)) (by omega)) (subB_cons (by first | rfl | exact congrArg (fun z => some (Value.int _ z)) (by omega)) (subB_cons (by first | rfl | exact congrArg (fun z => some (Value.int _ z)) (by omega)) (subB_cons (by first | rfl | exact congrArg (fun z => some (Value.int _ z)) (by omega)) (subB_cons (by first | rfl | exact congrArg (fun z => some (Value.int _ z)) (by omega)) (subB_nil _)))))))))
end Go.Proofs.Ytjfacdepgkdoeaa
