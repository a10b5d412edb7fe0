/- The library's sort by a comparison, at ranges, walked: its second half.
Conditions: as each theorem names them. -/
import Derived.Test.YtjfacdepgkdoeaaProg
import Derived.Test.YtjfacdepgkdoeaaSortr
import Derived.Test.YtjfacdepgkdoeaaSortnum
set_option linter.unusedSimpArgs false
set_option linter.unusedVariables false
set_option maxRecDepth 4000
namespace Go.Proofs.Ytjfacdepgkdoeaa
open Go Go.K
attribute [local irreducible] Code.wp wpList Calls wpQuiet
theorem Sortr2_mo : Try.prog.follows .mixedOrders = true := by kernel_rfl
theorem Sortr2_es51 : elemS Try.prog 51 = some (53, 2) := by kernel_rfl
theorem Sortr2_ag53 : aggsz Try.prog 53 = some 2 := by kernel_rfl
theorem Sortr2_sz53 : sizeT Try.prog 53 = some 2 := by kernel_rfl
theorem Sortr2_ts3 : scal Try.prog 3 = true := by kernel_rfl
theorem Sortr2_sz3 : sizeT Try.prog 3 = some 1 := by kernel_rfl
theorem Sortr2_zo3 : zeroOf Try.prog 3 = some (.int .i64 0) := by kernel_rfl
theorem Sortr2_it3_202 : intT Try.prog 3 202 = some .u64 := by kernel_rfl
theorem Sortr2_zo202 : zeroOf Try.prog 202 = some (.int .u64 0) := by kernel_rfl
theorem Sortr2_sz202 : sizeT Try.prog 202 = some 1 := by kernel_rfl
theorem Sortr2_it148_3 : intT Try.prog 148 3 = some .i64 := by kernel_rfl

open Go.Sort

theorem pins_r {V : Vw} {n c b : Nat} {rest : List Value} {d0 : Array Rg} {gf : FuncId} {caps : List Value} {cm : Rg → Rg → Int} {x y : Nat}  (hN : n ≤ 1073741824) (hd : d0.size = n) (hx : x < y) (hy : y ≤ n)  (hcmp : ∀ x y : Rg, Does Try.prog gf (.agg (Rg.cells x).toArray :: .agg (Rg.cells y).toArray :: caps) V [] (Pv (.int .i64 (cm x y)) V [])) (hswo : SWO (ltc cm))  : Does Try.prog 164 [.slice (some ⟨b, 0, none⟩) n c, .int .i64 ((x : Nat) : Int), .int .i64 ((y : Nat) : Int), .func (.func gf) #[] caps.toArray] V [sgD Rg.cells 53 b rest d0] (fun v V' H' => V' = V ∧ v = .bool (partialInsertionSort (ltc cm) d0 x y).2 ∧ H' = [sgD Rg.cells 53 b rest ((partialInsertionSort (ltc cm) d0 x y).1)]) := by
 refine Does.intro Try.func164 rfl rfl (le rfl) (fun B => ?_)
 refine Tr.seq ?_
 refine Tr.region ?_
 refine Run.val (lt rfl) (Y.assign rfl) ?_
 refine Run.to_end ?_
 refine Ex.go ?_
 refine Tr.seq ?_
 refine Tr.region ?_
 refine Run.val (lt rfl) (Y.move rfl) ?_
 refine Run.val (lt rfl) (Y.addN ((x + 1 : Nat) : Int) rfl rfl (by omega) (by omega)) ?_
 refine Run.val (lt rfl) (Y.assign rfl) ?_
 refine Run.to_end ?_
 refine Ex.go ?_
 refine Tr.seq ?_
 refine Tr.seq ?_
 refine Tr.region ?_
 refine Run.val (lt rfl) (Y.assign rfl) ?_
 refine Run.to_end ?_
 refine Ex.go ?_
 refine Tr.block ?_
 refine Tr.loop (X := Nat × Nat × Array Rg) (fun z0 => V) (fun z0 => [sgD Rg.cells 53 b rest z0.2.2]) (fun z0 => [(0, .slice (some ⟨b, 0, none⟩) n c), (1, .int .i64 ((x : Nat) : Int)), (2, .int .i64 ((y : Nat) : Int)), (3, .func (.func gf) #[] caps.toArray), (8, .bool false), (9, .int .i64 ((z0.2.1 : Nat) : Int)), (10, .int .i64 ((z0.1 : Nat) : Int))]) (fun z0 => partialIns (ltc cm) x y (5 - z0.1) z0.2.1 z0.2.2 = partialInsertionSort (ltc cm) d0 x y ∧ z0.2.2.size = n ∧ x < z0.2.1 ∧ z0.2.1 ≤ y ∧ z0.1 ≤ 5) (fun z0 => 5 - z0.1) (⟨0, x + 1, d0⟩ : Nat × Nat × Array Rg) ⟨rfl, hd, by (try dsimp only); omega, by (try dsimp only); omega, by (try dsimp only); omega⟩ (fun a w i => ⟨i.1.sub (subB_cons (by first | rfl | exact congrArg (fun z => some (Value.int _ z)) (by omega)) (subB_cons (by first | rfl | exact congrArg (fun z => some (Value.int _ z)) (by omega)) (subB_cons (by first | rfl | exact congrArg (fun z => some (Value.int _ z)) (by omega)) (subB_cons (by first | rfl | exact congrArg (fun z => some (Value.int _ z)) (by omega)) (subB_cons (by first | rfl | exact congrArg (fun z => some (Value.int _ z)) (by omega)) (subB_cons (by first | rfl | exact congrArg (fun z => some (Value.int _ z)) (by omega)) (subB_cons (by first | rfl | exact congrArg (fun z => some (Value.int _ z)) (by omega)) (subB_nil _)))))))), i.2⟩) ?_
 rintro ⟨s, i, d⟩ ⟨r1, r2, r3, r4, r5⟩
 try dsimp only at r1 r2 r3 r4 r5 ⊢
 refine Tr.seq ?_
 refine Tr.seq ?_
 refine Tr.region ?_
 refine Run.val (lt rfl) (Y.move rfl) ?_
 refine Run.val (lt rfl) (Y.int rfl rfl rfl) ?_
 refine Run.to_end ?_
 refine Ex.go ?_
 rcases Bool.eq_false_or_eq_true (decide (((s : Nat) : Int) < 5)) with h1 | h1
 ·have g1 := h1
  try simp only [kb] at g1
  refine Tr.cond_t rfl h1 ?_
  refine Tr.to_end ?_
  refine Ex.go ?_
  refine Tr.seq ?_
  refine Tr.block ?_
  refine Tr.cutx (X := Nat) (fun i2 => V) (fun i2 => [sgD Rg.cells 53 b rest d]) (fun i2 => [(0, .slice (some ⟨b, 0, none⟩) n c), (1, .int .i64 ((x : Nat) : Int)), (2, .int .i64 ((y : Nat) : Int)), (3, .func (.func gf) #[] caps.toArray), (8, .bool false), (9, .int .i64 ((i2 : Nat) : Int)), (10, .int .i64 ((s : Nat) : Int))]) (fun i2 => scanSorted (ltc cm) d y i = i2 ∧ i ≤ i2 ∧ i2 ≤ y) ?_ ?_
  ·refine Tr.block ?_
   refine Tr.loop (X := Nat) (fun z0 => V) (fun z0 => [sgD Rg.cells 53 b rest d]) (fun z0 => [(0, .slice (some ⟨b, 0, none⟩) n c), (1, .int .i64 ((x : Nat) : Int)), (2, .int .i64 ((y : Nat) : Int)), (3, .func (.func gf) #[] caps.toArray), (8, .bool false), (9, .int .i64 ((z0 : Nat) : Int)), (10, .int .i64 ((s : Nat) : Int))]) (fun z0 => scanSorted (ltc cm) d y z0 = scanSorted (ltc cm) d y i ∧ i ≤ z0 ∧ z0 ≤ y) (fun z0 => y - z0) (i : Nat) ⟨rfl, Nat.le_refl _, by omega⟩ (fun a w i => ⟨i.1.sub (subB_cons (by first | rfl | exact congrArg (fun z => some (Value.int _ z)) (by omega)) (subB_cons (by first | rfl | exact congrArg (fun z => some (Value.int _ z)) (by omega)) (subB_cons (by first | rfl | exact congrArg (fun z => some (Value.int _ z)) (by omega)) (subB_cons (by first | rfl | exact congrArg (fun z => some (Value.int _ z)) (by omega)) (subB_cons (by first | rfl | exact congrArg (fun z => some (Value.int _ z)) (by omega)) (subB_cons (by first | rfl | exact congrArg (fun z => some (Value.int _ z)) (by omega)) (subB_cons (by first | rfl | exact congrArg (fun z => some (Value.int _ z)) (by omega)) (subB_nil _)))))))), i.2⟩) ?_
   rintro u ⟨m1, m2, m3⟩
   try dsimp only at m1 m2 m3 ⊢
   refine Tr.seq ?_
   refine Tr.seq ?_
   refine Tr.quiet Sortr2_mo (by kernel_rfl) ?_
   refine RunQ.val (lt rfl) (Y.move rfl) ?_
   refine RunQ.val (lt rfl) (Y.move rfl) ?_
   refine RunQ.val (lt rfl) (Y.int rfl rfl rfl) ?_
   refine RunQ.val (lt rfl) (Y.move rfl) ?_
   rcases Bool.eq_false_or_eq_true (decide (((u : Nat) : Int) < ((y : Nat) : Int))) with h2 | h2
   ·have g2 := h2
    try simp only [kb] at g2
    refine RunQ.on rfl rfl rfl h2 ?_
    refine RunQ.val (lt rfl) (Y.move rfl) ?_
    refine RunQ.on rfl rfl rfl h2 ?_
    refine RunQ.val (lt rfl) (Y.move rfl) ?_
    refine RunQ.on rfl rfl rfl h2 ?_
    refine RunQ.val (lt rfl) (Y.move rfl) ?_
    refine RunQ.on rfl rfl rfl h2 ?_
    refine RunQ.val (lt rfl) (Y.idxN u rfl rfl Sortr2_es51 (by omega) (by omega)) ?_
    refine RunQ.on rfl rfl rfl h2 ?_
    refine RunQ.val (lt rfl) (Y.ldA (enc := Rg.cells) (d := d) (rest := rest) (e := 53) (i := u) rfl Sortr2_ag53 (Kn.at 0 rfl) Rg.enc (by first | omega | (simp only [swp_size, Array.size_setIfInBounds]; omega)) rfl) ?_
    refine RunQ.on rfl rfl rfl h2 ?_
    refine RunQ.val (lt rfl) (Y.move rfl) ?_
    refine RunQ.on rfl rfl rfl h2 ?_
    refine RunQ.val (lt rfl) (Y.move rfl) ?_
    refine RunQ.on rfl rfl rfl h2 ?_
    refine RunQ.val (lt rfl) (Y.subN ((u - 1 : Nat) : Int) rfl rfl (by omega) (by omega)) ?_
    refine RunQ.on rfl rfl rfl h2 ?_
    refine RunQ.val (lt rfl) (Y.idxN (u - 1) rfl rfl Sortr2_es51 (by omega) (by omega)) ?_
    refine RunQ.on rfl rfl rfl h2 ?_
    refine RunQ.val (lt rfl) (Y.ldA (enc := Rg.cells) (d := d) (rest := rest) (e := 53) (i := (u - 1)) rfl Sortr2_ag53 (Kn.at 0 rfl) Rg.enc (by first | omega | (simp only [swp_size, Array.size_setIfInBounds]; omega)) rfl) ?_
    refine RunQ.on rfl rfl rfl h2 ?_
    refine RunQ.call0 (l := [.tmp 27, .tmp 32]) rfl rfl rfl (lt rfl) ((hcmp (d[u]!) (d[u - 1]!)).frame) ?_
    refine RunQ.on rfl rfl rfl h2 ?_
    refine RunQ.val (lt rfl) (Y.int rfl rfl rfl) ?_
    refine RunQ.on rfl rfl rfl h2 ?_
    refine RunQ.val (lt rfl) (Y.not rfl) ?_
    refine RunQ.val (lt rfl) (Y.pick_t rfl h2 rfl) ?_
    refine RunQ.to_end ?_
    refine Ex.go ?_
    rcases Bool.eq_false_or_eq_true (decide ((cm (d[u]!) (d[u - 1]!)) < 0)) with h3 | h3
    ·have g3 := h3
     try simp only [kb] at g3
     refine Tr.cond_f rfl (congrArg Bool.not h3) ?_
     refine Tr.to_exit ?_
     refine Ex.exit_then ?_
     refine Ex.exit_then ?_
     refine Ex.exit_in ?_
     exact Ex.cutx u ⟨m1.symm.trans (scanSorted_stop (by first | (left; omega) | (right; assumption))), m2, m3⟩ rfl rfl (subB_cons (by first | rfl | exact congrArg (fun z => some (Value.int _ z)) (by omega)) (subB_cons (by first | rfl | exact congrArg (fun z => some (Value.int _ z)) (by omega)) (subB_cons (by first | rfl | exact congrArg (fun z => some (Value.int _ z)) (by omega)) (subB_cons (by first | rfl | exact congrArg (fun z => some (Value.int _ z)) (by omega)) (subB_cons (by first | rfl | exact congrArg (fun z => some (Value.int _ z)) (by omega)) (subB_cons (by first | rfl | exact congrArg (fun z => some (Value.int _ z)) (by omega)) (subB_cons (by first | rfl | exact congrArg (fun z => some (Value.int _ z)) (by omega)) (subB_nil _))))))))
    ·have g3 := h3
     try simp only [kb] at g3
     refine Tr.cond_t rfl (congrArg Bool.not h3) ?_
     refine Tr.to_end ?_
     refine Ex.go ?_
     refine Tr.block ?_
     refine Tr.region ?_
     refine Run.val (lt rfl) (Y.move rfl) ?_
     refine Run.val (lt rfl) (Y.addN ((u + 1 : Nat) : Int) rfl rfl (by omega) (by omega)) ?_
     refine Run.val (lt rfl) (Y.assign rfl) ?_
     refine Run.to_end ?_
     refine Ex.end_block ?_
     exact Ex.round (u + 1 : Nat) ⟨(scanSorted_go (by omega) (by assumption)).trans m1, by omega, by omega⟩ (by omega) rfl rfl (subB_cons (by first | rfl | exact congrArg (fun z => some (Value.int _ z)) (by omega)) (subB_cons (by first | rfl | exact congrArg (fun z => some (Value.int _ z)) (by omega)) (subB_cons (by first | rfl | exact congrArg (fun z => some (Value.int _ z)) (by omega)) (subB_cons (by first | rfl | exact congrArg (fun z => some (Value.int _ z)) (by omega)) (subB_cons (by first | rfl | exact congrArg (fun z => some (Value.int _ z)) (by omega)) (subB_cons (by first | rfl | exact congrArg (fun z => some (Value.int _ z)) (by omega)) (subB_cons (by first | rfl | exact congrArg (fun z => some (Value.int _ z)) (by omega)) (subB_nil _))))))))
   ·have g2 := h2
    try simp only [kb] at g2
    refine RunQ.off rfl rfl rfl h2 rfl (lt rfl) ?_
    refine RunQ.off rfl rfl rfl h2 rfl (lt rfl) ?_
    refine RunQ.off rfl rfl rfl h2 rfl (lt rfl) ?_
    refine RunQ.off rfl rfl rfl h2 rfl (lt rfl) ?_
    refine RunQ.off rfl rfl rfl h2 rfl (lt rfl) ?_
    refine RunQ.off rfl rfl rfl h2 rfl (lt rfl) ?_
    refine RunQ.off rfl rfl rfl h2 rfl (lt rfl) ?_
    refine RunQ.off rfl rfl rfl h2 rfl (lt rfl) ?_
    refine RunQ.off rfl rfl rfl h2 rfl (lt rfl) ?_
    refine RunQ.off rfl rfl rfl h2 rfl (lt rfl) ?_
    refine RunQ.off rfl rfl rfl h2 rfl (lt rfl) ?_
    refine RunQ.off rfl rfl rfl h2 rfl (lt rfl) ?_
    refine RunQ.off rfl rfl rfl h2 rfl (lt rfl) ?_
    refine RunQ.val (lt rfl) (Y.pick_f rfl h2 rfl) ?_
    refine RunQ.to_end ?_
    refine Ex.go ?_
    refine Tr.cond_f rfl rfl ?_
    refine Tr.to_exit ?_
    refine Ex.exit_then ?_
    refine Ex.exit_then ?_
    refine Ex.exit_in ?_
    exact Ex.cutx u ⟨m1.symm.trans (scanSorted_stop (by first | (left; omega) | (right; assumption))), m2, m3⟩ rfl rfl (subB_cons (by first | rfl | exact congrArg (fun z => some (Value.int _ z)) (by omega)) (subB_cons (by first | rfl | exact congrArg (fun z => some (Value.int _ z)) (by omega)) (subB_cons (by first | rfl | exact congrArg (fun z => some (Value.int _ z)) (by omega)) (subB_cons (by first | rfl | exact congrArg (fun z => some (Value.int _ z)) (by omega)) (subB_cons (by first | rfl | exact congrArg (fun z => some (Value.int _ z)) (by omega)) (subB_cons (by first | rfl | exact congrArg (fun z => some (Value.int _ z)) (by omega)) (subB_cons (by first | rfl | exact congrArg (fun z => some (Value.int _ z)) (by omega)) (subB_nil _))))))))
  ·rintro i2 ⟨f1, f2, f3⟩
   refine Tr.seq ?_
   refine Tr.seq ?_
   refine Tr.region ?_
   refine Run.val (lt rfl) (Y.move rfl) ?_
   refine Run.val (lt rfl) (Y.move rfl) ?_
   refine Run.val (lt rfl) (Y.int rfl rfl rfl) ?_
   refine Run.to_end ?_
   refine Ex.go ?_
   rcases Bool.eq_false_or_eq_true (((i2 : Nat) : Int) == ((y : Nat) : Int)) with h4 | h4
   ·have g4 := h4
    try simp only [kb] at g4
    refine Tr.cond_t rfl h4 ?_
    refine Tr.seq ?_
    refine Tr.region ?_
    refine Run.val (lt rfl) (Y.assign rfl) ?_
    refine Run.to_end ?_
    refine Ex.go ?_
    refine Tr.to_ret ?_
    refine Ex.ret_then ?_
    refine Ex.ret_block ?_
    refine Ex.ret_then ?_
    refine Ex.ret_then ?_
    refine Ex.ret_block ?_
    refine Ex.ret_then ?_
    refine Ex.keep [0] ?_
    exact Ex.ret1 rfl rfl  ⟨rfl, by rw [← r1]; first | rw [pins_end (by omega)] | rw [pins_done (by omega) f1 (by omega)] | rw [pins_short (by omega) f1 (by omega) (by omega)], by rw [← r1]; (first | rw [pins_end (by omega)] | rw [pins_done (by omega) f1 (by omega)] | rw [pins_short (by omega) f1 (by omega) (by omega)]); rfl⟩
   ·have g4 := h4
    try simp only [kb] at g4
    refine Tr.cond_f rfl h4 ?_
    refine Tr.to_end ?_
    refine Ex.go ?_
    refine Tr.seq ?_
    refine Tr.seq ?_
    refine Tr.region ?_
    refine Run.val (lt rfl) (Y.move rfl) ?_
    refine Run.val (lt rfl) (Y.move rfl) ?_
    refine Run.val (lt rfl) (Y.subN ((y - x : Nat) : Int) rfl rfl (by omega) (by omega)) ?_
    refine Run.val (lt rfl) (Y.int rfl rfl rfl) ?_
    refine Run.to_end ?_
    refine Ex.go ?_
    rcases Bool.eq_false_or_eq_true (decide (((y - x : Nat) : Int) < 50)) with h5 | h5
    ·have g5 := h5
     try simp only [kb] at g5
     refine Tr.cond_t rfl h5 ?_
     refine Tr.seq ?_
     refine Tr.region ?_
     refine Run.val (lt rfl) (Y.assign rfl) ?_
     refine Run.to_end ?_
     refine Ex.go ?_
     refine Tr.to_ret ?_
     refine Ex.ret_then ?_
     refine Ex.ret_block ?_
     refine Ex.ret_then ?_
     refine Ex.ret_then ?_
     refine Ex.ret_block ?_
     refine Ex.ret_then ?_
     refine Ex.keep [0] ?_
     exact Ex.ret1 rfl rfl  ⟨rfl, by rw [← r1]; first | rw [pins_end (by omega)] | rw [pins_done (by omega) f1 (by omega)] | rw [pins_short (by omega) f1 (by omega) (by omega)], by rw [← r1]; (first | rw [pins_end (by omega)] | rw [pins_done (by omega) f1 (by omega)] | rw [pins_short (by omega) f1 (by omega) (by omega)]); rfl⟩
    ·have g5 := h5
     try simp only [kb] at g5
     refine Tr.cond_f rfl h5 ?_
     refine Tr.to_end ?_
     refine Ex.go ?_
     refine Tr.seq ?_
     refine Tr.anyT [(b, .cells (cel Rg.cells d rest).toArray 53 (0, 0))] 15 Sortr2_mo ?_
     refine RunT.pure (i := 0) rfl (by kernel_rfl) (by kernel_rfl) (by kernel_rfl) (by kernel_rfl) (fun _ _ _ h => h) (lt rfl) (KnAll.cons (Kn.at 0 rfl) KnAll.nil) (fun _ => (Y.move rfl)) ?_
     refine RunT.pure (i := 1) rfl (by kernel_rfl) (by kernel_rfl) (by kernel_rfl) (by kernel_rfl) (fun _ _ _ h => h) (lt rfl) (KnAll.cons (Kn.at 0 rfl) KnAll.nil) (fun _ => (Y.move rfl)) ?_
     refine RunT.pure (i := 2) rfl (by kernel_rfl) (by kernel_rfl) (by kernel_rfl) (by kernel_rfl) (fun _ _ _ h => h) (lt rfl) (KnAll.cons (Kn.at 0 rfl) KnAll.nil) (fun _ => (Y.move rfl)) ?_
     refine RunT.pure (i := 3) rfl (by kernel_rfl) (by kernel_rfl) (by kernel_rfl) (by kernel_rfl) (fun _ _ _ h => h) (lt rfl) (KnAll.cons (Kn.at 0 rfl) KnAll.nil) (fun _ => (Y.move rfl)) ?_
     refine RunT.pure (i := 4) rfl (by kernel_rfl) (by kernel_rfl) (by kernel_rfl) (by kernel_rfl) (fun _ _ _ h => h) (lt rfl) (KnAll.cons (Kn.at 0 rfl) KnAll.nil) (fun _ => (Y.subN ((i2 - 1 : Nat) : Int) rfl rfl (by omega) (by omega))) ?_
     refine RunT.pure (i := 5) rfl (by kernel_rfl) (by kernel_rfl) (by kernel_rfl) (by kernel_rfl) (fun _ _ _ h => h) (lt rfl) (KnAll.cons (Kn.at 0 rfl) KnAll.nil) (fun _ => (Y.move rfl)) ?_
     refine RunT.pure (i := 6) rfl (by kernel_rfl) (by kernel_rfl) (by kernel_rfl) (by kernel_rfl) (fun _ _ _ h => h) (lt rfl) (KnAll.cons (Kn.at 0 rfl) KnAll.nil) (fun _ => (Y.move rfl)) ?_
     refine RunT.pure (i := 7) rfl (by kernel_rfl) (by kernel_rfl) (by kernel_rfl) (by kernel_rfl) (fun _ _ _ h => h) (lt rfl) (KnAll.cons (Kn.at 0 rfl) KnAll.nil) (fun _ => (Y.subN ((i2 - 1 : Nat) : Int) rfl rfl (by omega) (by omega))) ?_
     refine RunT.pure (i := 8) rfl (by kernel_rfl) (by kernel_rfl) (by kernel_rfl) (by kernel_rfl) (fun _ _ _ h => h) (lt rfl) (KnAll.cons (Kn.at 0 rfl) KnAll.nil) (fun _ => (Y.idxN (i2 - 1) rfl rfl Sortr2_es51 (by omega) (by omega))) ?_
     refine RunT.take (i := 9) 0 rfl rfl (by kernel_rfl) (by kernel_rfl) (by kernel_rfl) (by kernel_rfl) (fun _ _ _ h => h) (lt rfl) (KnAll.cons (Kn.at 0 rfl) KnAll.nil) (fun _ => (Y.ldA (enc := Rg.cells) (d := d) (rest := rest) (e := 53) (i := (i2 - 1)) rfl Sortr2_ag53 Kn.vk1 Rg.enc (by first | omega | (simp only [swp_size, Array.size_setIfInBounds]; omega)) rfl)) ?_
     refine RunT.pure (i := 10) rfl (by kernel_rfl) (by kernel_rfl) (by kernel_rfl) (by kernel_rfl) (fun _ _ _ h => h) (lt rfl) (KnAll.cons (Kn.at 0 rfl) KnAll.nil) (fun _ => (Y.move rfl)) ?_
     refine RunT.pure (i := 11) rfl (by kernel_rfl) (by kernel_rfl) (by kernel_rfl) (by kernel_rfl) (fun _ _ _ h => h) (lt rfl) (KnAll.cons (Kn.at 0 rfl) KnAll.nil) (fun _ => (Y.move rfl)) ?_
     refine RunT.pure (i := 12) rfl (by kernel_rfl) (by kernel_rfl) (by kernel_rfl) (by kernel_rfl) (fun _ _ _ h => h) (lt rfl) (KnAll.cons (Kn.at 0 rfl) KnAll.nil) (fun _ => (Y.idxN i2 rfl rfl Sortr2_es51 (by omega) (by omega))) ?_
     refine RunT.take (i := 13) 0 rfl rfl (by kernel_rfl) (by kernel_rfl) (by kernel_rfl) (by kernel_rfl) (fun _ _ _ h => h) (lt rfl) (KnAll.cons (Kn.at 0 rfl) KnAll.nil) (fun _ => (Y.ldA (enc := Rg.cells) (d := d) (rest := rest) (e := 53) (i := i2) rfl Sortr2_ag53 Kn.vk1 Rg.enc (by first | omega | (simp only [swp_size, Array.size_setIfInBounds]; omega)) rfl)) ?_
     refine RunT.pure (i := 14) rfl (by kernel_rfl) (by kernel_rfl) (by kernel_rfl) (by kernel_rfl) (fun _ _ _ h => h) (lt rfl) (KnAll.cons (Kn.at 0 rfl) KnAll.nil) (fun _ => (Y.idxN i2 rfl rfl Sortr2_es51 (by omega) (by omega))) ?_
     refine RunT.one (i := 15) (by kernel_rfl) rfl  ?_ 
     refine Run.stD (enc := Rg.cells) (d := d) (rest := rest) (e := 53) (i := i2) (s := 0) (d[i2 - 1]!) rfl rfl Sortr2_sz53 rfl Rg.enc (by first | omega | (simp only [swp_size, Array.size_setIfInBounds]; omega)) rfl ?_
     refine Run.to_end ?_
     refine Ex.anyTz (i := 15) rfl rfl rfl ?_
     refine RunT.one (i := 16) (by kernel_rfl) rfl  ?_ 
     refine Run.val (lt rfl) (Y.idxN (i2 - 1) rfl rfl Sortr2_es51 (by omega) (by omega)) ?_
     refine Run.to_end ?_
     refine Ex.anyTz (i := 16) rfl rfl rfl ?_
     refine RunT.one (i := 17) (by kernel_rfl) rfl  ?_ 
     refine Run.stD (enc := Rg.cells) (d := (d).setIfInBounds i2 (d[i2 - 1]!)) (rest := rest) (e := 53) (i := (i2 - 1)) (s := 0) (d[i2]!) rfl rfl Sortr2_sz53 rfl Rg.enc (by first | omega | (simp only [swp_size, Array.size_setIfInBounds]; omega)) rfl ?_
     refine Run.heapTo (H' := [sgD Rg.cells 53 b rest (swp d i2 (i2 - 1))]) rfl ?_
     refine Run.to_end ?_
     refine Ex.anyTz (i := 17) rfl rfl rfl ?_
     refine RunT.done (by kernel_rfl) ?_
     refine Ex.go ?_
     refine Tr.cutx (X := Array Rg) (fun d2 => V) (fun d2 => [sgD Rg.cells 53 b rest d2]) (fun d2 => [(0, .slice (some ⟨b, 0, none⟩) n c), (1, .int .i64 ((x : Nat) : Int)), (2, .int .i64 ((y : Nat) : Int)), (3, .func (.func gf) #[] caps.toArray), (8, .bool false), (9, .int .i64 ((i2 : Nat) : Int)), (10, .int .i64 ((s : Nat) : Int))]) (fun d2 => fixDown (ltc cm) x i2 (swp d i2 (i2 - 1)) = d2 ∧ d2.size = n) ?_ ?_
     ·refine Tr.seq ?_
      refine Tr.region ?_
      refine Run.val (lt rfl) (Y.move rfl) ?_
      refine Run.val (lt rfl) (Y.move rfl) ?_
      refine Run.val (lt rfl) (Y.subN ((i2 - x : Nat) : Int) rfl rfl (by omega) (by omega)) ?_
      refine Run.val (lt rfl) (Y.int rfl rfl rfl) ?_
      refine Run.to_end ?_
      refine Ex.go ?_
      rcases Bool.eq_false_or_eq_true (decide (((i2 - x : Nat) : Int) ≥ 2)) with h6 | h6
      ·have g6 := h6
       try simp only [kb] at g6
       refine Tr.cond_t rfl h6 ?_
       refine Tr.seq ?_
       refine Tr.region ?_
       refine Run.val (lt rfl) (Y.move rfl) ?_
       refine Run.val (lt rfl) (Y.subN ((i2 - 1 : Nat) : Int) rfl rfl (by omega) (by omega)) ?_
       refine Run.val (lt rfl) (Y.assign rfl) ?_
       refine Run.to_end ?_
       refine Ex.go ?_
       refine Tr.block ?_
       refine Tr.loop (X := Nat × Array Rg) (fun z0 => V) (fun z0 => [sgD Rg.cells 53 b rest z0.2]) (fun z0 => [(0, .slice (some ⟨b, 0, none⟩) n c), (1, .int .i64 ((x : Nat) : Int)), (2, .int .i64 ((y : Nat) : Int)), (3, .func (.func gf) #[] caps.toArray), (8, .bool false), (9, .int .i64 ((i2 : Nat) : Int)), (10, .int .i64 ((s : Nat) : Int)), (11, .int .i64 ((z0.1 : Nat) : Int))]) (fun z0 => shiftDown (ltc cm) z0.1 z0.2 = shiftDown (ltc cm) (i2 - 1) (swp d i2 (i2 - 1)) ∧ z0.2.size = n ∧ z0.1 < i2) (fun z0 => z0.1) (⟨i2 - 1, swp d i2 (i2 - 1)⟩ : Nat × Array Rg) ⟨rfl, by simp only [swp_size]; exact r2, by (try dsimp only); omega⟩ (fun a w i => ⟨i.1.sub (subB_cons (by first | rfl | exact congrArg (fun z => some (Value.int _ z)) (by omega)) (subB_cons (by first | rfl | exact congrArg (fun z => some (Value.int _ z)) (by omega)) (subB_cons (by first | rfl | exact congrArg (fun z => some (Value.int _ z)) (by omega)) (subB_cons (by first | rfl | exact congrArg (fun z => some (Value.int _ z)) (by omega)) (subB_cons (by first | rfl | exact congrArg (fun z => some (Value.int _ z)) (by omega)) (subB_cons (by first | rfl | exact congrArg (fun z => some (Value.int _ z)) (by omega)) (subB_cons (by first | rfl | exact congrArg (fun z => some (Value.int _ z)) (by omega)) (subB_cons (by first | rfl | exact congrArg (fun z => some (Value.int _ z)) (by omega)) (subB_nil _))))))))), i.2⟩) ?_
       rintro ⟨j, f⟩ ⟨k1, k2, k3⟩
       try dsimp only at k1 k2 k3 ⊢
       refine Tr.seq ?_
       refine Tr.seq ?_
       refine Tr.region ?_
       refine Run.val (lt rfl) (Y.move rfl) ?_
       refine Run.val (lt rfl) (Y.int rfl rfl rfl) ?_
       refine Run.to_end ?_
       refine Ex.go ?_
       rcases Bool.eq_false_or_eq_true (decide (((j : Nat) : Int) ≥ 1)) with h7 | h7
       ·have g7 := h7
        try simp only [kb] at g7
        refine Tr.cond_t rfl h7 ?_
        refine Tr.to_end ?_
        refine Ex.go ?_
        refine Tr.seq ?_
        refine Tr.block ?_
        refine Tr.seq ?_
        refine Tr.seq ?_
        refine Tr.quiet Sortr2_mo (by kernel_rfl) ?_
        refine RunQ.val (lt rfl) (Y.move rfl) ?_
        refine RunQ.val (lt rfl) (Y.move rfl) ?_
        refine RunQ.val (lt rfl) (Y.move rfl) ?_
        refine RunQ.val (lt rfl) (Y.idxN j rfl rfl Sortr2_es51 (by omega) (by omega)) ?_
        refine RunQ.val (lt rfl) (Y.ldA (enc := Rg.cells) (d := f) (rest := rest) (e := 53) (i := j) rfl Sortr2_ag53 (Kn.at 0 rfl) Rg.enc (by first | omega | (simp only [swp_size, Array.size_setIfInBounds]; omega)) rfl) ?_
        refine RunQ.val (lt rfl) (Y.move rfl) ?_
        refine RunQ.val (lt rfl) (Y.move rfl) ?_
        refine RunQ.val (lt rfl) (Y.subN ((j - 1 : Nat) : Int) rfl rfl (by omega) (by omega)) ?_
        refine RunQ.val (lt rfl) (Y.idxN (j - 1) rfl rfl Sortr2_es51 (by omega) (by omega)) ?_
        refine RunQ.val (lt rfl) (Y.ldA (enc := Rg.cells) (d := f) (rest := rest) (e := 53) (i := (j - 1)) rfl Sortr2_ag53 (Kn.at 0 rfl) Rg.enc (by first | omega | (simp only [swp_size, Array.size_setIfInBounds]; omega)) rfl) ?_
        refine RunQ.call0 (l := [.tmp 76, .tmp 81]) rfl rfl rfl (lt rfl) ((hcmp (f[j]!) (f[j - 1]!)).frame) ?_
        refine RunQ.val (lt rfl) (Y.int rfl rfl rfl) ?_
        refine RunQ.val (lt rfl) (Y.not rfl) ?_
        refine RunQ.to_end ?_
        refine Ex.go ?_
        rcases Bool.eq_false_or_eq_true (decide ((cm (f[j]!) (f[j - 1]!)) < 0)) with h8 | h8
        ·have g8 := h8
         try simp only [kb] at g8
         refine Tr.cond_f rfl (congrArg Bool.not h8) ?_
         refine Tr.to_end ?_
         refine Ex.go ?_
         refine Tr.anyT [(b, .cells (cel Rg.cells f rest).toArray 53 (0, 0))] 15 Sortr2_mo ?_
         refine RunT.pure (i := 0) rfl (by kernel_rfl) (by kernel_rfl) (by kernel_rfl) (by kernel_rfl) (fun _ _ _ h => h) (lt rfl) (KnAll.cons (Kn.at 0 rfl) KnAll.nil) (fun _ => (Y.move rfl)) ?_
         refine RunT.pure (i := 1) rfl (by kernel_rfl) (by kernel_rfl) (by kernel_rfl) (by kernel_rfl) (fun _ _ _ h => h) (lt rfl) (KnAll.cons (Kn.at 0 rfl) KnAll.nil) (fun _ => (Y.move rfl)) ?_
         refine RunT.pure (i := 2) rfl (by kernel_rfl) (by kernel_rfl) (by kernel_rfl) (by kernel_rfl) (fun _ _ _ h => h) (lt rfl) (KnAll.cons (Kn.at 0 rfl) KnAll.nil) (fun _ => (Y.move rfl)) ?_
         refine RunT.pure (i := 3) rfl (by kernel_rfl) (by kernel_rfl) (by kernel_rfl) (by kernel_rfl) (fun _ _ _ h => h) (lt rfl) (KnAll.cons (Kn.at 0 rfl) KnAll.nil) (fun _ => (Y.move rfl)) ?_
         refine RunT.pure (i := 4) rfl (by kernel_rfl) (by kernel_rfl) (by kernel_rfl) (by kernel_rfl) (fun _ _ _ h => h) (lt rfl) (KnAll.cons (Kn.at 0 rfl) KnAll.nil) (fun _ => (Y.subN ((j - 1 : Nat) : Int) rfl rfl (by omega) (by omega))) ?_
         refine RunT.pure (i := 5) rfl (by kernel_rfl) (by kernel_rfl) (by kernel_rfl) (by kernel_rfl) (fun _ _ _ h => h) (lt rfl) (KnAll.cons (Kn.at 0 rfl) KnAll.nil) (fun _ => (Y.move rfl)) ?_
         refine RunT.pure (i := 6) rfl (by kernel_rfl) (by kernel_rfl) (by kernel_rfl) (by kernel_rfl) (fun _ _ _ h => h) (lt rfl) (KnAll.cons (Kn.at 0 rfl) KnAll.nil) (fun _ => (Y.move rfl)) ?_
         refine RunT.pure (i := 7) rfl (by kernel_rfl) (by kernel_rfl) (by kernel_rfl) (by kernel_rfl) (fun _ _ _ h => h) (lt rfl) (KnAll.cons (Kn.at 0 rfl) KnAll.nil) (fun _ => (Y.subN ((j - 1 : Nat) : Int) rfl rfl (by omega) (by omega))) ?_
         refine RunT.pure (i := 8) rfl (by kernel_rfl) (by kernel_rfl) (by kernel_rfl) (by kernel_rfl) (fun _ _ _ h => h) (lt rfl) (KnAll.cons (Kn.at 0 rfl) KnAll.nil) (fun _ => (Y.idxN (j - 1) rfl rfl Sortr2_es51 (by omega) (by omega))) ?_
         refine RunT.take (i := 9) 0 rfl rfl (by kernel_rfl) (by kernel_rfl) (by kernel_rfl) (by kernel_rfl) (fun _ _ _ h => h) (lt rfl) (KnAll.cons (Kn.at 0 rfl) KnAll.nil) (fun _ => (Y.ldA (enc := Rg.cells) (d := f) (rest := rest) (e := 53) (i := (j - 1)) rfl Sortr2_ag53 Kn.vk1 Rg.enc (by first | omega | (simp only [swp_size, Array.size_setIfInBounds]; omega)) rfl)) ?_
         refine RunT.pure (i := 10) rfl (by kernel_rfl) (by kernel_rfl) (by kernel_rfl) (by kernel_rfl) (fun _ _ _ h => h) (lt rfl) (KnAll.cons (Kn.at 0 rfl) KnAll.nil) (fun _ => (Y.move rfl)) ?_
         refine RunT.pure (i := 11) rfl (by kernel_rfl) (by kernel_rfl) (by kernel_rfl) (by kernel_rfl) (fun _ _ _ h => h) (lt rfl) (KnAll.cons (Kn.at 0 rfl) KnAll.nil) (fun _ => (Y.move rfl)) ?_
         refine RunT.pure (i := 12) rfl (by kernel_rfl) (by kernel_rfl) (by kernel_rfl) (by kernel_rfl) (fun _ _ _ h => h) (lt rfl) (KnAll.cons (Kn.at 0 rfl) KnAll.nil) (fun _ => (Y.idxN j rfl rfl Sortr2_es51 (by omega) (by omega))) ?_
         refine RunT.take (i := 13) 0 rfl rfl (by kernel_rfl) (by kernel_rfl) (by kernel_rfl) (by kernel_rfl) (fun _ _ _ h => h) (lt rfl) (KnAll.cons (Kn.at 0 rfl) KnAll.nil) (fun _ => (Y.ldA (enc := Rg.cells) (d := f) (rest := rest) (e := 53) (i := j) rfl Sortr2_ag53 Kn.vk1 Rg.enc (by first | omega | (simp only [swp_size, Array.size_setIfInBounds]; omega)) rfl)) ?_
         refine RunT.pure (i := 14) rfl (by kernel_rfl) (by kernel_rfl) (by kernel_rfl) (by kernel_rfl) (fun _ _ _ h => h) (lt rfl) (KnAll.cons (Kn.at 0 rfl) KnAll.nil) (fun _ => (Y.idxN j rfl rfl Sortr2_es51 (by omega) (by omega))) ?_
         refine RunT.one (i := 15) (by kernel_rfl) rfl  ?_ 
         refine Run.stD (enc := Rg.cells) (d := f) (rest := rest) (e := 53) (i := j) (s := 0) (f[j - 1]!) rfl rfl Sortr2_sz53 rfl Rg.enc (by first | omega | (simp only [swp_size, Array.size_setIfInBounds]; omega)) rfl ?_
         refine Run.to_end ?_
         refine Ex.anyTz (i := 15) rfl rfl rfl ?_
         refine RunT.one (i := 16) (by kernel_rfl) rfl  ?_ 
         refine Run.val (lt rfl) (Y.idxN (j - 1) rfl rfl Sortr2_es51 (by omega) (by omega)) ?_
         refine Run.to_end ?_
         refine Ex.anyTz (i := 16) rfl rfl rfl ?_
         refine RunT.one (i := 17) (by kernel_rfl) rfl  ?_ 
         refine Run.stD (enc := Rg.cells) (d := (f).setIfInBounds j (f[j - 1]!)) (rest := rest) (e := 53) (i := (j - 1)) (s := 0) (f[j]!) rfl rfl Sortr2_sz53 rfl Rg.enc (by first | omega | (simp only [swp_size, Array.size_setIfInBounds]; omega)) rfl ?_
         refine Run.heapTo (H' := [sgD Rg.cells 53 b rest (swp f j (j - 1))]) rfl ?_
         refine Run.to_end ?_
         refine Ex.anyTz (i := 17) rfl rfl rfl ?_
         refine RunT.done (by kernel_rfl) ?_
         refine Ex.end_block ?_
         refine Ex.go ?_
         refine Tr.region ?_
         refine Run.val (lt rfl) (Y.move rfl) ?_
         refine Run.val (lt rfl) (Y.subN ((j - 1 : Nat) : Int) rfl rfl (by omega) (by omega)) ?_
         refine Run.val (lt rfl) (Y.assign rfl) ?_
         refine Run.to_end ?_
         exact Ex.round (⟨j - 1, swp f j (j - 1)⟩ : Nat × Array Rg) ⟨(shiftDown_go (by omega) (by assumption)).trans k1, by simp only [swp_size]; exact k2, by (try dsimp only); omega⟩ (by dsimp only; omega) rfl rfl (subB_cons (by first | rfl | exact congrArg (fun z => some (Value.int _ z)) (by omega)) (subB_cons (by first | rfl | exact congrArg (fun z => some (Value.int _ z)) (by omega)) (subB_cons (by first | rfl | exact congrArg (fun z => some (Value.int _ z)) (by omega)) (subB_cons (by first | rfl | exact congrArg (fun z => some (Value.int _ z)) (by omega)) (subB_cons (by first | rfl | exact congrArg (fun z => some (Value.int _ z)) (by omega)) (subB_cons (by first | rfl | exact congrArg (fun z => some (Value.int _ z)) (by omega)) (subB_cons (by first | rfl | exact congrArg (fun z => some (Value.int _ z)) (by omega)) (subB_cons (by first | rfl | exact congrArg (fun z => some (Value.int _ z)) (by omega)) (subB_nil _)))))))))
        ·have g8 := h8
         try simp only [kb] at g8
         refine Tr.cond_t rfl (congrArg Bool.not h8) ?_
         refine Tr.to_exit ?_
         refine Ex.exit_then ?_
         refine Ex.exit_out rfl ?_
         refine Ex.exit_then ?_
         refine Ex.exit_then ?_
         refine Ex.exit_in ?_
         exact Ex.cutx f ⟨by unfold fixDown; first | rw [if_neg (by omega)] | (rw [if_pos (by omega), ← k1, shiftDown_stop (by first | (left; omega) | (right; assumption))]), by first | assumption | (simp only [swp_size]; assumption)⟩ rfl rfl (subB_cons (by first | rfl | exact congrArg (fun z => some (Value.int _ z)) (by omega)) (subB_cons (by first | rfl | exact congrArg (fun z => some (Value.int _ z)) (by omega)) (subB_cons (by first | rfl | exact congrArg (fun z => some (Value.int _ z)) (by omega)) (subB_cons (by first | rfl | exact congrArg (fun z => some (Value.int _ z)) (by omega)) (subB_cons (by first | rfl | exact congrArg (fun z => some (Value.int _ z)) (by omega)) (subB_cons (by first | rfl | exact congrArg (fun z => some (Value.int _ z)) (by omega)) (subB_cons (by first | rfl | exact congrArg (fun z => some (Value.int _ z)) (by omega)) (subB_nil _))))))))
       ·have g7 := h7
        try simp only [kb] at g7
        refine Tr.cond_f rfl h7 ?_
        refine Tr.to_exit ?_
        refine Ex.exit_then ?_
        refine Ex.exit_then ?_
        refine Ex.exit_in ?_
        exact Ex.cutx f ⟨by unfold fixDown; first | rw [if_neg (by omega)] | (rw [if_pos (by omega), ← k1, shiftDown_stop (by first | (left; omega) | (right; assumption))]), by first | assumption | (simp only [swp_size]; assumption)⟩ rfl rfl (subB_cons (by first | rfl | exact congrArg (fun z => some (Value.int _ z)) (by omega)) (subB_cons (by first | rfl | exact congrArg (fun z => some (Value.int _ z)) (by omega)) (subB_cons (by first | rfl | exact congrArg (fun z => some (Value.int _ z)) (by omega)) (subB_cons (by first | rfl | exact congrArg (fun z => some (Value.int _ z)) (by omega)) (subB_cons (by first | rfl | exact congrArg (fun z => some (Value.int _ z)) (by omega)) (subB_cons (by first | rfl | exact congrArg (fun z => some (Value.int _ z)) (by omega)) (subB_cons (by first | rfl | exact congrArg (fun z => some (Value.int _ z)) (by omega)) (subB_nil _))))))))
      ·have g6 := h6
       try simp only [kb] at g6
       refine Tr.cond_f rfl h6 ?_
       refine Tr.to_end ?_
       exact Ex.cutx (swp d i2 (i2 - 1)) ⟨by unfold fixDown; first | rw [if_neg (by omega)] | (rw [if_pos (by omega), ← k1, shiftDown_stop (by first | (left; omega) | (right; assumption))]), by first | assumption | (simp only [swp_size]; assumption)⟩ rfl rfl (subB_cons (by first | rfl | exact congrArg (fun z => some (Value.int _ z)) (by omega)) (subB_cons (by first | rfl | exact congrArg (fun z => some (Value.int _ z)) (by omega)) (subB_cons (by first | rfl | exact congrArg (fun z => some (Value.int _ z)) (by omega)) (subB_cons (by first | rfl | exact congrArg (fun z => some (Value.int _ z)) (by omega)) (subB_cons (by first | rfl | exact congrArg (fun z => some (Value.int _ z)) (by omega)) (subB_cons (by first | rfl | exact congrArg (fun z => some (Value.int _ z)) (by omega)) (subB_cons (by first | rfl | exact congrArg (fun z => some (Value.int _ z)) (by omega)) (subB_nil _))))))))
     ·rintro d2 ⟨c1, c2⟩
      refine Tr.seq ?_
      refine Tr.region ?_
      refine Run.val (lt rfl) (Y.move rfl) ?_
      refine Run.val (lt rfl) (Y.move rfl) ?_
      refine Run.val (lt rfl) (Y.subN ((y - i2 : Nat) : Int) rfl rfl (by omega) (by omega)) ?_
      refine Run.val (lt rfl) (Y.int rfl rfl rfl) ?_
      refine Run.to_end ?_
      refine Ex.go ?_
      rcases Bool.eq_false_or_eq_true (decide (((y - i2 : Nat) : Int) ≥ 2)) with h9 | h9
      ·have g9 := h9
       try simp only [kb] at g9
       refine Tr.cond_t rfl h9 ?_
       refine Tr.seq ?_
       refine Tr.region ?_
       refine Run.val (lt rfl) (Y.move rfl) ?_
       refine Run.val (lt rfl) (Y.addN ((i2 + 1 : Nat) : Int) rfl rfl (by omega) (by omega)) ?_
       refine Run.val (lt rfl) (Y.assign rfl) ?_
       refine Run.to_end ?_
       refine Ex.go ?_
       refine Tr.block ?_
       refine Tr.loop (X := Nat × Array Rg) (fun z0 => V) (fun z0 => [sgD Rg.cells 53 b rest z0.2]) (fun z0 => [(0, .slice (some ⟨b, 0, none⟩) n c), (1, .int .i64 ((x : Nat) : Int)), (2, .int .i64 ((y : Nat) : Int)), (3, .func (.func gf) #[] caps.toArray), (8, .bool false), (9, .int .i64 ((i2 : Nat) : Int)), (10, .int .i64 ((s : Nat) : Int)), (12, .int .i64 ((z0.1 : Nat) : Int))]) (fun z0 => shiftUp (ltc cm) y z0.1 z0.2 = shiftUp (ltc cm) y (i2 + 1) d2 ∧ z0.2.size = n ∧ i2 < z0.1) (fun z0 => y - z0.1) (⟨i2 + 1, d2⟩ : Nat × Array Rg) ⟨rfl, c2, by (try dsimp only); omega⟩ (fun a w i => ⟨i.1.sub (subB_cons (by first | rfl | exact congrArg (fun z => some (Value.int _ z)) (by omega)) (subB_cons (by first | rfl | exact congrArg (fun z => some (Value.int _ z)) (by omega)) (subB_cons (by first | rfl | exact congrArg (fun z => some (Value.int _ z)) (by omega)) (subB_cons (by first | rfl | exact congrArg (fun z => some (Value.int _ z)) (by omega)) (subB_cons (by first | rfl | exact congrArg (fun z => some (Value.int _ z)) (by omega)) (subB_cons (by first | rfl | exact congrArg (fun z => some (Value.int _ z)) (by omega)) (subB_cons (by first | rfl | exact congrArg (fun z => some (Value.int _ z)) (by omega)) (subB_cons (by first | rfl | exact congrArg (fun z => some (Value.int _ z)) (by omega)) (subB_nil _))))))))), i.2⟩) ?_
       rintro ⟨j, f⟩ ⟨u1, u2, u3⟩
       try dsimp only at u1 u2 u3 ⊢
       refine Tr.seq ?_
       refine Tr.seq ?_
       refine Tr.region ?_
       refine Run.val (lt rfl) (Y.move rfl) ?_
       refine Run.val (lt rfl) (Y.move rfl) ?_
       refine Run.val (lt rfl) (Y.int rfl rfl rfl) ?_
       refine Run.to_end ?_
       refine Ex.go ?_
       rcases Bool.eq_false_or_eq_true (decide (((j : Nat) : Int) < ((y : Nat) : Int))) with h10 | h10
       ·have g10 := h10
        try simp only [kb] at g10
        refine Tr.cond_t rfl h10 ?_
        refine Tr.to_end ?_
        refine Ex.go ?_
        refine Tr.seq ?_
        refine Tr.block ?_
        refine Tr.seq ?_
        refine Tr.seq ?_
        refine Tr.quiet Sortr2_mo (by kernel_rfl) ?_
        refine RunQ.val (lt rfl) (Y.move rfl) ?_
        refine RunQ.val (lt rfl) (Y.move rfl) ?_
        refine RunQ.val (lt rfl) (Y.move rfl) ?_
        refine RunQ.val (lt rfl) (Y.idxN j rfl rfl Sortr2_es51 (by omega) (by omega)) ?_
        refine RunQ.val (lt rfl) (Y.ldA (enc := Rg.cells) (d := f) (rest := rest) (e := 53) (i := j) rfl Sortr2_ag53 (Kn.at 0 rfl) Rg.enc (by first | omega | (simp only [swp_size, Array.size_setIfInBounds]; omega)) rfl) ?_
        refine RunQ.val (lt rfl) (Y.move rfl) ?_
        refine RunQ.val (lt rfl) (Y.move rfl) ?_
        refine RunQ.val (lt rfl) (Y.subN ((j - 1 : Nat) : Int) rfl rfl (by omega) (by omega)) ?_
        refine RunQ.val (lt rfl) (Y.idxN (j - 1) rfl rfl Sortr2_es51 (by omega) (by omega)) ?_
        refine RunQ.val (lt rfl) (Y.ldA (enc := Rg.cells) (d := f) (rest := rest) (e := 53) (i := (j - 1)) rfl Sortr2_ag53 (Kn.at 0 rfl) Rg.enc (by first | omega | (simp only [swp_size, Array.size_setIfInBounds]; omega)) rfl) ?_
        refine RunQ.call0 (l := [.tmp 116, .tmp 121]) rfl rfl rfl (lt rfl) ((hcmp (f[j]!) (f[j - 1]!)).frame) ?_
        refine RunQ.val (lt rfl) (Y.int rfl rfl rfl) ?_
        refine RunQ.val (lt rfl) (Y.not rfl) ?_
        refine RunQ.to_end ?_
        refine Ex.go ?_
        rcases Bool.eq_false_or_eq_true (decide ((cm (f[j]!) (f[j - 1]!)) < 0)) with h11 | h11
        ·have g11 := h11
         try simp only [kb] at g11
         refine Tr.cond_f rfl (congrArg Bool.not h11) ?_
         refine Tr.to_end ?_
         refine Ex.go ?_
         refine Tr.anyT [(b, .cells (cel Rg.cells f rest).toArray 53 (0, 0))] 15 Sortr2_mo ?_
         refine RunT.pure (i := 0) rfl (by kernel_rfl) (by kernel_rfl) (by kernel_rfl) (by kernel_rfl) (fun _ _ _ h => h) (lt rfl) (KnAll.cons (Kn.at 0 rfl) KnAll.nil) (fun _ => (Y.move rfl)) ?_
         refine RunT.pure (i := 1) rfl (by kernel_rfl) (by kernel_rfl) (by kernel_rfl) (by kernel_rfl) (fun _ _ _ h => h) (lt rfl) (KnAll.cons (Kn.at 0 rfl) KnAll.nil) (fun _ => (Y.move rfl)) ?_
         refine RunT.pure (i := 2) rfl (by kernel_rfl) (by kernel_rfl) (by kernel_rfl) (by kernel_rfl) (fun _ _ _ h => h) (lt rfl) (KnAll.cons (Kn.at 0 rfl) KnAll.nil) (fun _ => (Y.move rfl)) ?_
         refine RunT.pure (i := 3) rfl (by kernel_rfl) (by kernel_rfl) (by kernel_rfl) (by kernel_rfl) (fun _ _ _ h => h) (lt rfl) (KnAll.cons (Kn.at 0 rfl) KnAll.nil) (fun _ => (Y.move rfl)) ?_
         refine RunT.pure (i := 4) rfl (by kernel_rfl) (by kernel_rfl) (by kernel_rfl) (by kernel_rfl) (fun _ _ _ h => h) (lt rfl) (KnAll.cons (Kn.at 0 rfl) KnAll.nil) (fun _ => (Y.subN ((j - 1 : Nat) : Int) rfl rfl (by omega) (by omega))) ?_
         refine RunT.pure (i := 5) rfl (by kernel_rfl) (by kernel_rfl) (by kernel_rfl) (by kernel_rfl) (fun _ _ _ h => h) (lt rfl) (KnAll.cons (Kn.at 0 rfl) KnAll.nil) (fun _ => (Y.move rfl)) ?_
         refine RunT.pure (i := 6) rfl (by kernel_rfl) (by kernel_rfl) (by kernel_rfl) (by kernel_rfl) (fun _ _ _ h => h) (lt rfl) (KnAll.cons (Kn.at 0 rfl) KnAll.nil) (fun _ => (Y.move rfl)) ?_
         refine RunT.pure (i := 7) rfl (by kernel_rfl) (by kernel_rfl) (by kernel_rfl) (by kernel_rfl) (fun _ _ _ h => h) (lt rfl) (KnAll.cons (Kn.at 0 rfl) KnAll.nil) (fun _ => (Y.subN ((j - 1 : Nat) : Int) rfl rfl (by omega) (by omega))) ?_
         refine RunT.pure (i := 8) rfl (by kernel_rfl) (by kernel_rfl) (by kernel_rfl) (by kernel_rfl) (fun _ _ _ h => h) (lt rfl) (KnAll.cons (Kn.at 0 rfl) KnAll.nil) (fun _ => (Y.idxN (j - 1) rfl rfl Sortr2_es51 (by omega) (by omega))) ?_
         refine RunT.take (i := 9) 0 rfl rfl (by kernel_rfl) (by kernel_rfl) (by kernel_rfl) (by kernel_rfl) (fun _ _ _ h => h) (lt rfl) (KnAll.cons (Kn.at 0 rfl) KnAll.nil) (fun _ => (Y.ldA (enc := Rg.cells) (d := f) (rest := rest) (e := 53) (i := (j - 1)) rfl Sortr2_ag53 Kn.vk1 Rg.enc (by first | omega | (simp only [swp_size, Array.size_setIfInBounds]; omega)) rfl)) ?_
         refine RunT.pure (i := 10) rfl (by kernel_rfl) (by kernel_rfl) (by kernel_rfl) (by kernel_rfl) (fun _ _ _ h => h) (lt rfl) (KnAll.cons (Kn.at 0 rfl) KnAll.nil) (fun _ => (Y.move rfl)) ?_
         refine RunT.pure (i := 11) rfl (by kernel_rfl) (by kernel_rfl) (by kernel_rfl) (by kernel_rfl) (fun _ _ _ h => h) (lt rfl) (KnAll.cons (Kn.at 0 rfl) KnAll.nil) (fun _ => (Y.move rfl)) ?_
         refine RunT.pure (i := 12) rfl (by kernel_rfl) (by kernel_rfl) (by kernel_rfl) (by kernel_rfl) (fun _ _ _ h => h) (lt rfl) (KnAll.cons (Kn.at 0 rfl) KnAll.nil) (fun _ => (Y.idxN j rfl rfl Sortr2_es51 (by omega) (by omega))) ?_
         refine RunT.take (i := 13) 0 rfl rfl (by kernel_rfl) (by kernel_rfl) (by kernel_rfl) (by kernel_rfl) (fun _ _ _ h => h) (lt rfl) (KnAll.cons (Kn.at 0 rfl) KnAll.nil) (fun _ => (Y.ldA (enc := Rg.cells) (d := f) (rest := rest) (e := 53) (i := j) rfl Sortr2_ag53 Kn.vk1 Rg.enc (by first | omega | (simp only [swp_size, Array.size_setIfInBounds]; omega)) rfl)) ?_
         refine RunT.pure (i := 14) rfl (by kernel_rfl) (by kernel_rfl) (by kernel_rfl) (by kernel_rfl) (fun _ _ _ h => h) (lt rfl) (KnAll.cons (Kn.at 0 rfl) KnAll.nil) (fun _ => (Y.idxN j rfl rfl Sortr2_es51 (by omega) (by omega))) ?_
         refine RunT.one (i := 15) (by kernel_rfl) rfl  ?_ 
         refine Run.stD (enc := Rg.cells) (d := f) (rest := rest) (e := 53) (i := j) (s := 0) (f[j - 1]!) rfl rfl Sortr2_sz53 rfl Rg.enc (by first | omega | (simp only [swp_size, Array.size_setIfInBounds]; omega)) rfl ?_
         refine Run.to_end ?_
         refine Ex.anyTz (i := 15) rfl rfl rfl ?_
         refine RunT.one (i := 16) (by kernel_rfl) rfl  ?_ 
         refine Run.val (lt rfl) (Y.idxN (j - 1) rfl rfl Sortr2_es51 (by omega) (by omega)) ?_
         refine Run.to_end ?_
         refine Ex.anyTz (i := 16) rfl rfl rfl ?_
         refine RunT.one (i := 17) (by kernel_rfl) rfl  ?_ 
         refine Run.stD (enc := Rg.cells) (d := (f).setIfInBounds j (f[j - 1]!)) (rest := rest) (e := 53) (i := (j - 1)) (s := 0) (f[j]!) rfl rfl Sortr2_sz53 rfl Rg.enc (by first | omega | (simp only [swp_size, Array.size_setIfInBounds]; omega)) rfl ?_
         refine Run.heapTo (H' := [sgD Rg.cells 53 b rest (swp f j (j - 1))]) rfl ?_
         refine Run.to_end ?_
         refine Ex.anyTz (i := 17) rfl rfl rfl ?_
         refine RunT.done (by kernel_rfl) ?_
         refine Ex.end_block ?_
         refine Ex.go ?_
         refine Tr.region ?_
         refine Run.val (lt rfl) (Y.move rfl) ?_
         refine Run.val (lt rfl) (Y.addN ((j + 1 : Nat) : Int) rfl rfl (by omega) (by omega)) ?_
         refine Run.val (lt rfl) (Y.assign rfl) ?_
         refine Run.to_end ?_
         exact Ex.round (⟨j + 1, swp f j (j - 1)⟩ : Nat × Array Rg) ⟨(shiftUp_go (by omega) (by assumption)).trans u1, by simp only [swp_size]; exact u2, by (try dsimp only); omega⟩ (by dsimp only; omega) rfl rfl (subB_cons (by first | rfl | exact congrArg (fun z => some (Value.int _ z)) (by omega)) (subB_cons (by first | rfl | exact congrArg (fun z => some (Value.int _ z)) (by omega)) (subB_cons (by first | rfl | exact congrArg (fun z => some (Value.int _ z)) (by omega)) (subB_cons (by first | rfl | exact congrArg (fun z => some (Value.int _ z)) (by omega)) (subB_cons (by first | rfl | exact congrArg (fun z => some (Value.int _ z)) (by omega)) (subB_cons (by first | rfl | exact congrArg (fun z => some (Value.int _ z)) (by omega)) (subB_cons (by first | rfl | exact congrArg (fun z => some (Value.int _ z)) (by omega)) (subB_cons (by first | rfl | exact congrArg (fun z => some (Value.int _ z)) (by omega)) (subB_nil _)))))))))
        ·have g11 := h11
         try simp only [kb] at g11
         refine Tr.cond_t rfl (congrArg Bool.not h11) ?_
         refine Tr.to_exit ?_
         refine Ex.exit_then ?_
         refine Ex.exit_out rfl ?_
         refine Ex.exit_then ?_
         refine Ex.exit_then ?_
         refine Ex.exit_in ?_
         refine Ex.end_block ?_
         refine Ex.go ?_
         refine Tr.region ?_
         refine Run.val (lt rfl) (Y.move rfl) ?_
         refine Run.val (lt rfl) (Y.addN ((s + 1 : Nat) : Int) rfl rfl (by omega) (by omega)) ?_
         refine Run.val (lt rfl) (Y.assign rfl) ?_
         refine Run.to_end ?_
         exact Ex.round (⟨s + 1, i2, f⟩ : Nat × Nat × Array Rg) ⟨by dsimp only; rw [← r1, pins_go (by omega) f1 (by omega) (by omega), c1]; unfold fixUp; first | rw [if_neg (by omega)] | (rw [if_pos (by omega), ← u1, shiftUp_stop (by first | (left; omega) | (right; assumption))]), by assumption, by (try dsimp only); omega, by (try dsimp only); omega, by (try dsimp only); omega⟩ (by dsimp only; omega) rfl rfl (subB_cons (by first | rfl | exact congrArg (fun z => some (Value.int _ z)) (by omega)) (subB_cons (by first | rfl | exact congrArg (fun z => some (Value.int _ z)) (by omega)) (subB_cons (by first | rfl | exact congrArg (fun z => some (Value.int _ z)) (by omega)) (subB_cons (by first | rfl | exact congrArg (fun z => some (Value.int _ z)) (by omega)) (subB_cons (by first | rfl | exact congrArg (fun z => some (Value.int _ z)) (by omega)) (subB_cons (by first | rfl | exact congrArg (fun z => some (Value.int _ z)) (by omega)) (subB_cons (by first | rfl | exact congrArg (fun z => some (Value.int _ z)) (by omega)) (subB_nil _))))))))
       ·have g10 := h10
        try simp only [kb] at g10
        refine Tr.cond_f rfl h10 ?_
        refine Tr.to_exit ?_
        refine Ex.exit_then ?_
        refine Ex.exit_then ?_
        refine Ex.exit_in ?_
        refine Ex.end_block ?_
        refine Ex.go ?_
        refine Tr.region ?_
        refine Run.val (lt rfl) (Y.move rfl) ?_
        refine Run.val (lt rfl) (Y.addN ((s + 1 : Nat) : Int) rfl rfl (by omega) (by omega)) ?_
        refine Run.val (lt rfl) (Y.assign rfl) ?_
        refine Run.to_end ?_
        exact Ex.round (⟨s + 1, i2, f⟩ : Nat × Nat × Array Rg) ⟨by dsimp only; rw [← r1, pins_go (by omega) f1 (by omega) (by omega), c1]; unfold fixUp; first | rw [if_neg (by omega)] | (rw [if_pos (by omega), ← u1, shiftUp_stop (by first | (left; omega) | (right; assumption))]), by assumption, by (try dsimp only); omega, by (try dsimp only); omega, by (try dsimp only); omega⟩ (by dsimp only; omega) rfl rfl (subB_cons (by first | rfl | exact congrArg (fun z => some (Value.int _ z)) (by omega)) (subB_cons (by first | rfl | exact congrArg (fun z => some (Value.int _ z)) (by omega)) (subB_cons (by first | rfl | exact congrArg (fun z => some (Value.int _ z)) (by omega)) (subB_cons (by first | rfl | exact congrArg (fun z => some (Value.int _ z)) (by omega)) (subB_cons (by first | rfl | exact congrArg (fun z => some (Value.int _ z)) (by omega)) (subB_cons (by first | rfl | exact congrArg (fun z => some (Value.int _ z)) (by omega)) (subB_cons (by first | rfl | exact congrArg (fun z => some (Value.int _ z)) (by omega)) (subB_nil _))))))))
      ·have g9 := h9
       try simp only [kb] at g9
       refine Tr.cond_f rfl h9 ?_
       refine Tr.to_end ?_
       refine Ex.end_block ?_
       refine Ex.go ?_
       refine Tr.region ?_
       refine Run.val (lt rfl) (Y.move rfl) ?_
       refine Run.val (lt rfl) (Y.addN ((s + 1 : Nat) : Int) rfl rfl (by omega) (by omega)) ?_
       refine Run.val (lt rfl) (Y.assign rfl) ?_
       refine Run.to_end ?_
       exact Ex.round (⟨s + 1, i2, d2⟩ : Nat × Nat × Array Rg) ⟨by dsimp only; rw [← r1, pins_go (by omega) f1 (by omega) (by omega), c1]; unfold fixUp; first | rw [if_neg (by omega)] | (rw [if_pos (by omega), ← u1, shiftUp_stop (by first | (left; omega) | (right; assumption))]), by assumption, by (try dsimp only); omega, by (try dsimp only); omega, by (try dsimp only); omega⟩ (by dsimp only; omega) rfl rfl (subB_cons (by first | rfl | exact congrArg (fun z => some (Value.int _ z)) (by omega)) (subB_cons (by first | rfl | exact congrArg (fun z => some (Value.int _ z)) (by omega)) (subB_cons (by first | rfl | exact congrArg (fun z => some (Value.int _ z)) (by omega)) (subB_cons (by first | rfl | exact congrArg (fun z => some (Value.int _ z)) (by omega)) (subB_cons (by first | rfl | exact congrArg (fun z => some (Value.int _ z)) (by omega)) (subB_cons (by first | rfl | exact congrArg (fun z => some (Value.int _ z)) (by omega)) (subB_cons (by first | rfl | exact congrArg (fun z => some (Value.int _ z)) (by omega)) (subB_nil _))))))))
 ·have g1 := h1
  try simp only [kb] at g1
  refine Tr.cond_f rfl h1 ?_
  refine Tr.to_exit ?_
  refine Ex.exit_then ?_
  refine Ex.exit_then ?_
  refine Ex.exit_in ?_
  refine Ex.go ?_
  refine Tr.seq ?_
  refine Tr.region ?_
  refine Run.val (lt rfl) (Y.assign rfl) ?_
  refine Run.to_end ?_
  refine Ex.go ?_
  refine Tr.to_ret ?_
  refine Ex.keep [0] ?_
  exact Ex.ret1 rfl rfl  ⟨rfl, by rw [← r1]; first | rw [pins_end (by omega)] | rw [pins_done (by omega) f1 (by omega)] | rw [pins_short (by omega) f1 (by omega) (by omega)], by rw [← r1]; (first | rw [pins_end (by omega)] | rw [pins_done (by omega) f1 (by omega)] | rw [pins_short (by omega) f1 (by omega) (by omega)]); rfl⟩

theorem ord2_r {V : Vw} {n c b : Nat} {rest : List Value} {d0 : Array Rg} {gf : FuncId} {caps : List Value} {cm : Rg → Rg → Int} {i j s bs : Nat}  (hN : n ≤ 1073741824) (hd : d0.size = n) (hi : i < n) (hj : j < n) (hs : s ≤ 1000)  (hcmp : ∀ x y : Rg, Does Try.prog gf (.agg (Rg.cells x).toArray :: .agg (Rg.cells y).toArray :: caps) V [] (Pv (.int .i64 (cm x y)) V [])) (hswo : SWO (ltc cm))  : Does Try.prog 173 [.slice (some ⟨b, 0, none⟩) n c, .int .i64 ((i : Nat) : Int), .int .i64 ((j : Nat) : Int), .pointer (some ⟨bs, 0, none⟩), .func (.func gf) #[] caps.toArray] V [sgD Rg.cells 53 b rest d0, [(bs, .cells #[.int .i64 ((s : Nat) : Int)] 3 (0, 0))]] (fun v V' H' => V' = V ∧ ∃ p q s' : Nat, v = .tuple #[.int .i64 (p : Int), .int .i64 (q : Int)] ∧ ((p = i ∧ q = j) ∨ (p = j ∧ q = i)) ∧ s' ≤ s + 1 ∧ H' = [sgD Rg.cells 53 b rest d0, [(bs, .cells #[.int .i64 ((s' : Nat) : Int)] 3 (0, 0))]]) := by
 refine Does.intro Try.func173 rfl rfl (le rfl) (fun B => ?_)
 refine Tr.seq ?_
 refine Tr.region ?_
 refine Run.val (lt rfl) (Y.assign rfl) ?_
 refine Run.val (lt rfl) (Y.assign rfl) ?_
 refine Run.to_end ?_
 refine Ex.go ?_
 refine Tr.seq ?_
 refine Tr.seq ?_
 refine Tr.quiet Sortr2_mo (by kernel_rfl) ?_
 refine RunQ.val (lt rfl) (Y.move rfl) ?_
 refine RunQ.val (lt rfl) (Y.move rfl) ?_
 refine RunQ.val (lt rfl) (Y.move rfl) ?_
 refine RunQ.val (lt rfl) (Y.idxN j rfl rfl Sortr2_es51 (by omega) (by omega)) ?_
 refine RunQ.val (lt rfl) (Y.ldA (enc := Rg.cells) (d := d0) (rest := rest) (e := 53) (i := j) rfl Sortr2_ag53 (Kn.at 0 rfl) Rg.enc (by first | omega | (simp only [swp_size, Array.size_setIfInBounds]; omega)) rfl) ?_
 refine RunQ.val (lt rfl) (Y.move rfl) ?_
 refine RunQ.val (lt rfl) (Y.move rfl) ?_
 refine RunQ.val (lt rfl) (Y.idxN i rfl rfl Sortr2_es51 (by omega) (by omega)) ?_
 refine RunQ.val (lt rfl) (Y.ldA (enc := Rg.cells) (d := d0) (rest := rest) (e := 53) (i := i) rfl Sortr2_ag53 (Kn.at 0 rfl) Rg.enc (by first | omega | (simp only [swp_size, Array.size_setIfInBounds]; omega)) rfl) ?_
 refine RunQ.call0 (l := [.tmp 16, .tmp 20]) rfl rfl rfl (lt rfl) ((hcmp (d0[j]!) (d0[i]!)).frame) ?_
 refine RunQ.val (lt rfl) (Y.int rfl rfl rfl) ?_
 refine RunQ.to_end ?_
 refine Ex.go ?_
 rcases Bool.eq_false_or_eq_true (decide ((cm (d0[j]!) (d0[i]!)) < 0)) with h1 | h1
 ·have g1 := h1
  try simp only [kb] at g1
  refine Tr.cond_t rfl h1 ?_
  refine Tr.seq ?_
  refine Tr.region ?_
  refine Run.val (lt rfl) (Y.move rfl) ?_
  refine Run.val (lt rfl) (Y.nilCheck rfl) ?_
  refine Run.val (lt rfl) (Y.load rfl Sortr2_ts3 (Kn.at 1 rfl) rfl) ?_
  refine Run.val (lt rfl) (Y.addN ((s + 1 : Nat) : Int) rfl rfl (by omega) (by omega)) ?_
  refine Run.val (lt rfl) (Y.nilCheck rfl) ?_
  refine Run.store (s := [(bs, .cells #[.int .i64 ((s + 1 : Nat) : Int)] 3 (0, 0))]) rfl rfl Sortr2_sz3 (i := 1) rfl rfl (le rfl) rfl rfl ?_
  refine Run.to_end ?_
  refine Ex.go ?_
  refine Tr.seq ?_
  refine Tr.region ?_
  refine Run.val (lt rfl) (Y.move rfl) ?_
  refine Run.val (lt rfl) (Y.move rfl) ?_
  refine Run.val (lt rfl) (Y.assign rfl) ?_
  refine Run.val (lt rfl) (Y.assign rfl) ?_
  refine Run.to_end ?_
  refine Ex.go ?_
  refine Tr.to_ret ?_
  refine Ex.ret_then ?_
  refine Ex.keep [0, 0] ?_
  exact Ex.ret2 rfl rfl rfl  ⟨rfl, _, _, _, rfl, .inr ⟨rfl, rfl⟩, Nat.le_refl _, rfl⟩
 ·have g1 := h1
  try simp only [kb] at g1
  refine Tr.cond_f rfl h1 ?_
  refine Tr.to_end ?_
  refine Ex.go ?_
  refine Tr.seq ?_
  refine Tr.region ?_
  refine Run.val (lt rfl) (Y.move rfl) ?_
  refine Run.val (lt rfl) (Y.move rfl) ?_
  refine Run.val (lt rfl) (Y.assign rfl) ?_
  refine Run.val (lt rfl) (Y.assign rfl) ?_
  refine Run.to_end ?_
  refine Ex.go ?_
  refine Tr.to_ret ?_
  refine Ex.keep [0, 0] ?_
  exact Ex.ret2 rfl rfl rfl  ⟨rfl, _, _, _, rfl, .inl ⟨rfl, rfl⟩, by omega, rfl⟩

theorem med_r {V : Vw} {n c b : Nat} {rest : List Value} {d0 : Array Rg} {gf : FuncId} {caps : List Value} {cm : Rg → Rg → Int} {i j k s bs : Nat}  (hN : n ≤ 1073741824) (hd : d0.size = n) (hi : i < n) (hj : j < n) (hk : k < n) (hs : s ≤ 900)  (hcmp : ∀ x y : Rg, Does Try.prog gf (.agg (Rg.cells x).toArray :: .agg (Rg.cells y).toArray :: caps) V [] (Pv (.int .i64 (cm x y)) V [])) (hswo : SWO (ltc cm))  : Does Try.prog 172 [.slice (some ⟨b, 0, none⟩) n c, .int .i64 ((i : Nat) : Int), .int .i64 ((j : Nat) : Int), .int .i64 ((k : Nat) : Int), .pointer (some ⟨bs, 0, none⟩), .func (.func gf) #[] caps.toArray] V [sgD Rg.cells 53 b rest d0, [(bs, .cells #[.int .i64 ((s : Nat) : Int)] 3 (0, 0))]] (fun v V' H' => V' = V ∧ ∃ m s' : Nat, v = .int .i64 (m : Int) ∧ (m = i ∨ m = j ∨ m = k) ∧ s' ≤ s + 3 ∧ H' = [sgD Rg.cells 53 b rest d0, [(bs, .cells #[.int .i64 ((s' : Nat) : Int)] 3 (0, 0))]]) := by
 refine Does.intro Try.func172 rfl rfl (le rfl) (fun B => ?_)
 refine Tr.seq ?_
 refine Tr.region ?_
 refine Run.val (lt rfl) (Y.assign rfl) ?_
 refine Run.to_end ?_
 refine Ex.go ?_
 refine Tr.seq ?_
 refine Tr.region ?_
 refine Run.val (lt rfl) (Y.move rfl) ?_
 refine Run.val (lt rfl) (Y.move rfl) ?_
 refine Run.val (lt rfl) (Y.move rfl) ?_
 refine Run.val (lt rfl) (Y.move rfl) ?_
 refine Run.val (lt rfl) (Y.move rfl) ?_
 refine Run.call [0, 0] (l := [.tmp 14, .tmp 15, .tmp 16, .tmp 17, .tmp 18]) rfl rfl rfl (lt rfl) (ord2_r (i := i) (j := j) (s := s) hN hd (by omega) (by omega) (by omega) hcmp hswo) (fun v1 V2 H2 hle2 hR => ?_)
 obtain ⟨hV, m6, m7, s3, rfl, hq5, hs4, rfl⟩ := hR; replace hV := hV.symm; subst hV
 refine Run.heapTo (H' := [sgD Rg.cells 53 b rest d0, [(bs, .cells #[.int .i64 ((s3 : Nat) : Int)] 3 (0, 0))]]) rfl ?_
 refine Run.val (lt rfl) (Y.move rfl) ?_
 refine Run.val (lt rfl) (Y.extract rfl rfl) ?_
 refine Run.val (lt rfl) (Y.extract rfl rfl) ?_
 refine Run.val (lt rfl) (Y.assign rfl) ?_
 refine Run.val (lt rfl) (Y.assign rfl) ?_
 refine Run.to_end ?_
 refine Ex.go ?_
 refine Tr.seq ?_
 refine Tr.region ?_
 refine Run.val (lt rfl) (Y.move rfl) ?_
 refine Run.val (lt rfl) (Y.move rfl) ?_
 refine Run.val (lt rfl) (Y.move rfl) ?_
 refine Run.val (lt rfl) (Y.move rfl) ?_
 refine Run.val (lt rfl) (Y.move rfl) ?_
 refine Run.call [0, 0] (l := [.tmp 23, .tmp 24, .tmp 25, .tmp 26, .tmp 27]) rfl rfl rfl (lt rfl) (ord2_r (i := m7) (j := k) (s := s3) hN hd (by omega) (by omega) (by omega) hcmp hswo) (fun v8 V2 H2 hle9 hR => ?_)
 obtain ⟨hV, m13, m14, s10, rfl, hq12, hs11, rfl⟩ := hR; replace hV := hV.symm; subst hV
 refine Run.heapTo (H' := [sgD Rg.cells 53 b rest d0, [(bs, .cells #[.int .i64 ((s10 : Nat) : Int)] 3 (0, 0))]]) rfl ?_
 refine Run.val (lt rfl) (Y.move rfl) ?_
 refine Run.val (lt rfl) (Y.extract rfl rfl) ?_
 refine Run.val (lt rfl) (Y.extract rfl rfl) ?_
 refine Run.val (lt rfl) (Y.assign rfl) ?_
 refine Run.val (lt rfl) (Y.assign rfl) ?_
 refine Run.to_end ?_
 refine Ex.go ?_
 refine Tr.seq ?_
 refine Tr.region ?_
 refine Run.val (lt rfl) (Y.move rfl) ?_
 refine Run.val (lt rfl) (Y.move rfl) ?_
 refine Run.val (lt rfl) (Y.move rfl) ?_
 refine Run.val (lt rfl) (Y.move rfl) ?_
 refine Run.val (lt rfl) (Y.move rfl) ?_
 refine Run.call [0, 0] (l := [.tmp 32, .tmp 33, .tmp 34, .tmp 35, .tmp 36]) rfl rfl rfl (lt rfl) (ord2_r (i := m6) (j := m13) (s := s10) hN hd (by omega) (by omega) (by omega) hcmp hswo) (fun v15 V2 H2 hle16 hR => ?_)
 obtain ⟨hV, m20, m21, s17, rfl, hq19, hs18, rfl⟩ := hR; replace hV := hV.symm; subst hV
 refine Run.heapTo (H' := [sgD Rg.cells 53 b rest d0, [(bs, .cells #[.int .i64 ((s17 : Nat) : Int)] 3 (0, 0))]]) rfl ?_
 refine Run.val (lt rfl) (Y.move rfl) ?_
 refine Run.val (lt rfl) (Y.extract rfl rfl) ?_
 refine Run.val (lt rfl) (Y.extract rfl rfl) ?_
 refine Run.val (lt rfl) (Y.assign rfl) ?_
 refine Run.val (lt rfl) (Y.assign rfl) ?_
 refine Run.to_end ?_
 refine Ex.go ?_
 refine Tr.seq ?_
 refine Tr.region ?_
 refine Run.val (lt rfl) (Y.move rfl) ?_
 refine Run.val (lt rfl) (Y.assign rfl) ?_
 refine Run.to_end ?_
 refine Ex.go ?_
 refine Tr.to_ret ?_
 refine Ex.keep [0, 0] ?_
 exact Ex.ret1 rfl rfl  ⟨rfl, _, _, rfl, by omega, by omega, rfl⟩

theorem meda_r {V : Vw} {n c b : Nat} {rest : List Value} {d0 : Array Rg} {gf : FuncId} {caps : List Value} {cm : Rg → Rg → Int} {i s bs : Nat}  (hN : n ≤ 1073741824) (hd : d0.size = n) (h1 : 1 ≤ i) (hi : i + 1 < n) (hs : s ≤ 900)  (hcmp : ∀ x y : Rg, Does Try.prog gf (.agg (Rg.cells x).toArray :: .agg (Rg.cells y).toArray :: caps) V [] (Pv (.int .i64 (cm x y)) V [])) (hswo : SWO (ltc cm))  : Does Try.prog 171 [.slice (some ⟨b, 0, none⟩) n c, .int .i64 ((i : Nat) : Int), .pointer (some ⟨bs, 0, none⟩), .func (.func gf) #[] caps.toArray] V [sgD Rg.cells 53 b rest d0, [(bs, .cells #[.int .i64 ((s : Nat) : Int)] 3 (0, 0))]] (fun v V' H' => V' = V ∧ ∃ m s' : Nat, v = .int .i64 (m : Int) ∧ (m = i - 1 ∨ m = i ∨ m = i + 1) ∧ s' ≤ s + 3 ∧ H' = [sgD Rg.cells 53 b rest d0, [(bs, .cells #[.int .i64 ((s' : Nat) : Int)] 3 (0, 0))]]) := by
 refine Does.intro Try.func171 rfl rfl (le rfl) (fun B => ?_)
 refine Tr.seq ?_
 refine Tr.region ?_
 refine Run.val (lt rfl) (Y.assign rfl) ?_
 refine Run.to_end ?_
 refine Ex.go ?_
 refine Tr.seq ?_
 refine Tr.region ?_
 refine Run.val (lt rfl) (Y.move rfl) ?_
 refine Run.val (lt rfl) (Y.move rfl) ?_
 refine Run.val (lt rfl) (Y.subN ((i - 1 : Nat) : Int) rfl rfl (by omega) (by omega)) ?_
 refine Run.val (lt rfl) (Y.move rfl) ?_
 refine Run.val (lt rfl) (Y.move rfl) ?_
 refine Run.val (lt rfl) (Y.addN ((i + 1 : Nat) : Int) rfl rfl (by omega) (by omega)) ?_
 refine Run.val (lt rfl) (Y.move rfl) ?_
 refine Run.val (lt rfl) (Y.move rfl) ?_
 refine Run.call [0, 0] (l := [.tmp 9, .tmp 11, .tmp 12, .tmp 14, .tmp 15, .tmp 16]) rfl rfl rfl (lt rfl) (med_r (i := i - 1) (j := i) (k := i + 1) (s := s) hN hd (by omega) (by omega) (by omega) (by omega) hcmp hswo) (fun v1 V2 H2 hle2 hR => ?_)
 obtain ⟨hV, m6, s3, rfl, hq5, hs4, rfl⟩ := hR; replace hV := hV.symm; subst hV
 refine Run.heapTo (H' := [sgD Rg.cells 53 b rest d0, [(bs, .cells #[.int .i64 ((s3 : Nat) : Int)] 3 (0, 0))]]) rfl ?_
 refine Run.val (lt rfl) (Y.assign rfl) ?_
 refine Run.to_end ?_
 refine Ex.go ?_
 refine Tr.to_ret ?_
 refine Ex.keep [0, 0] ?_
 exact Ex.ret1 rfl rfl  ⟨rfl, _, _, rfl, by omega, by omega, rfl⟩

set_option maxHeartbeats 2000000 in
theorem pivot_r {V : Vw} {n c b : Nat} {rest : List Value} {d0 : Array Rg} {gf : FuncId} {caps : List Value} {cm : Rg → Rg → Int} {x y : Nat}  (hN : n ≤ 1073741824) (hd : d0.size = n) (hx : x < y) (hy : y ≤ n)  (hcmp : ∀ x y : Rg, Does Try.prog gf (.agg (Rg.cells x).toArray :: .agg (Rg.cells y).toArray :: caps) V [] (Pv (.int .i64 (cm x y)) V [])) (hswo : SWO (ltc cm))  : Does Try.prog 162 [.slice (some ⟨b, 0, none⟩) n c, .int .i64 ((x : Nat) : Int), .int .i64 ((y : Nat) : Int), .func (.func gf) #[] caps.toArray] V [sgD Rg.cells 53 b rest d0] (fun v V' H' => V' = V ∧ ∃ (p : Nat) (h : Int), v = .tuple #[.int .i64 (p : Int), .int .i64 h] ∧ x ≤ p ∧ p < y ∧ H' = [sgD Rg.cells 53 b rest d0]) := by
 refine Does.intro Try.func162 rfl rfl (le rfl) (fun B => ?_)
 refine Tr.seq ?_
 refine Tr.region ?_
 refine Run.val (lt rfl) (Y.assign rfl) ?_
 refine Run.val (lt rfl) (Y.assign rfl) ?_
 refine Run.to_end ?_
 refine Ex.go ?_
 refine Tr.seq ?_
 refine Tr.region ?_
 refine Run.val (lt rfl) (Y.move rfl) ?_
 refine Run.val (lt rfl) (Y.move rfl) ?_
 refine Run.val (lt rfl) (Y.subN ((y - x : Nat) : Int) rfl rfl (by omega) (by omega)) ?_
 refine Run.val (lt rfl) (Y.assign rfl) ?_
 refine Run.to_end ?_
 refine Ex.go ?_
 refine Tr.seq ?_
 refine Tr.region ?_
 refine Run.alloc Sortr2_zo3 (lt rfl) (fun b1 => ?_)
 refine Run.to_end ?_
 refine Ex.go ?_
 refine Tr.seq ?_
 refine Tr.region ?_
 refine Run.val (lt rfl) (Y.move rfl) ?_
 refine Run.val (lt rfl) (Y.move rfl) ?_
 refine Run.val (lt rfl) (Y.quoN (m := y - x) (n := 4) rfl rfl (by omega) (by omega)) ?_
 refine Run.val (lt rfl) (Y.mulN ((((y - x) / 4) * 1 : Nat) : Int) rfl rfl (by omega) (by omega)) ?_
 refine Run.val (lt rfl) (Y.addN ((x + (((y - x) / 4) * 1) : Nat) : Int) rfl rfl (by omega) (by omega)) ?_
 refine Run.val (lt rfl) (Y.assign rfl) ?_
 refine Run.to_end ?_
 refine Ex.go ?_
 refine Tr.seq ?_
 refine Tr.region ?_
 refine Run.val (lt rfl) (Y.move rfl) ?_
 refine Run.val (lt rfl) (Y.move rfl) ?_
 refine Run.val (lt rfl) (Y.quoN (m := y - x) (n := 4) rfl rfl (by omega) (by omega)) ?_
 refine Run.val (lt rfl) (Y.mulN ((((y - x) / 4) * 2 : Nat) : Int) rfl rfl (by omega) (by omega)) ?_
 refine Run.val (lt rfl) (Y.addN ((x + (((y - x) / 4) * 2) : Nat) : Int) rfl rfl (by omega) (by omega)) ?_
 refine Run.val (lt rfl) (Y.assign rfl) ?_
 refine Run.to_end ?_
 refine Ex.go ?_
 refine Tr.seq ?_
 refine Tr.region ?_
 refine Run.val (lt rfl) (Y.move rfl) ?_
 refine Run.val (lt rfl) (Y.move rfl) ?_
 refine Run.val (lt rfl) (Y.quoN (m := y - x) (n := 4) rfl rfl (by omega) (by omega)) ?_
 refine Run.val (lt rfl) (Y.mulN ((((y - x) / 4) * 3 : Nat) : Int) rfl rfl (by omega) (by omega)) ?_
 refine Run.val (lt rfl) (Y.addN ((x + (((y - x) / 4) * 3) : Nat) : Int) rfl rfl (by omega) (by omega)) ?_
 refine Run.val (lt rfl) (Y.assign rfl) ?_
 refine Run.to_end ?_
 refine Ex.go ?_
 refine Tr.seq ?_
 refine Tr.seq ?_
 refine Tr.region ?_
 refine Run.val (lt rfl) (Y.move rfl) ?_
 refine Run.val (lt rfl) (Y.int rfl rfl rfl) ?_
 refine Run.to_end ?_
 refine Ex.go ?_
 rcases Bool.eq_false_or_eq_true (decide (((y - x : Nat) : Int) ≥ 8)) with h2 | h2
 ·have g2 := h2
  try simp only [kb] at g2
  refine Tr.cond_t rfl h2 ?_
  refine Tr.seq ?_
  refine Tr.seq ?_
  refine Tr.region ?_
  refine Run.val (lt rfl) (Y.move rfl) ?_
  refine Run.val (lt rfl) (Y.int rfl rfl rfl) ?_
  refine Run.to_end ?_
  refine Ex.go ?_
  rcases Bool.eq_false_or_eq_true (decide (((y - x : Nat) : Int) ≥ 50)) with h3 | h3
  ·have g3 := h3
   try simp only [kb] at g3
   refine Tr.cond_t rfl h3 ?_
   refine Tr.seq ?_
   refine Tr.region ?_
   refine Run.val (lt rfl) (Y.move rfl) ?_
   refine Run.val (lt rfl) (Y.move rfl) ?_
   refine Run.val (lt rfl) (Y.move rfl) ?_
   refine Run.call [1, 0] (l := [.tmp 37, .tmp 38, .tmp 11, .tmp 39]) rfl rfl rfl (lt rfl) (meda_r (i := x + (((y - x) / 4) * 1)) (s := 0) hN hd (by omega) (by omega) (by omega) hcmp hswo) (fun v4 V2 H2 hle5 hR => ?_)
   obtain ⟨hV, m9, s6, rfl, hq8, hs7, rfl⟩ := hR; replace hV := hV.symm; subst hV
   refine Run.heapTo (H' := [sgD Rg.cells 53 b rest d0, [(b1, .cells #[.int .i64 ((s6 : Nat) : Int)] 3 (0, 0))]]) rfl ?_
   refine Run.val (lt rfl) (Y.assign rfl) ?_
   refine Run.to_end ?_
   refine Ex.go ?_
   refine Tr.seq ?_
   refine Tr.region ?_
   refine Run.val (lt rfl) (Y.move rfl) ?_
   refine Run.val (lt rfl) (Y.move rfl) ?_
   refine Run.val (lt rfl) (Y.move rfl) ?_
   refine Run.call [0, 0] (l := [.tmp 41, .tmp 42, .tmp 11, .tmp 43]) rfl rfl rfl (lt rfl) (meda_r (i := x + (((y - x) / 4) * 2)) (s := s6) hN hd (by omega) (by omega) (by omega) hcmp hswo) (fun v10 V2 H2 hle11 hR => ?_)
   obtain ⟨hV, m15, s12, rfl, hq14, hs13, rfl⟩ := hR; replace hV := hV.symm; subst hV
   refine Run.heapTo (H' := [sgD Rg.cells 53 b rest d0, [(b1, .cells #[.int .i64 ((s12 : Nat) : Int)] 3 (0, 0))]]) rfl ?_
   refine Run.val (lt rfl) (Y.assign rfl) ?_
   refine Run.to_end ?_
   refine Ex.go ?_
   refine Tr.region ?_
   refine Run.val (lt rfl) (Y.move rfl) ?_
   refine Run.val (lt rfl) (Y.move rfl) ?_
   refine Run.val (lt rfl) (Y.move rfl) ?_
   refine Run.call [0, 0] (l := [.tmp 45, .tmp 46, .tmp 11, .tmp 47]) rfl rfl rfl (lt rfl) (meda_r (i := x + (((y - x) / 4) * 3)) (s := s12) hN hd (by omega) (by omega) (by omega) hcmp hswo) (fun v16 V2 H2 hle17 hR => ?_)
   obtain ⟨hV, m21, s18, rfl, hq20, hs19, rfl⟩ := hR; replace hV := hV.symm; subst hV
   refine Run.heapTo (H' := [sgD Rg.cells 53 b rest d0, [(b1, .cells #[.int .i64 ((s18 : Nat) : Int)] 3 (0, 0))]]) rfl ?_
   refine Run.val (lt rfl) (Y.assign rfl) ?_
   refine Run.to_end ?_
   refine Ex.go ?_
   refine Tr.region ?_
   refine Run.val (lt rfl) (Y.move rfl) ?_
   refine Run.val (lt rfl) (Y.move rfl) ?_
   refine Run.val (lt rfl) (Y.move rfl) ?_
   refine Run.val (lt rfl) (Y.move rfl) ?_
   refine Run.val (lt rfl) (Y.move rfl) ?_
   refine Run.call [0, 0] (l := [.tmp 49, .tmp 50, .tmp 51, .tmp 52, .tmp 11, .tmp 53]) rfl rfl rfl (lt rfl) (med_r (i := m9) (j := m15) (k := m21) (s := s18) hN hd (by omega) (by omega) (by omega) (by omega) hcmp hswo) (fun v22 V2 H2 hle23 hR => ?_)
   obtain ⟨hV, m27, s24, rfl, hq26, hs25, rfl⟩ := hR; replace hV := hV.symm; subst hV
   refine Run.heapTo (H' := [sgD Rg.cells 53 b rest d0, [(b1, .cells #[.int .i64 ((s24 : Nat) : Int)] 3 (0, 0))]]) rfl ?_
   refine Run.val (lt rfl) (Y.assign rfl) ?_
   refine Run.to_end ?_
   refine Ex.go ?_
   refine Tr.seq ?_
   refine Tr.region ?_
   refine Run.val (lt rfl) (Y.load rfl Sortr2_ts3 (Kn.at 1 rfl) rfl) ?_
   refine Run.to_end ?_
   refine Ex.go ?_
   refine Tr.block ?_
   refine Tr.seq ?_
   refine Tr.region ?_
   refine Run.val (lt rfl) (Y.int rfl rfl rfl) ?_
   refine Run.val (lt rfl) (Y.assign rfl) ?_
   refine Run.to_end ?_
   refine Ex.go ?_
   rcases Bool.eq_false_or_eq_true (((s24 : Nat) : Int) == 0) with h28 | h28
   ·have g28 := h28
    try simp only [kb] at g28
    refine Tr.cond_t rfl h28 ?_
    refine Tr.seq ?_
    refine Tr.region ?_
    refine Run.val (lt rfl) (Y.move rfl) ?_
    refine Run.val (lt rfl) (Y.assign rfl) ?_
    refine Run.val (lt rfl) (Y.assign rfl) ?_
    refine Run.to_end ?_
    refine Ex.go ?_
    refine Tr.to_ret ?_
    refine Ex.ret_block ?_
    refine Ex.keep [0] ?_
    exact Ex.ret2 rfl rfl rfl  ⟨rfl, _, _, rfl, by omega, by omega, rfl⟩
   ·have g28 := h28
    try simp only [kb] at g28
    refine Tr.cond_f rfl h28 ?_
    refine Tr.seq ?_
    refine Tr.region ?_
    refine Run.val (lt rfl) (Y.int rfl rfl rfl) ?_
    refine Run.val (lt rfl) (Y.assign rfl) ?_
    refine Run.to_end ?_
    refine Ex.go ?_
    rcases Bool.eq_false_or_eq_true (((s24 : Nat) : Int) == 12) with h29 | h29
    ·have g29 := h29
     try simp only [kb] at g29
     refine Tr.cond_t rfl h29 ?_
     refine Tr.seq ?_
     refine Tr.region ?_
     refine Run.val (lt rfl) (Y.move rfl) ?_
     refine Run.val (lt rfl) (Y.assign rfl) ?_
     refine Run.val (lt rfl) (Y.assign rfl) ?_
     refine Run.to_end ?_
     refine Ex.go ?_
     refine Tr.to_ret ?_
     refine Ex.ret_block ?_
     refine Ex.keep [0] ?_
     exact Ex.ret2 rfl rfl rfl  ⟨rfl, _, _, rfl, by omega, by omega, rfl⟩
    ·have g29 := h29
     try simp only [kb] at g29
     refine Tr.cond_f rfl h29 ?_
     refine Tr.seq ?_
     refine Tr.region ?_
     refine Run.val (lt rfl) (Y.move rfl) ?_
     refine Run.val (lt rfl) (Y.assign rfl) ?_
     refine Run.val (lt rfl) (Y.assign rfl) ?_
     refine Run.to_end ?_
     refine Ex.go ?_
     refine Tr.to_ret ?_
     refine Ex.ret_block ?_
     refine Ex.keep [0] ?_
     exact Ex.ret2 rfl rfl rfl  ⟨rfl, _, _, rfl, by omega, by omega, rfl⟩
  ·have g3 := h3
   try simp only [kb] at g3
   refine Tr.cond_f rfl h3 ?_
   refine Tr.to_end ?_
   refine Ex.go ?_
   refine Tr.region ?_
   refine Run.val (lt rfl) (Y.move rfl) ?_
   refine Run.val (lt rfl) (Y.move rfl) ?_
   refine Run.val (lt rfl) (Y.move rfl) ?_
   refine Run.val (lt rfl) (Y.move rfl) ?_
   refine Run.val (lt rfl) (Y.move rfl) ?_
   refine Run.call [1, 0] (l := [.tmp 49, .tmp 50, .tmp 51, .tmp 52, .tmp 11, .tmp 53]) rfl rfl rfl (lt rfl) (med_r (i := x + (((y - x) / 4) * 1)) (j := x + (((y - x) / 4) * 2)) (k := x + (((y - x) / 4) * 3)) (s := 0) hN hd (by omega) (by omega) (by omega) (by omega) hcmp hswo) (fun v30 V2 H2 hle31 hR => ?_)
   obtain ⟨hV, m35, s32, rfl, hq34, hs33, rfl⟩ := hR; replace hV := hV.symm; subst hV
   refine Run.heapTo (H' := [sgD Rg.cells 53 b rest d0, [(b1, .cells #[.int .i64 ((s32 : Nat) : Int)] 3 (0, 0))]]) rfl ?_
   refine Run.val (lt rfl) (Y.assign rfl) ?_
   refine Run.to_end ?_
   refine Ex.go ?_
   refine Tr.seq ?_
   refine Tr.region ?_
   refine Run.val (lt rfl) (Y.load rfl Sortr2_ts3 (Kn.at 1 rfl) rfl) ?_
   refine Run.to_end ?_
   refine Ex.go ?_
   refine Tr.block ?_
   refine Tr.seq ?_
   refine Tr.region ?_
   refine Run.val (lt rfl) (Y.int rfl rfl rfl) ?_
   refine Run.val (lt rfl) (Y.assign rfl) ?_
   refine Run.to_end ?_
   refine Ex.go ?_
   rcases Bool.eq_false_or_eq_true (((s32 : Nat) : Int) == 0) with h36 | h36
   ·have g36 := h36
    try simp only [kb] at g36
    refine Tr.cond_t rfl h36 ?_
    refine Tr.seq ?_
    refine Tr.region ?_
    refine Run.val (lt rfl) (Y.move rfl) ?_
    refine Run.val (lt rfl) (Y.assign rfl) ?_
    refine Run.val (lt rfl) (Y.assign rfl) ?_
    refine Run.to_end ?_
    refine Ex.go ?_
    refine Tr.to_ret ?_
    refine Ex.ret_block ?_
    refine Ex.keep [0] ?_
    exact Ex.ret2 rfl rfl rfl  ⟨rfl, _, _, rfl, by omega, by omega, rfl⟩
   ·have g36 := h36
    try simp only [kb] at g36
    refine Tr.cond_f rfl h36 ?_
    refine Tr.seq ?_
    refine Tr.region ?_
    refine Run.val (lt rfl) (Y.int rfl rfl rfl) ?_
    refine Run.val (lt rfl) (Y.assign rfl) ?_
    refine Run.to_end ?_
    refine Ex.go ?_
    rcases Bool.eq_false_or_eq_true (((s32 : Nat) : Int) == 12) with h37 | h37
    ·have g37 := h37
     try simp only [kb] at g37
     refine Tr.cond_t rfl h37 ?_
     refine Tr.seq ?_
     refine Tr.region ?_
     refine Run.val (lt rfl) (Y.move rfl) ?_
     refine Run.val (lt rfl) (Y.assign rfl) ?_
     refine Run.val (lt rfl) (Y.assign rfl) ?_
     refine Run.to_end ?_
     refine Ex.go ?_
     refine Tr.to_ret ?_
     refine Ex.ret_block ?_
     refine Ex.keep [0] ?_
     exact Ex.ret2 rfl rfl rfl  ⟨rfl, _, _, rfl, by omega, by omega, rfl⟩
    ·have g37 := h37
     try simp only [kb] at g37
     refine Tr.cond_f rfl h37 ?_
     refine Tr.seq ?_
     refine Tr.region ?_
     refine Run.val (lt rfl) (Y.move rfl) ?_
     refine Run.val (lt rfl) (Y.assign rfl) ?_
     refine Run.val (lt rfl) (Y.assign rfl) ?_
     refine Run.to_end ?_
     refine Ex.go ?_
     refine Tr.to_ret ?_
     refine Ex.ret_block ?_
     refine Ex.keep [0] ?_
     exact Ex.ret2 rfl rfl rfl  ⟨rfl, _, _, rfl, by omega, by omega, rfl⟩
 ·have g2 := h2
  try simp only [kb] at g2
  refine Tr.cond_f rfl h2 ?_
  refine Tr.to_end ?_
  refine Ex.go ?_
  refine Tr.seq ?_
  refine Tr.region ?_
  refine Run.val (lt rfl) (Y.load rfl Sortr2_ts3 (Kn.at 0 rfl) rfl) ?_
  refine Run.to_end ?_
  refine Ex.go ?_
  refine Tr.block ?_
  refine Tr.seq ?_
  refine Tr.region ?_
  refine Run.val (lt rfl) (Y.int (r := .bool true) rfl rfl rfl) ?_
  refine Run.val (lt rfl) (Y.assign rfl) ?_
  refine Run.to_end ?_
  refine Ex.go ?_
  refine Tr.cond_t rfl rfl ?_
  refine Tr.seq ?_
  refine Tr.region ?_
  refine Run.val (lt rfl) (Y.move rfl) ?_
  refine Run.val (lt rfl) (Y.assign rfl) ?_
  refine Run.val (lt rfl) (Y.assign rfl) ?_
  refine Run.to_end ?_
  refine Ex.go ?_
  refine Tr.to_ret ?_
  refine Ex.ret_block ?_
  refine Ex.keep [1] ?_
  exact Ex.ret2 rfl rfl rfl  ⟨rfl, _, _, rfl, by omega, by omega, rfl⟩

theorem brk_r {V : Vw} {n c b : Nat} {rest : List Value} {d0 : Array Rg} {gf : FuncId} {caps : List Value} {cm : Rg → Rg → Int} {x y : Nat}  (hN : n ≤ 1073741824) (hd : d0.size = n) (hx : x < y) (hy : y ≤ n)  (hcmp : ∀ x y : Rg, Does Try.prog gf (.agg (Rg.cells x).toArray :: .agg (Rg.cells y).toArray :: caps) V [] (Pv (.int .i64 (cm x y)) V [])) (hswo : SWO (ltc cm))  : Does Try.prog 161 [.slice (some ⟨b, 0, none⟩) n c, .int .i64 ((x : Nat) : Int), .int .i64 ((y : Nat) : Int), .func (.func gf) #[] caps.toArray] V [sgD Rg.cells 53 b rest d0] (fun v V' H' => V' = V ∧ v = .tuple #[] ∧ ∃ d1, PermIn x y d0 d1 ∧ H' = [sgD Rg.cells 53 b rest d1]) := by
 refine Does.intro Try.func161 rfl rfl (le rfl) (fun B => ?_)
 refine Tr.seq ?_
 refine Tr.region ?_
 refine Run.val (lt rfl) (Y.move rfl) ?_
 refine Run.val (lt rfl) (Y.move rfl) ?_
 refine Run.val (lt rfl) (Y.subN ((y - x : Nat) : Int) rfl rfl (by omega) (by omega)) ?_
 refine Run.val (lt rfl) (Y.assign rfl) ?_
 refine Run.to_end ?_
 refine Ex.go ?_
 refine Tr.seq ?_
 refine Tr.region ?_
 refine Run.val (lt rfl) (Y.move rfl) ?_
 refine Run.val (lt rfl) (Y.int rfl rfl rfl) ?_
 refine Run.to_end ?_
 refine Ex.go ?_
 rcases Bool.eq_false_or_eq_true (decide (((y - x : Nat) : Int) ≥ 8)) with h1 | h1
 ·have g1 := h1
  try simp only [kb] at g1
  refine Tr.cond_t rfl h1 ?_
  refine Tr.seq ?_
  refine Tr.region ?_
  refine Run.val (lt rfl) (Y.move rfl) ?_
  refine Run.val (lt rfl) (Y.conv (((y - x : Nat) : Int)) rfl Sortr2_it3_202 (wrap_u64 (by omega))) ?_
  refine Run.alloc Sortr2_zo202 (lt rfl) (fun b2 => ?_)
  refine Run.store (s := [(b2, .cells #[.int .u64 ((y - x : Nat) : Int)] 202 (0, 0))]) rfl rfl Sortr2_sz202 (i := 0) rfl rfl (le rfl) rfl rfl ?_
  refine Run.to_end ?_
  refine Ex.go ?_
  refine Tr.seq ?_
  refine Tr.region ?_
  refine Run.val (lt rfl) (Y.move rfl) ?_
  refine Run.call [] (l := [.tmp 20]) rfl rfl rfl (lt rfl) (npow_0 (m := y - x) (by omega) (by omega)) (fun v V2 H2 hle hR => ?_)
  obtain ⟨hV, ⟨M, rfl, hM1, hM2⟩, rfl⟩ := hR; replace hV := hV.symm; subst hV
  refine Run.heapTo (H' := [[(b2, .cells #[.int .u64 ((y - x : Nat) : Int)] 202 (0, 0))], sgD Rg.cells 53 b rest d0]) rfl ?_
  refine Run.val (lt rfl) (Y.assign rfl) ?_
  refine Run.to_end ?_
  refine Ex.go ?_
  refine Tr.seq ?_
  refine Tr.region ?_
  refine Run.val (lt rfl) (Y.move rfl) ?_
  refine Run.val (lt rfl) (Y.move rfl) ?_
  refine Run.val (lt rfl) (Y.quoN (m := y - x) (n := 4) rfl rfl (by omega) (by omega)) ?_
  refine Run.val (lt rfl) (Y.mulN ((((y - x) / 4) * 2 : Nat) : Int) rfl rfl (by omega) (by omega)) ?_
  refine Run.val (lt rfl) (Y.addN ((x + (((y - x) / 4) * 2) : Nat) : Int) rfl rfl (by omega) (by omega)) ?_
  refine Run.val (lt rfl) (Y.subN (((x + (((y - x) / 4) * 2)) - 1 : Nat) : Int) rfl rfl (by omega) (by omega)) ?_
  refine Run.val (lt rfl) (Y.assign rfl) ?_
  refine Run.to_end ?_
  refine Ex.go ?_
  refine Tr.block ?_
  refine Tr.loop (X := Nat × Int × Array Rg) (fun z0 => V) (fun z0 => [[(b2, .cells #[.int .u64 z0.2.1] 202 (0, 0))], sgD Rg.cells 53 b rest z0.2.2]) (fun z0 => [(0, .slice (some ⟨b, 0, none⟩) n c), (1, .int .i64 ((x : Nat) : Int)), (2, .int .i64 ((y : Nat) : Int)), (3, .func (.func gf) #[] caps.toArray), (8, .int .i64 ((y - x : Nat) : Int)), (9, .pointer (some ⟨b2, 0, none⟩)), (10, .int .u64 ((M : Nat) : Int)), (11, .int .i64 ((z0.1 : Nat) : Int))]) (fun z0 => PermIn x y d0 z0.2.2 ∧ z0.2.2.size = n ∧ x + (y - x) / 4 * 2 ≤ z0.1 + 1 ∧ z0.1 ≤ x + (y - x) / 4 * 2 + 2) (fun z0 => x + (y - x) / 4 * 2 + 2 - z0.1) (⟨(x + ((y - x) / 4) * 2) - 1, ((y - x : Nat) : Int), d0⟩ : Nat × Int × Array Rg) ⟨permIn_refl _ _ _, hd, by (try dsimp only); omega, by (try dsimp only); omega⟩ (fun a w i => ⟨i.1.sub (subB_cons (by first | rfl | exact congrArg (fun z => some (Value.int _ z)) (by omega)) (subB_cons (by first | rfl | exact congrArg (fun z => some (Value.int _ z)) (by omega)) (subB_cons (by first | rfl | exact congrArg (fun z => some (Value.int _ z)) (by omega)) (subB_cons (by first | rfl | exact congrArg (fun z => some (Value.int _ z)) (by omega)) (subB_cons (by first | rfl | exact congrArg (fun z => some (Value.int _ z)) (by omega)) (subB_cons (by first | rfl | exact congrArg (fun z => some (Value.int _ z)) (by omega)) (subB_cons (by first | rfl | exact congrArg (fun z => some (Value.int _ z)) (by omega)) (subB_cons (by first | rfl | exact congrArg (fun z => some (Value.int _ z)) (by omega)) (subB_nil _))))))))), i.2⟩) ?_
  rintro ⟨i, r, d⟩ ⟨r1, k2, r3, r4⟩
  try dsimp only at r1 k2 r3 r4 ⊢
  refine Tr.seq ?_
  refine Tr.seq ?_
  refine Tr.region ?_
  refine Run.val (lt rfl) (Y.move rfl) ?_
  refine Run.val (lt rfl) (Y.move rfl) ?_
  refine Run.val (lt rfl) (Y.move rfl) ?_
  refine Run.val (lt rfl) (Y.quoN (m := y - x) (n := 4) rfl rfl (by omega) (by omega)) ?_
  refine Run.val (lt rfl) (Y.mulN ((((y - x) / 4) * 2 : Nat) : Int) rfl rfl (by omega) (by omega)) ?_
  refine Run.val (lt rfl) (Y.addN ((x + (((y - x) / 4) * 2) : Nat) : Int) rfl rfl (by omega) (by omega)) ?_
  refine Run.val (lt rfl) (Y.addN (((x + (((y - x) / 4) * 2)) + 1 : Nat) : Int) rfl rfl (by omega) (by omega)) ?_
  refine Run.val (lt rfl) (Y.int rfl rfl rfl) ?_
  refine Run.to_end ?_
  refine Ex.go ?_
  rcases Bool.eq_false_or_eq_true (decide (((i : Nat) : Int) ≤ (((x + (((y - x) / 4) * 2)) + 1 : Nat) : Int))) with h3 | h3
  ·have g3 := h3
   try simp only [kb] at g3
   refine Tr.cond_t rfl h3 ?_
   refine Tr.to_end ?_
   refine Ex.go ?_
   refine Tr.seq ?_
   refine Tr.block ?_
   refine Tr.seq ?_
   refine Tr.region ?_
   refine Run.call [0] (l := [.tmp 9]) rfl rfl rfl (lt rfl) next_0 (fun v V2 H2 hle hR => ?_)
   obtain ⟨hV, r2, rfl, rfl⟩ := hR; replace hV := hV.symm; subst hV
   refine Run.heapTo (H' := [sgD Rg.cells 53 b rest d, [(b2, .cells #[.int .u64 r2] 202 (0, 0))]]) rfl ?_
   refine Run.val (lt rfl) (Y.move rfl) ?_
   refine Run.val (lt rfl) (Y.int (r := .int .u64 ((M - 1 : Nat) : Int)) rfl rfl (subU (by omega) (by omega))) ?_
   obtain ⟨o, ho1, ho2⟩ := andU_nat (a := r2) (m := M - 1) (by omega)
   refine Run.val (lt rfl) (Y.int (r := .int .u64 ((o : Nat) : Int)) rfl rfl (congrArg (fun z => some (Value.int .u64 z)) ho1)) ?_
   refine Run.val (lt rfl) (Y.conv (((o : Nat) : Int)) rfl Sortr2_it148_3 (wrap_i64 (by omega))) ?_
   refine Run.val (lt rfl) (Y.assign rfl) ?_
   refine Run.to_end ?_
   refine Ex.go ?_
   refine Tr.seq ?_
   refine Tr.seq ?_
   refine Tr.region ?_
   refine Run.val (lt rfl) (Y.move rfl) ?_
   refine Run.val (lt rfl) (Y.move rfl) ?_
   refine Run.val (lt rfl) (Y.int rfl rfl rfl) ?_
   refine Run.to_end ?_
   refine Ex.go ?_
   rcases Bool.eq_false_or_eq_true (decide (((o : Nat) : Int) ≥ ((y - x : Nat) : Int))) with h4 | h4
   ·have g4 := h4
    try simp only [kb] at g4
    refine Tr.cond_t rfl h4 ?_
    refine Tr.region ?_
    refine Run.val (lt rfl) (Y.move rfl) ?_
    refine Run.val (lt rfl) (Y.move rfl) ?_
    refine Run.val (lt rfl) (Y.subN ((o - (y - x) : Nat) : Int) rfl rfl (by omega) (by omega)) ?_
    refine Run.val (lt rfl) (Y.assign rfl) ?_
    refine Run.to_end ?_
    refine Ex.go ?_
    refine Tr.anyT [(b, .cells (cel Rg.cells d rest).toArray 53 (0, 0))] 17 Sortr2_mo ?_
    refine RunT.pure (i := 0) rfl (by kernel_rfl) (by kernel_rfl) (by kernel_rfl) (by kernel_rfl) (fun _ _ _ h => h) (lt rfl) (KnAll.cons (Kn.at 0 rfl) KnAll.nil) (fun _ => (Y.move rfl)) ?_
    refine RunT.pure (i := 1) rfl (by kernel_rfl) (by kernel_rfl) (by kernel_rfl) (by kernel_rfl) (fun _ _ _ h => h) (lt rfl) (KnAll.cons (Kn.at 0 rfl) KnAll.nil) (fun _ => (Y.move rfl)) ?_
    refine RunT.pure (i := 2) rfl (by kernel_rfl) (by kernel_rfl) (by kernel_rfl) (by kernel_rfl) (fun _ _ _ h => h) (lt rfl) (KnAll.cons (Kn.at 0 rfl) KnAll.nil) (fun _ => (Y.move rfl)) ?_
    refine RunT.pure (i := 3) rfl (by kernel_rfl) (by kernel_rfl) (by kernel_rfl) (by kernel_rfl) (fun _ _ _ h => h) (lt rfl) (KnAll.cons (Kn.at 0 rfl) KnAll.nil) (fun _ => (Y.move rfl)) ?_
    refine RunT.pure (i := 4) rfl (by kernel_rfl) (by kernel_rfl) (by kernel_rfl) (by kernel_rfl) (fun _ _ _ h => h) (lt rfl) (KnAll.cons (Kn.at 0 rfl) KnAll.nil) (fun _ => (Y.move rfl)) ?_
    refine RunT.pure (i := 5) rfl (by kernel_rfl) (by kernel_rfl) (by kernel_rfl) (by kernel_rfl) (fun _ _ _ h => h) (lt rfl) (KnAll.cons (Kn.at 0 rfl) KnAll.nil) (fun _ => (Y.addN ((x + (o - (y - x)) : Nat) : Int) rfl rfl (by omega) (by omega))) ?_
    refine RunT.pure (i := 6) rfl (by kernel_rfl) (by kernel_rfl) (by kernel_rfl) (by kernel_rfl) (fun _ _ _ h => h) (lt rfl) (KnAll.cons (Kn.at 0 rfl) KnAll.nil) (fun _ => (Y.move rfl)) ?_
    refine RunT.pure (i := 7) rfl (by kernel_rfl) (by kernel_rfl) (by kernel_rfl) (by kernel_rfl) (fun _ _ _ h => h) (lt rfl) (KnAll.cons (Kn.at 0 rfl) KnAll.nil) (fun _ => (Y.move rfl)) ?_
    refine RunT.pure (i := 8) rfl (by kernel_rfl) (by kernel_rfl) (by kernel_rfl) (by kernel_rfl) (fun _ _ _ h => h) (lt rfl) (KnAll.cons (Kn.at 0 rfl) KnAll.nil) (fun _ => (Y.move rfl)) ?_
    refine RunT.pure (i := 9) rfl (by kernel_rfl) (by kernel_rfl) (by kernel_rfl) (by kernel_rfl) (fun _ _ _ h => h) (lt rfl) (KnAll.cons (Kn.at 0 rfl) KnAll.nil) (fun _ => (Y.addN ((x + (o - (y - x)) : Nat) : Int) rfl rfl (by omega) (by omega))) ?_
    refine RunT.pure (i := 10) rfl (by kernel_rfl) (by kernel_rfl) (by kernel_rfl) (by kernel_rfl) (fun _ _ _ h => h) (lt rfl) (KnAll.cons (Kn.at 0 rfl) KnAll.nil) (fun _ => (Y.idxN (x + (o - (y - x))) rfl rfl Sortr2_es51 (by omega) (by omega))) ?_
    refine RunT.take (i := 11) 0 rfl rfl (by kernel_rfl) (by kernel_rfl) (by kernel_rfl) (by kernel_rfl) (fun _ _ _ h => h) (lt rfl) (KnAll.cons (Kn.at 0 rfl) KnAll.nil) (fun _ => (Y.ldA (enc := Rg.cells) (d := d) (rest := rest) (e := 53) (i := (x + (o - (y - x)))) rfl Sortr2_ag53 Kn.vk1 Rg.enc (by first | omega | (simp only [swp_size, Array.size_setIfInBounds]; omega)) rfl)) ?_
    refine RunT.pure (i := 12) rfl (by kernel_rfl) (by kernel_rfl) (by kernel_rfl) (by kernel_rfl) (fun _ _ _ h => h) (lt rfl) (KnAll.cons (Kn.at 0 rfl) KnAll.nil) (fun _ => (Y.move rfl)) ?_
    refine RunT.pure (i := 13) rfl (by kernel_rfl) (by kernel_rfl) (by kernel_rfl) (by kernel_rfl) (fun _ _ _ h => h) (lt rfl) (KnAll.cons (Kn.at 0 rfl) KnAll.nil) (fun _ => (Y.move rfl)) ?_
    refine RunT.pure (i := 14) rfl (by kernel_rfl) (by kernel_rfl) (by kernel_rfl) (by kernel_rfl) (fun _ _ _ h => h) (lt rfl) (KnAll.cons (Kn.at 0 rfl) KnAll.nil) (fun _ => (Y.idxN i rfl rfl Sortr2_es51 (by omega) (by omega))) ?_
    refine RunT.take (i := 15) 0 rfl rfl (by kernel_rfl) (by kernel_rfl) (by kernel_rfl) (by kernel_rfl) (fun _ _ _ h => h) (lt rfl) (KnAll.cons (Kn.at 0 rfl) KnAll.nil) (fun _ => (Y.ldA (enc := Rg.cells) (d := d) (rest := rest) (e := 53) (i := i) rfl Sortr2_ag53 Kn.vk1 Rg.enc (by first | omega | (simp only [swp_size, Array.size_setIfInBounds]; omega)) rfl)) ?_
    refine RunT.pure (i := 16) rfl (by kernel_rfl) (by kernel_rfl) (by kernel_rfl) (by kernel_rfl) (fun _ _ _ h => h) (lt rfl) (KnAll.cons (Kn.at 0 rfl) KnAll.nil) (fun _ => (Y.idxN i rfl rfl Sortr2_es51 (by omega) (by omega))) ?_
    refine RunT.one (i := 17) (by kernel_rfl) rfl  ?_ 
    refine Run.stD (enc := Rg.cells) (d := d) (rest := rest) (e := 53) (i := i) (s := 0) (d[x + (o - (y - x))]!) rfl rfl Sortr2_sz53 rfl Rg.enc (by first | omega | (simp only [swp_size, Array.size_setIfInBounds]; omega)) rfl ?_
    refine Run.to_end ?_
    refine Ex.anyTz (i := 17) rfl rfl rfl ?_
    refine RunT.one (i := 18) (by kernel_rfl) rfl  ?_ 
    refine Run.val (lt rfl) (Y.idxN (x + (o - (y - x))) rfl rfl Sortr2_es51 (by omega) (by omega)) ?_
    refine Run.to_end ?_
    refine Ex.anyTz (i := 18) rfl rfl rfl ?_
    refine RunT.one (i := 19) (by kernel_rfl) rfl  ?_ 
    refine Run.stD (enc := Rg.cells) (d := (d).setIfInBounds i (d[x + (o - (y - x))]!)) (rest := rest) (e := 53) (i := (x + (o - (y - x)))) (s := 0) (d[i]!) rfl rfl Sortr2_sz53 rfl Rg.enc (by first | omega | (simp only [swp_size, Array.size_setIfInBounds]; omega)) rfl ?_
    refine Run.heapTo (H' := [sgD Rg.cells 53 b rest (swp d i (x + (o - (y - x)))), [(b2, .cells #[.int .u64 r2] 202 (0, 0))]]) rfl ?_
    refine Run.to_end ?_
    refine Ex.anyTz (i := 19) rfl rfl rfl ?_
    refine RunT.done (by kernel_rfl) ?_
    refine Ex.end_block ?_
    refine Ex.go ?_
    refine Tr.region ?_
    refine Run.val (lt rfl) (Y.move rfl) ?_
    refine Run.val (lt rfl) (Y.addN ((i + 1 : Nat) : Int) rfl rfl (by omega) (by omega)) ?_
    refine Run.val (lt rfl) (Y.assign rfl) ?_
    refine Run.to_end ?_
    refine Ex.keep [1, 0] ?_
    exact Ex.round (⟨i + 1, r2, swp d i (x + (o - (y - x)))⟩ : Nat × Int × Array Rg) ⟨permIn_trans _ _ _ _ _ r1 (swp_permIn _ x y _ _ (by omega) (by omega) (by omega) (by omega) (by omega)), by simp only [swp_size]; exact k2, by (try dsimp only); omega, by (try dsimp only); omega⟩ (by dsimp only; omega) rfl rfl (subB_cons (by first | rfl | exact congrArg (fun z => some (Value.int _ z)) (by omega)) (subB_cons (by first | rfl | exact congrArg (fun z => some (Value.int _ z)) (by omega)) (subB_cons (by first | rfl | exact congrArg (fun z => some (Value.int _ z)) (by omega)) (subB_cons (by first | rfl | exact congrArg (fun z => some (Value.int _ z)) (by omega)) (subB_cons (by first | rfl | exact congrArg (fun z => some (Value.int _ z)) (by omega)) (subB_cons (by first | rfl | exact congrArg (fun z => some (Value.int _ z)) (by omega)) (subB_cons (by first | rfl | exact congrArg (fun z => some (Value.int _ z)) (by omega)) (subB_cons (by first | rfl | exact congrArg (fun z => some (Value.int _ z)) (by omega)) (subB_nil _)))))))))
   ·have g4 := h4
    try simp only [kb] at g4
    refine Tr.cond_f rfl h4 ?_
    refine Tr.to_end ?_
    refine Ex.go ?_
    refine Tr.anyT [(b, .cells (cel Rg.cells d rest).toArray 53 (0, 0))] 17 Sortr2_mo ?_
    refine RunT.pure (i := 0) rfl (by kernel_rfl) (by kernel_rfl) (by kernel_rfl) (by kernel_rfl) (fun _ _ _ h => h) (lt rfl) (KnAll.cons (Kn.at 0 rfl) KnAll.nil) (fun _ => (Y.move rfl)) ?_
    refine RunT.pure (i := 1) rfl (by kernel_rfl) (by kernel_rfl) (by kernel_rfl) (by kernel_rfl) (fun _ _ _ h => h) (lt rfl) (KnAll.cons (Kn.at 0 rfl) KnAll.nil) (fun _ => (Y.move rfl)) ?_
    refine RunT.pure (i := 2) rfl (by kernel_rfl) (by kernel_rfl) (by kernel_rfl) (by kernel_rfl) (fun _ _ _ h => h) (lt rfl) (KnAll.cons (Kn.at 0 rfl) KnAll.nil) (fun _ => (Y.move rfl)) ?_
    refine RunT.pure (i := 3) rfl (by kernel_rfl) (by kernel_rfl) (by kernel_rfl) (by kernel_rfl) (fun _ _ _ h => h) (lt rfl) (KnAll.cons (Kn.at 0 rfl) KnAll.nil) (fun _ => (Y.move rfl)) ?_
    refine RunT.pure (i := 4) rfl (by kernel_rfl) (by kernel_rfl) (by kernel_rfl) (by kernel_rfl) (fun _ _ _ h => h) (lt rfl) (KnAll.cons (Kn.at 0 rfl) KnAll.nil) (fun _ => (Y.move rfl)) ?_
    refine RunT.pure (i := 5) rfl (by kernel_rfl) (by kernel_rfl) (by kernel_rfl) (by kernel_rfl) (fun _ _ _ h => h) (lt rfl) (KnAll.cons (Kn.at 0 rfl) KnAll.nil) (fun _ => (Y.addN ((x + o : Nat) : Int) rfl rfl (by omega) (by omega))) ?_
    refine RunT.pure (i := 6) rfl (by kernel_rfl) (by kernel_rfl) (by kernel_rfl) (by kernel_rfl) (fun _ _ _ h => h) (lt rfl) (KnAll.cons (Kn.at 0 rfl) KnAll.nil) (fun _ => (Y.move rfl)) ?_
    refine RunT.pure (i := 7) rfl (by kernel_rfl) (by kernel_rfl) (by kernel_rfl) (by kernel_rfl) (fun _ _ _ h => h) (lt rfl) (KnAll.cons (Kn.at 0 rfl) KnAll.nil) (fun _ => (Y.move rfl)) ?_
    refine RunT.pure (i := 8) rfl (by kernel_rfl) (by kernel_rfl) (by kernel_rfl) (by kernel_rfl) (fun _ _ _ h => h) (lt rfl) (KnAll.cons (Kn.at 0 rfl) KnAll.nil) (fun _ => (Y.move rfl)) ?_
    refine RunT.pure (i := 9) rfl (by kernel_rfl) (by kernel_rfl) (by kernel_rfl) (by kernel_rfl) (fun _ _ _ h => h) (lt rfl) (KnAll.cons (Kn.at 0 rfl) KnAll.nil) (fun _ => (Y.addN ((x + o : Nat) : Int) rfl rfl (by omega) (by omega))) ?_
    refine RunT.pure (i := 10) rfl (by kernel_rfl) (by kernel_rfl) (by kernel_rfl) (by kernel_rfl) (fun _ _ _ h => h) (lt rfl) (KnAll.cons (Kn.at 0 rfl) KnAll.nil) (fun _ => (Y.idxN (x + o) rfl rfl Sortr2_es51 (by omega) (by omega))) ?_
    refine RunT.take (i := 11) 0 rfl rfl (by kernel_rfl) (by kernel_rfl) (by kernel_rfl) (by kernel_rfl) (fun _ _ _ h => h) (lt rfl) (KnAll.cons (Kn.at 0 rfl) KnAll.nil) (fun _ => (Y.ldA (enc := Rg.cells) (d := d) (rest := rest) (e := 53) (i := (x + o)) rfl Sortr2_ag53 Kn.vk1 Rg.enc (by first | omega | (simp only [swp_size, Array.size_setIfInBounds]; omega)) rfl)) ?_
    refine RunT.pure (i := 12) rfl (by kernel_rfl) (by kernel_rfl) (by kernel_rfl) (by kernel_rfl) (fun _ _ _ h => h) (lt rfl) (KnAll.cons (Kn.at 0 rfl) KnAll.nil) (fun _ => (Y.move rfl)) ?_
    refine RunT.pure (i := 13) rfl (by kernel_rfl) (by kernel_rfl) (by kernel_rfl) (by kernel_rfl) (fun _ _ _ h => h) (lt rfl) (KnAll.cons (Kn.at 0 rfl) KnAll.nil) (fun _ => (Y.move rfl)) ?_
    refine RunT.pure (i := 14) rfl (by kernel_rfl) (by kernel_rfl) (by kernel_rfl) (by kernel_rfl) (fun _ _ _ h => h) (lt rfl) (KnAll.cons (Kn.at 0 rfl) KnAll.nil) (fun _ => (Y.idxN i rfl rfl Sortr2_es51 (by omega) (by omega))) ?_
    refine RunT.take (i := 15) 0 rfl rfl (by kernel_rfl) (by kernel_rfl) (by kernel_rfl) (by kernel_rfl) (fun _ _ _ h => h) (lt rfl) (KnAll.cons (Kn.at 0 rfl) KnAll.nil) (fun _ => (Y.ldA (enc := Rg.cells) (d := d) (rest := rest) (e := 53) (i := i) rfl Sortr2_ag53 Kn.vk1 Rg.enc (by first | omega | (simp only [swp_size, Array.size_setIfInBounds]; omega)) rfl)) ?_
    refine RunT.pure (i := 16) rfl (by kernel_rfl) (by kernel_rfl) (by kernel_rfl) (by kernel_rfl) (fun _ _ _ h => h) (lt rfl) (KnAll.cons (Kn.at 0 rfl) KnAll.nil) (fun _ => (Y.idxN i rfl rfl Sortr2_es51 (by omega) (by omega))) ?_
    refine RunT.one (i := 17) (by kernel_rfl) rfl  ?_ 
    refine Run.stD (enc := Rg.cells) (d := d) (rest := rest) (e := 53) (i := i) (s := 0) (d[x + o]!) rfl rfl Sortr2_sz53 rfl Rg.enc (by first | omega | (simp only [swp_size, Array.size_setIfInBounds]; omega)) rfl ?_
    refine Run.to_end ?_
    refine Ex.anyTz (i := 17) rfl rfl rfl ?_
    refine RunT.one (i := 18) (by kernel_rfl) rfl  ?_ 
    refine Run.val (lt rfl) (Y.idxN (x + o) rfl rfl Sortr2_es51 (by omega) (by omega)) ?_
    refine Run.to_end ?_
    refine Ex.anyTz (i := 18) rfl rfl rfl ?_
    refine RunT.one (i := 19) (by kernel_rfl) rfl  ?_ 
    refine Run.stD (enc := Rg.cells) (d := (d).setIfInBounds i (d[x + o]!)) (rest := rest) (e := 53) (i := (x + o)) (s := 0) (d[i]!) rfl rfl Sortr2_sz53 rfl Rg.enc (by first | omega | (simp only [swp_size, Array.size_setIfInBounds]; omega)) rfl ?_
    refine Run.heapTo (H' := [sgD Rg.cells 53 b rest (swp d i (x + o)), [(b2, .cells #[.int .u64 r2] 202 (0, 0))]]) rfl ?_
    refine Run.to_end ?_
    refine Ex.anyTz (i := 19) rfl rfl rfl ?_
    refine RunT.done (by kernel_rfl) ?_
    refine Ex.end_block ?_
    refine Ex.go ?_
    refine Tr.region ?_
    refine Run.val (lt rfl) (Y.move rfl) ?_
    refine Run.val (lt rfl) (Y.addN ((i + 1 : Nat) : Int) rfl rfl (by omega) (by omega)) ?_
    refine Run.val (lt rfl) (Y.assign rfl) ?_
    refine Run.to_end ?_
    refine Ex.keep [1, 0] ?_
    exact Ex.round (⟨i + 1, r2, swp d i (x + o)⟩ : Nat × Int × Array Rg) ⟨permIn_trans _ _ _ _ _ r1 (swp_permIn _ x y _ _ (by omega) (by omega) (by omega) (by omega) (by omega)), by simp only [swp_size]; exact k2, by (try dsimp only); omega, by (try dsimp only); omega⟩ (by dsimp only; omega) rfl rfl (subB_cons (by first | rfl | exact congrArg (fun z => some (Value.int _ z)) (by omega)) (subB_cons (by first | rfl | exact congrArg (fun z => some (Value.int _ z)) (by omega)) (subB_cons (by first | rfl | exact congrArg (fun z => some (Value.int _ z)) (by omega)) (subB_cons (by first | rfl | exact congrArg (fun z => some (Value.int _ z)) (by omega)) (subB_cons (by first | rfl | exact congrArg (fun z => some (Value.int _ z)) (by omega)) (subB_cons (by first | rfl | exact congrArg (fun z => some (Value.int _ z)) (by omega)) (subB_cons (by first | rfl | exact congrArg (fun z => some (Value.int _ z)) (by omega)) (subB_cons (by first | rfl | exact congrArg (fun z => some (Value.int _ z)) (by omega)) (subB_nil _)))))))))
  ·have g3 := h3
   try simp only [kb] at g3
   refine Tr.cond_f rfl h3 ?_
   refine Tr.to_exit ?_
   refine Ex.exit_then ?_
   refine Ex.exit_then ?_
   refine Ex.exit_in ?_
   refine Ex.keep [1] ?_
   exact Ex.end0 rfl ⟨rfl, rfl, _, r1, rfl⟩
 ·have g1 := h1
  try simp only [kb] at g1
  refine Tr.cond_f rfl h1 ?_
  refine Tr.to_end ?_
  refine Ex.keep [0] ?_
  exact Ex.end0 rfl ⟨rfl, rfl, _, permIn_refl _ _ _, rfl⟩

set_option maxHeartbeats 2000000 in
theorem pdq1_r {V : Vw} {n c b : Nat} {rest : List Value} {d0 : Array Rg} {gf : FuncId} {caps : List Value} {cm : Rg → Rg → Int} {x y l : Nat}  (hN : n ≤ 1073741824) (hd : d0.size = n) (hxy : x ≤ y) (hy : y ≤ n) (hB : Below (ltc cm) x y d0) (hl : l ≤ 1000) (ih : ∀ (d : Array Rg) (x2 y2 l2 : Nat), y2 - x2 < y - x → x2 ≤ y2 → y2 ≤ n → d.size = n → Below (ltc cm) x2 y2 d → l2 ≤ 1000 → Does Try.prog 143 [.slice (some ⟨b, 0, none⟩) n c, .int .i64 ((x2 : Nat) : Int), .int .i64 ((y2 : Nat) : Int), .int .i64 ((l2 : Nat) : Int), .func (.func gf) #[] caps.toArray] V [sgD Rg.cells 53 b rest d] (fun v V' H' => V' = V ∧ v = .tuple #[] ∧ ∃ d1, PermIn x2 y2 d d1 ∧ SortedIn (ltc cm) x2 y2 d1 ∧ H' = [sgD Rg.cells 53 b rest d1]))  (hcmp : ∀ x y : Rg, Does Try.prog gf (.agg (Rg.cells x).toArray :: .agg (Rg.cells y).toArray :: caps) V [] (Pv (.int .i64 (cm x y)) V [])) (hswo : SWO (ltc cm))  : Does Try.prog 143 [.slice (some ⟨b, 0, none⟩) n c, .int .i64 ((x : Nat) : Int), .int .i64 ((y : Nat) : Int), .int .i64 ((l : Nat) : Int), .func (.func gf) #[] caps.toArray] V [sgD Rg.cells 53 b rest d0] (fun v V' H' => V' = V ∧ v = .tuple #[] ∧ ∃ d1, PermIn x y d0 d1 ∧ SortedIn (ltc cm) x y d1 ∧ H' = [sgD Rg.cells 53 b rest d1]) := by
 refine Does.intro Try.func143 rfl rfl (le rfl) (fun B => ?_)
 refine Tr.seq ?_
 refine Tr.region ?_
 refine Run.val (lt rfl) (Y.assign rfl) ?_
 refine Run.to_end ?_
 refine Ex.go ?_
 refine Tr.seq ?_
 refine Tr.region ?_
 refine Run.val (lt rfl) (Y.assign rfl) ?_
 refine Run.to_end ?_
 refine Ex.go ?_
 refine Tr.block ?_
 refine Tr.loop (X := Nat × Nat × Nat × Bool × Bool × Array Rg) (fun z0 => V) (fun z0 => [sgD Rg.cells 53 b rest z0.2.2.2.2.2]) (fun z0 => [(0, .slice (some ⟨b, 0, none⟩) n c), (1, .int .i64 ((z0.1 : Nat) : Int)), (2, .int .i64 ((z0.2.1 : Nat) : Int)), (3, .int .i64 ((z0.2.2.1 : Nat) : Int)), (4, .func (.func gf) #[] caps.toArray), (10, .bool z0.2.2.2.1), (11, .bool z0.2.2.2.2.1)]) (fun z0 => PInv (ltc cm) x y n d0 z0.1 z0.2.1 z0.2.2.2.2.2 ∧ z0.2.2.1 ≤ 1000) (fun z0 => z0.2.1 - z0.1) (⟨x, y, l, true, true, d0⟩ : Nat × Nat × Nat × Bool × Bool × Array Rg) ⟨PInv.new hd hxy hy hB, hl⟩ (fun a w i => ⟨i.1.sub (subB_cons (by first | rfl | exact congrArg (fun z => some (Value.int _ z)) (by omega)) (subB_cons (by first | rfl | exact congrArg (fun z => some (Value.int _ z)) (by omega)) (subB_cons (by first | rfl | exact congrArg (fun z => some (Value.int _ z)) (by omega)) (subB_cons (by first | rfl | exact congrArg (fun z => some (Value.int _ z)) (by omega)) (subB_cons (by first | rfl | exact congrArg (fun z => some (Value.int _ z)) (by omega)) (subB_cons (by first | rfl | exact congrArg (fun z => some (Value.int _ z)) (by omega)) (subB_cons (by first | rfl | exact congrArg (fun z => some (Value.int _ z)) (by omega)) (subB_nil _)))))))), i.2⟩) ?_
 rintro ⟨a, e, m, wb, wp, d⟩ ⟨i1, hm⟩
 have iab : a ≤ e := i1.ab
 have ibn : e ≤ n := i1.bn
 try dsimp only at i1 hm ⊢
 refine Tr.block ?_
 refine Tr.seq ?_
 refine Tr.region ?_
 refine Run.val (lt rfl) (Y.move rfl) ?_
 refine Run.val (lt rfl) (Y.move rfl) ?_
 refine Run.val (lt rfl) (Y.subN ((e - a : Nat) : Int) rfl rfl (by omega) (by omega)) ?_
 refine Run.val (lt rfl) (Y.assign rfl) ?_
 refine Run.to_end ?_
 refine Ex.go ?_
 refine Tr.seq ?_
 refine Tr.seq ?_
 refine Tr.region ?_
 refine Run.val (lt rfl) (Y.move rfl) ?_
 refine Run.val (lt rfl) (Y.int rfl rfl rfl) ?_
 refine Run.to_end ?_
 refine Ex.go ?_
 rcases Bool.eq_false_or_eq_true (decide (((e - a : Nat) : Int) ≤ 12)) with h1 | h1
 ·have g1 := h1
  try simp only [kb] at g1
  refine Tr.cond_t rfl h1 ?_
  refine Tr.seq ?_
  refine Tr.region ?_
  refine Run.val (lt rfl) (Y.move rfl) ?_
  refine Run.val (lt rfl) (Y.move rfl) ?_
  refine Run.val (lt rfl) (Y.move rfl) ?_
  refine Run.val (lt rfl) (Y.move rfl) ?_
  refine Run.call [0] (l := [.tmp 26, .tmp 27, .tmp 28, .tmp 29]) rfl rfl rfl (lt rfl) (ins_r (x := a) (y := e) hN i1.sz (by have := i1.ab; have := i1.bn; omega) i1.bn hcmp hswo) (fun v2 V2 H2 hle3 hR => ?_)
  obtain ⟨hV, rfl, rfl⟩ := hR; replace hV := hV.symm; subst hV
  refine Run.heapTo (H' := [sgD Rg.cells 53 b rest (insertionSort (ltc cm) d a e)]) rfl ?_
  refine Run.to_end ?_
  refine Ex.go ?_
  refine Tr.to_ret ?_
  refine Ex.ret_then ?_
  refine Ex.ret_block ?_
  refine Ex.ret_then ?_
  refine Ex.ret_block ?_
  refine Ex.keep [0] ?_
  exact Ex.ret0 rfl ⟨rfl, rfl, _, (i1.k _ (insertionSort_holds  hswo d a e i1.ab (by rw [i1.sz]; exact i1.bn)).1 (insertionSort_holds  hswo d a e i1.ab (by rw [i1.sz]; exact i1.bn)).2).1, (i1.k _ (insertionSort_holds  hswo d a e i1.ab (by rw [i1.sz]; exact i1.bn)).1 (insertionSort_holds  hswo d a e i1.ab (by rw [i1.sz]; exact i1.bn)).2).2, rfl⟩
 ·have g1 := h1
  try simp only [kb] at g1
  refine Tr.cond_f rfl h1 ?_
  refine Tr.to_end ?_
  refine Ex.go ?_
  refine Tr.seq ?_
  refine Tr.seq ?_
  refine Tr.region ?_
  refine Run.val (lt rfl) (Y.move rfl) ?_
  refine Run.val (lt rfl) (Y.int rfl rfl rfl) ?_
  refine Run.to_end ?_
  refine Ex.go ?_
  rcases Bool.eq_false_or_eq_true (((m : Nat) : Int) == 0) with h4 | h4
  ·have g4 := h4
   try simp only [kb] at g4
   refine Tr.cond_t rfl h4 ?_
   refine Tr.seq ?_
   refine Tr.region ?_
   refine Run.val (lt rfl) (Y.move rfl) ?_
   refine Run.val (lt rfl) (Y.move rfl) ?_
   refine Run.val (lt rfl) (Y.move rfl) ?_
   refine Run.val (lt rfl) (Y.move rfl) ?_
   refine Run.call [0] (l := [.tmp 33, .tmp 34, .tmp 35, .tmp 36]) rfl rfl rfl (lt rfl) (heap_r (x := a) (y := e) hN i1.sz (by omega) i1.bn hcmp hswo) (fun v5 V2 H2 hle6 hR => ?_)
   obtain ⟨hV, rfl, rfl⟩ := hR; replace hV := hV.symm; subst hV
   refine Run.heapTo (H' := [sgD Rg.cells 53 b rest (heapSort (ltc cm) d a e)]) rfl ?_
   refine Run.to_end ?_
   refine Ex.go ?_
   refine Tr.to_ret ?_
   refine Ex.ret_then ?_
   refine Ex.ret_block ?_
   refine Ex.ret_then ?_
   refine Ex.ret_block ?_
   refine Ex.keep [0] ?_
   exact Ex.ret0 rfl ⟨rfl, rfl, _, (i1.k _ (heapSort_holds  hswo d a e i1.ab (by rw [i1.sz]; exact i1.bn)).1 (heapSort_holds  hswo d a e i1.ab (by rw [i1.sz]; exact i1.bn)).2).1, (i1.k _ (heapSort_holds  hswo d a e i1.ab (by rw [i1.sz]; exact i1.bn)).1 (heapSort_holds  hswo d a e i1.ab (by rw [i1.sz]; exact i1.bn)).2).2, rfl⟩
  ·have g4 := h4
   try simp only [kb] at g4
   refine Tr.cond_f rfl h4 ?_
   refine Tr.to_end ?_
   refine Ex.go ?_
   refine Tr.cutx (X := Nat × Array Rg) (fun z0 => V) (fun z0 => [sgD Rg.cells 53 b rest z0.2]) (fun z0 => [(0, .slice (some ⟨b, 0, none⟩) n c), (1, .int .i64 ((a : Nat) : Int)), (2, .int .i64 ((e : Nat) : Int)), (3, .int .i64 ((z0.1 : Nat) : Int)), (4, .func (.func gf) #[] caps.toArray), (10, .bool wb), (11, .bool wp), (12, .int .i64 ((e - a : Nat) : Int))]) (fun z0 => PInv (ltc cm) x y n d0 a e z0.2 ∧ z0.1 ≤ 1000) ?_ ?_
   ·refine Tr.seq ?_
    refine Tr.region ?_
    refine Run.val (lt rfl) (Y.move rfl) ?_
    refine Run.val (lt rfl) (Y.not rfl) ?_
    refine Run.to_end ?_
    refine Ex.go ?_
    rcases Bool.eq_false_or_eq_true (wb) with h7 | h7
    ·have g7 := h7
     try simp only [kb] at g7
     refine Tr.cond_f rfl (congrArg Bool.not h7) ?_
     refine Tr.to_end ?_
     exact Ex.cutx ⟨m, d⟩ ⟨i1, hm⟩ rfl rfl (subB_cons (by first | rfl | exact congrArg (fun z => some (Value.int _ z)) (by omega)) (subB_cons (by first | rfl | exact congrArg (fun z => some (Value.int _ z)) (by omega)) (subB_cons (by first | rfl | exact congrArg (fun z => some (Value.int _ z)) (by omega)) (subB_cons (by first | rfl | exact congrArg (fun z => some (Value.int _ z)) (by omega)) (subB_cons (by first | rfl | exact congrArg (fun z => some (Value.int _ z)) (by omega)) (subB_cons (by first | rfl | exact congrArg (fun z => some (Value.int _ z)) (by omega)) (subB_cons (by first | rfl | exact congrArg (fun z => some (Value.int _ z)) (by omega)) (subB_cons (by first | rfl | exact congrArg (fun z => some (Value.int _ z)) (by omega)) (subB_nil _)))))))))
    ·have g7 := h7
     try simp only [kb] at g7
     refine Tr.cond_t rfl (congrArg Bool.not h7) ?_
     refine Tr.seq ?_
     refine Tr.region ?_
     refine Run.val (lt rfl) (Y.move rfl) ?_
     refine Run.val (lt rfl) (Y.move rfl) ?_
     refine Run.val (lt rfl) (Y.move rfl) ?_
     refine Run.val (lt rfl) (Y.move rfl) ?_
     refine Run.call [0] (l := [.tmp 40, .tmp 41, .tmp 42, .tmp 43]) rfl rfl rfl (lt rfl) (brk_r (x := a) (y := e) hN i1.sz (by omega) i1.bn hcmp hswo) (fun v V2 H2 hle hR => ?_)
     obtain ⟨hV, rfl, dk, hdk, rfl⟩ := hR; replace hV := hV.symm; subst hV
     refine Run.heapTo (H' := [sgD Rg.cells 53 b rest dk]) rfl ?_
     refine Run.to_end ?_
     refine Ex.go ?_
     refine Tr.region ?_
     refine Run.val (lt rfl) (Y.move rfl) ?_
     refine Run.val (lt rfl) (Y.subN ((m - 1 : Nat) : Int) rfl rfl (by omega) (by omega)) ?_
     refine Run.val (lt rfl) (Y.assign rfl) ?_
     refine Run.to_end ?_
     exact Ex.cutx ⟨m - 1, dk⟩ ⟨i1.perm hdk, by (try dsimp only); omega⟩ rfl rfl (subB_cons (by first | rfl | exact congrArg (fun z => some (Value.int _ z)) (by omega)) (subB_cons (by first | rfl | exact congrArg (fun z => some (Value.int _ z)) (by omega)) (subB_cons (by first | rfl | exact congrArg (fun z => some (Value.int _ z)) (by omega)) (subB_cons (by first | rfl | exact congrArg (fun z => some (Value.int _ z)) (by omega)) (subB_cons (by first | rfl | exact congrArg (fun z => some (Value.int _ z)) (by omega)) (subB_cons (by first | rfl | exact congrArg (fun z => some (Value.int _ z)) (by omega)) (subB_cons (by first | rfl | exact congrArg (fun z => some (Value.int _ z)) (by omega)) (subB_cons (by first | rfl | exact congrArg (fun z => some (Value.int _ z)) (by omega)) (subB_nil _)))))))))
   ·rintro z0 ⟨i2, hm1⟩
    obtain ⟨m1, d1⟩ := z0
    try dsimp only at i2 hm1 ⊢
    refine Tr.seq ?_
    refine Tr.region ?_
    refine Run.val (lt rfl) (Y.move rfl) ?_
    refine Run.val (lt rfl) (Y.move rfl) ?_
    refine Run.val (lt rfl) (Y.move rfl) ?_
    refine Run.val (lt rfl) (Y.move rfl) ?_
    refine Run.call [0] (l := [.tmp 48, .tmp 49, .tmp 50, .tmp 51]) rfl rfl rfl (lt rfl) (pivot_r (x := a) (y := e) hN i2.sz (by omega) i2.bn hcmp hswo) (fun v V2 H2 hle hR => ?_)
    obtain ⟨hV, p1, hh, rfl, hp1, hp2, rfl⟩ := hR; replace hV := hV.symm; subst hV
    refine Run.heapTo (H' := [sgD Rg.cells 53 b rest d1]) rfl ?_
    refine Run.val (lt rfl) (Y.move rfl) ?_
    refine Run.val (lt rfl) (Y.extract rfl rfl) ?_
    refine Run.val (lt rfl) (Y.extract rfl rfl) ?_
    refine Run.val (lt rfl) (Y.assign rfl) ?_
    refine Run.val (lt rfl) (Y.assign rfl) ?_
    refine Run.to_end ?_
    refine Ex.go ?_
    refine Tr.cutx (X := Nat × Int × Array Rg) (fun z0 => V) (fun z0 => [sgD Rg.cells 53 b rest z0.2.2]) (fun z0 => [(0, .slice (some ⟨b, 0, none⟩) n c), (1, .int .i64 ((a : Nat) : Int)), (2, .int .i64 ((e : Nat) : Int)), (3, .int .i64 ((m1 : Nat) : Int)), (4, .func (.func gf) #[] caps.toArray), (10, .bool wb), (11, .bool wp), (12, .int .i64 ((e - a : Nat) : Int)), (13, .int .i64 ((z0.1 : Nat) : Int)), (14, .int .i64 z0.2.1)]) (fun z0 => PInv (ltc cm) x y n d0 a e z0.2.2 ∧ a ≤ z0.1 ∧ z0.1 < e) ?_ ?_
    ·refine Tr.seq ?_
     refine Tr.region ?_
     refine Run.val (lt rfl) (Y.move rfl) ?_
     refine Run.val (lt rfl) (Y.int rfl rfl rfl) ?_
     refine Run.to_end ?_
     refine Ex.go ?_
     rcases Bool.eq_false_or_eq_true (hh == 2) with h8 | h8
     ·have g8 := h8
      try simp only [kb] at g8
      refine Tr.cond_t rfl h8 ?_
      refine Tr.seq ?_
      refine Tr.region ?_
      refine Run.val (lt rfl) (Y.move rfl) ?_
      refine Run.val (lt rfl) (Y.move rfl) ?_
      refine Run.val (lt rfl) (Y.move rfl) ?_
      refine Run.val (lt rfl) (Y.move rfl) ?_
      refine Run.call [0] (l := [.tmp 57, .tmp 58, .tmp 59, .tmp 60]) rfl rfl rfl (lt rfl) (rev_r (x := a) (y := e) hN i2.sz (by omega) i2.bn hcmp hswo) (fun v9 V2 H2 hle10 hR => ?_)
      obtain ⟨hV, rfl, rfl⟩ := hR; replace hV := hV.symm; subst hV
      refine Run.heapTo (H' := [sgD Rg.cells 53 b rest (reverseRange d1 a e)]) rfl ?_
      refine Run.to_end ?_
      refine Ex.go ?_
      refine Tr.seq ?_
      refine Tr.region ?_
      refine Run.val (lt rfl) (Y.move rfl) ?_
      refine Run.val (lt rfl) (Y.subN ((e - 1 : Nat) : Int) rfl rfl (by omega) (by omega)) ?_
      refine Run.val (lt rfl) (Y.move rfl) ?_
      refine Run.val (lt rfl) (Y.move rfl) ?_
      refine Run.val (lt rfl) (Y.subN ((p1 - a : Nat) : Int) rfl rfl (by omega) (by omega)) ?_
      refine Run.val (lt rfl) (Y.subN (((e - 1) - (p1 - a) : Nat) : Int) rfl rfl (by omega) (by omega)) ?_
      refine Run.val (lt rfl) (Y.assign rfl) ?_
      refine Run.to_end ?_
      refine Ex.go ?_
      refine Tr.region ?_
      refine Run.val (lt rfl) (Y.assign rfl) ?_
      refine Run.to_end ?_
      exact Ex.cutx ⟨(e - 1) - (p1 - a), 1, reverseRange d1 a e⟩ ⟨i2.perm (reverseRange_holds _ a e i2.ab (by rw [i2.sz]; exact i2.bn)), by (try dsimp only); omega, by (try dsimp only); omega⟩ rfl rfl (subB_cons (by first | rfl | exact congrArg (fun z => some (Value.int _ z)) (by omega)) (subB_cons (by first | rfl | exact congrArg (fun z => some (Value.int _ z)) (by omega)) (subB_cons (by first | rfl | exact congrArg (fun z => some (Value.int _ z)) (by omega)) (subB_cons (by first | rfl | exact congrArg (fun z => some (Value.int _ z)) (by omega)) (subB_cons (by first | rfl | exact congrArg (fun z => some (Value.int _ z)) (by omega)) (subB_cons (by first | rfl | exact congrArg (fun z => some (Value.int _ z)) (by omega)) (subB_cons (by first | rfl | exact congrArg (fun z => some (Value.int _ z)) (by omega)) (subB_cons (by first | rfl | exact congrArg (fun z => some (Value.int _ z)) (by omega)) (subB_cons (by first | rfl | exact congrArg (fun z => some (Value.int _ z)) (by omega)) (subB_cons (by first | rfl | exact congrArg (fun z => some (Value.int _ z)) (by omega)) (subB_nil _)))))))))))
     ·have g8 := h8
      try simp only [kb] at g8
      refine Tr.cond_f rfl h8 ?_
      refine Tr.to_end ?_
      exact Ex.cutx ⟨p1, hh, d1⟩ ⟨i2, by (try dsimp only); omega, by (try dsimp only); omega⟩ rfl rfl (subB_cons (by first | rfl | exact congrArg (fun z => some (Value.int _ z)) (by omega)) (subB_cons (by first | rfl | exact congrArg (fun z => some (Value.int _ z)) (by omega)) (subB_cons (by first | rfl | exact congrArg (fun z => some (Value.int _ z)) (by omega)) (subB_cons (by first | rfl | exact congrArg (fun z => some (Value.int _ z)) (by omega)) (subB_cons (by first | rfl | exact congrArg (fun z => some (Value.int _ z)) (by omega)) (subB_cons (by first | rfl | exact congrArg (fun z => some (Value.int _ z)) (by omega)) (subB_cons (by first | rfl | exact congrArg (fun z => some (Value.int _ z)) (by omega)) (subB_cons (by first | rfl | exact congrArg (fun z => some (Value.int _ z)) (by omega)) (subB_cons (by first | rfl | exact congrArg (fun z => some (Value.int _ z)) (by omega)) (subB_cons (by first | rfl | exact congrArg (fun z => some (Value.int _ z)) (by omega)) (subB_nil _)))))))))))
    ·rintro z0 ⟨i3, hp3, hp4⟩
     obtain ⟨p2, h2, d2⟩ := z0
     try dsimp only at i3 hp3 hp4 ⊢
     refine Tr.cutx (X := Array Rg) (fun d3 => V) (fun d3 => [sgD Rg.cells 53 b rest d3]) (fun d3 => [(0, .slice (some ⟨b, 0, none⟩) n c), (1, .int .i64 ((a : Nat) : Int)), (2, .int .i64 ((e : Nat) : Int)), (3, .int .i64 ((m1 : Nat) : Int)), (4, .func (.func gf) #[] caps.toArray), (10, .bool wb), (11, .bool wp), (12, .int .i64 ((e - a : Nat) : Int)), (13, .int .i64 ((p2 : Nat) : Int)), (14, .int .i64 h2)]) (fun d3 => PInv (ltc cm) x y n d0 a e d3) ?_ ?_
     ·refine Tr.seq ?_
      refine Tr.region ?_
      refine Run.val (lt rfl) (Y.move rfl) ?_
      refine Run.val (lt rfl) (Y.move rfl) ?_
      rcases Bool.eq_false_or_eq_true (wb) with h11 | h11
      ·have g11 := h11
       try simp only [kb] at g11
       refine Run.on rfl rfl rfl h11 ?_
       refine Run.val (lt rfl) (Y.move rfl) ?_
       refine Run.val (lt rfl) (Y.pick_t rfl h11 rfl) ?_
       refine Run.val (lt rfl) (Y.move rfl) ?_
       rcases Bool.eq_false_or_eq_true (wp) with h12 | h12
       ·have g12 := h12
        try simp only [kb] at g12
        refine Run.on rfl rfl rfl h12 ?_
        refine Run.val (lt rfl) (Y.move rfl) ?_
        refine Run.on rfl rfl rfl h12 ?_
        refine Run.val (lt rfl) (Y.int rfl rfl rfl) ?_
        refine Run.val (lt rfl) (Y.pick_t rfl h12 rfl) ?_
        refine Run.to_end ?_
        refine Ex.go ?_
        rcases Bool.eq_false_or_eq_true (h2 == 1) with h13 | h13
        ·have g13 := h13
         try simp only [kb] at g13
         refine Tr.cond_t rfl h13 ?_
         refine Tr.seq ?_
         refine Tr.region ?_
         refine Run.val (lt rfl) (Y.move rfl) ?_
         refine Run.val (lt rfl) (Y.move rfl) ?_
         refine Run.val (lt rfl) (Y.move rfl) ?_
         refine Run.val (lt rfl) (Y.move rfl) ?_
         refine Run.call [0] (l := [.tmp 76, .tmp 77, .tmp 78, .tmp 79]) rfl rfl rfl (lt rfl) (pins_r (x := a) (y := e) hN i3.sz (by omega) i3.bn hcmp hswo) (fun v V2 H2 hle hR => ?_)
         obtain ⟨hV, rfl, rfl⟩ := hR; replace hV := hV.symm; subst hV
         refine Run.heapTo (H' := [sgD Rg.cells 53 b rest ((partialInsertionSort (ltc cm) d2 a e).1)]) rfl ?_
         obtain ⟨hq1, hq2⟩ := partialInsertionSort_holds  hswo d2 a e (by omega) (by rw [i3.sz]; exact i3.bn) i3.bel
         refine Run.to_end ?_
         refine Ex.go ?_
         rcases Bool.eq_false_or_eq_true ((partialInsertionSort (ltc cm) d2 a e).2) with h14 | h14
         ·have g14 := h14
          try simp only [kb] at g14
          refine Tr.cond_t rfl h14 ?_
          refine Tr.to_ret ?_
          refine Ex.ret_then ?_
          refine Ex.ret_block ?_
          refine Ex.ret_then ?_
          refine Ex.ret_block ?_
          refine Ex.keep [0] ?_
          exact Ex.ret0 rfl ⟨rfl, rfl, _, (i3.k _ hq1 (hq2 (by assumption))).1, (i3.k _ hq1 (hq2 (by assumption))).2, rfl⟩
         ·have g14 := h14
          try simp only [kb] at g14
          refine Tr.cond_f rfl h14 ?_
          refine Tr.to_end ?_
          exact Ex.cutx ((partialInsertionSort (ltc cm) d2 a e).1) (i3.perm hq1) rfl rfl (subB_cons (by first | rfl | exact congrArg (fun z => some (Value.int _ z)) (by omega)) (subB_cons (by first | rfl | exact congrArg (fun z => some (Value.int _ z)) (by omega)) (subB_cons (by first | rfl | exact congrArg (fun z => some (Value.int _ z)) (by omega)) (subB_cons (by first | rfl | exact congrArg (fun z => some (Value.int _ z)) (by omega)) (subB_cons (by first | rfl | exact congrArg (fun z => some (Value.int _ z)) (by omega)) (subB_cons (by first | rfl | exact congrArg (fun z => some (Value.int _ z)) (by omega)) (subB_cons (by first | rfl | exact congrArg (fun z => some (Value.int _ z)) (by omega)) (subB_cons (by first | rfl | exact congrArg (fun z => some (Value.int _ z)) (by omega)) (subB_cons (by first | rfl | exact congrArg (fun z => some (Value.int _ z)) (by omega)) (subB_cons (by first | rfl | exact congrArg (fun z => some (Value.int _ z)) (by omega)) (subB_nil _)))))))))))
        ·have g13 := h13
         try simp only [kb] at g13
         refine Tr.cond_f rfl h13 ?_
         refine Tr.to_end ?_
         exact Ex.cutx d2 i3 rfl rfl (subB_cons (by first | rfl | exact congrArg (fun z => some (Value.int _ z)) (by omega)) (subB_cons (by first | rfl | exact congrArg (fun z => some (Value.int _ z)) (by omega)) (subB_cons (by first | rfl | exact congrArg (fun z => some (Value.int _ z)) (by omega)) (subB_cons (by first | rfl | exact congrArg (fun z => some (Value.int _ z)) (by omega)) (subB_cons (by first | rfl | exact congrArg (fun z => some (Value.int _ z)) (by omega)) (subB_cons (by first | rfl | exact congrArg (fun z => some (Value.int _ z)) (by omega)) (subB_cons (by first | rfl | exact congrArg (fun z => some (Value.int _ z)) (by omega)) (subB_cons (by first | rfl | exact congrArg (fun z => some (Value.int _ z)) (by omega)) (subB_cons (by first | rfl | exact congrArg (fun z => some (Value.int _ z)) (by omega)) (subB_cons (by first | rfl | exact congrArg (fun z => some (Value.int _ z)) (by omega)) (subB_nil _)))))))))))
       ·have g12 := h12
        try simp only [kb] at g12
        refine Run.off rfl rfl rfl h12 rfl (lt rfl) ?_
        refine Run.off rfl rfl rfl h12 rfl (lt rfl) ?_
        refine Run.val (lt rfl) (Y.pick_f rfl h12 rfl) ?_
        refine Run.to_end ?_
        refine Ex.go ?_
        refine Tr.cond_f rfl rfl ?_
        refine Tr.to_end ?_
        exact Ex.cutx d2 i3 rfl rfl (subB_cons (by first | rfl | exact congrArg (fun z => some (Value.int _ z)) (by omega)) (subB_cons (by first | rfl | exact congrArg (fun z => some (Value.int _ z)) (by omega)) (subB_cons (by first | rfl | exact congrArg (fun z => some (Value.int _ z)) (by omega)) (subB_cons (by first | rfl | exact congrArg (fun z => some (Value.int _ z)) (by omega)) (subB_cons (by first | rfl | exact congrArg (fun z => some (Value.int _ z)) (by omega)) (subB_cons (by first | rfl | exact congrArg (fun z => some (Value.int _ z)) (by omega)) (subB_cons (by first | rfl | exact congrArg (fun z => some (Value.int _ z)) (by omega)) (subB_cons (by first | rfl | exact congrArg (fun z => some (Value.int _ z)) (by omega)) (subB_cons (by first | rfl | exact congrArg (fun z => some (Value.int _ z)) (by omega)) (subB_cons (by first | rfl | exact congrArg (fun z => some (Value.int _ z)) (by omega)) (subB_nil _)))))))))))
      ·have g11 := h11
       try simp only [kb] at g11
       refine Run.off rfl rfl rfl h11 rfl (lt rfl) ?_
       refine Run.val (lt rfl) (Y.pick_f rfl h11 rfl) ?_
       refine Run.val (lt rfl) (Y.move rfl) ?_
       refine Run.off rfl rfl rfl rfl rfl (lt rfl) ?_
       refine Run.off rfl rfl rfl rfl rfl (lt rfl) ?_
       refine Run.val (lt rfl) (Y.pick_f rfl rfl rfl) ?_
       refine Run.to_end ?_
       refine Ex.go ?_
       refine Tr.cond_f rfl rfl ?_
       refine Tr.to_end ?_
       exact Ex.cutx d2 i3 rfl rfl (subB_cons (by first | rfl | exact congrArg (fun z => some (Value.int _ z)) (by omega)) (subB_cons (by first | rfl | exact congrArg (fun z => some (Value.int _ z)) (by omega)) (subB_cons (by first | rfl | exact congrArg (fun z => some (Value.int _ z)) (by omega)) (subB_cons (by first | rfl | exact congrArg (fun z => some (Value.int _ z)) (by omega)) (subB_cons (by first | rfl | exact congrArg (fun z => some (Value.int _ z)) (by omega)) (subB_cons (by first | rfl | exact congrArg (fun z => some (Value.int _ z)) (by omega)) (subB_cons (by first | rfl | exact congrArg (fun z => some (Value.int _ z)) (by omega)) (subB_cons (by first | rfl | exact congrArg (fun z => some (Value.int _ z)) (by omega)) (subB_cons (by first | rfl | exact congrArg (fun z => some (Value.int _ z)) (by omega)) (subB_cons (by first | rfl | exact congrArg (fun z => some (Value.int _ z)) (by omega)) (subB_nil _)))))))))))
     ·rintro d3 i4
      have s4 := i4.sz
      refine Tr.seq ?_
      refine Tr.seq ?_
      refine Tr.quiet Sortr2_mo (by kernel_rfl) ?_
      refine RunQ.val (lt rfl) (Y.move rfl) ?_
      refine RunQ.val (lt rfl) (Y.int rfl rfl rfl) ?_
      refine RunQ.val (lt rfl) (Y.move rfl) ?_
      rcases Bool.eq_false_or_eq_true (decide (((a : Nat) : Int) > 0)) with h15 | h15
      ·have g15 := h15
       try simp only [kb] at g15
       refine RunQ.on rfl rfl rfl h15 ?_
       refine RunQ.val (lt rfl) (Y.move rfl) ?_
       refine RunQ.on rfl rfl rfl h15 ?_
       refine RunQ.val (lt rfl) (Y.move rfl) ?_
       refine RunQ.on rfl rfl rfl h15 ?_
       refine RunQ.val (lt rfl) (Y.move rfl) ?_
       refine RunQ.on rfl rfl rfl h15 ?_
       refine RunQ.val (lt rfl) (Y.subN ((a - 1 : Nat) : Int) rfl rfl (by omega) (by omega)) ?_
       refine RunQ.on rfl rfl rfl h15 ?_
       refine RunQ.val (lt rfl) (Y.idxN (a - 1) rfl rfl Sortr2_es51 (by omega) (by omega)) ?_
       refine RunQ.on rfl rfl rfl h15 ?_
       refine RunQ.val (lt rfl) (Y.ldA (enc := Rg.cells) (d := d3) (rest := rest) (e := 53) (i := (a - 1)) rfl Sortr2_ag53 (Kn.at 0 rfl) Rg.enc (by first | omega | (simp only [swp_size, Array.size_setIfInBounds]; omega)) rfl) ?_
       refine RunQ.on rfl rfl rfl h15 ?_
       refine RunQ.val (lt rfl) (Y.move rfl) ?_
       refine RunQ.on rfl rfl rfl h15 ?_
       refine RunQ.val (lt rfl) (Y.move rfl) ?_
       refine RunQ.on rfl rfl rfl h15 ?_
       refine RunQ.val (lt rfl) (Y.idxN p2 rfl rfl Sortr2_es51 (by omega) (by omega)) ?_
       refine RunQ.on rfl rfl rfl h15 ?_
       refine RunQ.val (lt rfl) (Y.ldA (enc := Rg.cells) (d := d3) (rest := rest) (e := 53) (i := p2) rfl Sortr2_ag53 (Kn.at 0 rfl) Rg.enc (by first | omega | (simp only [swp_size, Array.size_setIfInBounds]; omega)) rfl) ?_
       refine RunQ.on rfl rfl rfl h15 ?_
       refine RunQ.call0 (l := [.tmp 89, .tmp 93]) rfl rfl rfl (lt rfl) ((hcmp (d3[a - 1]!) (d3[p2]!)).frame) ?_
       refine RunQ.on rfl rfl rfl h15 ?_
       refine RunQ.val (lt rfl) (Y.int rfl rfl rfl) ?_
       refine RunQ.on rfl rfl rfl h15 ?_
       refine RunQ.val (lt rfl) (Y.not rfl) ?_
       refine RunQ.val (lt rfl) (Y.pick_t rfl h15 rfl) ?_
       refine RunQ.to_end ?_
       refine Ex.go ?_
       rcases Bool.eq_false_or_eq_true (decide ((cm (d3[a - 1]!) (d3[p2]!)) < 0)) with h16 | h16
       ·have g16 := h16
        try simp only [kb] at g16
        refine Tr.cond_f rfl (congrArg Bool.not h16) ?_
        refine Tr.to_end ?_
        refine Ex.go ?_
        refine Tr.seq ?_
        refine Tr.region ?_
        refine Run.val (lt rfl) (Y.move rfl) ?_
        refine Run.val (lt rfl) (Y.move rfl) ?_
        refine Run.val (lt rfl) (Y.move rfl) ?_
        refine Run.val (lt rfl) (Y.move rfl) ?_
        refine Run.val (lt rfl) (Y.move rfl) ?_
        refine Run.call [0] (l := [.tmp 106, .tmp 107, .tmp 108, .tmp 109, .tmp 110]) rfl rfl rfl (lt rfl) (part_r (x := a) (y := e) (p := p2) hN i4.sz (by omega) (by omega) i4.bn hcmp hswo) (fun v V2 H2 hle hR => ?_)
        obtain ⟨mid, ap, d4, hpe⟩ : ∃ m k q, partition (ltc cm) d3 a e p2 = (m, k, q) := ⟨_, _, _, rfl⟩
        rw [hpe] at hR; dsimp only at hR
        obtain ⟨hV, rfl, rfl⟩ := hR; replace hV := hV.symm; subst hV
        refine Run.heapTo (H' := [sgD Rg.cells 53 b rest d4]) rfl ?_
        obtain ⟨w1, w2, w3, w4, w5, w6, w7⟩ := i4.part hswo (by omega) (by omega) hpe
        refine Run.val (lt rfl) (Y.move rfl) ?_
        refine Run.val (lt rfl) (Y.extract rfl rfl) ?_
        refine Run.val (lt rfl) (Y.extract rfl rfl) ?_
        refine Run.val (lt rfl) (Y.assign rfl) ?_
        refine Run.val (lt rfl) (Y.assign rfl) ?_
        refine Run.to_end ?_
        refine Ex.go ?_
        refine Tr.seq ?_
        refine Tr.region ?_
        refine Run.val (lt rfl) (Y.move rfl) ?_
        refine Run.val (lt rfl) (Y.assign rfl) ?_
        refine Run.to_end ?_
        refine Ex.go ?_
        refine Tr.seq ?_
        refine Tr.region ?_
        refine Run.val (lt rfl) (Y.move rfl) ?_
        refine Run.val (lt rfl) (Y.move rfl) ?_
        refine Run.val (lt rfl) (Y.subN ((mid - a : Nat) : Int) rfl rfl (by omega) (by omega)) ?_
        refine Run.val (lt rfl) (Y.move rfl) ?_
        refine Run.val (lt rfl) (Y.move rfl) ?_
        refine Run.val (lt rfl) (Y.subN ((e - mid : Nat) : Int) rfl rfl (by omega) (by omega)) ?_
        refine Run.val (lt rfl) (Y.assign rfl) ?_
        refine Run.val (lt rfl) (Y.assign rfl) ?_
        refine Run.to_end ?_
        refine Ex.go ?_
        refine Tr.seq ?_
        refine Tr.region ?_
        refine Run.val (lt rfl) (Y.move rfl) ?_
        refine Run.val (lt rfl) (Y.quoN (m := e - a) (n := 8) rfl rfl (by omega) (by omega)) ?_
        refine Run.val (lt rfl) (Y.assign rfl) ?_
        refine Run.to_end ?_
        refine Ex.go ?_
        refine Tr.seq ?_
        refine Tr.region ?_
        refine Run.val (lt rfl) (Y.move rfl) ?_
        refine Run.val (lt rfl) (Y.move rfl) ?_
        refine Run.val (lt rfl) (Y.int rfl rfl rfl) ?_
        refine Run.to_end ?_
        refine Ex.go ?_
        rcases Bool.eq_false_or_eq_true (decide (((mid - a : Nat) : Int) < ((e - mid : Nat) : Int))) with h17 | h17
        ·have g17 := h17
         try simp only [kb] at g17
         refine Tr.cond_t rfl h17 ?_
         refine Tr.seq ?_
         refine Tr.region ?_
         refine Run.val (lt rfl) (Y.move rfl) ?_
         refine Run.val (lt rfl) (Y.move rfl) ?_
         refine Run.val (lt rfl) (Y.int rfl rfl rfl) ?_
         refine Run.val (lt rfl) (Y.assign rfl) ?_
         refine Run.to_end ?_
         refine Ex.go ?_
         refine Tr.seq ?_
         refine Tr.region ?_
         refine Run.val (lt rfl) (Y.move rfl) ?_
         refine Run.val (lt rfl) (Y.move rfl) ?_
         refine Run.val (lt rfl) (Y.move rfl) ?_
         refine Run.val (lt rfl) (Y.move rfl) ?_
         refine Run.val (lt rfl) (Y.move rfl) ?_
         refine Run.call [0] (l := [.tmp 129, .tmp 130, .tmp 131, .tmp 132, .tmp 133]) rfl rfl rfl (lt rfl) (ih d4 (a) (mid) m1 (by have := i4.len; omega) (by omega) (by have := i4.bn; omega) w3 w4 hm1) (fun v V2 H2 hle hR => ?_)
         obtain ⟨hV, rfl, d5, hp5, hs5, rfl⟩ := hR; replace hV := hV.symm; subst hV
         refine Run.heapTo (H' := [sgD Rg.cells 53 b rest d5]) rfl ?_
         have i5 := w6 d5 hp5 hs5
         refine Run.to_end ?_
         refine Ex.go ?_
         refine Tr.region ?_
         refine Run.val (lt rfl) (Y.move rfl) ?_
         refine Run.val (lt rfl) (Y.addN ((mid + 1 : Nat) : Int) rfl rfl (by omega) (by omega)) ?_
         refine Run.val (lt rfl) (Y.assign rfl) ?_
         refine Run.to_end ?_
         refine Ex.end_block ?_
         exact Ex.round (⟨mid + 1, e, m1, decide (((mid - a : Nat) : Int) ≥ (((e - a) / 8 : Nat) : Int)), ap, d5⟩ : Nat × Nat × Nat × Bool × Bool × Array Rg) ⟨i5, hm1⟩ (by dsimp only; omega) rfl rfl (subB_cons (by first | rfl | exact congrArg (fun z => some (Value.int _ z)) (by omega)) (subB_cons (by first | rfl | exact congrArg (fun z => some (Value.int _ z)) (by omega)) (subB_cons (by first | rfl | exact congrArg (fun z => some (Value.int _ z)) (by omega)) (subB_cons (by first | rfl | exact congrArg (fun z => some (Value.int _ z)) (by omega)) (subB_cons (by first | rfl | exact congrArg (fun z => some (Value.int _ z)) (by omega)) (subB_cons (by first | rfl | exact congrArg (fun z => some (Value.int _ z)) (by omega)) (subB_cons (by first | rfl | exact congrArg (fun z => some (Value.int _ z)) (by omega)) (subB_nil _))))))))
        ·have g17 := h17
         try simp only [kb] at g17
         refine Tr.cond_f rfl h17 ?_
         refine Tr.seq ?_
         refine Tr.region ?_
         refine Run.val (lt rfl) (Y.move rfl) ?_
         refine Run.val (lt rfl) (Y.move rfl) ?_
         refine Run.val (lt rfl) (Y.int rfl rfl rfl) ?_
         refine Run.val (lt rfl) (Y.assign rfl) ?_
         refine Run.to_end ?_
         refine Ex.go ?_
         refine Tr.seq ?_
         refine Tr.region ?_
         refine Run.val (lt rfl) (Y.move rfl) ?_
         refine Run.val (lt rfl) (Y.move rfl) ?_
         refine Run.val (lt rfl) (Y.addN ((mid + 1 : Nat) : Int) rfl rfl (by omega) (by omega)) ?_
         refine Run.val (lt rfl) (Y.move rfl) ?_
         refine Run.val (lt rfl) (Y.move rfl) ?_
         refine Run.val (lt rfl) (Y.move rfl) ?_
         refine Run.call [0] (l := [.tmp 140, .tmp 142, .tmp 143, .tmp 144, .tmp 145]) rfl rfl rfl (lt rfl) (ih d4 (mid + 1) (e) m1 (by have := i4.len; omega) (by omega) (by have := i4.bn; omega) w3 w5 hm1) (fun v V2 H2 hle hR => ?_)
         obtain ⟨hV, rfl, d5, hp5, hs5, rfl⟩ := hR; replace hV := hV.symm; subst hV
         refine Run.heapTo (H' := [sgD Rg.cells 53 b rest d5]) rfl ?_
         have i5 := w7 d5 hp5 hs5
         refine Run.to_end ?_
         refine Ex.go ?_
         refine Tr.region ?_
         refine Run.val (lt rfl) (Y.move rfl) ?_
         refine Run.val (lt rfl) (Y.assign rfl) ?_
         refine Run.to_end ?_
         refine Ex.end_block ?_
         exact Ex.round (⟨a, mid, m1, decide (((e - mid : Nat) : Int) ≥ (((e - a) / 8 : Nat) : Int)), ap, d5⟩ : Nat × Nat × Nat × Bool × Bool × Array Rg) ⟨i5, hm1⟩ (by dsimp only; omega) rfl rfl (subB_cons (by first | rfl | exact congrArg (fun z => some (Value.int _ z)) (by omega)) (subB_cons (by first | rfl | exact congrArg (fun z => some (Value.int _ z)) (by omega)) (subB_cons (by first | rfl | exact congrArg (fun z => some (Value.int _ z)) (by omega)) (subB_cons (by first | rfl | exact congrArg (fun z => some (Value.int _ z)) (by omega)) (subB_cons (by first | rfl | exact congrArg (fun z => some (Value.int _ z)) (by omega)) (subB_cons (by first | rfl | exact congrArg (fun z => some (Value.int _ z)) (by omega)) (subB_cons (by first | rfl | exact congrArg (fun z => some (Value.int _ z)) (by omega)) (subB_nil _))))))))
       ·have g16 := h16
        try simp only [kb] at g16
        refine Tr.cond_t rfl (congrArg Bool.not h16) ?_
        refine Tr.seq ?_
        refine Tr.region ?_
        refine Run.val (lt rfl) (Y.move rfl) ?_
        refine Run.val (lt rfl) (Y.move rfl) ?_
        refine Run.val (lt rfl) (Y.move rfl) ?_
        refine Run.val (lt rfl) (Y.move rfl) ?_
        refine Run.val (lt rfl) (Y.move rfl) ?_
        refine Run.call [0] (l := [.tmp 98, .tmp 99, .tmp 100, .tmp 101, .tmp 102]) rfl rfl rfl (lt rfl) (pareq_r (x := a) (y := e) (p := p2) hN i4.sz (by omega) (by omega) i4.bn hcmp hswo) (fun v V2 H2 hle hR => ?_)
        obtain ⟨mid, d4, hpe⟩ : ∃ m q, partitionEqual (ltc cm) d3 a e p2 = (m, q) := ⟨_, _, rfl⟩
        rw [hpe] at hR; dsimp only at hR
        obtain ⟨hV, rfl, rfl⟩ := hR; replace hV := hV.symm; subst hV
        refine Run.heapTo (H' := [sgD Rg.cells 53 b rest d4]) rfl ?_
        obtain ⟨w1, i5⟩ := i4.eqs hswo (by omega) (by omega) (by omega) (by assumption) hpe
        refine Run.val (lt rfl) (Y.assign rfl) ?_
        refine Run.to_end ?_
        refine Ex.go ?_
        refine Tr.seq ?_
        refine Tr.region ?_
        refine Run.val (lt rfl) (Y.move rfl) ?_
        refine Run.val (lt rfl) (Y.assign rfl) ?_
        refine Run.to_end ?_
        refine Ex.go ?_
        refine Tr.to_exit ?_
        refine Ex.exit_then ?_
        refine Ex.exit_in ?_
        exact Ex.round (⟨mid, e, m1, wb, wp, d4⟩ : Nat × Nat × Nat × Bool × Bool × Array Rg) ⟨i5, hm1⟩ (by dsimp only; omega) rfl rfl (subB_cons (by first | rfl | exact congrArg (fun z => some (Value.int _ z)) (by omega)) (subB_cons (by first | rfl | exact congrArg (fun z => some (Value.int _ z)) (by omega)) (subB_cons (by first | rfl | exact congrArg (fun z => some (Value.int _ z)) (by omega)) (subB_cons (by first | rfl | exact congrArg (fun z => some (Value.int _ z)) (by omega)) (subB_cons (by first | rfl | exact congrArg (fun z => some (Value.int _ z)) (by omega)) (subB_cons (by first | rfl | exact congrArg (fun z => some (Value.int _ z)) (by omega)) (subB_cons (by first | rfl | exact congrArg (fun z => some (Value.int _ z)) (by omega)) (subB_nil _))))))))
      ·have g15 := h15
       try simp only [kb] at g15
       refine RunQ.off rfl rfl rfl h15 rfl (lt rfl) ?_
       refine RunQ.off rfl rfl rfl h15 rfl (lt rfl) ?_
       refine RunQ.off rfl rfl rfl h15 rfl (lt rfl) ?_
       refine RunQ.off rfl rfl rfl h15 rfl (lt rfl) ?_
       refine RunQ.off rfl rfl rfl h15 rfl (lt rfl) ?_
       refine RunQ.off rfl rfl rfl h15 rfl (lt rfl) ?_
       refine RunQ.off rfl rfl rfl h15 rfl (lt rfl) ?_
       refine RunQ.off rfl rfl rfl h15 rfl (lt rfl) ?_
       refine RunQ.off rfl rfl rfl h15 rfl (lt rfl) ?_
       refine RunQ.off rfl rfl rfl h15 rfl (lt rfl) ?_
       refine RunQ.off rfl rfl rfl h15 rfl (lt rfl) ?_
       refine RunQ.off rfl rfl rfl h15 rfl (lt rfl) ?_
       refine RunQ.off rfl rfl rfl h15 rfl (lt rfl) ?_
       refine RunQ.val (lt rfl) (Y.pick_f rfl h15 rfl) ?_
       refine RunQ.to_end ?_
       refine Ex.go ?_
       refine Tr.cond_f rfl rfl ?_
       refine Tr.to_end ?_
       refine Ex.go ?_
       refine Tr.seq ?_
       refine Tr.region ?_
       refine Run.val (lt rfl) (Y.move rfl) ?_
       refine Run.val (lt rfl) (Y.move rfl) ?_
       refine Run.val (lt rfl) (Y.move rfl) ?_
       refine Run.val (lt rfl) (Y.move rfl) ?_
       refine Run.val (lt rfl) (Y.move rfl) ?_
       refine Run.call [0] (l := [.tmp 106, .tmp 107, .tmp 108, .tmp 109, .tmp 110]) rfl rfl rfl (lt rfl) (part_r (x := a) (y := e) (p := p2) hN i4.sz (by omega) (by omega) i4.bn hcmp hswo) (fun v V2 H2 hle hR => ?_)
       obtain ⟨mid, ap, d4, hpe⟩ : ∃ m k q, partition (ltc cm) d3 a e p2 = (m, k, q) := ⟨_, _, _, rfl⟩
       rw [hpe] at hR; dsimp only at hR
       obtain ⟨hV, rfl, rfl⟩ := hR; replace hV := hV.symm; subst hV
       refine Run.heapTo (H' := [sgD Rg.cells 53 b rest d4]) rfl ?_
       obtain ⟨w1, w2, w3, w4, w5, w6, w7⟩ := i4.part hswo (by omega) (by omega) hpe
       refine Run.val (lt rfl) (Y.move rfl) ?_
       refine Run.val (lt rfl) (Y.extract rfl rfl) ?_
       refine Run.val (lt rfl) (Y.extract rfl rfl) ?_
       refine Run.val (lt rfl) (Y.assign rfl) ?_
       refine Run.val (lt rfl) (Y.assign rfl) ?_
       refine Run.to_end ?_
       refine Ex.go ?_
       refine Tr.seq ?_
       refine Tr.region ?_
       refine Run.val (lt rfl) (Y.move rfl) ?_
       refine Run.val (lt rfl) (Y.assign rfl) ?_
       refine Run.to_end ?_
       refine Ex.go ?_
       refine Tr.seq ?_
       refine Tr.region ?_
       refine Run.val (lt rfl) (Y.move rfl) ?_
       refine Run.val (lt rfl) (Y.move rfl) ?_
       refine Run.val (lt rfl) (Y.subN ((mid - a : Nat) : Int) rfl rfl (by omega) (by omega)) ?_
       refine Run.val (lt rfl) (Y.move rfl) ?_
       refine Run.val (lt rfl) (Y.move rfl) ?_
       refine Run.val (lt rfl) (Y.subN ((e - mid : Nat) : Int) rfl rfl (by omega) (by omega)) ?_
       refine Run.val (lt rfl) (Y.assign rfl) ?_
       refine Run.val (lt rfl) (Y.assign rfl) ?_
       refine Run.to_end ?_
       refine Ex.go ?_
       refine Tr.seq ?_
       refine Tr.region ?_
       refine Run.val (lt rfl) (Y.move rfl) ?_
       refine Run.val (lt rfl) (Y.quoN (m := e - a) (n := 8) rfl rfl (by omega) (by omega)) ?_
       refine Run.val (lt rfl) (Y.assign rfl) ?_
       refine Run.to_end ?_
       refine Ex.go ?_
       refine Tr.seq ?_
       refine Tr.region ?_
       refine Run.val (lt rfl) (Y.move rfl) ?_
       refine Run.val (lt rfl) (Y.move rfl) ?_
       refine Run.val (lt rfl) (Y.int rfl rfl rfl) ?_
       refine Run.to_end ?_
       refine Ex.go ?_
       rcases Bool.eq_false_or_eq_true (decide (((mid - a : Nat) : Int) < ((e - mid : Nat) : Int))) with h18 | h18
       ·have g18 := h18
        try simp only [kb] at g18
        refine Tr.cond_t rfl h18 ?_
        refine Tr.seq ?_
        refine Tr.region ?_
        refine Run.val (lt rfl) (Y.move rfl) ?_
        refine Run.val (lt rfl) (Y.move rfl) ?_
        refine Run.val (lt rfl) (Y.int rfl rfl rfl) ?_
        refine Run.val (lt rfl) (Y.assign rfl) ?_
        refine Run.to_end ?_
        refine Ex.go ?_
        refine Tr.seq ?_
        refine Tr.region ?_
        refine Run.val (lt rfl) (Y.move rfl) ?_
        refine Run.val (lt rfl) (Y.move rfl) ?_
        refine Run.val (lt rfl) (Y.move rfl) ?_
        refine Run.val (lt rfl) (Y.move rfl) ?_
        refine Run.val (lt rfl) (Y.move rfl) ?_
        refine Run.call [0] (l := [.tmp 129, .tmp 130, .tmp 131, .tmp 132, .tmp 133]) rfl rfl rfl (lt rfl) (ih d4 (a) (mid) m1 (by have := i4.len; omega) (by omega) (by have := i4.bn; omega) w3 w4 hm1) (fun v V2 H2 hle hR => ?_)
        obtain ⟨hV, rfl, d5, hp5, hs5, rfl⟩ := hR; replace hV := hV.symm; subst hV
        refine Run.heapTo (H' := [sgD Rg.cells 53 b rest d5]) rfl ?_
        have i5 := w6 d5 hp5 hs5
        refine Run.to_end ?_
        refine Ex.go ?_
        refine Tr.region ?_
        refine Run.val (lt rfl) (Y.move rfl) ?_
        refine Run.val (lt rfl) (Y.addN ((mid + 1 : Nat) : Int) rfl rfl (by omega) (by omega)) ?_
        refine Run.val (lt rfl) (Y.assign rfl) ?_
        refine Run.to_end ?_
        refine Ex.end_block ?_
        exact Ex.round (⟨mid + 1, e, m1, decide (((mid - a : Nat) : Int) ≥ (((e - a) / 8 : Nat) : Int)), ap, d5⟩ : Nat × Nat × Nat × Bool × Bool × Array Rg) ⟨i5, hm1⟩ (by dsimp only; omega) rfl rfl (subB_cons (by first | rfl | exact congrArg (fun z => some (Value.int _ z)) (by omega)) (subB_cons (by first | rfl | exact congrArg (fun z => some (Value.int _ z)) (by omega)) (subB_cons (by first | rfl | exact congrArg (fun z => some (Value.int _ z)) (by omega)) (subB_cons (by first | rfl | exact congrArg (fun z => some (Value.int _ z)) (by omega)) (subB_cons (by first | rfl | exact congrArg (fun z => some (Value.int _ z)) (by omega)) (subB_cons (by first | rfl | exact congrArg (fun z => some (Value.int _ z)) (by omega)) (subB_cons (by first | rfl | exact congrArg (fun z => some (Value.int _ z)) (by omega)) (subB_nil _))))))))
       ·have g18 := h18
        try simp only [kb] at g18
        refine Tr.cond_f rfl h18 ?_
        refine Tr.seq ?_
        refine Tr.region ?_
        refine Run.val (lt rfl) (Y.move rfl) ?_
        refine Run.val (lt rfl) (Y.move rfl) ?_
        refine Run.val (lt rfl) (Y.int rfl rfl rfl) ?_
        refine Run.val (lt rfl) (Y.assign rfl) ?_
        refine Run.to_end ?_
        refine Ex.go ?_
        refine Tr.seq ?_
        refine Tr.region ?_
        refine Run.val (lt rfl) (Y.move rfl) ?_
        refine Run.val (lt rfl) (Y.move rfl) ?_
        refine Run.val (lt rfl) (Y.addN ((mid + 1 : Nat) : Int) rfl rfl (by omega) (by omega)) ?_
        refine Run.val (lt rfl) (Y.move rfl) ?_
        refine Run.val (lt rfl) (Y.move rfl) ?_
        refine Run.val (lt rfl) (Y.move rfl) ?_
        refine Run.call [0] (l := [.tmp 140, .tmp 142, .tmp 143, .tmp 144, .tmp 145]) rfl rfl rfl (lt rfl) (ih d4 (mid + 1) (e) m1 (by have := i4.len; omega) (by omega) (by have := i4.bn; omega) w3 w5 hm1) (fun v V2 H2 hle hR => ?_)
        obtain ⟨hV, rfl, d5, hp5, hs5, rfl⟩ := hR; replace hV := hV.symm; subst hV
        refine Run.heapTo (H' := [sgD Rg.cells 53 b rest d5]) rfl ?_
        have i5 := w7 d5 hp5 hs5
        refine Run.to_end ?_
        refine Ex.go ?_
        refine Tr.region ?_
        refine Run.val (lt rfl) (Y.move rfl) ?_
        refine Run.val (lt rfl) (Y.assign rfl) ?_
        refine Run.to_end ?_
        refine Ex.end_block ?_
        exact Ex.round (⟨a, mid, m1, decide (((e - mid : Nat) : Int) ≥ (((e - a) / 8 : Nat) : Int)), ap, d5⟩ : Nat × Nat × Nat × Bool × Bool × Array Rg) ⟨i5, hm1⟩ (by dsimp only; omega) rfl rfl (subB_cons (by first | rfl | exact congrArg (fun z => some (Value.int _ z)) (by omega)) (subB_cons (by first | rfl | exact congrArg (fun z => some (Value.int _ z)) (by omega)) (subB_cons (by first | rfl | exact congrArg (fun z => some (Value.int _ z)) (by omega)) (subB_cons (by first | rfl | exact congrArg (fun z => some (Value.int _ z)) (by omega)) (subB_cons (by first | rfl | exact congrArg (fun z => some (Value.int _ z)) (by omega)) (subB_cons (by first | rfl | exact congrArg (fun z => some (Value.int _ z)) (by omega)) (subB_cons (by first | rfl | exact congrArg (fun z => some (Value.int _ z)) (by omega)) (subB_nil _))))))))

theorem pdq_r {V : Vw} {n c b : Nat} {rest : List Value} {d0 : Array Rg} {gf : FuncId} {caps : List Value} {cm : Rg → Rg → Int}  (hN : n ≤ 1073741824) (hd : d0.size = n) {x y l : Nat} (hxy : x ≤ y) (hy : y ≤ n) (hB : Below (ltc cm) x y d0) (hl : l ≤ 1000)  (hcmp : ∀ x y : Rg, Does Try.prog gf (.agg (Rg.cells x).toArray :: .agg (Rg.cells y).toArray :: caps) V [] (Pv (.int .i64 (cm x y)) V [])) (hswo : SWO (ltc cm)) : Does Try.prog 143 [.slice (some ⟨b, 0, none⟩) n c, .int .i64 ((x : Nat) : Int), .int .i64 ((y : Nat) : Int), .int .i64 ((l : Nat) : Int), .func (.func gf) #[] caps.toArray] V [sgD Rg.cells 53 b rest d0] (fun v V' H' => V' = V ∧ v = .tuple #[] ∧ ∃ d1, PermIn x y d0 d1 ∧ SortedIn (ltc cm) x y d1 ∧ H' = [sgD Rg.cells 53 b rest d1]) := by
  obtain ⟨k, hk⟩ : ∃ k, y - x = k := ⟨_, rfl⟩
  induction k using Nat.strongRecOn generalizing x y l d0 with
  | _ k ih => exact pdq1_r hN hd hxy hy hB hl (fun d x2 y2 l2 h1 h2 h3 h4 h5 h6 => ih (y2 - x2) (by omega) h4 h2 h3 h5 h6 rfl) hcmp hswo
end Go.Proofs.Ytjfacdepgkdoeaa
