/- The law PoolOwn, walked.
Conditions: as each theorem names them. -/
import Derived.Test.YtjfacdepgkdoeaaProg
import Derived.Test.YtjfacdepgkdoeaaL3
import Derived.Test.YtjfacdepgkdoeaaChosen
set_option linter.unusedSimpArgs false
set_option linter.unusedVariables false
set_option maxRecDepth 4000
namespace Go.Proofs.Ytjfacdepgkdoeaa
open Go Go.K
attribute [local irreducible] Code.wp wpList Calls wpQuiet
theorem Own_es24 : elemS Try.prog 24 = some (39, 8) := by kernel_rfl
theorem Own_fo39_0 : fieldOff Try.prog 39 0 = some 0 := by kernel_rfl
theorem Own_ts37 : scal Try.prog 37 = true := by kernel_rfl
theorem Own_mt35 : mapT Try.prog 35 = some (.u32, 37, 4) := by kernel_rfl
theorem Own_zo4 : zeroOf Try.prog 4 = some (.bool false) := by kernel_rfl
theorem Own_ag23 : aggsz Try.prog 23 = some 2 := by kernel_rfl
theorem Own_zo27 : zeroOf Try.prog 27 = some (.agg #[.float .f64 0, .float .f64 0]) := by kernel_rfl
theorem Own_zo28 : zeroOf Try.prog 28 = some (.agg #[.float .f64 0, .float .f64 0]) := by kernel_rfl
theorem Own_sz27 : sizeT Try.prog 27 = some 2 := by kernel_rfl
theorem Own_sz28 : sizeT Try.prog 28 = some 2 := by kernel_rfl
theorem Own_ag27 : aggsz Try.prog 27 = some 2 := by kernel_rfl
theorem Own_es32 : elemS Try.prog 32 = some (37, 1) := by kernel_rfl
theorem Own_mo : Try.prog.follows .mixedOrders = true := by kernel_rfl
theorem Own_fo39_1 : fieldOff Try.prog 39 1 = some 1 := by kernel_rfl
theorem Own_ts3 : scal Try.prog 3 = true := by kernel_rfl

theorem own_c0 {V : Vw} {l : List Le} {p : Option Addr} {c : Nat} (hv : Rd V [] 8 (.slice p l.length c) l.length (l.map Le.cells).flatten) {y s : Nat}  : Does Try.prog 4 [.agg #[.float .f64 y, .float .f64 s], .int .i64 0, .slice p l.length c] V [] (fun v _ _ => v = .bool true) := by
 refine Does.intro Try.func4 rfl rfl (le rfl) (fun B => ?_)
 refine Tr.seq ?_
 refine Tr.region ?_
 refine Run.box rfl (lt rfl) (fun b1 => ?_)
 refine Run.val (lt rfl) (Y.assign rfl) ?_
 refine Run.to_end ?_
 refine Ex.go ?_
 refine Tr.seq ?_
 refine Tr.region ?_
 refine Run.call0 (l := []) rfl rfl rfl (lt rfl) awake17_h ?_
 refine Run.val (lt rfl) (Y.assign rfl) ?_
 refine Run.to_end ?_
 refine Ex.go ?_
 refine Tr.seq ?_
 refine Tr.seq ?_
 refine Tr.region ?_
 refine Run.val (lt rfl) (Y.move rfl) ?_
 refine Run.val (lt rfl) (Y.not rfl) ?_
 refine Run.val (lt rfl) (Y.move rfl) ?_
 refine Run.on rfl rfl rfl rfl ?_
 refine Run.val (lt rfl) (Y.move rfl) ?_
 refine Run.on rfl rfl rfl rfl ?_
 refine Run.val (lt rfl) (Y.lenSl rfl Own_es24) ?_
 refine Run.on rfl rfl rfl rfl ?_
 refine Run.val (lt rfl) (Y.int rfl rfl rfl) ?_
 refine Run.val (lt rfl) (Y.pick_f rfl rfl rfl) ?_
 refine Run.val (lt rfl) (Y.move rfl) ?_
 rcases Bool.eq_false_or_eq_true (decide (((l.length : Nat) : Int) > 300)) with h2 | h2
 ·have g2 := h2
  try simp only [kb] at g2
  refine Run.off rfl rfl rfl h2 rfl (lt rfl) ?_
  refine Run.off rfl rfl rfl h2 rfl (lt rfl) ?_
  refine Run.val (lt rfl) (Y.pick_t rfl h2 rfl) ?_
  refine Run.val (lt rfl) (Y.move rfl) ?_
  refine Run.off rfl rfl rfl rfl rfl (lt rfl) ?_
  refine Run.off rfl rfl rfl rfl rfl (lt rfl) ?_
  refine Run.val (lt rfl) (Y.pick_t rfl rfl rfl) ?_
  refine Run.to_end ?_
  refine Ex.go ?_
  refine Tr.cond_t rfl rfl ?_
  refine Tr.seq ?_
  refine Tr.region ?_
  refine Run.val (lt rfl) (Y.move rfl) ?_
  refine Run.val (lt rfl) (Y.assign rfl) ?_
  refine Run.to_end ?_
  refine Ex.go ?_
  refine Tr.to_ret ?_
  refine Ex.ret_then ?_
  refine Ex.keep [] ?_
  exact Ex.ret1 rfl rfl  rfl
 ·have g2 := h2
  try simp only [kb] at g2
  refine Run.on rfl rfl rfl h2 ?_
  refine Run.val (lt rfl) (Y.move rfl) ?_
  refine Run.on rfl rfl rfl h2 ?_
  refine Run.val (lt rfl) (Y.int (r := .bool false) rfl rfl rfl) ?_
  refine Run.val (lt rfl) (Y.pick_f rfl h2 rfl) ?_
  refine Run.val (lt rfl) (Y.move rfl) ?_
  refine Run.on rfl rfl rfl rfl ?_
  refine Run.val (lt rfl) (Y.move rfl) ?_
  refine Run.on rfl rfl rfl rfl ?_
  refine Run.val (lt rfl) (Y.int (r := .bool false) rfl rfl rfl) ?_
  refine Run.val (lt rfl) (Y.pick_f rfl rfl rfl) ?_
  refine Run.to_end ?_
  refine Ex.go ?_
  refine Tr.cond_f rfl rfl ?_
  refine Tr.to_end ?_
  refine Ex.go ?_
  refine Tr.seq ?_
  refine Tr.region ?_
  refine Run.makeMap .u32 (lt rfl) (fun v3 s4 hm5 => ?_)
  refine Run.val (lt rfl) (Y.assign rfl) ?_
  refine Run.to_end ?_
  refine Ex.go ?_
  refine Tr.seq ?_
  refine Tr.seq ?_
  refine Tr.region ?_
  refine Run.val (lt rfl) (Y.assign rfl) ?_
  refine Run.to_end ?_
  refine Ex.go ?_
  refine Tr.block ?_
  refine Tr.loop (X := Nat × Sg) (fun z0 => V) (fun z0 => [z0.2, [(b1, .cells #[.float .f64 y, .float .f64 s] 23 (0, 0))]]) (fun z0 => [(1, .int .i64 0), (2, .slice p l.length c), (3, .pointer (some ⟨b1, 0, none⟩)), (8, v3), (9, .int .i64 (z0.1 : Int))]) (fun z0 => Om .u32 v3 (yes (Le.adrs (l.take z0.1))) z0.2 ∧ (Le.adrs (l.take z0.1)).Nodup ∧ z0.1 ≤ l.length) (fun z0 => l.length - z0.1) (⟨0, s4⟩ : Nat × Sg) ⟨hm5, List.nodup_nil, Nat.zero_le _⟩ (fun a w i => ⟨i.1.sub (subB_cons (by first | rfl | exact congrArg (fun z => some (Value.int _ z)) (by omega)) (subB_cons (by first | rfl | exact congrArg (fun z => some (Value.int _ z)) (by omega)) (subB_cons (by first | rfl | exact congrArg (fun z => some (Value.int _ z)) (by omega)) (subB_cons (by first | rfl | exact congrArg (fun z => some (Value.int _ z)) (by omega)) (subB_cons (by first | rfl | exact congrArg (fun z => some (Value.int _ z)) (by omega)) (subB_nil _)))))), i.2⟩) ?_
  rintro ⟨i1, s1⟩ ⟨hm, hnd, hi⟩
  try dsimp only at hm hnd hi ⊢
  refine Tr.seq ?_
  refine Tr.seq ?_
  refine Tr.region ?_
  refine Run.val (lt rfl) (Y.move rfl) ?_
  refine Run.val (lt rfl) (Y.move rfl) ?_
  refine Run.val (lt rfl) (Y.lenSl rfl Own_es24) ?_
  refine Run.val (lt rfl) (Y.int rfl rfl rfl) ?_
  refine Run.to_end ?_
  refine Ex.go ?_
  rcases Bool.eq_false_or_eq_true (decide ((i1 : Int) < ((l.length : Nat) : Int))) with h6 | h6
  ·have g6 := h6
   try simp only [kb] at g6
   refine Tr.cond_t rfl h6 ?_
   refine Tr.to_end ?_
   refine Ex.go ?_
   refine Tr.seq ?_
   refine Tr.block ?_
   refine Tr.seq ?_
   refine Tr.seq ?_
   refine Tr.region ?_
   refine Run.val (lt rfl) (Y.move rfl) ?_
   refine Run.val (lt rfl) (Y.move rfl) ?_
   refine Run.val (lt rfl) (Y.move rfl) ?_
   refine Run.val (lt rfl) (Y.idxR i1 rfl rfl Own_es24 hv.of_nil (by omega) (by omega)) ?_
   refine Run.val (lt rfl) (Y.fieldR rfl Own_fo39_0 hv.of_nil (by omega)) ?_
   refine Run.val (lt rfl) (Y.ldR rfl Own_ts37 hv.of_nil (rows_at Le.len (by omega) Le.dflt (by decide) rfl)) ?_
   refine Run.val (lt rfl) (Y.lookup rfl rfl Own_mt35 Own_zo4 hm (j := 0) rfl (yes_look (Le.adrs (l.take i1)) ((l.getD i1 Le.dflt).addr))) ?_
   refine Run.to_end ?_
   refine Ex.go ?_
   rcases Bool.eq_false_or_eq_true (List.contains (Le.adrs (l.take i1)) ((l.getD i1 Le.dflt).addr)) with h7 | h7
   ·have g7 := h7
    try simp only [kb] at g7
    refine Tr.cond_t rfl h7 ?_
    refine Tr.seq ?_
    refine Tr.region ?_
    refine Run.val (lt rfl) (Y.assign rfl) ?_
    refine Run.to_end ?_
    refine Ex.go ?_
    refine Tr.to_ret ?_
    refine Ex.ret_then ?_
    refine Ex.ret_block ?_
    refine Ex.ret_then ?_
    refine Ex.ret_then ?_
    refine Ex.ret_block ?_
    refine Ex.ret_then ?_
    refine Ex.keep [] ?_
    exact Ex.ret1 rfl rfl  rfl
   ·have g7 := h7
    try simp only [kb] at g7
    refine Tr.cond_f rfl h7 ?_
    refine Tr.to_end ?_
    refine Ex.go ?_
    refine Tr.region ?_
    refine Run.val (lt rfl) (Y.move rfl) ?_
    refine Run.val (lt rfl) (Y.move rfl) ?_
    refine Run.val (lt rfl) (Y.move rfl) ?_
    refine Run.val (lt rfl) (Y.idxR i1 rfl rfl Own_es24 hv.of_nil (by omega) (by omega)) ?_
    refine Run.val (lt rfl) (Y.fieldR rfl Own_fo39_0 hv.of_nil (by omega)) ?_
    refine Run.val (lt rfl) (Y.ldR rfl Own_ts37 hv.of_nil (rows_at Le.len (by omega) Le.dflt (by decide) rfl)) ?_
    refine Run.mapUpdate 0 rfl rfl rfl Own_mt35 hm rfl (fun s8 hm9 => ?_)
    refine Run.heapTo (H' := [s8, [(b1, .cells #[.float .f64 y, .float .f64 s] 23 (0, 0))]]) rfl ?_
    refine Run.to_end ?_
    refine Ex.end_block ?_
    refine Ex.go ?_
    refine Tr.region ?_
    refine Run.val (lt rfl) (Y.move rfl) ?_
    refine Run.val (lt rfl) (Y.add rfl rfl (by omega)) ?_
    refine Run.val (lt rfl) (Y.assign rfl) ?_
    refine Run.to_end ?_
    refine Ex.keep [0, 0] ?_
    exact Ex.round (⟨i1 + 1, s8⟩ : Nat × Sg) ⟨by rw [Le.adrs_take (by omega), ← yes_push h7]; exact hm9, by rw [Le.adrs_take (by omega)]; exact nodup_snoc hnd h7, by omega⟩ (by dsimp only; omega) rfl rfl (subB_cons (by first | rfl | exact congrArg (fun z => some (Value.int _ z)) (by omega)) (subB_cons (by first | rfl | exact congrArg (fun z => some (Value.int _ z)) (by omega)) (subB_cons (by first | rfl | exact congrArg (fun z => some (Value.int _ z)) (by omega)) (subB_cons (by first | rfl | exact congrArg (fun z => some (Value.int _ z)) (by omega)) (subB_cons (by first | rfl | exact congrArg (fun z => some (Value.int _ z)) (by omega)) (subB_nil _))))))
  ·have g6 := h6
   try simp only [kb] at g6
   refine Tr.cond_f rfl h6 ?_
   refine Tr.to_exit ?_
   refine Ex.exit_then ?_
   refine Ex.exit_then ?_
   refine Ex.exit_in ?_
   refine Ex.go ?_
   refine Tr.seq ?_
   refine Tr.region ?_
   refine Run.val (lt rfl) (Y.loadAgg rfl Own_ag23 (Kn.at 1 rfl) rfl) ?_
   refine Run.call0 (l := [.tmp 56]) rfl rfl rfl (lt rfl) plans_h ?_
   refine Run.val (lt rfl) (Y.move rfl) ?_
   refine Run.val (lt rfl) (Y.extract rfl rfl) ?_
   refine Run.val (lt rfl) (Y.extract rfl rfl) ?_
   refine Run.alloc Own_zo27 (lt rfl) (fun b10 => ?_)
   refine Run.alloc Own_zo28 (lt rfl) (fun b11 => ?_)
   refine Run.store (s := [(b10, .cells #[.float .f64 y, .float .f64 s] 27 (0, 0))]) rfl rfl Own_sz27 (i := 1) rfl rfl (le rfl) rfl rfl ?_
   refine Run.store (s := [(b11, .cells #[.float .f64 y, .float .f64 s] 28 (0, 0))]) rfl rfl Own_sz28 (i := 0) rfl rfl (le rfl) rfl rfl ?_
   refine Run.to_end ?_
   refine Ex.go ?_
   refine Tr.seq ?_
   refine Tr.region ?_
   refine Run.val (lt rfl) (Y.loadAgg rfl Own_ag27 (Kn.at 1 rfl) rfl) ?_
   refine Run.val (lt rfl) (Y.move rfl) ?_
   refine Run.val (lt rfl) (Y.move rfl) ?_
   obtain rfl : i1 = l.length := by omega
   rw [List.take_length] at hnd
   clear hm
   refine Run.call [] (l := [.tmp 60, .tmp 61, .tmp 62]) rfl rfl rfl (lt rfl) (chosen_c hv (by omega)) (fun vg Vg Hg hleg hR => ?_)
   obtain ⟨_, rfl, hrg⟩ := hR
   obtain ⟨pg, cg, rfl, _⟩ := hrg.form
   replace hv := hv.le hleg
   have hgl := Le.chosen_len 0 l y s
   refine Run.heapTo (H' := [[(b11, .cells #[.float .f64 y, .float .f64 s] 28 (0, 0))], [(b10, .cells #[.float .f64 y, .float .f64 s] 27 (0, 0))], s1, [(b1, .cells #[.float .f64 y, .float .f64 s] 23 (0, 0))]]) rfl ?_
   refine Run.heapTo (H' := [[(b11, .cells #[.float .f64 y, .float .f64 s] 28 (0, 0))], [(b10, .cells #[.float .f64 y, .float .f64 s] 27 (0, 0))], s1, [(b1, .cells #[.float .f64 y, .float .f64 s] 23 (0, 0))]]) rfl ?_
   refine Run.val (lt rfl) (Y.assign rfl) ?_
   refine Run.to_end ?_
   refine Ex.go ?_
   refine Tr.seq ?_
   refine Tr.region ?_
   refine Run.makeMap .u32 (lt rfl) (fun v12 s13 hm14 => ?_)
   refine Run.val (lt rfl) (Y.assign rfl) ?_
   refine Run.to_end ?_
   refine Ex.go ?_
   refine Tr.seq ?_
   refine Tr.seq ?_
   refine Tr.region ?_
   refine Run.keepTo (H' := [s13]) [0] rfl ?_
   refine Run.val (lt rfl) (Y.assign rfl) ?_
   refine Run.to_end ?_
   refine Ex.go ?_
   refine Tr.block ?_
   refine Tr.loop (X := Nat × Sg) (fun z0 => Vg) (fun z0 => [z0.2]) (fun z0 => [(1, .int .i64 0), (2, .slice p l.length c), (12, .slice pg (Le.chosen 0 l y s).length cg), (13, v12), (14, .int .i64 (z0.1 : Int))]) (fun z0 => Om .u32 v12 (yes ((Le.chosen 0 l y s).take z0.1)) z0.2 ∧ z0.1 ≤ (Le.chosen 0 l y s).length) (fun z0 => (Le.chosen 0 l y s).length - z0.1) (⟨0, s13⟩ : Nat × Sg) ⟨hm14, Nat.zero_le _⟩ (fun a w i => ⟨i.1.sub (subB_cons (by first | rfl | exact congrArg (fun z => some (Value.int _ z)) (by omega)) (subB_cons (by first | rfl | exact congrArg (fun z => some (Value.int _ z)) (by omega)) (subB_cons (by first | rfl | exact congrArg (fun z => some (Value.int _ z)) (by omega)) (subB_cons (by first | rfl | exact congrArg (fun z => some (Value.int _ z)) (by omega)) (subB_cons (by first | rfl | exact congrArg (fun z => some (Value.int _ z)) (by omega)) (subB_nil _)))))), i.2⟩) ?_
   rintro ⟨i2, s2⟩ ⟨hm2, hi2⟩
   try dsimp only at hm2 hi2 ⊢
   refine Tr.seq ?_
   refine Tr.seq ?_
   refine Tr.region ?_
   refine Run.val (lt rfl) (Y.move rfl) ?_
   refine Run.val (lt rfl) (Y.move rfl) ?_
   refine Run.val (lt rfl) (Y.lenSl rfl Own_es32) ?_
   refine Run.val (lt rfl) (Y.int rfl rfl rfl) ?_
   refine Run.to_end ?_
   refine Ex.go ?_
   rcases Bool.eq_false_or_eq_true (decide ((i2 : Int) < (((Le.chosen 0 l y s).length : Nat) : Int))) with h15 | h15
   ·have g15 := h15
    try simp only [kb] at g15
    refine Tr.cond_t rfl h15 ?_
    refine Tr.to_end ?_
    refine Ex.go ?_
    refine Tr.seq ?_
    refine Tr.block ?_
    refine Tr.seq ?_
    refine Tr.seq ?_
    refine Tr.quiet Own_mo (by kernel_rfl) ?_
    refine RunQ.val (lt rfl) (Y.move rfl) ?_
    refine RunQ.val (lt rfl) (Y.int rfl rfl rfl) ?_
    refine RunQ.val (lt rfl) (Y.move rfl) ?_
    rcases Bool.eq_false_or_eq_true (decide ((i2 : Int) > 0)) with h16 | h16
    ·have g16 := h16
     try simp only [kb] at g16
     refine RunQ.on rfl rfl rfl h16 ?_
     refine RunQ.val (lt rfl) (Y.move rfl) ?_
     refine RunQ.on rfl rfl rfl h16 ?_
     refine RunQ.val (lt rfl) (Y.move rfl) ?_
     refine RunQ.on rfl rfl rfl h16 ?_
     refine RunQ.val (lt rfl) (Y.idxR i2 rfl rfl Own_es32 hrg.of_nil (by omega) (by omega)) ?_
     refine RunQ.on rfl rfl rfl h16 ?_
     refine RunQ.val (lt rfl) (Y.ldR rfl Own_ts37 hrg.of_nil (flatm_at0 nU_enc.len (by omega) 0 (by decide) rfl)) ?_
     refine RunQ.on rfl rfl rfl h16 ?_
     refine RunQ.val (lt rfl) (Y.move rfl) ?_
     refine RunQ.on rfl rfl rfl h16 ?_
     refine RunQ.val (lt rfl) (Y.move rfl) ?_
     refine RunQ.on rfl rfl rfl h16 ?_
     refine RunQ.val (lt rfl) (Y.sub rfl rfl (by omega)) ?_
     refine RunQ.on rfl rfl rfl h16 ?_
     refine RunQ.val (lt rfl) (Y.idxR (i2 - 1) rfl rfl Own_es32 hrg.of_nil (by omega) (by omega)) ?_
     refine RunQ.on rfl rfl rfl h16 ?_
     refine RunQ.val (lt rfl) (Y.ldR rfl Own_ts37 hrg.of_nil (flatm_at0 nU_enc.len (by omega) 0 (by decide) rfl)) ?_
     refine RunQ.on rfl rfl rfl h16 ?_
     refine RunQ.val (lt rfl) (Y.int rfl rfl rfl) ?_
     refine RunQ.val (lt rfl) (Y.pick_t rfl h16 rfl) ?_
     refine RunQ.to_end ?_
     refine Ex.go ?_
     rcases Bool.eq_false_or_eq_true (decide (((Le.chosen 0 l y s).getD i2 0) ≤ ((Le.chosen 0 l y s).getD (i2 - 1) 0))) with h17 | h17
     ·have g17 := h17
      try simp only [kb] at g17
      refine Tr.cond_t rfl h17 ?_
      refine Tr.seq ?_
      refine Tr.region ?_
      refine Run.val (lt rfl) (Y.assign rfl) ?_
      refine Run.to_end ?_
      refine Ex.go ?_
      refine Tr.to_ret ?_
      refine Ex.ret_then ?_
      refine Ex.ret_block ?_
      refine Ex.ret_then ?_
      refine Ex.ret_then ?_
      refine Ex.ret_block ?_
      refine Ex.ret_then ?_
      refine Ex.keep [] ?_
      exact Ex.ret1 rfl rfl  (absurd (Le.chosen_lt (b := 0) (l := l) (y := y) (s := s) (by decide) hnd (i := i2 - 1) (by omega)) (by rw [show i2 - 1 + 1 = i2 by omega]; omega))
     ·have g17 := h17
      try simp only [kb] at g17
      refine Tr.cond_f rfl h17 ?_
      refine Tr.to_end ?_
      refine Ex.go ?_
      refine Tr.region ?_
      refine Run.val (lt rfl) (Y.move rfl) ?_
      refine Run.val (lt rfl) (Y.move rfl) ?_
      refine Run.val (lt rfl) (Y.move rfl) ?_
      refine Run.val (lt rfl) (Y.idxR i2 rfl rfl Own_es32 hrg.of_nil (by omega) (by omega)) ?_
      refine Run.val (lt rfl) (Y.ldR rfl Own_ts37 hrg.of_nil (flatm_at0 nU_enc.len (by omega) 0 (by decide) rfl)) ?_
      refine Run.mapUpdate 0 rfl rfl rfl Own_mt35 hm2 rfl (fun s18 hm19 => ?_)
      refine Run.heapTo (H' := [s18]) rfl ?_
      refine Run.to_end ?_
      refine Ex.end_block ?_
      refine Ex.go ?_
      refine Tr.region ?_
      refine Run.val (lt rfl) (Y.move rfl) ?_
      refine Run.val (lt rfl) (Y.add rfl rfl (by omega)) ?_
      refine Run.val (lt rfl) (Y.assign rfl) ?_
      refine Run.to_end ?_
      refine Ex.keep [0] ?_
      exact Ex.round (⟨i2 + 1, s18⟩ : Nat × Sg) ⟨by rw [take_succ_getD _ i2 0 (by omega), ← yes_push' (Le.chosen_new (by decide) hnd (by omega))]; exact hm19, by omega⟩ (by dsimp only; omega) rfl rfl (subB_cons (by first | rfl | exact congrArg (fun z => some (Value.int _ z)) (by omega)) (subB_cons (by first | rfl | exact congrArg (fun z => some (Value.int _ z)) (by omega)) (subB_cons (by first | rfl | exact congrArg (fun z => some (Value.int _ z)) (by omega)) (subB_cons (by first | rfl | exact congrArg (fun z => some (Value.int _ z)) (by omega)) (subB_cons (by first | rfl | exact congrArg (fun z => some (Value.int _ z)) (by omega)) (subB_nil _))))))
    ·have g16 := h16
     try simp only [kb] at g16
     refine RunQ.off rfl rfl rfl h16 rfl (lt rfl) ?_
     refine RunQ.off rfl rfl rfl h16 rfl (lt rfl) ?_
     refine RunQ.off rfl rfl rfl h16 rfl (lt rfl) ?_
     refine RunQ.off rfl rfl rfl h16 rfl (lt rfl) ?_
     refine RunQ.off rfl rfl rfl h16 rfl (lt rfl) ?_
     refine RunQ.off rfl rfl rfl h16 rfl (lt rfl) ?_
     refine RunQ.off rfl rfl rfl h16 rfl (lt rfl) ?_
     refine RunQ.off rfl rfl rfl h16 rfl (lt rfl) ?_
     refine RunQ.off rfl rfl rfl h16 rfl (lt rfl) ?_
     refine RunQ.off rfl rfl rfl h16 rfl (lt rfl) ?_
     refine RunQ.val (lt rfl) (Y.pick_f rfl h16 rfl) ?_
     refine RunQ.to_end ?_
     refine Ex.go ?_
     refine Tr.cond_f rfl rfl ?_
     refine Tr.to_end ?_
     refine Ex.go ?_
     refine Tr.region ?_
     refine Run.val (lt rfl) (Y.move rfl) ?_
     refine Run.val (lt rfl) (Y.move rfl) ?_
     refine Run.val (lt rfl) (Y.move rfl) ?_
     refine Run.val (lt rfl) (Y.idxR i2 rfl rfl Own_es32 hrg.of_nil (by omega) (by omega)) ?_
     refine Run.val (lt rfl) (Y.ldR rfl Own_ts37 hrg.of_nil (flatm_at0 nU_enc.len (by omega) 0 (by decide) rfl)) ?_
     refine Run.mapUpdate 0 rfl rfl rfl Own_mt35 hm2 rfl (fun s20 hm21 => ?_)
     refine Run.heapTo (H' := [s20]) rfl ?_
     refine Run.to_end ?_
     refine Ex.end_block ?_
     refine Ex.go ?_
     refine Tr.region ?_
     refine Run.val (lt rfl) (Y.move rfl) ?_
     refine Run.val (lt rfl) (Y.add rfl rfl (by omega)) ?_
     refine Run.val (lt rfl) (Y.assign rfl) ?_
     refine Run.to_end ?_
     refine Ex.keep [0] ?_
     exact Ex.round (⟨i2 + 1, s20⟩ : Nat × Sg) ⟨by rw [take_succ_getD _ i2 0 (by omega), ← yes_push' (Le.chosen_new (by decide) hnd (by omega))]; exact hm21, by omega⟩ (by dsimp only; omega) rfl rfl (subB_cons (by first | rfl | exact congrArg (fun z => some (Value.int _ z)) (by omega)) (subB_cons (by first | rfl | exact congrArg (fun z => some (Value.int _ z)) (by omega)) (subB_cons (by first | rfl | exact congrArg (fun z => some (Value.int _ z)) (by omega)) (subB_cons (by first | rfl | exact congrArg (fun z => some (Value.int _ z)) (by omega)) (subB_cons (by first | rfl | exact congrArg (fun z => some (Value.int _ z)) (by omega)) (subB_nil _))))))
   ·have g15 := h15
    try simp only [kb] at g15
    refine Tr.cond_f rfl h15 ?_
    refine Tr.to_exit ?_
    refine Ex.exit_then ?_
    refine Ex.exit_then ?_
    refine Ex.exit_in ?_
    refine Ex.go ?_
    refine Tr.seq ?_
    refine Tr.region ?_
    refine Run.val (lt rfl) (Y.assign rfl) ?_
    refine Run.to_end ?_
    refine Ex.go ?_
    refine Tr.seq ?_
    refine Tr.seq ?_
    refine Tr.region ?_
    refine Run.val (lt rfl) (Y.assign rfl) ?_
    refine Run.to_end ?_
    refine Ex.go ?_
    refine Tr.block ?_
    refine Tr.loop (X := Nat) (fun z0 => Vg) (fun z0 => [s2]) (fun z0 => [(1, .int .i64 0), (2, .slice p l.length c), (12, .slice pg (Le.chosen 0 l y s).length cg), (13, v12), (15, .int .i64 ((Le.cnt 0 (Le.chosen 0 l y s) (l.take z0) : Nat) : Int)), (16, .int .i64 (z0 : Int))]) (fun z0 => z0 ≤ l.length) (fun z0 => l.length - z0) (0 : Nat) (Nat.zero_le _) (fun a w i => ⟨i.1.sub (subB_cons (by first | rfl | exact congrArg (fun z => some (Value.int _ z)) (by omega)) (subB_cons (by first | rfl | exact congrArg (fun z => some (Value.int _ z)) (by omega)) (subB_cons (by first | rfl | exact congrArg (fun z => some (Value.int _ z)) (by omega)) (subB_cons (by first | rfl | exact congrArg (fun z => some (Value.int _ z)) (by omega)) (subB_cons (by first | rfl | exact congrArg (fun z => some (Value.int _ z)) (by omega)) (subB_cons (by first | rfl | exact congrArg (fun z => some (Value.int _ z)) (by omega)) (subB_nil _))))))), i.2⟩) ?_
    rintro i3 hi3
    have hcl := Le.cnt_le 0 (Le.chosen 0 l y s) (l.take i3)
    rw [List.length_take] at hcl
    refine Tr.seq ?_
    refine Tr.seq ?_
    refine Tr.region ?_
    refine Run.val (lt rfl) (Y.move rfl) ?_
    refine Run.val (lt rfl) (Y.move rfl) ?_
    refine Run.val (lt rfl) (Y.lenSl rfl Own_es24) ?_
    refine Run.val (lt rfl) (Y.int rfl rfl rfl) ?_
    refine Run.to_end ?_
    refine Ex.go ?_
    rcases Bool.eq_false_or_eq_true (decide ((i3 : Int) < ((l.length : Nat) : Int))) with h22 | h22
    ·have g22 := h22
     try simp only [kb] at g22
     refine Tr.cond_t rfl h22 ?_
     refine Tr.to_end ?_
     refine Ex.go ?_
     refine Tr.seq ?_
     refine Tr.block ?_
     refine Tr.seq ?_
     refine Tr.region ?_
     refine Run.val (lt rfl) (Y.move rfl) ?_
     refine Run.val (lt rfl) (Y.move rfl) ?_
     refine Run.val (lt rfl) (Y.idxR i3 rfl rfl Own_es24 hv.of_nil (by omega) (by omega)) ?_
     refine Run.val (lt rfl) (Y.fieldR rfl Own_fo39_1 hv.of_nil (by omega)) ?_
     refine Run.val (lt rfl) (Y.ldR rfl Own_ts3 hv.of_nil (rows_at Le.len (by omega) Le.dflt (by decide) rfl)) ?_
     refine Run.val (lt rfl) (Y.int rfl rfl rfl) ?_
     refine Run.val (lt rfl) (Y.move rfl) ?_
     rcases Bool.eq_false_or_eq_true (((l.getD i3 Le.dflt).bind) == 0) with h23 | h23
     ·have g23 := h23
      try simp only [kb] at g23
      refine Run.on rfl rfl rfl h23 ?_
      refine Run.val (lt rfl) (Y.move rfl) ?_
      refine Run.on rfl rfl rfl h23 ?_
      refine Run.val (lt rfl) (Y.int (r := .bool true) rfl rfl rfl) ?_
      refine Run.val (lt rfl) (Y.pick_t rfl h23 rfl) ?_
      refine Run.val (lt rfl) (Y.move rfl) ?_
      refine Run.off rfl rfl rfl rfl rfl (lt rfl) ?_
      refine Run.off rfl rfl rfl rfl rfl (lt rfl) ?_
      refine Run.off rfl rfl rfl rfl rfl (lt rfl) ?_
      refine Run.off rfl rfl rfl rfl rfl (lt rfl) ?_
      refine Run.off rfl rfl rfl rfl rfl (lt rfl) ?_
      refine Run.off rfl rfl rfl rfl rfl (lt rfl) ?_
      refine Run.off rfl rfl rfl rfl rfl (lt rfl) ?_
      refine Run.off_u rfl rfl rfl rfl (lt rfl) ?_
      refine Run.off_u rfl rfl rfl rfl (lt rfl) ?_
      refine Run.off rfl rfl rfl rfl rfl (lt rfl) ?_
      refine Run.val (lt rfl) (Y.pick_t rfl rfl rfl) ?_
      refine Run.val (lt rfl) (Y.assign rfl) ?_
      refine Run.to_end ?_
      refine Ex.go ?_
      refine Tr.seq ?_
      refine Tr.seq ?_
      refine Tr.region ?_
      refine Run.val (lt rfl) (Y.move rfl) ?_
      refine Run.val (lt rfl) (Y.move rfl) ?_
      refine Run.val (lt rfl) (Y.move rfl) ?_
      refine Run.val (lt rfl) (Y.idxR i3 rfl rfl Own_es24 hv.of_nil (by omega) (by omega)) ?_
      refine Run.val (lt rfl) (Y.fieldR rfl Own_fo39_0 hv.of_nil (by omega)) ?_
      refine Run.val (lt rfl) (Y.ldR rfl Own_ts37 hv.of_nil (rows_at Le.len (by omega) Le.dflt (by decide) rfl)) ?_
      refine Run.val (lt rfl) (Y.lookup rfl rfl Own_mt35 Own_zo4 hm2 (j := 0) rfl (yes_look ((Le.chosen 0 l y s).take i2) ((l.getD i3 Le.dflt).addr))) ?_
      refine Run.val (lt rfl) (Y.move rfl) ?_
      rcases Bool.eq_false_or_eq_true (List.contains ((Le.chosen 0 l y s).take i2) ((l.getD i3 Le.dflt).addr)) with h24 | h24
      ·have g24 := h24
       try simp only [kb] at g24
       refine Run.on rfl rfl rfl h24 ?_
       refine Run.val (lt rfl) (Y.move rfl) ?_
       refine Run.val (lt rfl) (Y.pick_t rfl h24 rfl) ?_
       refine Run.to_end ?_
       refine Ex.go ?_
       refine Tr.cond_t rfl rfl ?_
       refine Tr.region ?_
       refine Run.val (lt rfl) (Y.move rfl) ?_
       refine Run.val (lt rfl) (Y.add rfl rfl (by omega)) ?_
       refine Run.val (lt rfl) (Y.assign rfl) ?_
       refine Run.to_end ?_
       refine Ex.go ?_
       refine Tr.seq ?_
       refine Tr.quiet Own_mo (by kernel_rfl) ?_
       refine RunQ.val (lt rfl) (Y.move rfl) ?_
       refine RunQ.val (lt rfl) (Y.move rfl) ?_
       refine RunQ.on rfl rfl rfl rfl ?_
       refine RunQ.val (lt rfl) (Y.move rfl) ?_
       refine RunQ.on rfl rfl rfl rfl ?_
       refine RunQ.val (lt rfl) (Y.move rfl) ?_
       refine RunQ.on rfl rfl rfl rfl ?_
       refine RunQ.val (lt rfl) (Y.move rfl) ?_
       refine RunQ.on rfl rfl rfl rfl ?_
       refine RunQ.val (lt rfl) (Y.idxR i3 rfl rfl Own_es24 hv.of_nil (by omega) (by omega)) ?_
       refine RunQ.on rfl rfl rfl rfl ?_
       refine RunQ.val (lt rfl) (Y.fieldR rfl Own_fo39_0 hv.of_nil (by omega)) ?_
       refine RunQ.on rfl rfl rfl rfl ?_
       refine RunQ.val (lt rfl) (Y.ldR rfl Own_ts37 hv.of_nil (rows_at Le.len (by omega) Le.dflt (by decide) rfl)) ?_
       refine RunQ.on rfl rfl rfl rfl ?_
       refine RunQ.val (lt rfl) (Y.lookup rfl rfl Own_mt35 Own_zo4 hm2 (j := 0) rfl (yes_look ((Le.chosen 0 l y s).take i2) ((l.getD i3 Le.dflt).addr))) ?_
       refine RunQ.on rfl rfl rfl rfl ?_
       refine RunQ.val (lt rfl) (Y.not rfl) ?_
       refine RunQ.val (lt rfl) (Y.pick_t rfl rfl rfl) ?_
       refine RunQ.val (lt rfl) (Y.move rfl) ?_
       refine RunQ.off rfl rfl rfl (congrArg Bool.not h24) rfl (lt rfl) ?_
       refine RunQ.off rfl rfl rfl (congrArg Bool.not h24) rfl (lt rfl) ?_
       refine RunQ.off rfl rfl rfl (congrArg Bool.not h24) rfl (lt rfl) ?_
       refine RunQ.val (lt rfl) (Y.pick_f rfl (congrArg Bool.not h24) rfl) ?_
       refine RunQ.val (lt rfl) (Y.move rfl) ?_
       refine RunQ.off rfl rfl rfl rfl rfl (lt rfl) ?_
       refine RunQ.off rfl rfl rfl rfl rfl (lt rfl) ?_
       refine RunQ.off rfl rfl rfl rfl rfl (lt rfl) ?_
       refine RunQ.off rfl rfl rfl rfl rfl (lt rfl) ?_
       refine RunQ.off rfl rfl rfl rfl rfl (lt rfl) ?_
       refine RunQ.off rfl rfl rfl rfl rfl (lt rfl) ?_
       refine RunQ.off rfl rfl rfl rfl rfl (lt rfl) ?_
       refine RunQ.off rfl rfl rfl rfl rfl (lt rfl) ?_
       refine RunQ.off rfl rfl rfl rfl rfl (lt rfl) ?_
       refine RunQ.val (lt rfl) (Y.pick_f rfl rfl rfl) ?_
       refine RunQ.to_end ?_
       refine Ex.go ?_
       refine Tr.cond_f rfl rfl ?_
       refine Tr.to_end ?_
       refine Ex.end_block ?_
       refine Ex.go ?_
       refine Tr.region ?_
       refine Run.val (lt rfl) (Y.move rfl) ?_
       refine Run.val (lt rfl) (Y.add rfl rfl (by omega)) ?_
       refine Run.val (lt rfl) (Y.assign rfl) ?_
       refine Run.to_end ?_
       refine Ex.keep [0] ?_
       have qc := Le.cnt_yes (b := 0) (g := Le.chosen 0 l y s) (l := l) (i := i3) (by omega) h23 (by have hc := h24; rw [List.take_of_length_le (by omega)] at hc; exact hc)
       exact Ex.round (i3 + 1 : Nat) (by omega) (by omega) rfl rfl (subB_cons (by first | rfl | exact congrArg (fun z => some (Value.int _ z)) (by omega) | exact congrArg (fun z => some (Value.int _ z)) (by omega)) (subB_cons (by first | rfl | exact congrArg (fun z => some (Value.int _ z)) (by omega) | exact congrArg (fun z => some (Value.int _ z)) (by omega)) (subB_cons (by first | rfl | exact congrArg (fun z => some (Value.int _ z)) (by omega) | exact congrArg (fun z => some (Value.int _ z)) (by omega)) (subB_cons (by first | rfl | exact congrArg (fun z => some (Value.int _ z)) (by omega) | exact congrArg (fun z => some (Value.int _ z)) (by omega)) (subB_cons (by first | rfl | exact congrArg (fun z => some (Value.int _ z)) (by omega) | exact congrArg (fun z => some (Value.int _ z)) (by omega)) (subB_cons (by first | rfl | exact congrArg (fun z => some (Value.int _ z)) (by omega) | exact congrArg (fun z => some (Value.int _ z)) (by omega)) (subB_nil _)))))))
      ·have g24 := h24
       try simp only [kb] at g24
       refine Run.off rfl rfl rfl h24 rfl (lt rfl) ?_
       refine Run.val (lt rfl) (Y.pick_f rfl h24 rfl) ?_
       refine Run.to_end ?_
       refine Ex.go ?_
       refine Tr.cond_f rfl rfl ?_
       refine Tr.to_end ?_
       refine Ex.go ?_
       refine Tr.seq ?_
       refine Tr.quiet Own_mo (by kernel_rfl) ?_
       refine RunQ.val (lt rfl) (Y.move rfl) ?_
       refine RunQ.val (lt rfl) (Y.move rfl) ?_
       refine RunQ.on rfl rfl rfl rfl ?_
       refine RunQ.val (lt rfl) (Y.move rfl) ?_
       refine RunQ.on rfl rfl rfl rfl ?_
       refine RunQ.val (lt rfl) (Y.move rfl) ?_
       refine RunQ.on rfl rfl rfl rfl ?_
       refine RunQ.val (lt rfl) (Y.move rfl) ?_
       refine RunQ.on rfl rfl rfl rfl ?_
       refine RunQ.val (lt rfl) (Y.idxR i3 rfl rfl Own_es24 hv.of_nil (by omega) (by omega)) ?_
       refine RunQ.on rfl rfl rfl rfl ?_
       refine RunQ.val (lt rfl) (Y.fieldR rfl Own_fo39_0 hv.of_nil (by omega)) ?_
       refine RunQ.on rfl rfl rfl rfl ?_
       refine RunQ.val (lt rfl) (Y.ldR rfl Own_ts37 hv.of_nil (rows_at Le.len (by omega) Le.dflt (by decide) rfl)) ?_
       refine RunQ.on rfl rfl rfl rfl ?_
       refine RunQ.val (lt rfl) (Y.lookup rfl rfl Own_mt35 Own_zo4 hm2 (j := 0) rfl (yes_look ((Le.chosen 0 l y s).take i2) ((l.getD i3 Le.dflt).addr))) ?_
       refine RunQ.on rfl rfl rfl rfl ?_
       refine RunQ.val (lt rfl) (Y.not rfl) ?_
       refine RunQ.val (lt rfl) (Y.pick_t rfl rfl rfl) ?_
       refine RunQ.val (lt rfl) (Y.move rfl) ?_
       refine RunQ.on rfl rfl rfl (congrArg Bool.not h24) ?_
       refine RunQ.val (lt rfl) (Y.move rfl) ?_
       refine RunQ.on rfl rfl rfl (congrArg Bool.not h24) ?_
       refine RunQ.val (lt rfl) (Y.lenSl rfl Own_es32) ?_
       refine RunQ.on rfl rfl rfl (congrArg Bool.not h24) ?_
       refine RunQ.val (lt rfl) (Y.int rfl rfl rfl) ?_
       refine RunQ.val (lt rfl) (Y.pick_t rfl (congrArg Bool.not h24) rfl) ?_
       refine RunQ.val (lt rfl) (Y.move rfl) ?_
       rcases Bool.eq_false_or_eq_true (decide ((((Le.chosen 0 l y s).length : Nat) : Int) > 0)) with h25 | h25
       ·have g25 := h25
        try simp only [kb] at g25
        refine RunQ.on rfl rfl rfl h25 ?_
        refine RunQ.val (lt rfl) (Y.move rfl) ?_
        refine RunQ.on rfl rfl rfl h25 ?_
        refine RunQ.val (lt rfl) (Y.move rfl) ?_
        refine RunQ.on rfl rfl rfl h25 ?_
        refine RunQ.val (lt rfl) (Y.idxR i3 rfl rfl Own_es24 hv.of_nil (by omega) (by omega)) ?_
        refine RunQ.on rfl rfl rfl h25 ?_
        refine RunQ.val (lt rfl) (Y.fieldR rfl Own_fo39_0 hv.of_nil (by omega)) ?_
        refine RunQ.on rfl rfl rfl h25 ?_
        refine RunQ.val (lt rfl) (Y.ldR rfl Own_ts37 hv.of_nil (rows_at Le.len (by omega) Le.dflt (by decide) rfl)) ?_
        refine RunQ.on rfl rfl rfl h25 ?_
        refine RunQ.val (lt rfl) (Y.move rfl) ?_
        refine RunQ.on rfl rfl rfl h25 ?_
        refine RunQ.val (lt rfl) (Y.idxR 0 rfl rfl Own_es32 hrg.of_nil (by omega) (by omega)) ?_
        refine RunQ.on rfl rfl rfl h25 ?_
        refine RunQ.val (lt rfl) (Y.ldR rfl Own_ts37 hrg.of_nil (flatm_at0 nU_enc.len (by omega) 0 (by decide) rfl)) ?_
        refine RunQ.on rfl rfl rfl h25 ?_
        refine RunQ.val (lt rfl) (Y.int rfl rfl rfl) ?_
        refine RunQ.val (lt rfl) (Y.pick_t rfl h25 rfl) ?_
        refine RunQ.to_end ?_
        refine Ex.go ?_
        rcases Bool.eq_false_or_eq_true (decide (((l.getD i3 Le.dflt).addr) > ((Le.chosen 0 l y s).getD 0 0))) with h26 | h26
        ·have g26 := h26
         try simp only [kb] at g26
         refine Tr.cond_t rfl h26 ?_
         refine Tr.seq ?_
         refine Tr.region ?_
         refine Run.val (lt rfl) (Y.assign rfl) ?_
         refine Run.to_end ?_
         refine Ex.go ?_
         refine Tr.to_ret ?_
         refine Ex.ret_block ?_
         refine Ex.ret_then ?_
         refine Ex.ret_then ?_
         refine Ex.ret_block ?_
         refine Ex.ret_then ?_
         refine Ex.keep [] ?_
         exact Ex.ret1 rfl rfl  (absurd (Le.chosen_max (b := 0) (y := y) (s := s) (by decide) (i := i3) (by omega) h23 (by have hc := h24; rw [List.take_of_length_le (by omega)] at hc; exact hc) (by omega)) (by omega))
        ·have g26 := h26
         try simp only [kb] at g26
         refine Tr.cond_f rfl h26 ?_
         refine Tr.to_end ?_
         refine Ex.end_block ?_
         refine Ex.go ?_
         refine Tr.region ?_
         refine Run.val (lt rfl) (Y.move rfl) ?_
         refine Run.val (lt rfl) (Y.add rfl rfl (by omega)) ?_
         refine Run.val (lt rfl) (Y.assign rfl) ?_
         refine Run.to_end ?_
         refine Ex.keep [0] ?_
         have qc := Le.cnt_no (b := 0) (g := Le.chosen 0 l y s) (l := l) (i := i3) (by omega) (.inr (by have hc := h24; rw [List.take_of_length_le (by omega)] at hc; exact hc))
         exact Ex.round (i3 + 1 : Nat) (by omega) (by omega) rfl rfl (subB_cons (by first | rfl | exact congrArg (fun z => some (Value.int _ z)) (by omega) | exact congrArg (fun z => some (Value.int _ z)) (by omega)) (subB_cons (by first | rfl | exact congrArg (fun z => some (Value.int _ z)) (by omega) | exact congrArg (fun z => some (Value.int _ z)) (by omega)) (subB_cons (by first | rfl | exact congrArg (fun z => some (Value.int _ z)) (by omega) | exact congrArg (fun z => some (Value.int _ z)) (by omega)) (subB_cons (by first | rfl | exact congrArg (fun z => some (Value.int _ z)) (by omega) | exact congrArg (fun z => some (Value.int _ z)) (by omega)) (subB_cons (by first | rfl | exact congrArg (fun z => some (Value.int _ z)) (by omega) | exact congrArg (fun z => some (Value.int _ z)) (by omega)) (subB_cons (by first | rfl | exact congrArg (fun z => some (Value.int _ z)) (by omega) | exact congrArg (fun z => some (Value.int _ z)) (by omega)) (subB_nil _)))))))
       ·have g25 := h25
        try simp only [kb] at g25
        refine RunQ.off rfl rfl rfl h25 rfl (lt rfl) ?_
        refine RunQ.off rfl rfl rfl h25 rfl (lt rfl) ?_
        refine RunQ.off rfl rfl rfl h25 rfl (lt rfl) ?_
        refine RunQ.off rfl rfl rfl h25 rfl (lt rfl) ?_
        refine RunQ.off rfl rfl rfl h25 rfl (lt rfl) ?_
        refine RunQ.off rfl rfl rfl h25 rfl (lt rfl) ?_
        refine RunQ.off rfl rfl rfl h25 rfl (lt rfl) ?_
        refine RunQ.off rfl rfl rfl h25 rfl (lt rfl) ?_
        refine RunQ.off rfl rfl rfl h25 rfl (lt rfl) ?_
        refine RunQ.val (lt rfl) (Y.pick_f rfl h25 rfl) ?_
        refine RunQ.to_end ?_
        refine Ex.go ?_
        refine Tr.cond_f rfl rfl ?_
        refine Tr.to_end ?_
        refine Ex.end_block ?_
        refine Ex.go ?_
        refine Tr.region ?_
        refine Run.val (lt rfl) (Y.move rfl) ?_
        refine Run.val (lt rfl) (Y.add rfl rfl (by omega)) ?_
        refine Run.val (lt rfl) (Y.assign rfl) ?_
        refine Run.to_end ?_
        refine Ex.keep [0] ?_
        have qc := Le.cnt_no (b := 0) (g := Le.chosen 0 l y s) (l := l) (i := i3) (by omega) (.inr (by have hc := h24; rw [List.take_of_length_le (by omega)] at hc; exact hc))
        exact Ex.round (i3 + 1 : Nat) (by omega) (by omega) rfl rfl (subB_cons (by first | rfl | exact congrArg (fun z => some (Value.int _ z)) (by omega) | exact congrArg (fun z => some (Value.int _ z)) (by omega)) (subB_cons (by first | rfl | exact congrArg (fun z => some (Value.int _ z)) (by omega) | exact congrArg (fun z => some (Value.int _ z)) (by omega)) (subB_cons (by first | rfl | exact congrArg (fun z => some (Value.int _ z)) (by omega) | exact congrArg (fun z => some (Value.int _ z)) (by omega)) (subB_cons (by first | rfl | exact congrArg (fun z => some (Value.int _ z)) (by omega) | exact congrArg (fun z => some (Value.int _ z)) (by omega)) (subB_cons (by first | rfl | exact congrArg (fun z => some (Value.int _ z)) (by omega) | exact congrArg (fun z => some (Value.int _ z)) (by omega)) (subB_cons (by first | rfl | exact congrArg (fun z => some (Value.int _ z)) (by omega) | exact congrArg (fun z => some (Value.int _ z)) (by omega)) (subB_nil _)))))))
     ·have g23 := h23
      try simp only [kb] at g23
      refine Run.off rfl rfl rfl h23 rfl (lt rfl) ?_
      refine Run.off rfl rfl rfl h23 rfl (lt rfl) ?_
      refine Run.val (lt rfl) (Y.pick_f rfl h23 rfl) ?_
      refine Run.val (lt rfl) (Y.move rfl) ?_
      refine Run.on rfl rfl rfl rfl ?_
      refine Run.val (lt rfl) (Y.move rfl) ?_
      refine Run.on rfl rfl rfl rfl ?_
      refine Run.val (lt rfl) (Y.move rfl) ?_
      refine Run.on rfl rfl rfl rfl ?_
      refine Run.val (lt rfl) (Y.idxR i3 rfl rfl Own_es24 hv.of_nil (by omega) (by omega)) ?_
      refine Run.on rfl rfl rfl rfl ?_
      refine Run.val (lt rfl) (Y.fieldR rfl Own_fo39_1 hv.of_nil (by omega)) ?_
      refine Run.on rfl rfl rfl rfl ?_
      refine Run.val (lt rfl) (Y.ldR rfl Own_ts3 hv.of_nil (rows_at Le.len (by omega) Le.dflt (by decide) rfl)) ?_
      refine Run.on rfl rfl rfl rfl ?_
      refine Run.val (lt rfl) (Y.int rfl rfl rfl) ?_
      refine Run.on rfl rfl rfl rfl ?_
      refine Run.val (lt rfl) (Y.move rfl) ?_
      rcases Bool.eq_false_or_eq_true (((l.getD i3 Le.dflt).bind) == 1) with h27 | h27
      ·have g27 := h27
       try simp only [kb] at g27
       refine Run.on rfl rfl rfl h27 ?_
       refine Run.val (lt rfl) (Y.move rfl) ?_
       refine Run.on rfl rfl rfl h27 ?_
       refine Run.val (lt rfl) (Y.int (r := .bool false) rfl rfl rfl) ?_
       refine Run.on rfl rfl rfl rfl ?_
       refine Run.val (lt rfl) (Y.pick_t rfl h27 rfl) ?_
       refine Run.val (lt rfl) (Y.pick_f rfl rfl rfl) ?_
       refine Run.val (lt rfl) (Y.assign rfl) ?_
       refine Run.to_end ?_
       refine Ex.go ?_
       refine Tr.seq ?_
       refine Tr.seq ?_
       refine Tr.region ?_
       refine Run.val (lt rfl) (Y.move rfl) ?_
       refine Run.val (lt rfl) (Y.move rfl) ?_
       refine Run.val (lt rfl) (Y.move rfl) ?_
       refine Run.val (lt rfl) (Y.idxR i3 rfl rfl Own_es24 hv.of_nil (by omega) (by omega)) ?_
       refine Run.val (lt rfl) (Y.fieldR rfl Own_fo39_0 hv.of_nil (by omega)) ?_
       refine Run.val (lt rfl) (Y.ldR rfl Own_ts37 hv.of_nil (rows_at Le.len (by omega) Le.dflt (by decide) rfl)) ?_
       refine Run.val (lt rfl) (Y.lookup rfl rfl Own_mt35 Own_zo4 hm2 (j := 0) rfl (yes_look ((Le.chosen 0 l y s).take i2) ((l.getD i3 Le.dflt).addr))) ?_
       refine Run.val (lt rfl) (Y.move rfl) ?_
       rcases Bool.eq_false_or_eq_true (List.contains ((Le.chosen 0 l y s).take i2) ((l.getD i3 Le.dflt).addr)) with h28 | h28
       ·have g28 := h28
        try simp only [kb] at g28
        refine Run.on rfl rfl rfl h28 ?_
        refine Run.val (lt rfl) (Y.move rfl) ?_
        refine Run.val (lt rfl) (Y.pick_t rfl h28 rfl) ?_
        refine Run.to_end ?_
        refine Ex.go ?_
        refine Tr.cond_f rfl rfl ?_
        refine Tr.to_end ?_
        refine Ex.go ?_
        refine Tr.seq ?_
        refine Tr.quiet Own_mo (by kernel_rfl) ?_
        refine RunQ.val (lt rfl) (Y.move rfl) ?_
        refine RunQ.val (lt rfl) (Y.move rfl) ?_
        refine RunQ.off rfl rfl rfl rfl rfl (lt rfl) ?_
        refine RunQ.off rfl rfl rfl rfl rfl (lt rfl) ?_
        refine RunQ.off rfl rfl rfl rfl rfl (lt rfl) ?_
        refine RunQ.off rfl rfl rfl rfl rfl (lt rfl) ?_
        refine RunQ.off rfl rfl rfl rfl rfl (lt rfl) ?_
        refine RunQ.off rfl rfl rfl rfl rfl (lt rfl) ?_
        refine RunQ.off rfl rfl rfl rfl rfl (lt rfl) ?_
        refine RunQ.off rfl rfl rfl rfl rfl (lt rfl) ?_
        refine RunQ.val (lt rfl) (Y.pick_f rfl rfl rfl) ?_
        refine RunQ.val (lt rfl) (Y.move rfl) ?_
        refine RunQ.off rfl rfl rfl rfl rfl (lt rfl) ?_
        refine RunQ.off rfl rfl rfl rfl rfl (lt rfl) ?_
        refine RunQ.off rfl rfl rfl rfl rfl (lt rfl) ?_
        refine RunQ.val (lt rfl) (Y.pick_f rfl rfl rfl) ?_
        refine RunQ.val (lt rfl) (Y.move rfl) ?_
        refine RunQ.off rfl rfl rfl rfl rfl (lt rfl) ?_
        refine RunQ.off rfl rfl rfl rfl rfl (lt rfl) ?_
        refine RunQ.off rfl rfl rfl rfl rfl (lt rfl) ?_
        refine RunQ.off rfl rfl rfl rfl rfl (lt rfl) ?_
        refine RunQ.off rfl rfl rfl rfl rfl (lt rfl) ?_
        refine RunQ.off rfl rfl rfl rfl rfl (lt rfl) ?_
        refine RunQ.off rfl rfl rfl rfl rfl (lt rfl) ?_
        refine RunQ.off rfl rfl rfl rfl rfl (lt rfl) ?_
        refine RunQ.off rfl rfl rfl rfl rfl (lt rfl) ?_
        refine RunQ.val (lt rfl) (Y.pick_f rfl rfl rfl) ?_
        refine RunQ.to_end ?_
        refine Ex.go ?_
        refine Tr.cond_f rfl rfl ?_
        refine Tr.to_end ?_
        refine Ex.end_block ?_
        refine Ex.go ?_
        refine Tr.region ?_
        refine Run.val (lt rfl) (Y.move rfl) ?_
        refine Run.val (lt rfl) (Y.add rfl rfl (by omega)) ?_
        refine Run.val (lt rfl) (Y.assign rfl) ?_
        refine Run.to_end ?_
        refine Ex.keep [0] ?_
        have qc := Le.cnt_no (b := 0) (g := Le.chosen 0 l y s) (l := l) (i := i3) (by omega) (.inl h23)
        exact Ex.round (i3 + 1 : Nat) (by omega) (by omega) rfl rfl (subB_cons (by first | rfl | exact congrArg (fun z => some (Value.int _ z)) (by omega) | exact congrArg (fun z => some (Value.int _ z)) (by omega)) (subB_cons (by first | rfl | exact congrArg (fun z => some (Value.int _ z)) (by omega) | exact congrArg (fun z => some (Value.int _ z)) (by omega)) (subB_cons (by first | rfl | exact congrArg (fun z => some (Value.int _ z)) (by omega) | exact congrArg (fun z => some (Value.int _ z)) (by omega)) (subB_cons (by first | rfl | exact congrArg (fun z => some (Value.int _ z)) (by omega) | exact congrArg (fun z => some (Value.int _ z)) (by omega)) (subB_cons (by first | rfl | exact congrArg (fun z => some (Value.int _ z)) (by omega) | exact congrArg (fun z => some (Value.int _ z)) (by omega)) (subB_cons (by first | rfl | exact congrArg (fun z => some (Value.int _ z)) (by omega) | exact congrArg (fun z => some (Value.int _ z)) (by omega)) (subB_nil _)))))))
       ·have g28 := h28
        try simp only [kb] at g28
        refine Run.off rfl rfl rfl h28 rfl (lt rfl) ?_
        refine Run.val (lt rfl) (Y.pick_f rfl h28 rfl) ?_
        refine Run.to_end ?_
        refine Ex.go ?_
        refine Tr.cond_f rfl rfl ?_
        refine Tr.to_end ?_
        refine Ex.go ?_
        refine Tr.seq ?_
        refine Tr.quiet Own_mo (by kernel_rfl) ?_
        refine RunQ.val (lt rfl) (Y.move rfl) ?_
        refine RunQ.val (lt rfl) (Y.move rfl) ?_
        refine RunQ.off rfl rfl rfl rfl rfl (lt rfl) ?_
        refine RunQ.off rfl rfl rfl rfl rfl (lt rfl) ?_
        refine RunQ.off rfl rfl rfl rfl rfl (lt rfl) ?_
        refine RunQ.off rfl rfl rfl rfl rfl (lt rfl) ?_
        refine RunQ.off rfl rfl rfl rfl rfl (lt rfl) ?_
        refine RunQ.off rfl rfl rfl rfl rfl (lt rfl) ?_
        refine RunQ.off rfl rfl rfl rfl rfl (lt rfl) ?_
        refine RunQ.off rfl rfl rfl rfl rfl (lt rfl) ?_
        refine RunQ.val (lt rfl) (Y.pick_f rfl rfl rfl) ?_
        refine RunQ.val (lt rfl) (Y.move rfl) ?_
        refine RunQ.off rfl rfl rfl rfl rfl (lt rfl) ?_
        refine RunQ.off rfl rfl rfl rfl rfl (lt rfl) ?_
        refine RunQ.off rfl rfl rfl rfl rfl (lt rfl) ?_
        refine RunQ.val (lt rfl) (Y.pick_f rfl rfl rfl) ?_
        refine RunQ.val (lt rfl) (Y.move rfl) ?_
        refine RunQ.off rfl rfl rfl rfl rfl (lt rfl) ?_
        refine RunQ.off rfl rfl rfl rfl rfl (lt rfl) ?_
        refine RunQ.off rfl rfl rfl rfl rfl (lt rfl) ?_
        refine RunQ.off rfl rfl rfl rfl rfl (lt rfl) ?_
        refine RunQ.off rfl rfl rfl rfl rfl (lt rfl) ?_
        refine RunQ.off rfl rfl rfl rfl rfl (lt rfl) ?_
        refine RunQ.off rfl rfl rfl rfl rfl (lt rfl) ?_
        refine RunQ.off rfl rfl rfl rfl rfl (lt rfl) ?_
        refine RunQ.off rfl rfl rfl rfl rfl (lt rfl) ?_
        refine RunQ.val (lt rfl) (Y.pick_f rfl rfl rfl) ?_
        refine RunQ.to_end ?_
        refine Ex.go ?_
        refine Tr.cond_f rfl rfl ?_
        refine Tr.to_end ?_
        refine Ex.end_block ?_
        refine Ex.go ?_
        refine Tr.region ?_
        refine Run.val (lt rfl) (Y.move rfl) ?_
        refine Run.val (lt rfl) (Y.add rfl rfl (by omega)) ?_
        refine Run.val (lt rfl) (Y.assign rfl) ?_
        refine Run.to_end ?_
        refine Ex.keep [0] ?_
        have qc := Le.cnt_no (b := 0) (g := Le.chosen 0 l y s) (l := l) (i := i3) (by omega) (.inl h23)
        exact Ex.round (i3 + 1 : Nat) (by omega) (by omega) rfl rfl (subB_cons (by first | rfl | exact congrArg (fun z => some (Value.int _ z)) (by omega) | exact congrArg (fun z => some (Value.int _ z)) (by omega)) (subB_cons (by first | rfl | exact congrArg (fun z => some (Value.int _ z)) (by omega) | exact congrArg (fun z => some (Value.int _ z)) (by omega)) (subB_cons (by first | rfl | exact congrArg (fun z => some (Value.int _ z)) (by omega) | exact congrArg (fun z => some (Value.int _ z)) (by omega)) (subB_cons (by first | rfl | exact congrArg (fun z => some (Value.int _ z)) (by omega) | exact congrArg (fun z => some (Value.int _ z)) (by omega)) (subB_cons (by first | rfl | exact congrArg (fun z => some (Value.int _ z)) (by omega) | exact congrArg (fun z => some (Value.int _ z)) (by omega)) (subB_cons (by first | rfl | exact congrArg (fun z => some (Value.int _ z)) (by omega) | exact congrArg (fun z => some (Value.int _ z)) (by omega)) (subB_nil _)))))))
      ·have g27 := h27
       try simp only [kb] at g27
       refine Run.off rfl rfl rfl h27 rfl (lt rfl) ?_
       refine Run.off rfl rfl rfl h27 rfl (lt rfl) ?_
       refine Run.on rfl rfl rfl rfl ?_
       refine Run.val (lt rfl) (Y.pick_f rfl h27 rfl) ?_
       refine Run.val (lt rfl) (Y.pick_f rfl rfl rfl) ?_
       refine Run.val (lt rfl) (Y.assign rfl) ?_
       refine Run.to_end ?_
       refine Ex.go ?_
       refine Tr.seq ?_
       refine Tr.seq ?_
       refine Tr.region ?_
       refine Run.val (lt rfl) (Y.move rfl) ?_
       refine Run.val (lt rfl) (Y.move rfl) ?_
       refine Run.val (lt rfl) (Y.move rfl) ?_
       refine Run.val (lt rfl) (Y.idxR i3 rfl rfl Own_es24 hv.of_nil (by omega) (by omega)) ?_
       refine Run.val (lt rfl) (Y.fieldR rfl Own_fo39_0 hv.of_nil (by omega)) ?_
       refine Run.val (lt rfl) (Y.ldR rfl Own_ts37 hv.of_nil (rows_at Le.len (by omega) Le.dflt (by decide) rfl)) ?_
       refine Run.val (lt rfl) (Y.lookup rfl rfl Own_mt35 Own_zo4 hm2 (j := 0) rfl (yes_look ((Le.chosen 0 l y s).take i2) ((l.getD i3 Le.dflt).addr))) ?_
       refine Run.val (lt rfl) (Y.move rfl) ?_
       rcases Bool.eq_false_or_eq_true (List.contains ((Le.chosen 0 l y s).take i2) ((l.getD i3 Le.dflt).addr)) with h29 | h29
       ·have g29 := h29
        try simp only [kb] at g29
        refine Run.on rfl rfl rfl h29 ?_
        refine Run.val (lt rfl) (Y.move rfl) ?_
        refine Run.val (lt rfl) (Y.pick_t rfl h29 rfl) ?_
        refine Run.to_end ?_
        refine Ex.go ?_
        refine Tr.cond_f rfl rfl ?_
        refine Tr.to_end ?_
        refine Ex.go ?_
        refine Tr.seq ?_
        refine Tr.quiet Own_mo (by kernel_rfl) ?_
        refine RunQ.val (lt rfl) (Y.move rfl) ?_
        refine RunQ.val (lt rfl) (Y.move rfl) ?_
        refine RunQ.off rfl rfl rfl rfl rfl (lt rfl) ?_
        refine RunQ.off rfl rfl rfl rfl rfl (lt rfl) ?_
        refine RunQ.off rfl rfl rfl rfl rfl (lt rfl) ?_
        refine RunQ.off rfl rfl rfl rfl rfl (lt rfl) ?_
        refine RunQ.off rfl rfl rfl rfl rfl (lt rfl) ?_
        refine RunQ.off rfl rfl rfl rfl rfl (lt rfl) ?_
        refine RunQ.off rfl rfl rfl rfl rfl (lt rfl) ?_
        refine RunQ.off rfl rfl rfl rfl rfl (lt rfl) ?_
        refine RunQ.val (lt rfl) (Y.pick_f rfl rfl rfl) ?_
        refine RunQ.val (lt rfl) (Y.move rfl) ?_
        refine RunQ.off rfl rfl rfl rfl rfl (lt rfl) ?_
        refine RunQ.off rfl rfl rfl rfl rfl (lt rfl) ?_
        refine RunQ.off rfl rfl rfl rfl rfl (lt rfl) ?_
        refine RunQ.val (lt rfl) (Y.pick_f rfl rfl rfl) ?_
        refine RunQ.val (lt rfl) (Y.move rfl) ?_
        refine RunQ.off rfl rfl rfl rfl rfl (lt rfl) ?_
        refine RunQ.off rfl rfl rfl rfl rfl (lt rfl) ?_
        refine RunQ.off rfl rfl rfl rfl rfl (lt rfl) ?_
        refine RunQ.off rfl rfl rfl rfl rfl (lt rfl) ?_
        refine RunQ.off rfl rfl rfl rfl rfl (lt rfl) ?_
        refine RunQ.off rfl rfl rfl rfl rfl (lt rfl) ?_
        refine RunQ.off rfl rfl rfl rfl rfl (lt rfl) ?_
        refine RunQ.off rfl rfl rfl rfl rfl (lt rfl) ?_
        refine RunQ.off rfl rfl rfl rfl rfl (lt rfl) ?_
        refine RunQ.val (lt rfl) (Y.pick_f rfl rfl rfl) ?_
        refine RunQ.to_end ?_
        refine Ex.go ?_
        refine Tr.cond_f rfl rfl ?_
        refine Tr.to_end ?_
        refine Ex.end_block ?_
        refine Ex.go ?_
        refine Tr.region ?_
        refine Run.val (lt rfl) (Y.move rfl) ?_
        refine Run.val (lt rfl) (Y.add rfl rfl (by omega)) ?_
        refine Run.val (lt rfl) (Y.assign rfl) ?_
        refine Run.to_end ?_
        refine Ex.keep [0] ?_
        have qc := Le.cnt_no (b := 0) (g := Le.chosen 0 l y s) (l := l) (i := i3) (by omega) (.inl h23)
        exact Ex.round (i3 + 1 : Nat) (by omega) (by omega) rfl rfl (subB_cons (by first | rfl | exact congrArg (fun z => some (Value.int _ z)) (by omega) | exact congrArg (fun z => some (Value.int _ z)) (by omega)) (subB_cons (by first | rfl | exact congrArg (fun z => some (Value.int _ z)) (by omega) | exact congrArg (fun z => some (Value.int _ z)) (by omega)) (subB_cons (by first | rfl | exact congrArg (fun z => some (Value.int _ z)) (by omega) | exact congrArg (fun z => some (Value.int _ z)) (by omega)) (subB_cons (by first | rfl | exact congrArg (fun z => some (Value.int _ z)) (by omega) | exact congrArg (fun z => some (Value.int _ z)) (by omega)) (subB_cons (by first | rfl | exact congrArg (fun z => some (Value.int _ z)) (by omega) | exact congrArg (fun z => some (Value.int _ z)) (by omega)) (subB_cons (by first | rfl | exact congrArg (fun z => some (Value.int _ z)) (by omega) | exact congrArg (fun z => some (Value.int _ z)) (by omega)) (subB_nil _)))))))
       ·have g29 := h29
        try simp only [kb] at g29
        refine Run.off rfl rfl rfl h29 rfl (lt rfl) ?_
        refine Run.val (lt rfl) (Y.pick_f rfl h29 rfl) ?_
        refine Run.to_end ?_
        refine Ex.go ?_
        refine Tr.cond_f rfl rfl ?_
        refine Tr.to_end ?_
        refine Ex.go ?_
        refine Tr.seq ?_
        refine Tr.quiet Own_mo (by kernel_rfl) ?_
        refine RunQ.val (lt rfl) (Y.move rfl) ?_
        refine RunQ.val (lt rfl) (Y.move rfl) ?_
        refine RunQ.off rfl rfl rfl rfl rfl (lt rfl) ?_
        refine RunQ.off rfl rfl rfl rfl rfl (lt rfl) ?_
        refine RunQ.off rfl rfl rfl rfl rfl (lt rfl) ?_
        refine RunQ.off rfl rfl rfl rfl rfl (lt rfl) ?_
        refine RunQ.off rfl rfl rfl rfl rfl (lt rfl) ?_
        refine RunQ.off rfl rfl rfl rfl rfl (lt rfl) ?_
        refine RunQ.off rfl rfl rfl rfl rfl (lt rfl) ?_
        refine RunQ.off rfl rfl rfl rfl rfl (lt rfl) ?_
        refine RunQ.val (lt rfl) (Y.pick_f rfl rfl rfl) ?_
        refine RunQ.val (lt rfl) (Y.move rfl) ?_
        refine RunQ.off rfl rfl rfl rfl rfl (lt rfl) ?_
        refine RunQ.off rfl rfl rfl rfl rfl (lt rfl) ?_
        refine RunQ.off rfl rfl rfl rfl rfl (lt rfl) ?_
        refine RunQ.val (lt rfl) (Y.pick_f rfl rfl rfl) ?_
        refine RunQ.val (lt rfl) (Y.move rfl) ?_
        refine RunQ.off rfl rfl rfl rfl rfl (lt rfl) ?_
        refine RunQ.off rfl rfl rfl rfl rfl (lt rfl) ?_
        refine RunQ.off rfl rfl rfl rfl rfl (lt rfl) ?_
        refine RunQ.off rfl rfl rfl rfl rfl (lt rfl) ?_
        refine RunQ.off rfl rfl rfl rfl rfl (lt rfl) ?_
        refine RunQ.off rfl rfl rfl rfl rfl (lt rfl) ?_
        refine RunQ.off rfl rfl rfl rfl rfl (lt rfl) ?_
        refine RunQ.off rfl rfl rfl rfl rfl (lt rfl) ?_
        refine RunQ.off rfl rfl rfl rfl rfl (lt rfl) ?_
        refine RunQ.val (lt rfl) (Y.pick_f rfl rfl rfl) ?_
        refine RunQ.to_end ?_
        refine Ex.go ?_
        refine Tr.cond_f rfl rfl ?_
        refine Tr.to_end ?_
        refine Ex.end_block ?_
        refine Ex.go ?_
        refine Tr.region ?_
        refine Run.val (lt rfl) (Y.move rfl) ?_
        refine Run.val (lt rfl) (Y.add rfl rfl (by omega)) ?_
        refine Run.val (lt rfl) (Y.assign rfl) ?_
        refine Run.to_end ?_
        refine Ex.keep [0] ?_
        have qc := Le.cnt_no (b := 0) (g := Le.chosen 0 l y s) (l := l) (i := i3) (by omega) (.inl h23)
        exact Ex.round (i3 + 1 : Nat) (by omega) (by omega) rfl rfl (subB_cons (by first | rfl | exact congrArg (fun z => some (Value.int _ z)) (by omega) | exact congrArg (fun z => some (Value.int _ z)) (by omega)) (subB_cons (by first | rfl | exact congrArg (fun z => some (Value.int _ z)) (by omega) | exact congrArg (fun z => some (Value.int _ z)) (by omega)) (subB_cons (by first | rfl | exact congrArg (fun z => some (Value.int _ z)) (by omega) | exact congrArg (fun z => some (Value.int _ z)) (by omega)) (subB_cons (by first | rfl | exact congrArg (fun z => some (Value.int _ z)) (by omega) | exact congrArg (fun z => some (Value.int _ z)) (by omega)) (subB_cons (by first | rfl | exact congrArg (fun z => some (Value.int _ z)) (by omega) | exact congrArg (fun z => some (Value.int _ z)) (by omega)) (subB_cons (by first | rfl | exact congrArg (fun z => some (Value.int _ z)) (by omega) | exact congrArg (fun z => some (Value.int _ z)) (by omega)) (subB_nil _)))))))
    ·have g22 := h22
     try simp only [kb] at g22
     refine Tr.cond_f rfl h22 ?_
     refine Tr.to_exit ?_
     refine Ex.exit_then ?_
     refine Ex.exit_then ?_
     refine Ex.exit_in ?_
     refine Ex.go ?_
     refine Tr.seq ?_
     refine Tr.region ?_
     refine Run.val (lt rfl) (Y.move rfl) ?_
     refine Run.val (lt rfl) (Y.move rfl) ?_
     refine Run.val (lt rfl) (Y.lenSl rfl Own_es32) ?_
     refine Run.val (lt rfl) (Y.int rfl rfl rfl) ?_
     refine Run.val (lt rfl) (Y.assign rfl) ?_
     refine Run.to_end ?_
     refine Ex.go ?_
     refine Tr.to_ret ?_
     refine Ex.keep [] ?_
     exact Ex.ret1 rfl rfl  (congrArg Value.bool (by obtain rfl : i3 = l.length := (by omega); rw [List.take_length, Le.cnt_all (by decide) hnd]; exact beq_self_eq_true _))

theorem own_c1 {V : Vw} {l : List Le} {p : Option Addr} {c : Nat} (hv : Rd V [] 8 (.slice p l.length c) l.length (l.map Le.cells).flatten) {y s : Nat}  : Does Try.prog 4 [.agg #[.float .f64 y, .float .f64 s], .int .i64 1, .slice p l.length c] V [] (fun v _ _ => v = .bool true) := by
 refine Does.intro Try.func4 rfl rfl (le rfl) (fun B => ?_)
 refine Tr.seq ?_
 refine Tr.region ?_
 refine Run.box rfl (lt rfl) (fun b1 => ?_)
 refine Run.val (lt rfl) (Y.assign rfl) ?_
 refine Run.to_end ?_
 refine Ex.go ?_
 refine Tr.seq ?_
 refine Tr.region ?_
 refine Run.call0 (l := []) rfl rfl rfl (lt rfl) awake17_h ?_
 refine Run.val (lt rfl) (Y.assign rfl) ?_
 refine Run.to_end ?_
 refine Ex.go ?_
 refine Tr.seq ?_
 refine Tr.seq ?_
 refine Tr.region ?_
 refine Run.val (lt rfl) (Y.move rfl) ?_
 refine Run.val (lt rfl) (Y.not rfl) ?_
 refine Run.val (lt rfl) (Y.move rfl) ?_
 refine Run.on rfl rfl rfl rfl ?_
 refine Run.val (lt rfl) (Y.move rfl) ?_
 refine Run.on rfl rfl rfl rfl ?_
 refine Run.val (lt rfl) (Y.lenSl rfl Own_es24) ?_
 refine Run.on rfl rfl rfl rfl ?_
 refine Run.val (lt rfl) (Y.int rfl rfl rfl) ?_
 refine Run.val (lt rfl) (Y.pick_f rfl rfl rfl) ?_
 refine Run.val (lt rfl) (Y.move rfl) ?_
 rcases Bool.eq_false_or_eq_true (decide (((l.length : Nat) : Int) > 300)) with h2 | h2
 ·have g2 := h2
  try simp only [kb] at g2
  refine Run.off rfl rfl rfl h2 rfl (lt rfl) ?_
  refine Run.off rfl rfl rfl h2 rfl (lt rfl) ?_
  refine Run.val (lt rfl) (Y.pick_t rfl h2 rfl) ?_
  refine Run.val (lt rfl) (Y.move rfl) ?_
  refine Run.off rfl rfl rfl rfl rfl (lt rfl) ?_
  refine Run.off rfl rfl rfl rfl rfl (lt rfl) ?_
  refine Run.val (lt rfl) (Y.pick_t rfl rfl rfl) ?_
  refine Run.to_end ?_
  refine Ex.go ?_
  refine Tr.cond_t rfl rfl ?_
  refine Tr.seq ?_
  refine Tr.region ?_
  refine Run.val (lt rfl) (Y.move rfl) ?_
  refine Run.val (lt rfl) (Y.assign rfl) ?_
  refine Run.to_end ?_
  refine Ex.go ?_
  refine Tr.to_ret ?_
  refine Ex.ret_then ?_
  refine Ex.keep [] ?_
  exact Ex.ret1 rfl rfl  rfl
 ·have g2 := h2
  try simp only [kb] at g2
  refine Run.on rfl rfl rfl h2 ?_
  refine Run.val (lt rfl) (Y.move rfl) ?_
  refine Run.on rfl rfl rfl h2 ?_
  refine Run.val (lt rfl) (Y.int (r := .bool false) rfl rfl rfl) ?_
  refine Run.val (lt rfl) (Y.pick_f rfl h2 rfl) ?_
  refine Run.val (lt rfl) (Y.move rfl) ?_
  refine Run.on rfl rfl rfl rfl ?_
  refine Run.val (lt rfl) (Y.move rfl) ?_
  refine Run.on rfl rfl rfl rfl ?_
  refine Run.val (lt rfl) (Y.int (r := .bool false) rfl rfl rfl) ?_
  refine Run.val (lt rfl) (Y.pick_f rfl rfl rfl) ?_
  refine Run.to_end ?_
  refine Ex.go ?_
  refine Tr.cond_f rfl rfl ?_
  refine Tr.to_end ?_
  refine Ex.go ?_
  refine Tr.seq ?_
  refine Tr.region ?_
  refine Run.makeMap .u32 (lt rfl) (fun v3 s4 hm5 => ?_)
  refine Run.val (lt rfl) (Y.assign rfl) ?_
  refine Run.to_end ?_
  refine Ex.go ?_
  refine Tr.seq ?_
  refine Tr.seq ?_
  refine Tr.region ?_
  refine Run.val (lt rfl) (Y.assign rfl) ?_
  refine Run.to_end ?_
  refine Ex.go ?_
  refine Tr.block ?_
  refine Tr.loop (X := Nat × Sg) (fun z0 => V) (fun z0 => [z0.2, [(b1, .cells #[.float .f64 y, .float .f64 s] 23 (0, 0))]]) (fun z0 => [(1, .int .i64 1), (2, .slice p l.length c), (3, .pointer (some ⟨b1, 0, none⟩)), (8, v3), (9, .int .i64 (z0.1 : Int))]) (fun z0 => Om .u32 v3 (yes (Le.adrs (l.take z0.1))) z0.2 ∧ (Le.adrs (l.take z0.1)).Nodup ∧ z0.1 ≤ l.length) (fun z0 => l.length - z0.1) (⟨0, s4⟩ : Nat × Sg) ⟨hm5, List.nodup_nil, Nat.zero_le _⟩ (fun a w i => ⟨i.1.sub (subB_cons (by first | rfl | exact congrArg (fun z => some (Value.int _ z)) (by omega)) (subB_cons (by first | rfl | exact congrArg (fun z => some (Value.int _ z)) (by omega)) (subB_cons (by first | rfl | exact congrArg (fun z => some (Value.int _ z)) (by omega)) (subB_cons (by first | rfl | exact congrArg (fun z => some (Value.int _ z)) (by omega)) (subB_cons (by first | rfl | exact congrArg (fun z => some (Value.int _ z)) (by omega)) (subB_nil _)))))), i.2⟩) ?_
  rintro ⟨i1, s1⟩ ⟨hm, hnd, hi⟩
  try dsimp only at hm hnd hi ⊢
  refine Tr.seq ?_
  refine Tr.seq ?_
  refine Tr.region ?_
  refine Run.val (lt rfl) (Y.move rfl) ?_
  refine Run.val (lt rfl) (Y.move rfl) ?_
  refine Run.val (lt rfl) (Y.lenSl rfl Own_es24) ?_
  refine Run.val (lt rfl) (Y.int rfl rfl rfl) ?_
  refine Run.to_end ?_
  refine Ex.go ?_
  rcases Bool.eq_false_or_eq_true (decide ((i1 : Int) < ((l.length : Nat) : Int))) with h6 | h6
  ·have g6 := h6
   try simp only [kb] at g6
   refine Tr.cond_t rfl h6 ?_
   refine Tr.to_end ?_
   refine Ex.go ?_
   refine Tr.seq ?_
   refine Tr.block ?_
   refine Tr.seq ?_
   refine Tr.seq ?_
   refine Tr.region ?_
   refine Run.val (lt rfl) (Y.move rfl) ?_
   refine Run.val (lt rfl) (Y.move rfl) ?_
   refine Run.val (lt rfl) (Y.move rfl) ?_
   refine Run.val (lt rfl) (Y.idxR i1 rfl rfl Own_es24 hv.of_nil (by omega) (by omega)) ?_
   refine Run.val (lt rfl) (Y.fieldR rfl Own_fo39_0 hv.of_nil (by omega)) ?_
   refine Run.val (lt rfl) (Y.ldR rfl Own_ts37 hv.of_nil (rows_at Le.len (by omega) Le.dflt (by decide) rfl)) ?_
   refine Run.val (lt rfl) (Y.lookup rfl rfl Own_mt35 Own_zo4 hm (j := 0) rfl (yes_look (Le.adrs (l.take i1)) ((l.getD i1 Le.dflt).addr))) ?_
   refine Run.to_end ?_
   refine Ex.go ?_
   rcases Bool.eq_false_or_eq_true (List.contains (Le.adrs (l.take i1)) ((l.getD i1 Le.dflt).addr)) with h7 | h7
   ·have g7 := h7
    try simp only [kb] at g7
    refine Tr.cond_t rfl h7 ?_
    refine Tr.seq ?_
    refine Tr.region ?_
    refine Run.val (lt rfl) (Y.assign rfl) ?_
    refine Run.to_end ?_
    refine Ex.go ?_
    refine Tr.to_ret ?_
    refine Ex.ret_then ?_
    refine Ex.ret_block ?_
    refine Ex.ret_then ?_
    refine Ex.ret_then ?_
    refine Ex.ret_block ?_
    refine Ex.ret_then ?_
    refine Ex.keep [] ?_
    exact Ex.ret1 rfl rfl  rfl
   ·have g7 := h7
    try simp only [kb] at g7
    refine Tr.cond_f rfl h7 ?_
    refine Tr.to_end ?_
    refine Ex.go ?_
    refine Tr.region ?_
    refine Run.val (lt rfl) (Y.move rfl) ?_
    refine Run.val (lt rfl) (Y.move rfl) ?_
    refine Run.val (lt rfl) (Y.move rfl) ?_
    refine Run.val (lt rfl) (Y.idxR i1 rfl rfl Own_es24 hv.of_nil (by omega) (by omega)) ?_
    refine Run.val (lt rfl) (Y.fieldR rfl Own_fo39_0 hv.of_nil (by omega)) ?_
    refine Run.val (lt rfl) (Y.ldR rfl Own_ts37 hv.of_nil (rows_at Le.len (by omega) Le.dflt (by decide) rfl)) ?_
    refine Run.mapUpdate 0 rfl rfl rfl Own_mt35 hm rfl (fun s8 hm9 => ?_)
    refine Run.heapTo (H' := [s8, [(b1, .cells #[.float .f64 y, .float .f64 s] 23 (0, 0))]]) rfl ?_
    refine Run.to_end ?_
    refine Ex.end_block ?_
    refine Ex.go ?_
    refine Tr.region ?_
    refine Run.val (lt rfl) (Y.move rfl) ?_
    refine Run.val (lt rfl) (Y.add rfl rfl (by omega)) ?_
    refine Run.val (lt rfl) (Y.assign rfl) ?_
    refine Run.to_end ?_
    refine Ex.keep [0, 0] ?_
    exact Ex.round (⟨i1 + 1, s8⟩ : Nat × Sg) ⟨by rw [Le.adrs_take (by omega), ← yes_push h7]; exact hm9, by rw [Le.adrs_take (by omega)]; exact nodup_snoc hnd h7, by omega⟩ (by dsimp only; omega) rfl rfl (subB_cons (by first | rfl | exact congrArg (fun z => some (Value.int _ z)) (by omega)) (subB_cons (by first | rfl | exact congrArg (fun z => some (Value.int _ z)) (by omega)) (subB_cons (by first | rfl | exact congrArg (fun z => some (Value.int _ z)) (by omega)) (subB_cons (by first | rfl | exact congrArg (fun z => some (Value.int _ z)) (by omega)) (subB_cons (by first | rfl | exact congrArg (fun z => some (Value.int _ z)) (by omega)) (subB_nil _))))))
  ·have g6 := h6
   try simp only [kb] at g6
   refine Tr.cond_f rfl h6 ?_
   refine Tr.to_exit ?_
   refine Ex.exit_then ?_
   refine Ex.exit_then ?_
   refine Ex.exit_in ?_
   refine Ex.go ?_
   refine Tr.seq ?_
   refine Tr.region ?_
   refine Run.val (lt rfl) (Y.loadAgg rfl Own_ag23 (Kn.at 1 rfl) rfl) ?_
   refine Run.call0 (l := [.tmp 56]) rfl rfl rfl (lt rfl) plans_h ?_
   refine Run.val (lt rfl) (Y.move rfl) ?_
   refine Run.val (lt rfl) (Y.extract rfl rfl) ?_
   refine Run.val (lt rfl) (Y.extract rfl rfl) ?_
   refine Run.alloc Own_zo27 (lt rfl) (fun b10 => ?_)
   refine Run.alloc Own_zo28 (lt rfl) (fun b11 => ?_)
   refine Run.store (s := [(b10, .cells #[.float .f64 y, .float .f64 s] 27 (0, 0))]) rfl rfl Own_sz27 (i := 1) rfl rfl (le rfl) rfl rfl ?_
   refine Run.store (s := [(b11, .cells #[.float .f64 y, .float .f64 s] 28 (0, 0))]) rfl rfl Own_sz28 (i := 0) rfl rfl (le rfl) rfl rfl ?_
   refine Run.to_end ?_
   refine Ex.go ?_
   refine Tr.seq ?_
   refine Tr.region ?_
   refine Run.val (lt rfl) (Y.loadAgg rfl Own_ag27 (Kn.at 1 rfl) rfl) ?_
   refine Run.val (lt rfl) (Y.move rfl) ?_
   refine Run.val (lt rfl) (Y.move rfl) ?_
   obtain rfl : i1 = l.length := by omega
   rw [List.take_length] at hnd
   clear hm
   refine Run.call [] (l := [.tmp 60, .tmp 61, .tmp 62]) rfl rfl rfl (lt rfl) (chosen_c hv (by omega)) (fun vg Vg Hg hleg hR => ?_)
   obtain ⟨_, rfl, hrg⟩ := hR
   obtain ⟨pg, cg, rfl, _⟩ := hrg.form
   replace hv := hv.le hleg
   have hgl := Le.chosen_len 1 l y s
   refine Run.heapTo (H' := [[(b11, .cells #[.float .f64 y, .float .f64 s] 28 (0, 0))], [(b10, .cells #[.float .f64 y, .float .f64 s] 27 (0, 0))], s1, [(b1, .cells #[.float .f64 y, .float .f64 s] 23 (0, 0))]]) rfl ?_
   refine Run.heapTo (H' := [[(b11, .cells #[.float .f64 y, .float .f64 s] 28 (0, 0))], [(b10, .cells #[.float .f64 y, .float .f64 s] 27 (0, 0))], s1, [(b1, .cells #[.float .f64 y, .float .f64 s] 23 (0, 0))]]) rfl ?_
   refine Run.val (lt rfl) (Y.assign rfl) ?_
   refine Run.to_end ?_
   refine Ex.go ?_
   refine Tr.seq ?_
   refine Tr.region ?_
   refine Run.makeMap .u32 (lt rfl) (fun v12 s13 hm14 => ?_)
   refine Run.val (lt rfl) (Y.assign rfl) ?_
   refine Run.to_end ?_
   refine Ex.go ?_
   refine Tr.seq ?_
   refine Tr.seq ?_
   refine Tr.region ?_
   refine Run.keepTo (H' := [s13]) [0] rfl ?_
   refine Run.val (lt rfl) (Y.assign rfl) ?_
   refine Run.to_end ?_
   refine Ex.go ?_
   refine Tr.block ?_
   refine Tr.loop (X := Nat × Sg) (fun z0 => Vg) (fun z0 => [z0.2]) (fun z0 => [(1, .int .i64 1), (2, .slice p l.length c), (12, .slice pg (Le.chosen 1 l y s).length cg), (13, v12), (14, .int .i64 (z0.1 : Int))]) (fun z0 => Om .u32 v12 (yes ((Le.chosen 1 l y s).take z0.1)) z0.2 ∧ z0.1 ≤ (Le.chosen 1 l y s).length) (fun z0 => (Le.chosen 1 l y s).length - z0.1) (⟨0, s13⟩ : Nat × Sg) ⟨hm14, Nat.zero_le _⟩ (fun a w i => ⟨i.1.sub (subB_cons (by first | rfl | exact congrArg (fun z => some (Value.int _ z)) (by omega)) (subB_cons (by first | rfl | exact congrArg (fun z => some (Value.int _ z)) (by omega)) (subB_cons (by first | rfl | exact congrArg (fun z => some (Value.int _ z)) (by omega)) (subB_cons (by first | rfl | exact congrArg (fun z => some (Value.int _ z)) (by omega)) (subB_cons (by first | rfl | exact congrArg (fun z => some (Value.int _ z)) (by omega)) (subB_nil _)))))), i.2⟩) ?_
   rintro ⟨i2, s2⟩ ⟨hm2, hi2⟩
   try dsimp only at hm2 hi2 ⊢
   refine Tr.seq ?_
   refine Tr.seq ?_
   refine Tr.region ?_
   refine Run.val (lt rfl) (Y.move rfl) ?_
   refine Run.val (lt rfl) (Y.move rfl) ?_
   refine Run.val (lt rfl) (Y.lenSl rfl Own_es32) ?_
   refine Run.val (lt rfl) (Y.int rfl rfl rfl) ?_
   refine Run.to_end ?_
   refine Ex.go ?_
   rcases Bool.eq_false_or_eq_true (decide ((i2 : Int) < (((Le.chosen 1 l y s).length : Nat) : Int))) with h15 | h15
   ·have g15 := h15
    try simp only [kb] at g15
    refine Tr.cond_t rfl h15 ?_
    refine Tr.to_end ?_
    refine Ex.go ?_
    refine Tr.seq ?_
    refine Tr.block ?_
    refine Tr.seq ?_
    refine Tr.seq ?_
    refine Tr.quiet Own_mo (by kernel_rfl) ?_
    refine RunQ.val (lt rfl) (Y.move rfl) ?_
    refine RunQ.val (lt rfl) (Y.int rfl rfl rfl) ?_
    refine RunQ.val (lt rfl) (Y.move rfl) ?_
    rcases Bool.eq_false_or_eq_true (decide ((i2 : Int) > 0)) with h16 | h16
    ·have g16 := h16
     try simp only [kb] at g16
     refine RunQ.on rfl rfl rfl h16 ?_
     refine RunQ.val (lt rfl) (Y.move rfl) ?_
     refine RunQ.on rfl rfl rfl h16 ?_
     refine RunQ.val (lt rfl) (Y.move rfl) ?_
     refine RunQ.on rfl rfl rfl h16 ?_
     refine RunQ.val (lt rfl) (Y.idxR i2 rfl rfl Own_es32 hrg.of_nil (by omega) (by omega)) ?_
     refine RunQ.on rfl rfl rfl h16 ?_
     refine RunQ.val (lt rfl) (Y.ldR rfl Own_ts37 hrg.of_nil (flatm_at0 nU_enc.len (by omega) 0 (by decide) rfl)) ?_
     refine RunQ.on rfl rfl rfl h16 ?_
     refine RunQ.val (lt rfl) (Y.move rfl) ?_
     refine RunQ.on rfl rfl rfl h16 ?_
     refine RunQ.val (lt rfl) (Y.move rfl) ?_
     refine RunQ.on rfl rfl rfl h16 ?_
     refine RunQ.val (lt rfl) (Y.sub rfl rfl (by omega)) ?_
     refine RunQ.on rfl rfl rfl h16 ?_
     refine RunQ.val (lt rfl) (Y.idxR (i2 - 1) rfl rfl Own_es32 hrg.of_nil (by omega) (by omega)) ?_
     refine RunQ.on rfl rfl rfl h16 ?_
     refine RunQ.val (lt rfl) (Y.ldR rfl Own_ts37 hrg.of_nil (flatm_at0 nU_enc.len (by omega) 0 (by decide) rfl)) ?_
     refine RunQ.on rfl rfl rfl h16 ?_
     refine RunQ.val (lt rfl) (Y.int rfl rfl rfl) ?_
     refine RunQ.val (lt rfl) (Y.pick_t rfl h16 rfl) ?_
     refine RunQ.to_end ?_
     refine Ex.go ?_
     rcases Bool.eq_false_or_eq_true (decide (((Le.chosen 1 l y s).getD i2 0) ≤ ((Le.chosen 1 l y s).getD (i2 - 1) 0))) with h17 | h17
     ·have g17 := h17
      try simp only [kb] at g17
      refine Tr.cond_t rfl h17 ?_
      refine Tr.seq ?_
      refine Tr.region ?_
      refine Run.val (lt rfl) (Y.assign rfl) ?_
      refine Run.to_end ?_
      refine Ex.go ?_
      refine Tr.to_ret ?_
      refine Ex.ret_then ?_
      refine Ex.ret_block ?_
      refine Ex.ret_then ?_
      refine Ex.ret_then ?_
      refine Ex.ret_block ?_
      refine Ex.ret_then ?_
      refine Ex.keep [] ?_
      exact Ex.ret1 rfl rfl  (absurd (Le.chosen_lt (b := 1) (l := l) (y := y) (s := s) (by decide) hnd (i := i2 - 1) (by omega)) (by rw [show i2 - 1 + 1 = i2 by omega]; omega))
     ·have g17 := h17
      try simp only [kb] at g17
      refine Tr.cond_f rfl h17 ?_
      refine Tr.to_end ?_
      refine Ex.go ?_
      refine Tr.region ?_
      refine Run.val (lt rfl) (Y.move rfl) ?_
      refine Run.val (lt rfl) (Y.move rfl) ?_
      refine Run.val (lt rfl) (Y.move rfl) ?_
      refine Run.val (lt rfl) (Y.idxR i2 rfl rfl Own_es32 hrg.of_nil (by omega) (by omega)) ?_
      refine Run.val (lt rfl) (Y.ldR rfl Own_ts37 hrg.of_nil (flatm_at0 nU_enc.len (by omega) 0 (by decide) rfl)) ?_
      refine Run.mapUpdate 0 rfl rfl rfl Own_mt35 hm2 rfl (fun s18 hm19 => ?_)
      refine Run.heapTo (H' := [s18]) rfl ?_
      refine Run.to_end ?_
      refine Ex.end_block ?_
      refine Ex.go ?_
      refine Tr.region ?_
      refine Run.val (lt rfl) (Y.move rfl) ?_
      refine Run.val (lt rfl) (Y.add rfl rfl (by omega)) ?_
      refine Run.val (lt rfl) (Y.assign rfl) ?_
      refine Run.to_end ?_
      refine Ex.keep [0] ?_
      exact Ex.round (⟨i2 + 1, s18⟩ : Nat × Sg) ⟨by rw [take_succ_getD _ i2 0 (by omega), ← yes_push' (Le.chosen_new (by decide) hnd (by omega))]; exact hm19, by omega⟩ (by dsimp only; omega) rfl rfl (subB_cons (by first | rfl | exact congrArg (fun z => some (Value.int _ z)) (by omega)) (subB_cons (by first | rfl | exact congrArg (fun z => some (Value.int _ z)) (by omega)) (subB_cons (by first | rfl | exact congrArg (fun z => some (Value.int _ z)) (by omega)) (subB_cons (by first | rfl | exact congrArg (fun z => some (Value.int _ z)) (by omega)) (subB_cons (by first | rfl | exact congrArg (fun z => some (Value.int _ z)) (by omega)) (subB_nil _))))))
    ·have g16 := h16
     try simp only [kb] at g16
     refine RunQ.off rfl rfl rfl h16 rfl (lt rfl) ?_
     refine RunQ.off rfl rfl rfl h16 rfl (lt rfl) ?_
     refine RunQ.off rfl rfl rfl h16 rfl (lt rfl) ?_
     refine RunQ.off rfl rfl rfl h16 rfl (lt rfl) ?_
     refine RunQ.off rfl rfl rfl h16 rfl (lt rfl) ?_
     refine RunQ.off rfl rfl rfl h16 rfl (lt rfl) ?_
     refine RunQ.off rfl rfl rfl h16 rfl (lt rfl) ?_
     refine RunQ.off rfl rfl rfl h16 rfl (lt rfl) ?_
     refine RunQ.off rfl rfl rfl h16 rfl (lt rfl) ?_
     refine RunQ.off rfl rfl rfl h16 rfl (lt rfl) ?_
     refine RunQ.val (lt rfl) (Y.pick_f rfl h16 rfl) ?_
     refine RunQ.to_end ?_
     refine Ex.go ?_
     refine Tr.cond_f rfl rfl ?_
     refine Tr.to_end ?_
     refine Ex.go ?_
     refine Tr.region ?_
     refine Run.val (lt rfl) (Y.move rfl) ?_
     refine Run.val (lt rfl) (Y.move rfl) ?_
     refine Run.val (lt rfl) (Y.move rfl) ?_
     refine Run.val (lt rfl) (Y.idxR i2 rfl rfl Own_es32 hrg.of_nil (by omega) (by omega)) ?_
     refine Run.val (lt rfl) (Y.ldR rfl Own_ts37 hrg.of_nil (flatm_at0 nU_enc.len (by omega) 0 (by decide) rfl)) ?_
     refine Run.mapUpdate 0 rfl rfl rfl Own_mt35 hm2 rfl (fun s20 hm21 => ?_)
     refine Run.heapTo (H' := [s20]) rfl ?_
     refine Run.to_end ?_
     refine Ex.end_block ?_
     refine Ex.go ?_
     refine Tr.region ?_
     refine Run.val (lt rfl) (Y.move rfl) ?_
     refine Run.val (lt rfl) (Y.add rfl rfl (by omega)) ?_
     refine Run.val (lt rfl) (Y.assign rfl) ?_
     refine Run.to_end ?_
     refine Ex.keep [0] ?_
     exact Ex.round (⟨i2 + 1, s20⟩ : Nat × Sg) ⟨by rw [take_succ_getD _ i2 0 (by omega), ← yes_push' (Le.chosen_new (by decide) hnd (by omega))]; exact hm21, by omega⟩ (by dsimp only; omega) rfl rfl (subB_cons (by first | rfl | exact congrArg (fun z => some (Value.int _ z)) (by omega)) (subB_cons (by first | rfl | exact congrArg (fun z => some (Value.int _ z)) (by omega)) (subB_cons (by first | rfl | exact congrArg (fun z => some (Value.int _ z)) (by omega)) (subB_cons (by first | rfl | exact congrArg (fun z => some (Value.int _ z)) (by omega)) (subB_cons (by first | rfl | exact congrArg (fun z => some (Value.int _ z)) (by omega)) (subB_nil _))))))
   ·have g15 := h15
    try simp only [kb] at g15
    refine Tr.cond_f rfl h15 ?_
    refine Tr.to_exit ?_
    refine Ex.exit_then ?_
    refine Ex.exit_then ?_
    refine Ex.exit_in ?_
    refine Ex.go ?_
    refine Tr.seq ?_
    refine Tr.region ?_
    refine Run.val (lt rfl) (Y.assign rfl) ?_
    refine Run.to_end ?_
    refine Ex.go ?_
    refine Tr.seq ?_
    refine Tr.seq ?_
    refine Tr.region ?_
    refine Run.val (lt rfl) (Y.assign rfl) ?_
    refine Run.to_end ?_
    refine Ex.go ?_
    refine Tr.block ?_
    refine Tr.loop (X := Nat) (fun z0 => Vg) (fun z0 => [s2]) (fun z0 => [(1, .int .i64 1), (2, .slice p l.length c), (12, .slice pg (Le.chosen 1 l y s).length cg), (13, v12), (15, .int .i64 ((Le.cnt 1 (Le.chosen 1 l y s) (l.take z0) : Nat) : Int)), (16, .int .i64 (z0 : Int))]) (fun z0 => z0 ≤ l.length) (fun z0 => l.length - z0) (0 : Nat) (Nat.zero_le _) (fun a w i => ⟨i.1.sub (subB_cons (by first | rfl | exact congrArg (fun z => some (Value.int _ z)) (by omega)) (subB_cons (by first | rfl | exact congrArg (fun z => some (Value.int _ z)) (by omega)) (subB_cons (by first | rfl | exact congrArg (fun z => some (Value.int _ z)) (by omega)) (subB_cons (by first | rfl | exact congrArg (fun z => some (Value.int _ z)) (by omega)) (subB_cons (by first | rfl | exact congrArg (fun z => some (Value.int _ z)) (by omega)) (subB_cons (by first | rfl | exact congrArg (fun z => some (Value.int _ z)) (by omega)) (subB_nil _))))))), i.2⟩) ?_
    rintro i3 hi3
    have hcl := Le.cnt_le 1 (Le.chosen 1 l y s) (l.take i3)
    rw [List.length_take] at hcl
    refine Tr.seq ?_
    refine Tr.seq ?_
    refine Tr.region ?_
    refine Run.val (lt rfl) (Y.move rfl) ?_
    refine Run.val (lt rfl) (Y.move rfl) ?_
    refine Run.val (lt rfl) (Y.lenSl rfl Own_es24) ?_
    refine Run.val (lt rfl) (Y.int rfl rfl rfl) ?_
    refine Run.to_end ?_
    refine Ex.go ?_
    rcases Bool.eq_false_or_eq_true (decide ((i3 : Int) < ((l.length : Nat) : Int))) with h22 | h22
    ·have g22 := h22
     try simp only [kb] at g22
     refine Tr.cond_t rfl h22 ?_
     refine Tr.to_end ?_
     refine Ex.go ?_
     refine Tr.seq ?_
     refine Tr.block ?_
     refine Tr.seq ?_
     refine Tr.region ?_
     refine Run.val (lt rfl) (Y.move rfl) ?_
     refine Run.val (lt rfl) (Y.move rfl) ?_
     refine Run.val (lt rfl) (Y.idxR i3 rfl rfl Own_es24 hv.of_nil (by omega) (by omega)) ?_
     refine Run.val (lt rfl) (Y.fieldR rfl Own_fo39_1 hv.of_nil (by omega)) ?_
     refine Run.val (lt rfl) (Y.ldR rfl Own_ts3 hv.of_nil (rows_at Le.len (by omega) Le.dflt (by decide) rfl)) ?_
     refine Run.val (lt rfl) (Y.int rfl rfl rfl) ?_
     refine Run.val (lt rfl) (Y.move rfl) ?_
     rcases Bool.eq_false_or_eq_true (((l.getD i3 Le.dflt).bind) == 0) with h23 | h23
     ·have g23 := h23
      try simp only [kb] at g23
      refine Run.on rfl rfl rfl h23 ?_
      refine Run.val (lt rfl) (Y.move rfl) ?_
      refine Run.on rfl rfl rfl h23 ?_
      refine Run.val (lt rfl) (Y.int (r := .bool false) rfl rfl rfl) ?_
      refine Run.val (lt rfl) (Y.pick_t rfl h23 rfl) ?_
      refine Run.val (lt rfl) (Y.move rfl) ?_
      refine Run.on rfl rfl rfl rfl ?_
      refine Run.val (lt rfl) (Y.move rfl) ?_
      refine Run.on rfl rfl rfl rfl ?_
      refine Run.val (lt rfl) (Y.move rfl) ?_
      refine Run.on rfl rfl rfl rfl ?_
      refine Run.val (lt rfl) (Y.idxR i3 rfl rfl Own_es24 hv.of_nil (by omega) (by omega)) ?_
      refine Run.on rfl rfl rfl rfl ?_
      refine Run.val (lt rfl) (Y.fieldR rfl Own_fo39_1 hv.of_nil (by omega)) ?_
      refine Run.on rfl rfl rfl rfl ?_
      refine Run.val (lt rfl) (Y.ldR rfl Own_ts3 hv.of_nil (rows_at Le.len (by omega) Le.dflt (by decide) rfl)) ?_
      refine Run.on rfl rfl rfl rfl ?_
      refine Run.val (lt rfl) (Y.int rfl rfl rfl) ?_
      refine Run.on rfl rfl rfl rfl ?_
      refine Run.val (lt rfl) (Y.move rfl) ?_
      rcases Bool.eq_false_or_eq_true (((l.getD i3 Le.dflt).bind) == 1) with h24 | h24
      ·have g24 := h24
       try simp only [kb] at g24
       refine Run.on rfl rfl rfl h24 ?_
       refine Run.val (lt rfl) (Y.move rfl) ?_
       refine Run.on rfl rfl rfl h24 ?_
       refine Run.val (lt rfl) (Y.int (r := .bool true) rfl rfl rfl) ?_
       refine Run.on rfl rfl rfl rfl ?_
       refine Run.val (lt rfl) (Y.pick_t rfl h24 rfl) ?_
       refine Run.val (lt rfl) (Y.pick_f rfl rfl rfl) ?_
       refine Run.val (lt rfl) (Y.assign rfl) ?_
       refine Run.to_end ?_
       refine Ex.go ?_
       refine Tr.seq ?_
       refine Tr.seq ?_
       refine Tr.region ?_
       refine Run.val (lt rfl) (Y.move rfl) ?_
       refine Run.val (lt rfl) (Y.move rfl) ?_
       refine Run.val (lt rfl) (Y.move rfl) ?_
       refine Run.val (lt rfl) (Y.idxR i3 rfl rfl Own_es24 hv.of_nil (by omega) (by omega)) ?_
       refine Run.val (lt rfl) (Y.fieldR rfl Own_fo39_0 hv.of_nil (by omega)) ?_
       refine Run.val (lt rfl) (Y.ldR rfl Own_ts37 hv.of_nil (rows_at Le.len (by omega) Le.dflt (by decide) rfl)) ?_
       refine Run.val (lt rfl) (Y.lookup rfl rfl Own_mt35 Own_zo4 hm2 (j := 0) rfl (yes_look ((Le.chosen 1 l y s).take i2) ((l.getD i3 Le.dflt).addr))) ?_
       refine Run.val (lt rfl) (Y.move rfl) ?_
       rcases Bool.eq_false_or_eq_true (List.contains ((Le.chosen 1 l y s).take i2) ((l.getD i3 Le.dflt).addr)) with h25 | h25
       ·have g25 := h25
        try simp only [kb] at g25
        refine Run.on rfl rfl rfl h25 ?_
        refine Run.val (lt rfl) (Y.move rfl) ?_
        refine Run.val (lt rfl) (Y.pick_t rfl h25 rfl) ?_
        refine Run.to_end ?_
        refine Ex.go ?_
        refine Tr.cond_t rfl rfl ?_
        refine Tr.region ?_
        refine Run.val (lt rfl) (Y.move rfl) ?_
        refine Run.val (lt rfl) (Y.add rfl rfl (by omega)) ?_
        refine Run.val (lt rfl) (Y.assign rfl) ?_
        refine Run.to_end ?_
        refine Ex.go ?_
        refine Tr.seq ?_
        refine Tr.quiet Own_mo (by kernel_rfl) ?_
        refine RunQ.val (lt rfl) (Y.move rfl) ?_
        refine RunQ.val (lt rfl) (Y.move rfl) ?_
        refine RunQ.on rfl rfl rfl rfl ?_
        refine RunQ.val (lt rfl) (Y.move rfl) ?_
        refine RunQ.on rfl rfl rfl rfl ?_
        refine RunQ.val (lt rfl) (Y.move rfl) ?_
        refine RunQ.on rfl rfl rfl rfl ?_
        refine RunQ.val (lt rfl) (Y.move rfl) ?_
        refine RunQ.on rfl rfl rfl rfl ?_
        refine RunQ.val (lt rfl) (Y.idxR i3 rfl rfl Own_es24 hv.of_nil (by omega) (by omega)) ?_
        refine RunQ.on rfl rfl rfl rfl ?_
        refine RunQ.val (lt rfl) (Y.fieldR rfl Own_fo39_0 hv.of_nil (by omega)) ?_
        refine RunQ.on rfl rfl rfl rfl ?_
        refine RunQ.val (lt rfl) (Y.ldR rfl Own_ts37 hv.of_nil (rows_at Le.len (by omega) Le.dflt (by decide) rfl)) ?_
        refine RunQ.on rfl rfl rfl rfl ?_
        refine RunQ.val (lt rfl) (Y.lookup rfl rfl Own_mt35 Own_zo4 hm2 (j := 0) rfl (yes_look ((Le.chosen 1 l y s).take i2) ((l.getD i3 Le.dflt).addr))) ?_
        refine RunQ.on rfl rfl rfl rfl ?_
        refine RunQ.val (lt rfl) (Y.not rfl) ?_
        refine RunQ.val (lt rfl) (Y.pick_t rfl rfl rfl) ?_
        refine RunQ.val (lt rfl) (Y.move rfl) ?_
        refine RunQ.off rfl rfl rfl (congrArg Bool.not h25) rfl (lt rfl) ?_
        refine RunQ.off rfl rfl rfl (congrArg Bool.not h25) rfl (lt rfl) ?_
        refine RunQ.off rfl rfl rfl (congrArg Bool.not h25) rfl (lt rfl) ?_
        refine RunQ.val (lt rfl) (Y.pick_f rfl (congrArg Bool.not h25) rfl) ?_
        refine RunQ.val (lt rfl) (Y.move rfl) ?_
        refine RunQ.off rfl rfl rfl rfl rfl (lt rfl) ?_
        refine RunQ.off rfl rfl rfl rfl rfl (lt rfl) ?_
        refine RunQ.off rfl rfl rfl rfl rfl (lt rfl) ?_
        refine RunQ.off rfl rfl rfl rfl rfl (lt rfl) ?_
        refine RunQ.off rfl rfl rfl rfl rfl (lt rfl) ?_
        refine RunQ.off rfl rfl rfl rfl rfl (lt rfl) ?_
        refine RunQ.off rfl rfl rfl rfl rfl (lt rfl) ?_
        refine RunQ.off rfl rfl rfl rfl rfl (lt rfl) ?_
        refine RunQ.off rfl rfl rfl rfl rfl (lt rfl) ?_
        refine RunQ.val (lt rfl) (Y.pick_f rfl rfl rfl) ?_
        refine RunQ.to_end ?_
        refine Ex.go ?_
        refine Tr.cond_f rfl rfl ?_
        refine Tr.to_end ?_
        refine Ex.end_block ?_
        refine Ex.go ?_
        refine Tr.region ?_
        refine Run.val (lt rfl) (Y.move rfl) ?_
        refine Run.val (lt rfl) (Y.add rfl rfl (by omega)) ?_
        refine Run.val (lt rfl) (Y.assign rfl) ?_
        refine Run.to_end ?_
        refine Ex.keep [0] ?_
        have qc := Le.cnt_yes (b := 1) (g := Le.chosen 1 l y s) (l := l) (i := i3) (by omega) h24 (by have hc := h25; rw [List.take_of_length_le (by omega)] at hc; exact hc)
        exact Ex.round (i3 + 1 : Nat) (by omega) (by omega) rfl rfl (subB_cons (by first | rfl | exact congrArg (fun z => some (Value.int _ z)) (by omega) | exact congrArg (fun z => some (Value.int _ z)) (by omega)) (subB_cons (by first | rfl | exact congrArg (fun z => some (Value.int _ z)) (by omega) | exact congrArg (fun z => some (Value.int _ z)) (by omega)) (subB_cons (by first | rfl | exact congrArg (fun z => some (Value.int _ z)) (by omega) | exact congrArg (fun z => some (Value.int _ z)) (by omega)) (subB_cons (by first | rfl | exact congrArg (fun z => some (Value.int _ z)) (by omega) | exact congrArg (fun z => some (Value.int _ z)) (by omega)) (subB_cons (by first | rfl | exact congrArg (fun z => some (Value.int _ z)) (by omega) | exact congrArg (fun z => some (Value.int _ z)) (by omega)) (subB_cons (by first | rfl | exact congrArg (fun z => some (Value.int _ z)) (by omega) | exact congrArg (fun z => some (Value.int _ z)) (by omega)) (subB_nil _)))))))
       ·have g25 := h25
        try simp only [kb] at g25
        refine Run.off rfl rfl rfl h25 rfl (lt rfl) ?_
        refine Run.val (lt rfl) (Y.pick_f rfl h25 rfl) ?_
        refine Run.to_end ?_
        refine Ex.go ?_
        refine Tr.cond_f rfl rfl ?_
        refine Tr.to_end ?_
        refine Ex.go ?_
        refine Tr.seq ?_
        refine Tr.quiet Own_mo (by kernel_rfl) ?_
        refine RunQ.val (lt rfl) (Y.move rfl) ?_
        refine RunQ.val (lt rfl) (Y.move rfl) ?_
        refine RunQ.on rfl rfl rfl rfl ?_
        refine RunQ.val (lt rfl) (Y.move rfl) ?_
        refine RunQ.on rfl rfl rfl rfl ?_
        refine RunQ.val (lt rfl) (Y.move rfl) ?_
        refine RunQ.on rfl rfl rfl rfl ?_
        refine RunQ.val (lt rfl) (Y.move rfl) ?_
        refine RunQ.on rfl rfl rfl rfl ?_
        refine RunQ.val (lt rfl) (Y.idxR i3 rfl rfl Own_es24 hv.of_nil (by omega) (by omega)) ?_
        refine RunQ.on rfl rfl rfl rfl ?_
        refine RunQ.val (lt rfl) (Y.fieldR rfl Own_fo39_0 hv.of_nil (by omega)) ?_
        refine RunQ.on rfl rfl rfl rfl ?_
        refine RunQ.val (lt rfl) (Y.ldR rfl Own_ts37 hv.of_nil (rows_at Le.len (by omega) Le.dflt (by decide) rfl)) ?_
        refine RunQ.on rfl rfl rfl rfl ?_
        refine RunQ.val (lt rfl) (Y.lookup rfl rfl Own_mt35 Own_zo4 hm2 (j := 0) rfl (yes_look ((Le.chosen 1 l y s).take i2) ((l.getD i3 Le.dflt).addr))) ?_
        refine RunQ.on rfl rfl rfl rfl ?_
        refine RunQ.val (lt rfl) (Y.not rfl) ?_
        refine RunQ.val (lt rfl) (Y.pick_t rfl rfl rfl) ?_
        refine RunQ.val (lt rfl) (Y.move rfl) ?_
        refine RunQ.on rfl rfl rfl (congrArg Bool.not h25) ?_
        refine RunQ.val (lt rfl) (Y.move rfl) ?_
        refine RunQ.on rfl rfl rfl (congrArg Bool.not h25) ?_
        refine RunQ.val (lt rfl) (Y.lenSl rfl Own_es32) ?_
        refine RunQ.on rfl rfl rfl (congrArg Bool.not h25) ?_
        refine RunQ.val (lt rfl) (Y.int rfl rfl rfl) ?_
        refine RunQ.val (lt rfl) (Y.pick_t rfl (congrArg Bool.not h25) rfl) ?_
        refine RunQ.val (lt rfl) (Y.move rfl) ?_
        rcases Bool.eq_false_or_eq_true (decide ((((Le.chosen 1 l y s).length : Nat) : Int) > 0)) with h26 | h26
        ·have g26 := h26
         try simp only [kb] at g26
         refine RunQ.on rfl rfl rfl h26 ?_
         refine RunQ.val (lt rfl) (Y.move rfl) ?_
         refine RunQ.on rfl rfl rfl h26 ?_
         refine RunQ.val (lt rfl) (Y.move rfl) ?_
         refine RunQ.on rfl rfl rfl h26 ?_
         refine RunQ.val (lt rfl) (Y.idxR i3 rfl rfl Own_es24 hv.of_nil (by omega) (by omega)) ?_
         refine RunQ.on rfl rfl rfl h26 ?_
         refine RunQ.val (lt rfl) (Y.fieldR rfl Own_fo39_0 hv.of_nil (by omega)) ?_
         refine RunQ.on rfl rfl rfl h26 ?_
         refine RunQ.val (lt rfl) (Y.ldR rfl Own_ts37 hv.of_nil (rows_at Le.len (by omega) Le.dflt (by decide) rfl)) ?_
         refine RunQ.on rfl rfl rfl h26 ?_
         refine RunQ.val (lt rfl) (Y.move rfl) ?_
         refine RunQ.on rfl rfl rfl h26 ?_
         refine RunQ.val (lt rfl) (Y.idxR 0 rfl rfl Own_es32 hrg.of_nil (by omega) (by omega)) ?_
         refine RunQ.on rfl rfl rfl h26 ?_
         refine RunQ.val (lt rfl) (Y.ldR rfl Own_ts37 hrg.of_nil (flatm_at0 nU_enc.len (by omega) 0 (by decide) rfl)) ?_
         refine RunQ.on rfl rfl rfl h26 ?_
         refine RunQ.val (lt rfl) (Y.int rfl rfl rfl) ?_
         refine RunQ.val (lt rfl) (Y.pick_t rfl h26 rfl) ?_
         refine RunQ.to_end ?_
         refine Ex.go ?_
         rcases Bool.eq_false_or_eq_true (decide (((l.getD i3 Le.dflt).addr) > ((Le.chosen 1 l y s).getD 0 0))) with h27 | h27
         ·have g27 := h27
          try simp only [kb] at g27
          refine Tr.cond_t rfl h27 ?_
          refine Tr.seq ?_
          refine Tr.region ?_
          refine Run.val (lt rfl) (Y.assign rfl) ?_
          refine Run.to_end ?_
          refine Ex.go ?_
          refine Tr.to_ret ?_
          refine Ex.ret_block ?_
          refine Ex.ret_then ?_
          refine Ex.ret_then ?_
          refine Ex.ret_block ?_
          refine Ex.ret_then ?_
          refine Ex.keep [] ?_
          exact Ex.ret1 rfl rfl  (absurd (Le.chosen_max (b := 1) (y := y) (s := s) (by decide) (i := i3) (by omega) h24 (by have hc := h25; rw [List.take_of_length_le (by omega)] at hc; exact hc) (by omega)) (by omega))
         ·have g27 := h27
          try simp only [kb] at g27
          refine Tr.cond_f rfl h27 ?_
          refine Tr.to_end ?_
          refine Ex.end_block ?_
          refine Ex.go ?_
          refine Tr.region ?_
          refine Run.val (lt rfl) (Y.move rfl) ?_
          refine Run.val (lt rfl) (Y.add rfl rfl (by omega)) ?_
          refine Run.val (lt rfl) (Y.assign rfl) ?_
          refine Run.to_end ?_
          refine Ex.keep [0] ?_
          have qc := Le.cnt_no (b := 1) (g := Le.chosen 1 l y s) (l := l) (i := i3) (by omega) (.inr (by have hc := h25; rw [List.take_of_length_le (by omega)] at hc; exact hc))
          exact Ex.round (i3 + 1 : Nat) (by omega) (by omega) rfl rfl (subB_cons (by first | rfl | exact congrArg (fun z => some (Value.int _ z)) (by omega) | exact congrArg (fun z => some (Value.int _ z)) (by omega)) (subB_cons (by first | rfl | exact congrArg (fun z => some (Value.int _ z)) (by omega) | exact congrArg (fun z => some (Value.int _ z)) (by omega)) (subB_cons (by first | rfl | exact congrArg (fun z => some (Value.int _ z)) (by omega) | exact congrArg (fun z => some (Value.int _ z)) (by omega)) (subB_cons (by first | rfl | exact congrArg (fun z => some (Value.int _ z)) (by omega) | exact congrArg (fun z => some (Value.int _ z)) (by omega)) (subB_cons (by first | rfl | exact congrArg (fun z => some (Value.int _ z)) (by omega) | exact congrArg (fun z => some (Value.int _ z)) (by omega)) (subB_cons (by first | rfl | exact congrArg (fun z => some (Value.int _ z)) (by omega) | exact congrArg (fun z => some (Value.int _ z)) (by omega)) (subB_nil _)))))))
        ·have g26 := h26
         try simp only [kb] at g26
         refine RunQ.off rfl rfl rfl h26 rfl (lt rfl) ?_
         refine RunQ.off rfl rfl rfl h26 rfl (lt rfl) ?_
         refine RunQ.off rfl rfl rfl h26 rfl (lt rfl) ?_
         refine RunQ.off rfl rfl rfl h26 rfl (lt rfl) ?_
         refine RunQ.off rfl rfl rfl h26 rfl (lt rfl) ?_
         refine RunQ.off rfl rfl rfl h26 rfl (lt rfl) ?_
         refine RunQ.off rfl rfl rfl h26 rfl (lt rfl) ?_
         refine RunQ.off rfl rfl rfl h26 rfl (lt rfl) ?_
         refine RunQ.off rfl rfl rfl h26 rfl (lt rfl) ?_
         refine RunQ.val (lt rfl) (Y.pick_f rfl h26 rfl) ?_
         refine RunQ.to_end ?_
         refine Ex.go ?_
         refine Tr.cond_f rfl rfl ?_
         refine Tr.to_end ?_
         refine Ex.end_block ?_
         refine Ex.go ?_
         refine Tr.region ?_
         refine Run.val (lt rfl) (Y.move rfl) ?_
         refine Run.val (lt rfl) (Y.add rfl rfl (by omega)) ?_
         refine Run.val (lt rfl) (Y.assign rfl) ?_
         refine Run.to_end ?_
         refine Ex.keep [0] ?_
         have qc := Le.cnt_no (b := 1) (g := Le.chosen 1 l y s) (l := l) (i := i3) (by omega) (.inr (by have hc := h25; rw [List.take_of_length_le (by omega)] at hc; exact hc))
         exact Ex.round (i3 + 1 : Nat) (by omega) (by omega) rfl rfl (subB_cons (by first | rfl | exact congrArg (fun z => some (Value.int _ z)) (by omega) | exact congrArg (fun z => some (Value.int _ z)) (by omega)) (subB_cons (by first | rfl | exact congrArg (fun z => some (Value.int _ z)) (by omega) | exact congrArg (fun z => some (Value.int _ z)) (by omega)) (subB_cons (by first | rfl | exact congrArg (fun z => some (Value.int _ z)) (by omega) | exact congrArg (fun z => some (Value.int _ z)) (by omega)) (subB_cons (by first | rfl | exact congrArg (fun z => some (Value.int _ z)) (by omega) | exact congrArg (fun z => some (Value.int _ z)) (by omega)) (subB_cons (by first | rfl | exact congrArg (fun z => some (Value.int _ z)) (by omega) | exact congrArg (fun z => some (Value.int _ z)) (by omega)) (subB_cons (by first | rfl | exact congrArg (fun z => some (Value.int _ z)) (by omega) | exact congrArg (fun z => some (Value.int _ z)) (by omega)) (subB_nil _)))))))
      ·have g24 := h24
       try simp only [kb] at g24
       refine Run.off rfl rfl rfl h24 rfl (lt rfl) ?_
       refine Run.off rfl rfl rfl h24 rfl (lt rfl) ?_
       refine Run.on rfl rfl rfl rfl ?_
       refine Run.val (lt rfl) (Y.pick_f rfl h24 rfl) ?_
       refine Run.val (lt rfl) (Y.pick_f rfl rfl rfl) ?_
       refine Run.val (lt rfl) (Y.assign rfl) ?_
       refine Run.to_end ?_
       refine Ex.go ?_
       refine Tr.seq ?_
       refine Tr.seq ?_
       refine Tr.region ?_
       refine Run.val (lt rfl) (Y.move rfl) ?_
       refine Run.val (lt rfl) (Y.move rfl) ?_
       refine Run.val (lt rfl) (Y.move rfl) ?_
       refine Run.val (lt rfl) (Y.idxR i3 rfl rfl Own_es24 hv.of_nil (by omega) (by omega)) ?_
       refine Run.val (lt rfl) (Y.fieldR rfl Own_fo39_0 hv.of_nil (by omega)) ?_
       refine Run.val (lt rfl) (Y.ldR rfl Own_ts37 hv.of_nil (rows_at Le.len (by omega) Le.dflt (by decide) rfl)) ?_
       refine Run.val (lt rfl) (Y.lookup rfl rfl Own_mt35 Own_zo4 hm2 (j := 0) rfl (yes_look ((Le.chosen 1 l y s).take i2) ((l.getD i3 Le.dflt).addr))) ?_
       refine Run.val (lt rfl) (Y.move rfl) ?_
       rcases Bool.eq_false_or_eq_true (List.contains ((Le.chosen 1 l y s).take i2) ((l.getD i3 Le.dflt).addr)) with h28 | h28
       ·have g28 := h28
        try simp only [kb] at g28
        refine Run.on rfl rfl rfl h28 ?_
        refine Run.val (lt rfl) (Y.move rfl) ?_
        refine Run.val (lt rfl) (Y.pick_t rfl h28 rfl) ?_
        refine Run.to_end ?_
        refine Ex.go ?_
        refine Tr.cond_f rfl rfl ?_
        refine Tr.to_end ?_
        refine Ex.go ?_
        refine Tr.seq ?_
        refine Tr.quiet Own_mo (by kernel_rfl) ?_
        refine RunQ.val (lt rfl) (Y.move rfl) ?_
        refine RunQ.val (lt rfl) (Y.move rfl) ?_
        refine RunQ.off rfl rfl rfl rfl rfl (lt rfl) ?_
        refine RunQ.off rfl rfl rfl rfl rfl (lt rfl) ?_
        refine RunQ.off rfl rfl rfl rfl rfl (lt rfl) ?_
        refine RunQ.off rfl rfl rfl rfl rfl (lt rfl) ?_
        refine RunQ.off rfl rfl rfl rfl rfl (lt rfl) ?_
        refine RunQ.off rfl rfl rfl rfl rfl (lt rfl) ?_
        refine RunQ.off rfl rfl rfl rfl rfl (lt rfl) ?_
        refine RunQ.off rfl rfl rfl rfl rfl (lt rfl) ?_
        refine RunQ.val (lt rfl) (Y.pick_f rfl rfl rfl) ?_
        refine RunQ.val (lt rfl) (Y.move rfl) ?_
        refine RunQ.off rfl rfl rfl rfl rfl (lt rfl) ?_
        refine RunQ.off rfl rfl rfl rfl rfl (lt rfl) ?_
        refine RunQ.off rfl rfl rfl rfl rfl (lt rfl) ?_
        refine RunQ.val (lt rfl) (Y.pick_f rfl rfl rfl) ?_
        refine RunQ.val (lt rfl) (Y.move rfl) ?_
        refine RunQ.off rfl rfl rfl rfl rfl (lt rfl) ?_
        refine RunQ.off rfl rfl rfl rfl rfl (lt rfl) ?_
        refine RunQ.off rfl rfl rfl rfl rfl (lt rfl) ?_
        refine RunQ.off rfl rfl rfl rfl rfl (lt rfl) ?_
        refine RunQ.off rfl rfl rfl rfl rfl (lt rfl) ?_
        refine RunQ.off rfl rfl rfl rfl rfl (lt rfl) ?_
        refine RunQ.off rfl rfl rfl rfl rfl (lt rfl) ?_
        refine RunQ.off rfl rfl rfl rfl rfl (lt rfl) ?_
        refine RunQ.off rfl rfl rfl rfl rfl (lt rfl) ?_
        refine RunQ.val (lt rfl) (Y.pick_f rfl rfl rfl) ?_
        refine RunQ.to_end ?_
        refine Ex.go ?_
        refine Tr.cond_f rfl rfl ?_
        refine Tr.to_end ?_
        refine Ex.end_block ?_
        refine Ex.go ?_
        refine Tr.region ?_
        refine Run.val (lt rfl) (Y.move rfl) ?_
        refine Run.val (lt rfl) (Y.add rfl rfl (by omega)) ?_
        refine Run.val (lt rfl) (Y.assign rfl) ?_
        refine Run.to_end ?_
        refine Ex.keep [0] ?_
        have qc := Le.cnt_no (b := 1) (g := Le.chosen 1 l y s) (l := l) (i := i3) (by omega) (.inl h24)
        exact Ex.round (i3 + 1 : Nat) (by omega) (by omega) rfl rfl (subB_cons (by first | rfl | exact congrArg (fun z => some (Value.int _ z)) (by omega) | exact congrArg (fun z => some (Value.int _ z)) (by omega)) (subB_cons (by first | rfl | exact congrArg (fun z => some (Value.int _ z)) (by omega) | exact congrArg (fun z => some (Value.int _ z)) (by omega)) (subB_cons (by first | rfl | exact congrArg (fun z => some (Value.int _ z)) (by omega) | exact congrArg (fun z => some (Value.int _ z)) (by omega)) (subB_cons (by first | rfl | exact congrArg (fun z => some (Value.int _ z)) (by omega) | exact congrArg (fun z => some (Value.int _ z)) (by omega)) (subB_cons (by first | rfl | exact congrArg (fun z => some (Value.int _ z)) (by omega) | exact congrArg (fun z => some (Value.int _ z)) (by omega)) (subB_cons (by first | rfl | exact congrArg (fun z => some (Value.int _ z)) (by omega) | exact congrArg (fun z => some (Value.int _ z)) (by omega)) (subB_nil _)))))))
       ·have g28 := h28
        try simp only [kb] at g28
        refine Run.off rfl rfl rfl h28 rfl (lt rfl) ?_
        refine Run.val (lt rfl) (Y.pick_f rfl h28 rfl) ?_
        refine Run.to_end ?_
        refine Ex.go ?_
        refine Tr.cond_f rfl rfl ?_
        refine Tr.to_end ?_
        refine Ex.go ?_
        refine Tr.seq ?_
        refine Tr.quiet Own_mo (by kernel_rfl) ?_
        refine RunQ.val (lt rfl) (Y.move rfl) ?_
        refine RunQ.val (lt rfl) (Y.move rfl) ?_
        refine RunQ.off rfl rfl rfl rfl rfl (lt rfl) ?_
        refine RunQ.off rfl rfl rfl rfl rfl (lt rfl) ?_
        refine RunQ.off rfl rfl rfl rfl rfl (lt rfl) ?_
        refine RunQ.off rfl rfl rfl rfl rfl (lt rfl) ?_
        refine RunQ.off rfl rfl rfl rfl rfl (lt rfl) ?_
        refine RunQ.off rfl rfl rfl rfl rfl (lt rfl) ?_
        refine RunQ.off rfl rfl rfl rfl rfl (lt rfl) ?_
        refine RunQ.off rfl rfl rfl rfl rfl (lt rfl) ?_
        refine RunQ.val (lt rfl) (Y.pick_f rfl rfl rfl) ?_
        refine RunQ.val (lt rfl) (Y.move rfl) ?_
        refine RunQ.off rfl rfl rfl rfl rfl (lt rfl) ?_
        refine RunQ.off rfl rfl rfl rfl rfl (lt rfl) ?_
        refine RunQ.off rfl rfl rfl rfl rfl (lt rfl) ?_
        refine RunQ.val (lt rfl) (Y.pick_f rfl rfl rfl) ?_
        refine RunQ.val (lt rfl) (Y.move rfl) ?_
        refine RunQ.off rfl rfl rfl rfl rfl (lt rfl) ?_
        refine RunQ.off rfl rfl rfl rfl rfl (lt rfl) ?_
        refine RunQ.off rfl rfl rfl rfl rfl (lt rfl) ?_
        refine RunQ.off rfl rfl rfl rfl rfl (lt rfl) ?_
        refine RunQ.off rfl rfl rfl rfl rfl (lt rfl) ?_
        refine RunQ.off rfl rfl rfl rfl rfl (lt rfl) ?_
        refine RunQ.off rfl rfl rfl rfl rfl (lt rfl) ?_
        refine RunQ.off rfl rfl rfl rfl rfl (lt rfl) ?_
        refine RunQ.off rfl rfl rfl rfl rfl (lt rfl) ?_
        refine RunQ.val (lt rfl) (Y.pick_f rfl rfl rfl) ?_
        refine RunQ.to_end ?_
        refine Ex.go ?_
        refine Tr.cond_f rfl rfl ?_
        refine Tr.to_end ?_
        refine Ex.end_block ?_
        refine Ex.go ?_
        refine Tr.region ?_
        refine Run.val (lt rfl) (Y.move rfl) ?_
        refine Run.val (lt rfl) (Y.add rfl rfl (by omega)) ?_
        refine Run.val (lt rfl) (Y.assign rfl) ?_
        refine Run.to_end ?_
        refine Ex.keep [0] ?_
        have qc := Le.cnt_no (b := 1) (g := Le.chosen 1 l y s) (l := l) (i := i3) (by omega) (.inl h24)
        exact Ex.round (i3 + 1 : Nat) (by omega) (by omega) rfl rfl (subB_cons (by first | rfl | exact congrArg (fun z => some (Value.int _ z)) (by omega) | exact congrArg (fun z => some (Value.int _ z)) (by omega)) (subB_cons (by first | rfl | exact congrArg (fun z => some (Value.int _ z)) (by omega) | exact congrArg (fun z => some (Value.int _ z)) (by omega)) (subB_cons (by first | rfl | exact congrArg (fun z => some (Value.int _ z)) (by omega) | exact congrArg (fun z => some (Value.int _ z)) (by omega)) (subB_cons (by first | rfl | exact congrArg (fun z => some (Value.int _ z)) (by omega) | exact congrArg (fun z => some (Value.int _ z)) (by omega)) (subB_cons (by first | rfl | exact congrArg (fun z => some (Value.int _ z)) (by omega) | exact congrArg (fun z => some (Value.int _ z)) (by omega)) (subB_cons (by first | rfl | exact congrArg (fun z => some (Value.int _ z)) (by omega) | exact congrArg (fun z => some (Value.int _ z)) (by omega)) (subB_nil _)))))))
     ·have g23 := h23
      try simp only [kb] at g23
      refine Run.off rfl rfl rfl h23 rfl (lt rfl) ?_
      refine Run.off rfl rfl rfl h23 rfl (lt rfl) ?_
      refine Run.val (lt rfl) (Y.pick_f rfl h23 rfl) ?_
      refine Run.val (lt rfl) (Y.move rfl) ?_
      refine Run.on rfl rfl rfl rfl ?_
      refine Run.val (lt rfl) (Y.move rfl) ?_
      refine Run.on rfl rfl rfl rfl ?_
      refine Run.val (lt rfl) (Y.move rfl) ?_
      refine Run.on rfl rfl rfl rfl ?_
      refine Run.val (lt rfl) (Y.idxR i3 rfl rfl Own_es24 hv.of_nil (by omega) (by omega)) ?_
      refine Run.on rfl rfl rfl rfl ?_
      refine Run.val (lt rfl) (Y.fieldR rfl Own_fo39_1 hv.of_nil (by omega)) ?_
      refine Run.on rfl rfl rfl rfl ?_
      refine Run.val (lt rfl) (Y.ldR rfl Own_ts3 hv.of_nil (rows_at Le.len (by omega) Le.dflt (by decide) rfl)) ?_
      refine Run.on rfl rfl rfl rfl ?_
      refine Run.val (lt rfl) (Y.int rfl rfl rfl) ?_
      refine Run.on rfl rfl rfl rfl ?_
      refine Run.val (lt rfl) (Y.move rfl) ?_
      rcases Bool.eq_false_or_eq_true (((l.getD i3 Le.dflt).bind) == 1) with h29 | h29
      ·have g29 := h29
       try simp only [kb] at g29
       refine Run.on rfl rfl rfl h29 ?_
       refine Run.val (lt rfl) (Y.move rfl) ?_
       refine Run.on rfl rfl rfl h29 ?_
       refine Run.val (lt rfl) (Y.int (r := .bool true) rfl rfl rfl) ?_
       refine Run.on rfl rfl rfl rfl ?_
       refine Run.val (lt rfl) (Y.pick_t rfl h29 rfl) ?_
       refine Run.val (lt rfl) (Y.pick_f rfl rfl rfl) ?_
       refine Run.val (lt rfl) (Y.assign rfl) ?_
       refine Run.to_end ?_
       refine Ex.go ?_
       refine Tr.seq ?_
       refine Tr.seq ?_
       refine Tr.region ?_
       refine Run.val (lt rfl) (Y.move rfl) ?_
       refine Run.val (lt rfl) (Y.move rfl) ?_
       refine Run.val (lt rfl) (Y.move rfl) ?_
       refine Run.val (lt rfl) (Y.idxR i3 rfl rfl Own_es24 hv.of_nil (by omega) (by omega)) ?_
       refine Run.val (lt rfl) (Y.fieldR rfl Own_fo39_0 hv.of_nil (by omega)) ?_
       refine Run.val (lt rfl) (Y.ldR rfl Own_ts37 hv.of_nil (rows_at Le.len (by omega) Le.dflt (by decide) rfl)) ?_
       refine Run.val (lt rfl) (Y.lookup rfl rfl Own_mt35 Own_zo4 hm2 (j := 0) rfl (yes_look ((Le.chosen 1 l y s).take i2) ((l.getD i3 Le.dflt).addr))) ?_
       refine Run.val (lt rfl) (Y.move rfl) ?_
       rcases Bool.eq_false_or_eq_true (List.contains ((Le.chosen 1 l y s).take i2) ((l.getD i3 Le.dflt).addr)) with h30 | h30
       ·have g30 := h30
        try simp only [kb] at g30
        refine Run.on rfl rfl rfl h30 ?_
        refine Run.val (lt rfl) (Y.move rfl) ?_
        refine Run.val (lt rfl) (Y.pick_t rfl h30 rfl) ?_
        refine Run.to_end ?_
        refine Ex.go ?_
        refine Tr.cond_t rfl rfl ?_
        refine Tr.region ?_
        refine Run.val (lt rfl) (Y.move rfl) ?_
        refine Run.val (lt rfl) (Y.add rfl rfl (by omega)) ?_
        refine Run.val (lt rfl) (Y.assign rfl) ?_
        refine Run.to_end ?_
        refine Ex.go ?_
        refine Tr.seq ?_
        refine Tr.quiet Own_mo (by kernel_rfl) ?_
        refine RunQ.val (lt rfl) (Y.move rfl) ?_
        refine RunQ.val (lt rfl) (Y.move rfl) ?_
        refine RunQ.on rfl rfl rfl rfl ?_
        refine RunQ.val (lt rfl) (Y.move rfl) ?_
        refine RunQ.on rfl rfl rfl rfl ?_
        refine RunQ.val (lt rfl) (Y.move rfl) ?_
        refine RunQ.on rfl rfl rfl rfl ?_
        refine RunQ.val (lt rfl) (Y.move rfl) ?_
        refine RunQ.on rfl rfl rfl rfl ?_
        refine RunQ.val (lt rfl) (Y.idxR i3 rfl rfl Own_es24 hv.of_nil (by omega) (by omega)) ?_
        refine RunQ.on rfl rfl rfl rfl ?_
        refine RunQ.val (lt rfl) (Y.fieldR rfl Own_fo39_0 hv.of_nil (by omega)) ?_
        refine RunQ.on rfl rfl rfl rfl ?_
        refine RunQ.val (lt rfl) (Y.ldR rfl Own_ts37 hv.of_nil (rows_at Le.len (by omega) Le.dflt (by decide) rfl)) ?_
        refine RunQ.on rfl rfl rfl rfl ?_
        refine RunQ.val (lt rfl) (Y.lookup rfl rfl Own_mt35 Own_zo4 hm2 (j := 0) rfl (yes_look ((Le.chosen 1 l y s).take i2) ((l.getD i3 Le.dflt).addr))) ?_
        refine RunQ.on rfl rfl rfl rfl ?_
        refine RunQ.val (lt rfl) (Y.not rfl) ?_
        refine RunQ.val (lt rfl) (Y.pick_t rfl rfl rfl) ?_
        refine RunQ.val (lt rfl) (Y.move rfl) ?_
        refine RunQ.off rfl rfl rfl (congrArg Bool.not h30) rfl (lt rfl) ?_
        refine RunQ.off rfl rfl rfl (congrArg Bool.not h30) rfl (lt rfl) ?_
        refine RunQ.off rfl rfl rfl (congrArg Bool.not h30) rfl (lt rfl) ?_
        refine RunQ.val (lt rfl) (Y.pick_f rfl (congrArg Bool.not h30) rfl) ?_
        refine RunQ.val (lt rfl) (Y.move rfl) ?_
        refine RunQ.off rfl rfl rfl rfl rfl (lt rfl) ?_
        refine RunQ.off rfl rfl rfl rfl rfl (lt rfl) ?_
        refine RunQ.off rfl rfl rfl rfl rfl (lt rfl) ?_
        refine RunQ.off rfl rfl rfl rfl rfl (lt rfl) ?_
        refine RunQ.off rfl rfl rfl rfl rfl (lt rfl) ?_
        refine RunQ.off rfl rfl rfl rfl rfl (lt rfl) ?_
        refine RunQ.off rfl rfl rfl rfl rfl (lt rfl) ?_
        refine RunQ.off rfl rfl rfl rfl rfl (lt rfl) ?_
        refine RunQ.off rfl rfl rfl rfl rfl (lt rfl) ?_
        refine RunQ.val (lt rfl) (Y.pick_f rfl rfl rfl) ?_
        refine RunQ.to_end ?_
        refine Ex.go ?_
        refine Tr.cond_f rfl rfl ?_
        refine Tr.to_end ?_
        refine Ex.end_block ?_
        refine Ex.go ?_
        refine Tr.region ?_
        refine Run.val (lt rfl) (Y.move rfl) ?_
        refine Run.val (lt rfl) (Y.add rfl rfl (by omega)) ?_
        refine Run.val (lt rfl) (Y.assign rfl) ?_
        refine Run.to_end ?_
        refine Ex.keep [0] ?_
        have qc := Le.cnt_yes (b := 1) (g := Le.chosen 1 l y s) (l := l) (i := i3) (by omega) h29 (by have hc := h30; rw [List.take_of_length_le (by omega)] at hc; exact hc)
        exact Ex.round (i3 + 1 : Nat) (by omega) (by omega) rfl rfl (subB_cons (by first | rfl | exact congrArg (fun z => some (Value.int _ z)) (by omega) | exact congrArg (fun z => some (Value.int _ z)) (by omega)) (subB_cons (by first | rfl | exact congrArg (fun z => some (Value.int _ z)) (by omega) | exact congrArg (fun z => some (Value.int _ z)) (by omega)) (subB_cons (by first | rfl | exact congrArg (fun z => some (Value.int _ z)) (by omega) | exact congrArg (fun z => some (Value.int _ z)) (by omega)) (subB_cons (by first | rfl | exact congrArg (fun z => some (Value.int _ z)) (by omega) | exact congrArg (fun z => some (Value.int _ z)) (by omega)) (subB_cons (by first | rfl | exact congrArg (fun z => some (Value.int _ z)) (by omega) | exact congrArg (fun z => some (Value.int _ z)) (by omega)) (subB_cons (by first | rfl | exact congrArg (fun z => some (Value.int _ z)) (by omega) | exact congrArg (fun z => some (Value.int _ z)) (by omega)) (subB_nil _)))))))
       ·have g30 := h30
        try simp only [kb] at g30
        refine Run.off rfl rfl rfl h30 rfl (lt rfl) ?_
        refine Run.val (lt rfl) (Y.pick_f rfl h30 rfl) ?_
        refine Run.to_end ?_
        refine Ex.go ?_
        refine Tr.cond_f rfl rfl ?_
        refine Tr.to_end ?_
        refine Ex.go ?_
        refine Tr.seq ?_
        refine Tr.quiet Own_mo (by kernel_rfl) ?_
        refine RunQ.val (lt rfl) (Y.move rfl) ?_
        refine RunQ.val (lt rfl) (Y.move rfl) ?_
        refine RunQ.on rfl rfl rfl rfl ?_
        refine RunQ.val (lt rfl) (Y.move rfl) ?_
        refine RunQ.on rfl rfl rfl rfl ?_
        refine RunQ.val (lt rfl) (Y.move rfl) ?_
        refine RunQ.on rfl rfl rfl rfl ?_
        refine RunQ.val (lt rfl) (Y.move rfl) ?_
        refine RunQ.on rfl rfl rfl rfl ?_
        refine RunQ.val (lt rfl) (Y.idxR i3 rfl rfl Own_es24 hv.of_nil (by omega) (by omega)) ?_
        refine RunQ.on rfl rfl rfl rfl ?_
        refine RunQ.val (lt rfl) (Y.fieldR rfl Own_fo39_0 hv.of_nil (by omega)) ?_
        refine RunQ.on rfl rfl rfl rfl ?_
        refine RunQ.val (lt rfl) (Y.ldR rfl Own_ts37 hv.of_nil (rows_at Le.len (by omega) Le.dflt (by decide) rfl)) ?_
        refine RunQ.on rfl rfl rfl rfl ?_
        refine RunQ.val (lt rfl) (Y.lookup rfl rfl Own_mt35 Own_zo4 hm2 (j := 0) rfl (yes_look ((Le.chosen 1 l y s).take i2) ((l.getD i3 Le.dflt).addr))) ?_
        refine RunQ.on rfl rfl rfl rfl ?_
        refine RunQ.val (lt rfl) (Y.not rfl) ?_
        refine RunQ.val (lt rfl) (Y.pick_t rfl rfl rfl) ?_
        refine RunQ.val (lt rfl) (Y.move rfl) ?_
        refine RunQ.on rfl rfl rfl (congrArg Bool.not h30) ?_
        refine RunQ.val (lt rfl) (Y.move rfl) ?_
        refine RunQ.on rfl rfl rfl (congrArg Bool.not h30) ?_
        refine RunQ.val (lt rfl) (Y.lenSl rfl Own_es32) ?_
        refine RunQ.on rfl rfl rfl (congrArg Bool.not h30) ?_
        refine RunQ.val (lt rfl) (Y.int rfl rfl rfl) ?_
        refine RunQ.val (lt rfl) (Y.pick_t rfl (congrArg Bool.not h30) rfl) ?_
        refine RunQ.val (lt rfl) (Y.move rfl) ?_
        rcases Bool.eq_false_or_eq_true (decide ((((Le.chosen 1 l y s).length : Nat) : Int) > 0)) with h31 | h31
        ·have g31 := h31
         try simp only [kb] at g31
         refine RunQ.on rfl rfl rfl h31 ?_
         refine RunQ.val (lt rfl) (Y.move rfl) ?_
         refine RunQ.on rfl rfl rfl h31 ?_
         refine RunQ.val (lt rfl) (Y.move rfl) ?_
         refine RunQ.on rfl rfl rfl h31 ?_
         refine RunQ.val (lt rfl) (Y.idxR i3 rfl rfl Own_es24 hv.of_nil (by omega) (by omega)) ?_
         refine RunQ.on rfl rfl rfl h31 ?_
         refine RunQ.val (lt rfl) (Y.fieldR rfl Own_fo39_0 hv.of_nil (by omega)) ?_
         refine RunQ.on rfl rfl rfl h31 ?_
         refine RunQ.val (lt rfl) (Y.ldR rfl Own_ts37 hv.of_nil (rows_at Le.len (by omega) Le.dflt (by decide) rfl)) ?_
         refine RunQ.on rfl rfl rfl h31 ?_
         refine RunQ.val (lt rfl) (Y.move rfl) ?_
         refine RunQ.on rfl rfl rfl h31 ?_
         refine RunQ.val (lt rfl) (Y.idxR 0 rfl rfl Own_es32 hrg.of_nil (by omega) (by omega)) ?_
         refine RunQ.on rfl rfl rfl h31 ?_
         refine RunQ.val (lt rfl) (Y.ldR rfl Own_ts37 hrg.of_nil (flatm_at0 nU_enc.len (by omega) 0 (by decide) rfl)) ?_
         refine RunQ.on rfl rfl rfl h31 ?_
         refine RunQ.val (lt rfl) (Y.int rfl rfl rfl) ?_
         refine RunQ.val (lt rfl) (Y.pick_t rfl h31 rfl) ?_
         refine RunQ.to_end ?_
         refine Ex.go ?_
         rcases Bool.eq_false_or_eq_true (decide (((l.getD i3 Le.dflt).addr) > ((Le.chosen 1 l y s).getD 0 0))) with h32 | h32
         ·have g32 := h32
          try simp only [kb] at g32
          refine Tr.cond_t rfl h32 ?_
          refine Tr.seq ?_
          refine Tr.region ?_
          refine Run.val (lt rfl) (Y.assign rfl) ?_
          refine Run.to_end ?_
          refine Ex.go ?_
          refine Tr.to_ret ?_
          refine Ex.ret_block ?_
          refine Ex.ret_then ?_
          refine Ex.ret_then ?_
          refine Ex.ret_block ?_
          refine Ex.ret_then ?_
          refine Ex.keep [] ?_
          exact Ex.ret1 rfl rfl  (absurd (Le.chosen_max (b := 1) (y := y) (s := s) (by decide) (i := i3) (by omega) h29 (by have hc := h30; rw [List.take_of_length_le (by omega)] at hc; exact hc) (by omega)) (by omega))
         ·have g32 := h32
          try simp only [kb] at g32
          refine Tr.cond_f rfl h32 ?_
          refine Tr.to_end ?_
          refine Ex.end_block ?_
          refine Ex.go ?_
          refine Tr.region ?_
          refine Run.val (lt rfl) (Y.move rfl) ?_
          refine Run.val (lt rfl) (Y.add rfl rfl (by omega)) ?_
          refine Run.val (lt rfl) (Y.assign rfl) ?_
          refine Run.to_end ?_
          refine Ex.keep [0] ?_
          have qc := Le.cnt_no (b := 1) (g := Le.chosen 1 l y s) (l := l) (i := i3) (by omega) (.inr (by have hc := h30; rw [List.take_of_length_le (by omega)] at hc; exact hc))
          exact Ex.round (i3 + 1 : Nat) (by omega) (by omega) rfl rfl (subB_cons (by first | rfl | exact congrArg (fun z => some (Value.int _ z)) (by omega) | exact congrArg (fun z => some (Value.int _ z)) (by omega)) (subB_cons (by first | rfl | exact congrArg (fun z => some (Value.int _ z)) (by omega) | exact congrArg (fun z => some (Value.int _ z)) (by omega)) (subB_cons (by first | rfl | exact congrArg (fun z => some (Value.int _ z)) (by omega) | exact congrArg (fun z => some (Value.int _ z)) (by omega)) (subB_cons (by first | rfl | exact congrArg (fun z => some (Value.int _ z)) (by omega) | exact congrArg (fun z => some (Value.int _ z)) (by omega)) (subB_cons (by first | rfl | exact congrArg (fun z => some (Value.int _ z)) (by omega) | exact congrArg (fun z => some (Value.int _ z)) (by omega)) (subB_cons (by first | rfl | exact congrArg (fun z => some (Value.int _ z)) (by omega) | exact congrArg (fun z => some (Value.int _ z)) (by omega)) (subB_nil _)))))))
        ·have g31 := h31
         try simp only [kb] at g31
         refine RunQ.off rfl rfl rfl h31 rfl (lt rfl) ?_
         refine RunQ.off rfl rfl rfl h31 rfl (lt rfl) ?_
         refine RunQ.off rfl rfl rfl h31 rfl (lt rfl) ?_
         refine RunQ.off rfl rfl rfl h31 rfl (lt rfl) ?_
         refine RunQ.off rfl rfl rfl h31 rfl (lt rfl) ?_
         refine RunQ.off rfl rfl rfl h31 rfl (lt rfl) ?_
         refine RunQ.off rfl rfl rfl h31 rfl (lt rfl) ?_
         refine RunQ.off rfl rfl rfl h31 rfl (lt rfl) ?_
         refine RunQ.off rfl rfl rfl h31 rfl (lt rfl) ?_
         refine RunQ.val (lt rfl) (Y.pick_f rfl h31 rfl) ?_
         refine RunQ.to_end ?_
         refine Ex.go ?_
         refine Tr.cond_f rfl rfl ?_
         refine Tr.to_end ?_
         refine Ex.end_block ?_
         refine Ex.go ?_
         refine Tr.region ?_
         refine Run.val (lt rfl) (Y.move rfl) ?_
         refine Run.val (lt rfl) (Y.add rfl rfl (by omega)) ?_
         refine Run.val (lt rfl) (Y.assign rfl) ?_
         refine Run.to_end ?_
         refine Ex.keep [0] ?_
         have qc := Le.cnt_no (b := 1) (g := Le.chosen 1 l y s) (l := l) (i := i3) (by omega) (.inr (by have hc := h30; rw [List.take_of_length_le (by omega)] at hc; exact hc))
         exact Ex.round (i3 + 1 : Nat) (by omega) (by omega) rfl rfl (subB_cons (by first | rfl | exact congrArg (fun z => some (Value.int _ z)) (by omega) | exact congrArg (fun z => some (Value.int _ z)) (by omega)) (subB_cons (by first | rfl | exact congrArg (fun z => some (Value.int _ z)) (by omega) | exact congrArg (fun z => some (Value.int _ z)) (by omega)) (subB_cons (by first | rfl | exact congrArg (fun z => some (Value.int _ z)) (by omega) | exact congrArg (fun z => some (Value.int _ z)) (by omega)) (subB_cons (by first | rfl | exact congrArg (fun z => some (Value.int _ z)) (by omega) | exact congrArg (fun z => some (Value.int _ z)) (by omega)) (subB_cons (by first | rfl | exact congrArg (fun z => some (Value.int _ z)) (by omega) | exact congrArg (fun z => some (Value.int _ z)) (by omega)) (subB_cons (by first | rfl | exact congrArg (fun z => some (Value.int _ z)) (by omega) | exact congrArg (fun z => some (Value.int _ z)) (by omega)) (subB_nil _)))))))
      ·have g29 := h29
       try simp only [kb] at g29
       refine Run.off rfl rfl rfl h29 rfl (lt rfl) ?_
       refine Run.off rfl rfl rfl h29 rfl (lt rfl) ?_
       refine Run.on rfl rfl rfl rfl ?_
       refine Run.val (lt rfl) (Y.pick_f rfl h29 rfl) ?_
       refine Run.val (lt rfl) (Y.pick_f rfl rfl rfl) ?_
       refine Run.val (lt rfl) (Y.assign rfl) ?_
       refine Run.to_end ?_
       refine Ex.go ?_
       refine Tr.seq ?_
       refine Tr.seq ?_
       refine Tr.region ?_
       refine Run.val (lt rfl) (Y.move rfl) ?_
       refine Run.val (lt rfl) (Y.move rfl) ?_
       refine Run.val (lt rfl) (Y.move rfl) ?_
       refine Run.val (lt rfl) (Y.idxR i3 rfl rfl Own_es24 hv.of_nil (by omega) (by omega)) ?_
       refine Run.val (lt rfl) (Y.fieldR rfl Own_fo39_0 hv.of_nil (by omega)) ?_
       refine Run.val (lt rfl) (Y.ldR rfl Own_ts37 hv.of_nil (rows_at Le.len (by omega) Le.dflt (by decide) rfl)) ?_
       refine Run.val (lt rfl) (Y.lookup rfl rfl Own_mt35 Own_zo4 hm2 (j := 0) rfl (yes_look ((Le.chosen 1 l y s).take i2) ((l.getD i3 Le.dflt).addr))) ?_
       refine Run.val (lt rfl) (Y.move rfl) ?_
       rcases Bool.eq_false_or_eq_true (List.contains ((Le.chosen 1 l y s).take i2) ((l.getD i3 Le.dflt).addr)) with h33 | h33
       ·have g33 := h33
        try simp only [kb] at g33
        refine Run.on rfl rfl rfl h33 ?_
        refine Run.val (lt rfl) (Y.move rfl) ?_
        refine Run.val (lt rfl) (Y.pick_t rfl h33 rfl) ?_
        refine Run.to_end ?_
        refine Ex.go ?_
        refine Tr.cond_f rfl rfl ?_
        refine Tr.to_end ?_
        refine Ex.go ?_
        refine Tr.seq ?_
        refine Tr.quiet Own_mo (by kernel_rfl) ?_
        refine RunQ.val (lt rfl) (Y.move rfl) ?_
        refine RunQ.val (lt rfl) (Y.move rfl) ?_
        refine RunQ.off rfl rfl rfl rfl rfl (lt rfl) ?_
        refine RunQ.off rfl rfl rfl rfl rfl (lt rfl) ?_
        refine RunQ.off rfl rfl rfl rfl rfl (lt rfl) ?_
        refine RunQ.off rfl rfl rfl rfl rfl (lt rfl) ?_
        refine RunQ.off rfl rfl rfl rfl rfl (lt rfl) ?_
        refine RunQ.off rfl rfl rfl rfl rfl (lt rfl) ?_
        refine RunQ.off rfl rfl rfl rfl rfl (lt rfl) ?_
        refine RunQ.off rfl rfl rfl rfl rfl (lt rfl) ?_
        refine RunQ.val (lt rfl) (Y.pick_f rfl rfl rfl) ?_
        refine RunQ.val (lt rfl) (Y.move rfl) ?_
        refine RunQ.off rfl rfl rfl rfl rfl (lt rfl) ?_
        refine RunQ.off rfl rfl rfl rfl rfl (lt rfl) ?_
        refine RunQ.off rfl rfl rfl rfl rfl (lt rfl) ?_
        refine RunQ.val (lt rfl) (Y.pick_f rfl rfl rfl) ?_
        refine RunQ.val (lt rfl) (Y.move rfl) ?_
        refine RunQ.off rfl rfl rfl rfl rfl (lt rfl) ?_
        refine RunQ.off rfl rfl rfl rfl rfl (lt rfl) ?_
        refine RunQ.off rfl rfl rfl rfl rfl (lt rfl) ?_
        refine RunQ.off rfl rfl rfl rfl rfl (lt rfl) ?_
        refine RunQ.off rfl rfl rfl rfl rfl (lt rfl) ?_
        refine RunQ.off rfl rfl rfl rfl rfl (lt rfl) ?_
        refine RunQ.off rfl rfl rfl rfl rfl (lt rfl) ?_
        refine RunQ.off rfl rfl rfl rfl rfl (lt rfl) ?_
        refine RunQ.off rfl rfl rfl rfl rfl (lt rfl) ?_
        refine RunQ.val (lt rfl) (Y.pick_f rfl rfl rfl) ?_
        refine RunQ.to_end ?_
        refine Ex.go ?_
        refine Tr.cond_f rfl rfl ?_
        refine Tr.to_end ?_
        refine Ex.end_block ?_
        refine Ex.go ?_
        refine Tr.region ?_
        refine Run.val (lt rfl) (Y.move rfl) ?_
        refine Run.val (lt rfl) (Y.add rfl rfl (by omega)) ?_
        refine Run.val (lt rfl) (Y.assign rfl) ?_
        refine Run.to_end ?_
        refine Ex.keep [0] ?_
        have qc := Le.cnt_no (b := 1) (g := Le.chosen 1 l y s) (l := l) (i := i3) (by omega) (.inl h29)
        exact Ex.round (i3 + 1 : Nat) (by omega) (by omega) rfl rfl (subB_cons (by first | rfl | exact congrArg (fun z => some (Value.int _ z)) (by omega) | exact congrArg (fun z => some (Value.int _ z)) (by omega)) (subB_cons (by first | rfl | exact congrArg (fun z => some (Value.int _ z)) (by omega) | exact congrArg (fun z => some (Value.int _ z)) (by omega)) (subB_cons (by first | rfl | exact congrArg (fun z => some (Value.int _ z)) (by omega) | exact congrArg (fun z => some (Value.int _ z)) (by omega)) (subB_cons (by first | rfl | exact congrArg (fun z => some (Value.int _ z)) (by omega) | exact congrArg (fun z => some (Value.int _ z)) (by omega)) (subB_cons (by first | rfl | exact congrArg (fun z => some (Value.int _ z)) (by omega) | exact congrArg (fun z => some (Value.int _ z)) (by omega)) (subB_cons (by first | rfl | exact congrArg (fun z => some (Value.int _ z)) (by omega) | exact congrArg (fun z => some (Value.int _ z)) (by omega)) (subB_nil _)))))))
       ·have g33 := h33
        try simp only [kb] at g33
        refine Run.off rfl rfl rfl h33 rfl (lt rfl) ?_
        refine Run.val (lt rfl) (Y.pick_f rfl h33 rfl) ?_
        refine Run.to_end ?_
        refine Ex.go ?_
        refine Tr.cond_f rfl rfl ?_
        refine Tr.to_end ?_
        refine Ex.go ?_
        refine Tr.seq ?_
        refine Tr.quiet Own_mo (by kernel_rfl) ?_
        refine RunQ.val (lt rfl) (Y.move rfl) ?_
        refine RunQ.val (lt rfl) (Y.move rfl) ?_
        refine RunQ.off rfl rfl rfl rfl rfl (lt rfl) ?_
        refine RunQ.off rfl rfl rfl rfl rfl (lt rfl) ?_
        refine RunQ.off rfl rfl rfl rfl rfl (lt rfl) ?_
        refine RunQ.off rfl rfl rfl rfl rfl (lt rfl) ?_
        refine RunQ.off rfl rfl rfl rfl rfl (lt rfl) ?_
        refine RunQ.off rfl rfl rfl rfl rfl (lt rfl) ?_
        refine RunQ.off rfl rfl rfl rfl rfl (lt rfl) ?_
        refine RunQ.off rfl rfl rfl rfl rfl (lt rfl) ?_
        refine RunQ.val (lt rfl) (Y.pick_f rfl rfl rfl) ?_
        refine RunQ.val (lt rfl) (Y.move rfl) ?_
        refine RunQ.off rfl rfl rfl rfl rfl (lt rfl) ?_
        refine RunQ.off rfl rfl rfl rfl rfl (lt rfl) ?_
        refine RunQ.off rfl rfl rfl rfl rfl (lt rfl) ?_
        refine RunQ.val (lt rfl) (Y.pick_f rfl rfl rfl) ?_
        refine RunQ.val (lt rfl) (Y.move rfl) ?_
        refine RunQ.off rfl rfl rfl rfl rfl (lt rfl) ?_
        refine RunQ.off rfl rfl rfl rfl rfl (lt rfl) ?_
        refine RunQ.off rfl rfl rfl rfl rfl (lt rfl) ?_
        refine RunQ.off rfl rfl rfl rfl rfl (lt rfl) ?_
        refine RunQ.off rfl rfl rfl rfl rfl (lt rfl) ?_
        refine RunQ.off rfl rfl rfl rfl rfl (lt rfl) ?_
        refine RunQ.off rfl rfl rfl rfl rfl (lt rfl) ?_
        refine RunQ.off rfl rfl rfl rfl rfl (lt rfl) ?_
        refine RunQ.off rfl rfl rfl rfl rfl (lt rfl) ?_
        refine RunQ.val (lt rfl) (Y.pick_f rfl rfl rfl) ?_
        refine RunQ.to_end ?_
        refine Ex.go ?_
        refine Tr.cond_f rfl rfl ?_
        refine Tr.to_end ?_
        refine Ex.end_block ?_
        refine Ex.go ?_
        refine Tr.region ?_
        refine Run.val (lt rfl) (Y.move rfl) ?_
        refine Run.val (lt rfl) (Y.add rfl rfl (by omega)) ?_
        refine Run.val (lt rfl) (Y.assign rfl) ?_
        refine Run.to_end ?_
        refine Ex.keep [0] ?_
        have qc := Le.cnt_no (b := 1) (g := Le.chosen 1 l y s) (l := l) (i := i3) (by omega) (.inl h29)
        exact Ex.round (i3 + 1 : Nat) (by omega) (by omega) rfl rfl (subB_cons (by first | rfl | exact congrArg (fun z => some (Value.int _ z)) (by omega) | exact congrArg (fun z => some (Value.int _ z)) (by omega)) (subB_cons (by first | rfl | exact congrArg (fun z => some (Value.int _ z)) (by omega) | exact congrArg (fun z => some (Value.int _ z)) (by omega)) (subB_cons (by first | rfl | exact congrArg (fun z => some (Value.int _ z)) (by omega) | exact congrArg (fun z => some (Value.int _ z)) (by omega)) (subB_cons (by first | rfl | exact congrArg (fun z => some (Value.int _ z)) (by omega) | exact congrArg (fun z => some (Value.int _ z)) (by omega)) (subB_cons (by first | rfl | exact congrArg (fun z => some (Value.int _ z)) (by omega) | exact congrArg (fun z => some (Value.int _ z)) (by omega)) (subB_cons (by first | rfl | exact congrArg (fun z => some (Value.int _ z)) (by omega) | exact congrArg (fun z => some (Value.int _ z)) (by omega)) (subB_nil _)))))))
    ·have g22 := h22
     try simp only [kb] at g22
     refine Tr.cond_f rfl h22 ?_
     refine Tr.to_exit ?_
     refine Ex.exit_then ?_
     refine Ex.exit_then ?_
     refine Ex.exit_in ?_
     refine Ex.go ?_
     refine Tr.seq ?_
     refine Tr.region ?_
     refine Run.val (lt rfl) (Y.move rfl) ?_
     refine Run.val (lt rfl) (Y.move rfl) ?_
     refine Run.val (lt rfl) (Y.lenSl rfl Own_es32) ?_
     refine Run.val (lt rfl) (Y.int rfl rfl rfl) ?_
     refine Run.val (lt rfl) (Y.assign rfl) ?_
     refine Run.to_end ?_
     refine Ex.go ?_
     refine Tr.to_ret ?_
     refine Ex.keep [] ?_
     exact Ex.ret1 rfl rfl  (congrArg Value.bool (by obtain rfl : i3 = l.length := (by omega); rw [List.take_length, Le.cnt_all (by decide) hnd]; exact beq_self_eq_true _))

theorem own_cx {V : Vw} {l : List Le} {p : Option Addr} {c : Nat} (hv : Rd V [] 8 (.slice p l.length c) l.length (l.map Le.cells).flatten) {y s : Nat} {id : Int} (hid : id < 0 ∨ 1 < id)  : Does Try.prog 4 [.agg #[.float .f64 y, .float .f64 s], .int .i64 id, .slice p l.length c] V [] (fun v _ _ => v = .bool true) := by
 refine Does.intro Try.func4 rfl rfl (le rfl) (fun B => ?_)
 refine Tr.seq ?_
 refine Tr.region ?_
 refine Run.box rfl (lt rfl) (fun b1 => ?_)
 refine Run.val (lt rfl) (Y.assign rfl) ?_
 refine Run.to_end ?_
 refine Ex.go ?_
 refine Tr.seq ?_
 refine Tr.region ?_
 refine Run.call0 (l := []) rfl rfl rfl (lt rfl) awake17_h ?_
 refine Run.val (lt rfl) (Y.assign rfl) ?_
 refine Run.to_end ?_
 refine Ex.go ?_
 refine Tr.seq ?_
 refine Tr.seq ?_
 refine Tr.region ?_
 refine Run.val (lt rfl) (Y.move rfl) ?_
 refine Run.val (lt rfl) (Y.not rfl) ?_
 refine Run.val (lt rfl) (Y.move rfl) ?_
 refine Run.on rfl rfl rfl rfl ?_
 refine Run.val (lt rfl) (Y.move rfl) ?_
 refine Run.on rfl rfl rfl rfl ?_
 refine Run.val (lt rfl) (Y.lenSl rfl Own_es24) ?_
 refine Run.on rfl rfl rfl rfl ?_
 refine Run.val (lt rfl) (Y.int rfl rfl rfl) ?_
 refine Run.val (lt rfl) (Y.pick_f rfl rfl rfl) ?_
 refine Run.val (lt rfl) (Y.move rfl) ?_
 rcases Bool.eq_false_or_eq_true (decide (((l.length : Nat) : Int) > 300)) with h2 | h2
 ·have g2 := h2
  try simp only [kb] at g2
  refine Run.off rfl rfl rfl h2 rfl (lt rfl) ?_
  refine Run.off rfl rfl rfl h2 rfl (lt rfl) ?_
  refine Run.val (lt rfl) (Y.pick_t rfl h2 rfl) ?_
  refine Run.val (lt rfl) (Y.move rfl) ?_
  refine Run.off rfl rfl rfl rfl rfl (lt rfl) ?_
  refine Run.off rfl rfl rfl rfl rfl (lt rfl) ?_
  refine Run.val (lt rfl) (Y.pick_t rfl rfl rfl) ?_
  refine Run.to_end ?_
  refine Ex.go ?_
  refine Tr.cond_t rfl rfl ?_
  refine Tr.seq ?_
  refine Tr.region ?_
  refine Run.val (lt rfl) (Y.move rfl) ?_
  refine Run.val (lt rfl) (Y.assign rfl) ?_
  refine Run.to_end ?_
  refine Ex.go ?_
  refine Tr.to_ret ?_
  refine Ex.ret_then ?_
  refine Ex.keep [] ?_
  exact Ex.ret1 rfl rfl  rfl
 ·have g2 := h2
  try simp only [kb] at g2
  refine Run.on rfl rfl rfl h2 ?_
  refine Run.val (lt rfl) (Y.move rfl) ?_
  refine Run.on rfl rfl rfl h2 ?_
  refine Run.val (lt rfl) (Y.int rfl rfl rfl) ?_
  refine Run.val (lt rfl) (Y.pick_f rfl h2 rfl) ?_
  refine Run.val (lt rfl) (Y.move rfl) ?_
  rcases Bool.eq_false_or_eq_true (decide (id < 0)) with h3 | h3
  ·have g3 := h3
   try simp only [kb] at g3
   refine Run.off rfl rfl rfl h3 rfl (lt rfl) ?_
   refine Run.off rfl rfl rfl h3 rfl (lt rfl) ?_
   refine Run.val (lt rfl) (Y.pick_t rfl h3 rfl) ?_
   refine Run.to_end ?_
   refine Ex.go ?_
   refine Tr.cond_t rfl rfl ?_
   refine Tr.seq ?_
   refine Tr.region ?_
   refine Run.val (lt rfl) (Y.move rfl) ?_
   refine Run.val (lt rfl) (Y.assign rfl) ?_
   refine Run.to_end ?_
   refine Ex.go ?_
   refine Tr.to_ret ?_
   refine Ex.ret_then ?_
   refine Ex.keep [] ?_
   exact Ex.ret1 rfl rfl  rfl
  ·have g3 := h3
   try simp only [kb] at g3
   refine Run.on rfl rfl rfl h3 ?_
   refine Run.val (lt rfl) (Y.move rfl) ?_
   refine Run.on rfl rfl rfl h3 ?_
   refine Run.val (lt rfl) (Y.int rfl rfl rfl) ?_
   refine Run.val (lt rfl) (Y.pick_f rfl h3 rfl) ?_
   refine Run.to_end ?_
   refine Ex.go ?_
   rcases Bool.eq_false_or_eq_true (decide (id > 1)) with h4 | h4
   ·have g4 := h4
    try simp only [kb] at g4
    refine Tr.cond_t rfl h4 ?_
    refine Tr.seq ?_
    refine Tr.region ?_
    refine Run.val (lt rfl) (Y.move rfl) ?_
    refine Run.val (lt rfl) (Y.assign rfl) ?_
    refine Run.to_end ?_
    refine Ex.go ?_
    refine Tr.to_ret ?_
    refine Ex.ret_then ?_
    refine Ex.keep [] ?_
    exact Ex.ret1 rfl rfl  rfl
   ·have g4 := h4
    try simp only [kb] at g4
    omega

theorem own_c {V : Vw} {id : Int} {y s : Nat} {l : List Le} {v0 : Value} (hv : Rd V [] 8 v0 l.length (l.map Le.cells).flatten) : Does Try.prog 4 [.agg #[.float .f64 y, .float .f64 s], .int .i64 id, v0] V [] (fun v _ _ => v = .bool true) := by
  obtain ⟨p, c, rfl, _⟩ := hv.form
  by_cases h0 : id = 0
  · subst h0; exact own_c0 hv
  · by_cases h1 : id = 1
    · subst h1; exact own_c1 hv
    · exact own_cx hv (by omega)
end Go.Proofs.Ytjfacdepgkdoeaa
