/- The law AddrPools, walked.
Conditions: as each theorem names them. -/
import Derived.Test.YtjfacdepgkdoeaaProg
import Derived.Test.YtjfacdepgkdoeaaRC
import Derived.Test.YtjfacdepgkdoeaaAddr4
set_option linter.unusedSimpArgs false
set_option linter.unusedVariables false
set_option maxRecDepth 4000
namespace Go.Proofs.Ytjfacdepgkdoeaa
open Go Go.K
attribute [local irreducible] Code.wp wpList Calls wpQuiet
theorem Law01b_es51 : elemS Try.prog 51 = some (53, 2) := by kernel_rfl

theorem poolslaw_c {V : Vw} {l : List Rg} {p : Option Addr} {c : Nat} (hv : Rd V [] 2 (.slice p l.length c) l.length (l.flatMap Rg.cells)) (hok : Rg.Oks l) {n a : Int} (hn : -9223372036854775808 ≤ n ∧ n ≤ 9223372036854775807) (ha : 0 ≤ a ∧ a ≤ 4294967295)  : Does Try.prog 8 [.slice p l.length c, .int .i64 n, .int .u32 a] V [] (fun v _ _ => v = .bool true) := by
 refine Does.intro Try.func8 rfl rfl (le rfl) (fun B => ?_)
 refine Tr.seq ?_
 refine Tr.region ?_
 refine Run.val (lt rfl) (Y.assign rfl) ?_
 refine Run.to_end ?_
 refine Ex.go ?_
 refine Tr.seq ?_
 refine Tr.region ?_
 refine Run.call [] (l := []) rfl rfl rfl (lt rfl) awake01_c (fun v7 V7 H7 hle7 hR7 => ?_)
 obtain ⟨hle, rfl, rfl⟩ := hR7
 replace hv := hv.le hle
 refine Run.heapTo (H' := []) rfl ?_
 refine Run.heapTo (H' := []) rfl ?_
 refine Run.val (lt rfl) (Y.assign rfl) ?_
 refine Run.to_end ?_
 refine Ex.go ?_
 refine Tr.seq ?_
 refine Tr.seq ?_
 refine Tr.region ?_
 refine Run.val (lt rfl) (Y.move rfl) ?_
 refine Run.val (lt rfl) (Y.not rfl) ?_
 refine Run.val (lt rfl) (Y.move rfl) ?_
 refine Run.on rfl rfl rfl rfl ?_
 refine Run.val (lt rfl) (Y.move rfl) ?_
 refine Run.on rfl rfl rfl rfl ?_
 refine Run.val (lt rfl) (Y.lenSl rfl Law01b_es51) ?_
 refine Run.on rfl rfl rfl rfl ?_
 refine Run.val (lt rfl) (Y.int rfl rfl rfl) ?_
 refine Run.val (lt rfl) (Y.pick_f rfl rfl rfl) ?_
 refine Run.to_end ?_
 refine Ex.go ?_
 rcases Bool.eq_false_or_eq_true (decide (((l.length : Nat) : Int) > 200)) with h1 | h1
 ·have g1 := h1
  try simp only [kb] at g1
  refine Tr.cond_t rfl h1 ?_
  refine Tr.seq ?_
  refine Tr.region ?_
  refine Run.val (lt rfl) (Y.move rfl) ?_
  refine Run.val (lt rfl) (Y.assign rfl) ?_
  refine Run.to_end ?_
  refine Ex.go ?_
  refine Tr.to_ret ?_
  refine Ex.ret_then ?_
  refine Ex.keep [] ?_
  exact Ex.ret1 rfl rfl  rfl
 ·have g1 := h1
  try simp only [kb] at g1
  refine Tr.cond_f rfl h1 ?_
  refine Tr.to_end ?_
  refine Ex.go ?_
  refine Tr.seq ?_
  refine Tr.region ?_
  refine Run.val (lt rfl) (Y.move rfl) ?_
  refine Run.call [] (l := [.tmp 27]) rfl rfl rfl (lt rfl) (pool_h (l := l) hv (by first | omega | decide) hok) (fun va Va Ha hlea hR => ?_)
  obtain ⟨_, rfl, wa, rfl, hra⟩ := hR; obtain ⟨pa, ca, rfl, _⟩ := hra.form
  replace hv := hv.le hlea
  have hpa := Rg.pool_len l
  have hoa := Rg.pool_oks hok
  refine Run.heapTo (H' := []) rfl ?_
  have hlh := Rg.pool_lh l
  refine Run.heapTo (H' := []) rfl ?_
  refine Run.val (lt rfl) (Y.move rfl) ?_
  refine Run.val (lt rfl) (Y.extract rfl rfl) ?_
  refine Run.val (lt rfl) (Y.extract rfl rfl) ?_
  refine Run.val (lt rfl) (Y.assign rfl) ?_
  refine Run.val (lt rfl) (Y.assign rfl) ?_
  refine Run.to_end ?_
  refine Ex.go ?_
  refine Tr.seq ?_
  refine Tr.region ?_
  refine Run.val (lt rfl) (Y.move rfl) ?_
  refine Run.call [] (l := [.tmp 32]) rfl rfl rfl (lt rfl) (rpool_h hv (by omega) hok) (fun vb Vb Hb hleb hR => ?_)
  obtain ⟨_, rfl, wb, rfl, hrb⟩ := hR; obtain ⟨pb, cb, rfl, _⟩ := hrb.form
  replace hra := hra.le hleb
  refine Run.heapTo (H' := []) rfl ?_
  refine Run.heapTo (H' := []) rfl ?_
  refine Run.val (lt rfl) (Y.move rfl) ?_
  refine Run.val (lt rfl) (Y.extract rfl rfl) ?_
  refine Run.val (lt rfl) (Y.extract rfl rfl) ?_
  refine Run.val (lt rfl) (Y.assign rfl) ?_
  refine Run.val (lt rfl) (Y.assign rfl) ?_
  refine Run.to_end ?_
  refine Ex.go ?_
  refine Tr.seq ?_
  refine Tr.region ?_
  refine Run.val (lt rfl) (Y.move rfl) ?_
  refine Run.val (lt rfl) (Y.move rfl) ?_
  refine Run.call0 (l := [.tmp 36, .tmp 37]) rfl rfl rfl (lt rfl) (same01_h hra.of_nil hrb.of_nil (by omega)) ?_
  refine Run.val (lt rfl) (Y.assign rfl) ?_
  refine Run.to_end ?_
  refine Ex.go ?_
  refine Tr.seq ?_
  refine Tr.seq ?_
  refine Tr.region ?_
  refine Run.val (lt rfl) (Y.move rfl) ?_
  refine Run.val (lt rfl) (Y.not rfl) ?_
  refine Run.val (lt rfl) (Y.move rfl) ?_
  refine Run.on rfl rfl rfl rfl ?_
  refine Run.val (lt rfl) (Y.move rfl) ?_
  refine Run.on rfl rfl rfl rfl ?_
  refine Run.val (lt rfl) (Y.move rfl) ?_
  refine Run.on rfl rfl rfl rfl ?_
  refine Run.val (lt rfl) (Y.neI_f rfl rfl) ?_
  refine Run.val (lt rfl) (Y.pick_f rfl rfl rfl) ?_
  refine Run.to_end ?_
  refine Ex.go ?_
  refine Tr.cond_f rfl rfl ?_
  refine Tr.to_end ?_
  refine Ex.go ?_
  refine Tr.seq ?_
  refine Tr.region ?_
  refine Run.val (lt rfl) (Y.move rfl) ?_
  refine Run.val (lt rfl) (Y.move rfl) ?_
  refine Run.call0 (l := [.tmp 47, .tmp 48]) rfl rfl rfl (lt rfl) (at_h hra (by omega) hoa) ?_
  refine Run.val (lt rfl) (Y.move rfl) ?_
  refine Run.val (lt rfl) (Y.extract rfl rfl) ?_
  refine Run.val (lt rfl) (Y.extract rfl rfl) ?_
  refine Run.val (lt rfl) (Y.assign rfl) ?_
  refine Run.val (lt rfl) (Y.assign rfl) ?_
  refine Run.to_end ?_
  refine Ex.go ?_
  refine Tr.seq ?_
  refine Tr.region ?_
  refine Run.val (lt rfl) (Y.move rfl) ?_
  refine Run.val (lt rfl) (Y.move rfl) ?_
  refine Run.call0 (l := [.tmp 53, .tmp 54]) rfl rfl rfl (lt rfl) (rat_h hn hlh hrb.of_nil (by omega) hoa) ?_
  refine Run.val (lt rfl) (Y.move rfl) ?_
  refine Run.val (lt rfl) (Y.extract rfl rfl) ?_
  refine Run.val (lt rfl) (Y.extract rfl rfl) ?_
  refine Run.val (lt rfl) (Y.assign rfl) ?_
  refine Run.val (lt rfl) (Y.assign rfl) ?_
  refine Run.to_end ?_
  refine Ex.go ?_
  refine Tr.seq ?_
  refine Tr.region ?_
  refine Run.val (lt rfl) (Y.move rfl) ?_
  refine Run.val (lt rfl) (Y.move rfl) ?_
  refine Run.val (lt rfl) (Y.eqI_t rfl rfl) ?_
  refine Run.val (lt rfl) (Y.move rfl) ?_
  refine Run.on rfl rfl rfl rfl ?_
  refine Run.val (lt rfl) (Y.move rfl) ?_
  refine Run.on rfl rfl rfl rfl ?_
  refine Run.val (lt rfl) (Y.move rfl) ?_
  refine Run.on rfl rfl rfl rfl ?_
  refine Run.val (lt rfl) (Y.eqI_t rfl rfl) ?_
  refine Run.val (lt rfl) (Y.pick_t rfl rfl rfl) ?_
  refine Run.val (lt rfl) (Y.move rfl) ?_
  refine Run.on rfl rfl rfl rfl ?_
  refine Run.val (lt rfl) (Y.move rfl) ?_
  refine Run.on rfl rfl rfl rfl ?_
  refine Run.call0 (l := [.tmp 67]) rfl rfl rfl (lt rfl) (count_h hra.of_nil (by omega) hoa) ?_
  refine Run.on rfl rfl rfl rfl ?_
  refine Run.val (lt rfl) (Y.move rfl) ?_
  refine Run.on rfl rfl rfl rfl ?_
  refine Run.call0 (l := [.tmp 69]) rfl rfl rfl (lt rfl) (rcount_h hrb.of_nil (by omega) hoa) ?_
  refine Run.on rfl rfl rfl rfl ?_
  refine Run.val (lt rfl) (Y.eqI_t rfl rfl) ?_
  refine Run.val (lt rfl) (Y.pick_t rfl rfl rfl) ?_
  refine Run.val (lt rfl) (Y.move rfl) ?_
  refine Run.on rfl rfl rfl rfl ?_
  refine Run.val (lt rfl) (Y.move rfl) ?_
  refine Run.on rfl rfl rfl rfl ?_
  refine Run.val (lt rfl) (Y.move rfl) ?_
  refine Run.on rfl rfl rfl rfl ?_
  refine Run.call0 (l := [.tmp 74, .tmp 75]) rfl rfl rfl (lt rfl) (index_h hra (by omega) hoa) ?_
  refine Run.on rfl rfl rfl rfl ?_
  refine Run.val (lt rfl) (Y.move rfl) ?_
  refine Run.on rfl rfl rfl rfl ?_
  refine Run.val (lt rfl) (Y.move rfl) ?_
  refine Run.on rfl rfl rfl rfl ?_
  refine Run.call0 (l := [.tmp 77, .tmp 78]) rfl rfl rfl (lt rfl) (rindex_h ha hlh hrb.of_nil (by omega) hoa) ?_
  refine Run.on rfl rfl rfl rfl ?_
  refine Run.val (lt rfl) (Y.eqI_t rfl rfl) ?_
  refine Run.val (lt rfl) (Y.pick_t rfl rfl rfl) ?_
  refine Run.val (lt rfl) (Y.assign rfl) ?_
  refine Run.to_end ?_
  refine Ex.go ?_
  refine Tr.to_ret ?_
  refine Ex.keep [] ?_
  exact Ex.ret1 rfl rfl  rfl

theorem poolslaw_c_h {V : Vw} {l : List Rg} {v0 : Value} (hv : Rd V [] 2 v0 l.length (l.map Rg.cells).flatten) (hok : Rg.Oks l) {n a : Int} (hn : -9223372036854775808 ≤ n ∧ n ≤ 9223372036854775807) (ha : 0 ≤ a ∧ a ≤ 4294967295) : Does Try.prog 8 [v0, .int .i64 n, .int .u32 a] V [] (fun v _ _ => v = .bool true) := by
  obtain ⟨p, c, rfl, _⟩ := hv.form
  rw [← List.flatMap_def] at hv
  exact poolslaw_c hv hok hn ha
end Go.Proofs.Ytjfacdepgkdoeaa
