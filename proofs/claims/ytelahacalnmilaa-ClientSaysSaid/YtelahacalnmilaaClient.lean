/- What a client, and the reference of one, do.
Conditions: as each theorem names them. -/
import Derived.Test.YtelahacalnmilaaProg
import Derived.Test.YtelahacalnmilaaO2
import Derived.Test.YtelahacalnmilaaOpt3
set_option linter.unusedSimpArgs false
set_option linter.unusedVariables false
set_option maxRecDepth 4000
namespace Go.Proofs.Ytelahacalnmilaa
open Go Go.K
attribute [local irreducible] Code.wp wpList Calls wpQuiet
theorem Client_fo67_2 : fieldOff Try.prog 67 2 = some 2 := by kernel_rfl
theorem Client_ts3 : scal Try.prog 3 = true := by kernel_rfl
theorem Client_fo44_2 : fieldOff Try.prog 44 2 = some 2 := by kernel_rfl
theorem Client_fo67_6 : fieldOff Try.prog 67 6 = some 6 := by kernel_rfl
theorem Client_fo44_6 : fieldOff Try.prog 44 6 = some 6 := by kernel_rfl
theorem Client_fo67_4 : fieldOff Try.prog 67 4 = some 4 := by kernel_rfl
theorem Client_ts33 : scal Try.prog 33 = true := by kernel_rfl
theorem Client_sz3 : sizeT Try.prog 3 = some 1 := by kernel_rfl
theorem Client_sz33 : sizeT Try.prog 33 = some 1 := by kernel_rfl
theorem Client_fo67_5 : fieldOff Try.prog 67 5 = some 5 := by kernel_rfl
theorem Client_fo67_10 : fieldOff Try.prog 67 10 = some 10 := by kernel_rfl
theorem Client_fo67_9 : fieldOff Try.prog 67 9 = some 9 := by kernel_rfl
theorem Client_sz4 : sizeT Try.prog 4 = some 1 := by kernel_rfl
theorem Client_fo67_3 : fieldOff Try.prog 67 3 = some 3 := by kernel_rfl
theorem Client_ts32 : scal Try.prog 32 = true := by kernel_rfl
theorem Client_sz32 : sizeT Try.prog 32 = some 1 := by kernel_rfl
theorem Client_fo44_4 : fieldOff Try.prog 44 4 = some 4 := by kernel_rfl
theorem Client_fo44_5 : fieldOff Try.prog 44 5 = some 5 := by kernel_rfl
theorem Client_fo44_3 : fieldOff Try.prog 44 3 = some 3 := by kernel_rfl
theorem Client_fo44_10 : fieldOff Try.prog 44 10 = some 10 := by kernel_rfl
theorem Client_fo44_9 : fieldOff Try.prog 44 9 = some 9 := by kernel_rfl

theorem moment_c {n : Int} {V : Vw} : Does Try.prog 36 [.int .i64 n] V [] (Pv (.bool (Con.moment n)) V []) := by
 refine Does.intro Try.func36 rfl rfl (le rfl) (fun B => ?_)
 refine Tr.seq ?_
 refine Tr.region ?_
 refine Run.val (lt rfl) (Y.assign rfl) ?_
 refine Run.to_end ?_
 refine Ex.go ?_
 refine Tr.seq ?_
 refine Tr.region ?_
 refine Run.val (lt rfl) (Y.move rfl) ?_
 refine Run.val (lt rfl) (Y.int rfl rfl rfl) ?_
 refine Run.val (lt rfl) (Y.move rfl) ?_
 rcases Bool.eq_false_or_eq_true (decide (n ≥ 0)) with h1 | h1
 ·have g1 := h1
  try simp only [kb] at g1
  refine Run.on rfl rfl rfl h1 ?_
  refine Run.val (lt rfl) (Y.move rfl) ?_
  refine Run.on rfl rfl rfl h1 ?_
  refine Run.val (lt rfl) (Y.int rfl rfl rfl) ?_
  refine Run.val (lt rfl) (Y.pick_t rfl h1 rfl) ?_
  refine Run.val (lt rfl) (Y.assign rfl) ?_
  refine Run.to_end ?_
  refine Ex.go ?_
  refine Tr.to_ret ?_
  exact Ex.ret1 rfl rfl  ⟨by unfold Con.moment; simp_all <;> omega, rfl, rfl⟩
 ·have g1 := h1
  try simp only [kb] at g1
  refine Run.off rfl rfl rfl h1 rfl (lt rfl) ?_
  refine Run.off rfl rfl rfl h1 rfl (lt rfl) ?_
  refine Run.val (lt rfl) (Y.pick_f rfl h1 rfl) ?_
  refine Run.val (lt rfl) (Y.assign rfl) ?_
  refine Run.to_end ?_
  refine Ex.go ?_
  refine Tr.to_ret ?_
  exact Ex.ret1 rfl rfl  ⟨by unfold Con.moment; simp_all <;> omega, rfl, rfl⟩

theorem moment_c_h {n : Int} {V : Vw} {H : Hp} : Does Try.prog 36 [.int .i64 n] V H (Pv (.bool (Con.moment n)) V H) := moment_c.frame

theorem rmoment_c {n : Int} {V : Vw} : Does Try.prog 41 [.int .i64 n] V [] (Pv (.bool (Con.moment n)) V []) := by
 refine Does.intro Try.func41 rfl rfl (le rfl) (fun B => ?_)
 refine Tr.seq ?_
 refine Tr.region ?_
 refine Run.val (lt rfl) (Y.assign rfl) ?_
 refine Run.to_end ?_
 refine Ex.go ?_
 refine Tr.seq ?_
 refine Tr.region ?_
 refine Run.val (lt rfl) (Y.move rfl) ?_
 refine Run.val (lt rfl) (Y.int rfl rfl rfl) ?_
 refine Run.val (lt rfl) (Y.move rfl) ?_
 rcases Bool.eq_false_or_eq_true (decide (n ≥ 0)) with h1 | h1
 ·have g1 := h1
  try simp only [kb] at g1
  refine Run.on rfl rfl rfl h1 ?_
  refine Run.val (lt rfl) (Y.move rfl) ?_
  refine Run.on rfl rfl rfl h1 ?_
  refine Run.val (lt rfl) (Y.int rfl rfl rfl) ?_
  refine Run.val (lt rfl) (Y.pick_t rfl h1 rfl) ?_
  refine Run.val (lt rfl) (Y.assign rfl) ?_
  refine Run.to_end ?_
  refine Ex.go ?_
  refine Tr.to_ret ?_
  exact Ex.ret1 rfl rfl  ⟨by unfold Con.moment; simp_all <;> omega, rfl, rfl⟩
 ·have g1 := h1
  try simp only [kb] at g1
  refine Run.off rfl rfl rfl h1 rfl (lt rfl) ?_
  refine Run.off rfl rfl rfl h1 rfl (lt rfl) ?_
  refine Run.val (lt rfl) (Y.pick_f rfl h1 rfl) ?_
  refine Run.val (lt rfl) (Y.assign rfl) ?_
  refine Run.to_end ?_
  refine Ex.go ?_
  refine Tr.to_ret ?_
  exact Ex.ret1 rfl rfl  ⟨by unfold Con.moment; simp_all <;> omega, rfl, rfl⟩

theorem rmoment_c_h {n : Int} {V : Vw} {H : Hp} : Does Try.prog 41 [.int .i64 n] V H (Pv (.bool (Con.moment n)) V H) := rmoment_c.frame

theorem hold_c {V : Vw} {H : Hp} {bc : Nat} {c : Cli} {hv : Value}  (hk : Kn V H bc (.cells (Cli.cells c hv) 67 (0, 0)))  : Does Try.prog 34 [.pointer (some ⟨bc, 0, none⟩)] V H (Pv (.bool (Cli.holding c)) V H) := by
 refine Does.intro Try.func34 rfl rfl (le rfl) (fun B => ?_)
 refine Tr.seq ?_
 refine Tr.region ?_
 refine Run.val (lt rfl) (Y.assign rfl) ?_
 refine Run.to_end ?_
 refine Ex.go ?_
 refine Tr.seq ?_
 refine Tr.region ?_
 refine Run.val (lt rfl) (Y.move rfl) ?_
 refine Run.val (lt rfl) (Y.nilCheck rfl) ?_
 refine Run.val (lt rfl) (Y.fieldAddr rfl Client_fo67_2) ?_
 refine Run.val (lt rfl) (Y.load rfl Client_ts3 hk rfl) ?_
 refine Run.val (lt rfl) (Y.int rfl rfl rfl) ?_
 refine Run.val (lt rfl) (Y.move rfl) ?_
 rcases Bool.eq_false_or_eq_true (decide (c.state ≥ 3)) with h1 | h1
 ·have g1 := h1
  try simp only [kb] at g1
  refine Run.on rfl rfl rfl h1 ?_
  refine Run.val (lt rfl) (Y.move rfl) ?_
  refine Run.on rfl rfl rfl h1 ?_
  refine Run.val (lt rfl) (Y.nilCheck rfl) ?_
  refine Run.on rfl rfl rfl h1 ?_
  refine Run.val (lt rfl) (Y.fieldAddr rfl Client_fo67_2) ?_
  refine Run.on rfl rfl rfl h1 ?_
  refine Run.val (lt rfl) (Y.load rfl Client_ts3 hk rfl) ?_
  refine Run.on rfl rfl rfl h1 ?_
  refine Run.val (lt rfl) (Y.int rfl rfl rfl) ?_
  refine Run.val (lt rfl) (Y.pick_t rfl h1 rfl) ?_
  refine Run.val (lt rfl) (Y.assign rfl) ?_
  refine Run.to_end ?_
  refine Ex.go ?_
  refine Tr.to_ret ?_
  exact Ex.ret1 rfl rfl  ⟨congrArg Value.bool (by by_cases hx : 3 ≤ c.state ∧ c.state ≤ 5; rw [Cli.hold_y hx]; simp; omega; rw [Cli.hold_n hx]; simp; omega), rfl, rfl⟩
 ·have g1 := h1
  try simp only [kb] at g1
  refine Run.off rfl rfl rfl h1 rfl (lt rfl) ?_
  refine Run.off rfl rfl rfl h1 rfl (lt rfl) ?_
  refine Run.off rfl rfl rfl h1 rfl (lt rfl) ?_
  refine Run.off rfl rfl rfl h1 rfl (lt rfl) ?_
  refine Run.off rfl rfl rfl h1 rfl (lt rfl) ?_
  refine Run.val (lt rfl) (Y.pick_f rfl h1 rfl) ?_
  refine Run.val (lt rfl) (Y.assign rfl) ?_
  refine Run.to_end ?_
  refine Ex.go ?_
  refine Tr.to_ret ?_
  exact Ex.ret1 rfl rfl  ⟨congrArg Value.bool (Cli.hold_n (by omega)).symm, rfl, rfl⟩

theorem rhold_c {V : Vw} {H : Hp} {bc : Nat} {c : Cli} {hv : Value}  (hk : Kn V H bc (.cells (Cli.cells c hv) 44 (0, 0)))  : Does Try.prog 35 [.pointer (some ⟨bc, 0, none⟩)] V H (Pv (.bool (Cli.holding c)) V H) := by
 refine Does.intro Try.func35 rfl rfl (le rfl) (fun B => ?_)
 refine Tr.seq ?_
 refine Tr.region ?_
 refine Run.val (lt rfl) (Y.assign rfl) ?_
 refine Run.to_end ?_
 refine Ex.go ?_
 refine Tr.seq ?_
 refine Tr.region ?_
 refine Run.val (lt rfl) (Y.move rfl) ?_
 refine Run.val (lt rfl) (Y.nilCheck rfl) ?_
 refine Run.val (lt rfl) (Y.fieldAddr rfl Client_fo44_2) ?_
 refine Run.val (lt rfl) (Y.load rfl Client_ts3 hk rfl) ?_
 refine Run.val (lt rfl) (Y.int rfl rfl rfl) ?_
 refine Run.val (lt rfl) (Y.move rfl) ?_
 rcases Bool.eq_false_or_eq_true (c.state == 3) with h1 | h1
 ·have g1 := h1
  try simp only [kb] at g1
  refine Run.off rfl rfl rfl h1 rfl (lt rfl) ?_
  refine Run.off rfl rfl rfl h1 rfl (lt rfl) ?_
  refine Run.off rfl rfl rfl h1 rfl (lt rfl) ?_
  refine Run.off rfl rfl rfl h1 rfl (lt rfl) ?_
  refine Run.off rfl rfl rfl h1 rfl (lt rfl) ?_
  refine Run.val (lt rfl) (Y.pick_t rfl h1 rfl) ?_
  refine Run.val (lt rfl) (Y.move rfl) ?_
  refine Run.off rfl rfl rfl rfl rfl (lt rfl) ?_
  refine Run.off rfl rfl rfl rfl rfl (lt rfl) ?_
  refine Run.off rfl rfl rfl rfl rfl (lt rfl) ?_
  refine Run.off rfl rfl rfl rfl rfl (lt rfl) ?_
  refine Run.off rfl rfl rfl rfl rfl (lt rfl) ?_
  refine Run.val (lt rfl) (Y.pick_t rfl rfl rfl) ?_
  refine Run.val (lt rfl) (Y.assign rfl) ?_
  refine Run.to_end ?_
  refine Ex.go ?_
  refine Tr.to_ret ?_
  exact Ex.ret1 rfl rfl  ⟨congrArg Value.bool (Cli.hold_y (by omega)).symm, rfl, rfl⟩
 ·have g1 := h1
  try simp only [kb] at g1
  refine Run.on rfl rfl rfl h1 ?_
  refine Run.val (lt rfl) (Y.move rfl) ?_
  refine Run.on rfl rfl rfl h1 ?_
  refine Run.val (lt rfl) (Y.nilCheck rfl) ?_
  refine Run.on rfl rfl rfl h1 ?_
  refine Run.val (lt rfl) (Y.fieldAddr rfl Client_fo44_2) ?_
  refine Run.on rfl rfl rfl h1 ?_
  refine Run.val (lt rfl) (Y.load rfl Client_ts3 hk rfl) ?_
  refine Run.on rfl rfl rfl h1 ?_
  refine Run.val (lt rfl) (Y.int rfl rfl rfl) ?_
  refine Run.val (lt rfl) (Y.pick_f rfl h1 rfl) ?_
  refine Run.val (lt rfl) (Y.move rfl) ?_
  rcases Bool.eq_false_or_eq_true (c.state == 4) with h2 | h2
  ·have g2 := h2
   try simp only [kb] at g2
   refine Run.off rfl rfl rfl h2 rfl (lt rfl) ?_
   refine Run.off rfl rfl rfl h2 rfl (lt rfl) ?_
   refine Run.off rfl rfl rfl h2 rfl (lt rfl) ?_
   refine Run.off rfl rfl rfl h2 rfl (lt rfl) ?_
   refine Run.off rfl rfl rfl h2 rfl (lt rfl) ?_
   refine Run.val (lt rfl) (Y.pick_t rfl h2 rfl) ?_
   refine Run.val (lt rfl) (Y.assign rfl) ?_
   refine Run.to_end ?_
   refine Ex.go ?_
   refine Tr.to_ret ?_
   exact Ex.ret1 rfl rfl  ⟨congrArg Value.bool (Cli.hold_y (by omega)).symm, rfl, rfl⟩
  ·have g2 := h2
   try simp only [kb] at g2
   refine Run.on rfl rfl rfl h2 ?_
   refine Run.val (lt rfl) (Y.move rfl) ?_
   refine Run.on rfl rfl rfl h2 ?_
   refine Run.val (lt rfl) (Y.nilCheck rfl) ?_
   refine Run.on rfl rfl rfl h2 ?_
   refine Run.val (lt rfl) (Y.fieldAddr rfl Client_fo44_2) ?_
   refine Run.on rfl rfl rfl h2 ?_
   refine Run.val (lt rfl) (Y.load rfl Client_ts3 hk rfl) ?_
   refine Run.on rfl rfl rfl h2 ?_
   refine Run.val (lt rfl) (Y.int rfl rfl rfl) ?_
   refine Run.val (lt rfl) (Y.pick_f rfl h2 rfl) ?_
   refine Run.val (lt rfl) (Y.assign rfl) ?_
   refine Run.to_end ?_
   refine Ex.go ?_
   refine Tr.to_ret ?_
   exact Ex.ret1 rfl rfl  ⟨congrArg Value.bool (by by_cases hx : 3 ≤ c.state ∧ c.state ≤ 5; rw [Cli.hold_y hx]; simp; omega; rw [Cli.hold_n hx]; simp; omega), rfl, rfl⟩

theorem ask_c {V : Vw} {H : Hp} {bc : Nat} {c : Cli} {hv : Value}  (hk : Kn V H bc (.cells (Cli.cells c hv) 67 (0, 0)))  : Does Try.prog 58 [.pointer (some ⟨bc, 0, none⟩)] V H (Pv (.bool (Cli.asking c)) V H) := by
 refine Does.intro Try.func58 rfl rfl (le rfl) (fun B => ?_)
 refine Tr.seq ?_
 refine Tr.region ?_
 refine Run.val (lt rfl) (Y.assign rfl) ?_
 refine Run.to_end ?_
 refine Ex.go ?_
 refine Tr.seq ?_
 refine Tr.region ?_
 refine Run.val (lt rfl) (Y.move rfl) ?_
 refine Run.val (lt rfl) (Y.nilCheck rfl) ?_
 refine Run.val (lt rfl) (Y.fieldAddr rfl Client_fo67_2) ?_
 refine Run.val (lt rfl) (Y.load rfl Client_ts3 hk rfl) ?_
 refine Run.val (lt rfl) (Y.int rfl rfl rfl) ?_
 refine Run.val (lt rfl) (Y.move rfl) ?_
 rcases Bool.eq_false_or_eq_true (c.state == 2) with h1 | h1
 ·have g1 := h1
  try simp only [kb] at g1
  refine Run.off rfl rfl rfl h1 rfl (lt rfl) ?_
  refine Run.off rfl rfl rfl h1 rfl (lt rfl) ?_
  refine Run.off rfl rfl rfl h1 rfl (lt rfl) ?_
  refine Run.off rfl rfl rfl h1 rfl (lt rfl) ?_
  refine Run.off rfl rfl rfl h1 rfl (lt rfl) ?_
  refine Run.val (lt rfl) (Y.pick_t rfl h1 rfl) ?_
  refine Run.val (lt rfl) (Y.move rfl) ?_
  refine Run.off rfl rfl rfl rfl rfl (lt rfl) ?_
  refine Run.off rfl rfl rfl rfl rfl (lt rfl) ?_
  refine Run.off rfl rfl rfl rfl rfl (lt rfl) ?_
  refine Run.off rfl rfl rfl rfl rfl (lt rfl) ?_
  refine Run.off rfl rfl rfl rfl rfl (lt rfl) ?_
  refine Run.val (lt rfl) (Y.pick_t rfl rfl rfl) ?_
  refine Run.val (lt rfl) (Y.assign rfl) ?_
  refine Run.to_end ?_
  refine Ex.go ?_
  refine Tr.to_ret ?_
  exact Ex.ret1 rfl rfl  ⟨congrArg Value.bool (by unfold Cli.asking; simp only [h1, Bool.true_and, Bool.false_and, Bool.true_or, Bool.false_or, Bool.and_true, Bool.and_false, Bool.or_true, Bool.or_false, Bool.not_true, Bool.not_false]), rfl, rfl⟩
 ·have g1 := h1
  try simp only [kb] at g1
  refine Run.on rfl rfl rfl h1 ?_
  refine Run.val (lt rfl) (Y.move rfl) ?_
  refine Run.on rfl rfl rfl h1 ?_
  refine Run.val (lt rfl) (Y.nilCheck rfl) ?_
  refine Run.on rfl rfl rfl h1 ?_
  refine Run.val (lt rfl) (Y.fieldAddr rfl Client_fo67_2) ?_
  refine Run.on rfl rfl rfl h1 ?_
  refine Run.val (lt rfl) (Y.load rfl Client_ts3 hk rfl) ?_
  refine Run.on rfl rfl rfl h1 ?_
  refine Run.val (lt rfl) (Y.int rfl rfl rfl) ?_
  refine Run.val (lt rfl) (Y.pick_f rfl h1 rfl) ?_
  refine Run.val (lt rfl) (Y.move rfl) ?_
  rcases Bool.eq_false_or_eq_true (c.state == 4) with h2 | h2
  ·have g2 := h2
   try simp only [kb] at g2
   refine Run.off rfl rfl rfl h2 rfl (lt rfl) ?_
   refine Run.off rfl rfl rfl h2 rfl (lt rfl) ?_
   refine Run.off rfl rfl rfl h2 rfl (lt rfl) ?_
   refine Run.off rfl rfl rfl h2 rfl (lt rfl) ?_
   refine Run.off rfl rfl rfl h2 rfl (lt rfl) ?_
   refine Run.val (lt rfl) (Y.pick_t rfl h2 rfl) ?_
   refine Run.val (lt rfl) (Y.assign rfl) ?_
   refine Run.to_end ?_
   refine Ex.go ?_
   refine Tr.to_ret ?_
   exact Ex.ret1 rfl rfl  ⟨congrArg Value.bool (by unfold Cli.asking; simp only [h1, h2, Bool.true_and, Bool.false_and, Bool.true_or, Bool.false_or, Bool.and_true, Bool.and_false, Bool.or_true, Bool.or_false, Bool.not_true, Bool.not_false]), rfl, rfl⟩
  ·have g2 := h2
   try simp only [kb] at g2
   refine Run.on rfl rfl rfl h2 ?_
   refine Run.val (lt rfl) (Y.move rfl) ?_
   refine Run.on rfl rfl rfl h2 ?_
   refine Run.val (lt rfl) (Y.nilCheck rfl) ?_
   refine Run.on rfl rfl rfl h2 ?_
   refine Run.val (lt rfl) (Y.fieldAddr rfl Client_fo67_2) ?_
   refine Run.on rfl rfl rfl h2 ?_
   refine Run.val (lt rfl) (Y.load rfl Client_ts3 hk rfl) ?_
   refine Run.on rfl rfl rfl h2 ?_
   refine Run.val (lt rfl) (Y.int rfl rfl rfl) ?_
   refine Run.val (lt rfl) (Y.pick_f rfl h2 rfl) ?_
   refine Run.val (lt rfl) (Y.assign rfl) ?_
   refine Run.to_end ?_
   refine Ex.go ?_
   refine Tr.to_ret ?_
   exact Ex.ret1 rfl rfl  ⟨congrArg Value.bool (by unfold Cli.asking; simp only [h1, h2, Bool.true_and, Bool.false_and, Bool.true_or, Bool.false_or, Bool.and_true, Bool.and_false, Bool.or_true, Bool.or_false, Bool.not_true, Bool.not_false]), rfl, rfl⟩

theorem until_c {V : Vw} {H : Hp} {bc : Nat} {c : Cli} {hv : Value}  (hk : Kn V H bc (.cells (Cli.cells c hv) 67 (0, 0)))  : Does Try.prog 14 [.pointer (some ⟨bc, 0, none⟩)] V H (Pv (.int .i64 (Cli.until0 c)) V H) := by
 refine Does.intro Try.func14 rfl rfl (le rfl) (fun B => ?_)
 refine Tr.seq ?_
 refine Tr.region ?_
 refine Run.val (lt rfl) (Y.assign rfl) ?_
 refine Run.to_end ?_
 refine Ex.go ?_
 refine Tr.seq ?_
 refine Tr.seq ?_
 refine Tr.region ?_
 refine Run.val (lt rfl) (Y.move rfl) ?_
 refine Run.call0 (l := [.tmp 3]) rfl rfl rfl (lt rfl) (hold_c (c := c) hk) ?_
 refine Run.val (lt rfl) (Y.not rfl) ?_
 refine Run.to_end ?_
 refine Ex.go ?_
 rcases Bool.eq_false_or_eq_true (Cli.holding c) with h1 | h1
 ·have g1 := h1
  try simp only [kb] at g1
  refine Tr.cond_f rfl (congrArg Bool.not h1) ?_
  refine Tr.to_end ?_
  refine Ex.go ?_
  refine Tr.seq ?_
  refine Tr.region ?_
  refine Run.val (lt rfl) (Y.move rfl) ?_
  refine Run.val (lt rfl) (Y.nilCheck rfl) ?_
  refine Run.val (lt rfl) (Y.fieldAddr rfl Client_fo67_6) ?_
  refine Run.val (lt rfl) (Y.load rfl Client_ts3 hk rfl) ?_
  refine Run.val (lt rfl) (Y.assign rfl) ?_
  refine Run.to_end ?_
  refine Ex.go ?_
  refine Tr.to_ret ?_
  exact Ex.ret1 rfl rfl  ⟨congrArg (Value.int _) (by unfold Cli.until0; rw [h1]; rfl), rfl, rfl⟩
 ·have g1 := h1
  try simp only [kb] at g1
  refine Tr.cond_t rfl (congrArg Bool.not h1) ?_
  refine Tr.seq ?_
  refine Tr.region ?_
  refine Run.val (lt rfl) (Y.assign rfl) ?_
  refine Run.to_end ?_
  refine Ex.go ?_
  refine Tr.to_ret ?_
  refine Ex.ret_then ?_
  exact Ex.ret1 rfl rfl  ⟨congrArg (Value.int _) (by unfold Cli.until0; rw [h1]; rfl), rfl, rfl⟩

theorem runtil_c {V : Vw} {H : Hp} {bc : Nat} {c : Cli} {hv : Value}  (hk : Kn V H bc (.cells (Cli.cells c hv) 44 (0, 0)))  : Does Try.prog 15 [.pointer (some ⟨bc, 0, none⟩)] V H (Pv (.int .i64 (Cli.until0 c)) V H) := by
 refine Does.intro Try.func15 rfl rfl (le rfl) (fun B => ?_)
 refine Tr.seq ?_
 refine Tr.region ?_
 refine Run.val (lt rfl) (Y.assign rfl) ?_
 refine Run.to_end ?_
 refine Ex.go ?_
 refine Tr.seq ?_
 refine Tr.seq ?_
 refine Tr.region ?_
 refine Run.val (lt rfl) (Y.move rfl) ?_
 refine Run.call0 (l := [.tmp 3]) rfl rfl rfl (lt rfl) (rhold_c (c := c) hk) ?_
 refine Run.to_end ?_
 refine Ex.go ?_
 rcases Bool.eq_false_or_eq_true (Cli.holding c) with h1 | h1
 ·have g1 := h1
  try simp only [kb] at g1
  refine Tr.cond_t rfl h1 ?_
  refine Tr.seq ?_
  refine Tr.region ?_
  refine Run.val (lt rfl) (Y.move rfl) ?_
  refine Run.val (lt rfl) (Y.nilCheck rfl) ?_
  refine Run.val (lt rfl) (Y.fieldAddr rfl Client_fo44_6) ?_
  refine Run.val (lt rfl) (Y.load rfl Client_ts3 hk rfl) ?_
  refine Run.val (lt rfl) (Y.assign rfl) ?_
  refine Run.to_end ?_
  refine Ex.go ?_
  refine Tr.to_ret ?_
  refine Ex.ret_then ?_
  exact Ex.ret1 rfl rfl  ⟨congrArg (Value.int _) (by unfold Cli.until0; rw [h1]; rfl), rfl, rfl⟩
 ·have g1 := h1
  try simp only [kb] at g1
  refine Tr.cond_f rfl h1 ?_
  refine Tr.to_end ?_
  refine Ex.go ?_
  refine Tr.seq ?_
  refine Tr.region ?_
  refine Run.val (lt rfl) (Y.assign rfl) ?_
  refine Run.to_end ?_
  refine Ex.go ?_
  refine Tr.to_ret ?_
  exact Ex.ret1 rfl rfl  ⟨congrArg (Value.int _) (by unfold Cli.until0; rw [h1]; rfl), rfl, rfl⟩

theorem state_c {V : Vw} {H : Hp} {bc : Nat} {c : Cli} {hv : Value}  (hk : Kn V H bc (.cells (Cli.cells c hv) 67 (0, 0)))  : Does Try.prog 12 [.pointer (some ⟨bc, 0, none⟩)] V H (Pv (.int .i64 c.state) V H) := by
 refine Does.intro Try.func12 rfl rfl (le rfl) (fun B => ?_)
 refine Tr.seq ?_
 refine Tr.region ?_
 refine Run.val (lt rfl) (Y.assign rfl) ?_
 refine Run.to_end ?_
 refine Ex.go ?_
 refine Tr.seq ?_
 refine Tr.region ?_
 refine Run.val (lt rfl) (Y.move rfl) ?_
 refine Run.val (lt rfl) (Y.nilCheck rfl) ?_
 refine Run.val (lt rfl) (Y.fieldAddr rfl Client_fo67_2) ?_
 refine Run.val (lt rfl) (Y.load rfl Client_ts3 hk rfl) ?_
 refine Run.val (lt rfl) (Y.assign rfl) ?_
 refine Run.to_end ?_
 refine Ex.go ?_
 refine Tr.to_ret ?_
 exact Ex.ret1 rfl rfl  ⟨rfl, rfl, rfl⟩

theorem addr_c {V : Vw} {H : Hp} {bc : Nat} {c : Cli} {hv : Value}  (hk : Kn V H bc (.cells (Cli.cells c hv) 67 (0, 0)))  : Does Try.prog 13 [.pointer (some ⟨bc, 0, none⟩)] V H (Pv (.int .u32 c.addr) V H) := by
 refine Does.intro Try.func13 rfl rfl (le rfl) (fun B => ?_)
 refine Tr.seq ?_
 refine Tr.region ?_
 refine Run.val (lt rfl) (Y.assign rfl) ?_
 refine Run.to_end ?_
 refine Ex.go ?_
 refine Tr.seq ?_
 refine Tr.region ?_
 refine Run.val (lt rfl) (Y.move rfl) ?_
 refine Run.val (lt rfl) (Y.nilCheck rfl) ?_
 refine Run.val (lt rfl) (Y.fieldAddr rfl Client_fo67_4) ?_
 refine Run.val (lt rfl) (Y.load rfl Client_ts33 hk rfl) ?_
 refine Run.val (lt rfl) (Y.assign rfl) ?_
 refine Run.to_end ?_
 refine Ex.go ?_
 refine Tr.to_ret ?_
 exact Ex.ret1 rfl rfl  ⟨rfl, rfl, rfl⟩

theorem drop_c {V : Vw} {bc : Nat} {c : Cli} {hv : Value} {s : Int}   : Does Try.prog 52 [.pointer (some ⟨bc, 0, none⟩), .int .i64 s] V [[(bc, .cells (Cli.cells c hv) 67 (0, 0))]] (fun u V' H' => V' = V ∧ u = .tuple #[] ∧ H' = [[(bc, .cells (Cli.cells (Cli.drop c s) hv) 67 (0, 0))]]) := by
 refine Does.intro Try.func52 rfl rfl (le rfl) (fun B => ?_)
 refine Tr.region ?_
 refine Run.val (lt rfl) (Y.move rfl) ?_
 refine Run.val (lt rfl) (Y.move rfl) ?_
 refine Run.val (lt rfl) (Y.move rfl) ?_
 refine Run.val (lt rfl) (Y.move rfl) ?_
 refine Run.val (lt rfl) (Y.nilCheck rfl) ?_
 refine Run.val (lt rfl) (Y.fieldAddr rfl Client_fo67_2) ?_
 refine Run.store (s := [(bc, .cells #[.string c.name, hv, .int .i64 s, .int .u32 c.xid, .int .u32 c.addr, .int .u32 c.server, .int .i64 c.until_, .int .i64 c.one, .int .i64 c.two, .bool c.due, .int .i64 c.tries, .int .i64 c.said, .int .i64 c.asks] 67 (0, 0))]) rfl rfl Client_sz3 (i := 0) rfl rfl (le rfl) rfl rfl ?_
 refine Run.val (lt rfl) (Y.nilCheck rfl) ?_
 refine Run.val (lt rfl) (Y.fieldAddr rfl Client_fo67_4) ?_
 refine Run.store (s := [(bc, .cells #[.string c.name, hv, .int .i64 s, .int .u32 c.xid, .int .u32 0, .int .u32 c.server, .int .i64 c.until_, .int .i64 c.one, .int .i64 c.two, .bool c.due, .int .i64 c.tries, .int .i64 c.said, .int .i64 c.asks] 67 (0, 0))]) rfl rfl Client_sz33 (i := 0) rfl rfl (le rfl) rfl rfl ?_
 refine Run.val (lt rfl) (Y.nilCheck rfl) ?_
 refine Run.val (lt rfl) (Y.fieldAddr rfl Client_fo67_5) ?_
 refine Run.store (s := [(bc, .cells #[.string c.name, hv, .int .i64 s, .int .u32 c.xid, .int .u32 0, .int .u32 0, .int .i64 c.until_, .int .i64 c.one, .int .i64 c.two, .bool c.due, .int .i64 c.tries, .int .i64 c.said, .int .i64 c.asks] 67 (0, 0))]) rfl rfl Client_sz33 (i := 0) rfl rfl (le rfl) rfl rfl ?_
 refine Run.to_end ?_
 refine Ex.keep [0] ?_
 exact Ex.end0 rfl ⟨rfl, rfl, rfl⟩

theorem speak_c {V : Vw} {bc : Nat} {c : Cli} {hv : Value} {s : Int}   : Does Try.prog 57 [.pointer (some ⟨bc, 0, none⟩), .int .i64 s] V [[(bc, .cells (Cli.cells c hv) 67 (0, 0))]] (fun u V' H' => V' = V ∧ u = .tuple #[] ∧ H' = [[(bc, .cells (Cli.cells (Cli.speak c s) hv) 67 (0, 0))]]) := by
 refine Does.intro Try.func57 rfl rfl (le rfl) (fun B => ?_)
 refine Tr.seq ?_
 refine Tr.region ?_
 refine Run.val (lt rfl) (Y.move rfl) ?_
 refine Run.val (lt rfl) (Y.move rfl) ?_
 refine Run.val (lt rfl) (Y.nilCheck rfl) ?_
 refine Run.val (lt rfl) (Y.fieldAddr rfl Client_fo67_2) ?_
 refine Run.store (s := [(bc, .cells #[.string c.name, hv, .int .i64 s, .int .u32 c.xid, .int .u32 c.addr, .int .u32 c.server, .int .i64 c.until_, .int .i64 c.one, .int .i64 c.two, .bool c.due, .int .i64 c.tries, .int .i64 c.said, .int .i64 c.asks] 67 (0, 0))]) rfl rfl Client_sz3 (i := 0) rfl rfl (le rfl) rfl rfl ?_
 refine Run.to_end ?_
 refine Ex.go ?_
 refine Tr.region ?_
 refine Run.val (lt rfl) (Y.move rfl) ?_
 refine Run.val (lt rfl) (Y.move rfl) ?_
 refine Run.val (lt rfl) (Y.nilCheck rfl) ?_
 refine Run.val (lt rfl) (Y.fieldAddr rfl Client_fo67_10) ?_
 refine Run.store (s := [(bc, .cells #[.string c.name, hv, .int .i64 s, .int .u32 c.xid, .int .u32 c.addr, .int .u32 c.server, .int .i64 c.until_, .int .i64 c.one, .int .i64 c.two, .bool c.due, .int .i64 0, .int .i64 c.said, .int .i64 c.asks] 67 (0, 0))]) rfl rfl Client_sz3 (i := 0) rfl rfl (le rfl) rfl rfl ?_
 refine Run.val (lt rfl) (Y.nilCheck rfl) ?_
 refine Run.val (lt rfl) (Y.fieldAddr rfl Client_fo67_9) ?_
 refine Run.store (s := [(bc, .cells #[.string c.name, hv, .int .i64 s, .int .u32 c.xid, .int .u32 c.addr, .int .u32 c.server, .int .i64 c.until_, .int .i64 c.one, .int .i64 c.two, .bool true, .int .i64 0, .int .i64 c.said, .int .i64 c.asks] 67 (0, 0))]) rfl rfl Client_sz4 (i := 0) rfl rfl (le rfl) rfl rfl ?_
 refine Run.to_end ?_
 refine Ex.keep [0] ?_
 exact Ex.end0 rfl ⟨rfl, rfl, rfl⟩

theorem anew_c {V : Vw} {bc : Nat} {c : Cli} {hv : Value}    : Does Try.prog 63 [.pointer (some ⟨bc, 0, none⟩)] V [[(bc, .cells (Cli.cells c hv) 67 (0, 0))]] (fun u V' H' => V' = V ∧ u = .tuple #[] ∧ H' = [[(bc, .cells (Cli.cells (Cli.anew c) hv) 67 (0, 0))]]) := by
 refine Does.intro Try.func63 rfl rfl (le rfl) (fun B => ?_)
 refine Tr.seq ?_
 refine Tr.region ?_
 refine Run.val (lt rfl) (Y.move rfl) ?_
 refine Run.call [0] (l := [.tmp 2, .const (.int .i64 1)]) rfl rfl rfl (lt rfl) (drop_c (c := c)) (fun v1 V2 H2 _ hR => ?_)
 obtain ⟨hV, rfl, rfl⟩ := hR; replace hV := hV.symm; subst hV
 refine Run.to_end ?_
 refine Ex.go ?_
 refine Tr.seq ?_
 refine Tr.region ?_
 refine Run.val (lt rfl) (Y.move rfl) ?_
 refine Run.val (lt rfl) (Y.nilCheck rfl) ?_
 refine Run.val (lt rfl) (Y.fieldAddr rfl Client_fo67_3) ?_
 refine Run.val (lt rfl) (Y.load rfl Client_ts32 (Kn.at 0 rfl) rfl) ?_
 refine Run.val (lt rfl) (Y.int (r := .int .u32 (((Cli.drop c 1).xid + 1) % 4294967296)) rfl rfl (by simp only [intRes]; rw [Cli.wrap_u32m])) ?_
 refine Run.val (lt rfl) (Y.nilCheck rfl) ?_
 refine Run.val (lt rfl) (Y.fieldAddr rfl Client_fo67_3) ?_
 refine Run.store (s := [(bc, .cells #[.string ((Cli.drop c 1).name), hv, .int .i64 ((Cli.drop c 1).state), .int .u32 (((Cli.drop c 1).xid + 1) % 4294967296), .int .u32 ((Cli.drop c 1).addr), .int .u32 ((Cli.drop c 1).server), .int .i64 ((Cli.drop c 1).until_), .int .i64 ((Cli.drop c 1).one), .int .i64 ((Cli.drop c 1).two), .bool ((Cli.drop c 1).due), .int .i64 ((Cli.drop c 1).tries), .int .i64 ((Cli.drop c 1).said), .int .i64 ((Cli.drop c 1).asks)] 67 (0, 0))]) rfl rfl Client_sz32 (i := 0) rfl rfl (le rfl) rfl rfl ?_
 refine Run.to_end ?_
 refine Ex.go ?_
 refine Tr.region ?_
 refine Run.val (lt rfl) (Y.move rfl) ?_
 refine Run.call [0] (l := [.tmp 11, .const (.int .i64 1)]) rfl rfl rfl (lt rfl) (speak_c (c := (⟨(Cli.drop c 1).name, (Cli.drop c 1).hw, (Cli.drop c 1).state, ((Cli.drop c 1).xid + 1) % 4294967296, (Cli.drop c 1).addr, (Cli.drop c 1).server, (Cli.drop c 1).until_, (Cli.drop c 1).one, (Cli.drop c 1).two, (Cli.drop c 1).due, (Cli.drop c 1).tries, (Cli.drop c 1).said, (Cli.drop c 1).asks⟩ : Cli))) (fun v2 V2 H2 _ hR => ?_)
 obtain ⟨hV, rfl, rfl⟩ := hR; replace hV := hV.symm; subst hV
 refine Run.to_end ?_
 refine Ex.keep [0] ?_
 exact Ex.end0 rfl ⟨rfl, rfl, rfl⟩

theorem rdrop_c {V : Vw} {bc : Nat} {c : Cli} {hv : Value} {s : Int}   : Does Try.prog 62 [.pointer (some ⟨bc, 0, none⟩), .int .i64 s] V [[(bc, .cells (Cli.cells c hv) 44 (0, 0))]] (fun u V' H' => V' = V ∧ u = .tuple #[] ∧ H' = [[(bc, .cells (Cli.cells (Cli.drop c s) hv) 44 (0, 0))]]) := by
 refine Does.intro Try.func62 rfl rfl (le rfl) (fun B => ?_)
 refine Tr.seq ?_
 refine Tr.region ?_
 refine Run.val (lt rfl) (Y.move rfl) ?_
 refine Run.val (lt rfl) (Y.move rfl) ?_
 refine Run.val (lt rfl) (Y.nilCheck rfl) ?_
 refine Run.val (lt rfl) (Y.fieldAddr rfl Client_fo44_2) ?_
 refine Run.store (s := [(bc, .cells #[.string c.name, hv, .int .i64 s, .int .u32 c.xid, .int .u32 c.addr, .int .u32 c.server, .int .i64 c.until_, .int .i64 c.one, .int .i64 c.two, .bool c.due, .int .i64 c.tries, .int .i64 c.said, .int .i64 c.asks] 44 (0, 0))]) rfl rfl Client_sz3 (i := 0) rfl rfl (le rfl) rfl rfl ?_
 refine Run.to_end ?_
 refine Ex.go ?_
 refine Tr.seq ?_
 refine Tr.region ?_
 refine Run.val (lt rfl) (Y.move rfl) ?_
 refine Run.val (lt rfl) (Y.nilCheck rfl) ?_
 refine Run.val (lt rfl) (Y.fieldAddr rfl Client_fo44_4) ?_
 refine Run.store (s := [(bc, .cells #[.string c.name, hv, .int .i64 s, .int .u32 c.xid, .int .u32 0, .int .u32 c.server, .int .i64 c.until_, .int .i64 c.one, .int .i64 c.two, .bool c.due, .int .i64 c.tries, .int .i64 c.said, .int .i64 c.asks] 44 (0, 0))]) rfl rfl Client_sz33 (i := 0) rfl rfl (le rfl) rfl rfl ?_
 refine Run.to_end ?_
 refine Ex.go ?_
 refine Tr.region ?_
 refine Run.val (lt rfl) (Y.move rfl) ?_
 refine Run.val (lt rfl) (Y.nilCheck rfl) ?_
 refine Run.val (lt rfl) (Y.fieldAddr rfl Client_fo44_5) ?_
 refine Run.store (s := [(bc, .cells #[.string c.name, hv, .int .i64 s, .int .u32 c.xid, .int .u32 0, .int .u32 0, .int .i64 c.until_, .int .i64 c.one, .int .i64 c.two, .bool c.due, .int .i64 c.tries, .int .i64 c.said, .int .i64 c.asks] 44 (0, 0))]) rfl rfl Client_sz33 (i := 0) rfl rfl (le rfl) rfl rfl ?_
 refine Run.to_end ?_
 refine Ex.keep [0] ?_
 exact Ex.end0 rfl ⟨rfl, rfl, rfl⟩

theorem ranew_c {V : Vw} {bc : Nat} {c : Cli} {hv : Value}    : Does Try.prog 65 [.pointer (some ⟨bc, 0, none⟩)] V [[(bc, .cells (Cli.cells c hv) 44 (0, 0))]] (fun u V' H' => V' = V ∧ u = .tuple #[] ∧ H' = [[(bc, .cells (Cli.cells (Cli.anew c) hv) 44 (0, 0))]]) := by
 refine Does.intro Try.func65 rfl rfl (le rfl) (fun B => ?_)
 refine Tr.seq ?_
 refine Tr.region ?_
 refine Run.val (lt rfl) (Y.move rfl) ?_
 refine Run.call [0] (l := [.tmp 2, .const (.int .i64 1)]) rfl rfl rfl (lt rfl) (rdrop_c (c := c)) (fun v1 V2 H2 _ hR => ?_)
 obtain ⟨hV, rfl, rfl⟩ := hR; replace hV := hV.symm; subst hV
 refine Run.to_end ?_
 refine Ex.go ?_
 refine Tr.seq ?_
 refine Tr.region ?_
 refine Run.val (lt rfl) (Y.move rfl) ?_
 refine Run.val (lt rfl) (Y.nilCheck rfl) ?_
 refine Run.val (lt rfl) (Y.fieldAddr rfl Client_fo44_3) ?_
 refine Run.val (lt rfl) (Y.load rfl Client_ts32 (Kn.at 0 rfl) rfl) ?_
 refine Run.val (lt rfl) (Y.int (r := .int .u32 (((Cli.drop c 1).xid + 1) % 4294967296)) rfl rfl (by simp only [intRes]; rw [Cli.wrap_u32m])) ?_
 refine Run.val (lt rfl) (Y.nilCheck rfl) ?_
 refine Run.val (lt rfl) (Y.fieldAddr rfl Client_fo44_3) ?_
 refine Run.store (s := [(bc, .cells #[.string ((Cli.drop c 1).name), hv, .int .i64 ((Cli.drop c 1).state), .int .u32 (((Cli.drop c 1).xid + 1) % 4294967296), .int .u32 ((Cli.drop c 1).addr), .int .u32 ((Cli.drop c 1).server), .int .i64 ((Cli.drop c 1).until_), .int .i64 ((Cli.drop c 1).one), .int .i64 ((Cli.drop c 1).two), .bool ((Cli.drop c 1).due), .int .i64 ((Cli.drop c 1).tries), .int .i64 ((Cli.drop c 1).said), .int .i64 ((Cli.drop c 1).asks)] 44 (0, 0))]) rfl rfl Client_sz32 (i := 0) rfl rfl (le rfl) rfl rfl ?_
 refine Run.to_end ?_
 refine Ex.go ?_
 refine Tr.seq ?_
 refine Tr.region ?_
 refine Run.val (lt rfl) (Y.move rfl) ?_
 refine Run.val (lt rfl) (Y.nilCheck rfl) ?_
 refine Run.val (lt rfl) (Y.fieldAddr rfl Client_fo44_10) ?_
 refine Run.store (s := [(bc, .cells #[.string ((Cli.drop c 1).name), hv, .int .i64 ((Cli.drop c 1).state), .int .u32 (((Cli.drop c 1).xid + 1) % 4294967296), .int .u32 ((Cli.drop c 1).addr), .int .u32 ((Cli.drop c 1).server), .int .i64 ((Cli.drop c 1).until_), .int .i64 ((Cli.drop c 1).one), .int .i64 ((Cli.drop c 1).two), .bool ((Cli.drop c 1).due), .int .i64 0, .int .i64 ((Cli.drop c 1).said), .int .i64 ((Cli.drop c 1).asks)] 44 (0, 0))]) rfl rfl Client_sz3 (i := 0) rfl rfl (le rfl) rfl rfl ?_
 refine Run.to_end ?_
 refine Ex.go ?_
 refine Tr.region ?_
 refine Run.val (lt rfl) (Y.move rfl) ?_
 refine Run.val (lt rfl) (Y.nilCheck rfl) ?_
 refine Run.val (lt rfl) (Y.fieldAddr rfl Client_fo44_9) ?_
 refine Run.store (s := [(bc, .cells #[.string ((Cli.drop c 1).name), hv, .int .i64 ((Cli.drop c 1).state), .int .u32 (((Cli.drop c 1).xid + 1) % 4294967296), .int .u32 ((Cli.drop c 1).addr), .int .u32 ((Cli.drop c 1).server), .int .i64 ((Cli.drop c 1).until_), .int .i64 ((Cli.drop c 1).one), .int .i64 ((Cli.drop c 1).two), .bool true, .int .i64 0, .int .i64 ((Cli.drop c 1).said), .int .i64 ((Cli.drop c 1).asks)] 44 (0, 0))]) rfl rfl Client_sz4 (i := 0) rfl rfl (le rfl) rfl rfl ?_
 refine Run.to_end ?_
 refine Ex.keep [0] ?_
 exact Ex.end0 rfl ⟨rfl, rfl, rfl⟩

theorem start_c {V : Vw} {bc : Nat} {c : Cli} {hv : Value}    : Does Try.prog 27 [.pointer (some ⟨bc, 0, none⟩)] V [[(bc, .cells (Cli.cells c hv) 67 (0, 0))]] (fun u V' H' => V' = V ∧ u = .tuple #[] ∧ H' = [[(bc, .cells (Cli.cells (Cli.start c) hv) 67 (0, 0))]]) := by
 refine Does.intro Try.func27 rfl rfl (le rfl) (fun B => ?_)
 refine Tr.seq ?_
 refine Tr.region ?_
 refine Run.val (lt rfl) (Y.move rfl) ?_
 refine Run.val (lt rfl) (Y.nilCheck rfl) ?_
 refine Run.val (lt rfl) (Y.fieldAddr rfl Client_fo67_2) ?_
 refine Run.val (lt rfl) (Y.load rfl Client_ts3 (Kn.at 0 rfl) rfl) ?_
 refine Run.val (lt rfl) (Y.int rfl rfl rfl) ?_
 refine Run.to_end ?_
 refine Ex.go ?_
 rcases Bool.eq_false_or_eq_true (c.state == 6) with h1 | h1
 ·have g1 := h1
  try simp only [kb] at g1
  refine Tr.cond_t rfl h1 ?_
  refine Tr.region ?_
  refine Run.val (lt rfl) (Y.move rfl) ?_
  refine Run.val (lt rfl) (Y.nilCheck rfl) ?_
  refine Run.val (lt rfl) (Y.fieldAddr rfl Client_fo67_2) ?_
  refine Run.store (s := [(bc, .cells #[.string c.name, hv, .int .i64 0, .int .u32 c.xid, .int .u32 c.addr, .int .u32 c.server, .int .i64 c.until_, .int .i64 c.one, .int .i64 c.two, .bool c.due, .int .i64 c.tries, .int .i64 c.said, .int .i64 c.asks] 67 (0, 0))]) rfl rfl Client_sz3 (i := 0) rfl rfl (le rfl) rfl rfl ?_
  refine Run.to_end ?_
  refine Ex.keep [0] ?_
  exact Ex.end0 rfl ⟨rfl, rfl, by rw [show Cli.start c = _ from if_pos g1]; rfl⟩
 ·have g1 := h1
  try simp only [kb] at g1
  refine Tr.cond_f rfl h1 ?_
  refine Tr.to_end ?_
  refine Ex.keep [0] ?_
  exact Ex.end0 rfl ⟨rfl, rfl, by rw [show Cli.start c = _ from if_neg g1]; rfl⟩

theorem rstart_c {V : Vw} {bc : Nat} {c : Cli} {hv : Value}    : Does Try.prog 33 [.pointer (some ⟨bc, 0, none⟩)] V [[(bc, .cells (Cli.cells c hv) 44 (0, 0))]] (fun u V' H' => V' = V ∧ u = .tuple #[] ∧ H' = [[(bc, .cells (Cli.cells (Cli.start c) hv) 44 (0, 0))]]) := by
 refine Does.intro Try.func33 rfl rfl (le rfl) (fun B => ?_)
 refine Tr.seq ?_
 refine Tr.region ?_
 refine Run.val (lt rfl) (Y.move rfl) ?_
 refine Run.val (lt rfl) (Y.nilCheck rfl) ?_
 refine Run.val (lt rfl) (Y.fieldAddr rfl Client_fo44_2) ?_
 refine Run.val (lt rfl) (Y.load rfl Client_ts3 (Kn.at 0 rfl) rfl) ?_
 refine Run.val (lt rfl) (Y.int rfl rfl rfl) ?_
 refine Run.to_end ?_
 refine Ex.go ?_
 rcases Bool.eq_false_or_eq_true (c.state == 6) with h1 | h1
 ·have g1 := h1
  try simp only [kb] at g1
  refine Tr.cond_t rfl h1 ?_
  refine Tr.region ?_
  refine Run.val (lt rfl) (Y.move rfl) ?_
  refine Run.val (lt rfl) (Y.nilCheck rfl) ?_
  refine Run.val (lt rfl) (Y.fieldAddr rfl Client_fo44_2) ?_
  refine Run.store (s := [(bc, .cells #[.string c.name, hv, .int .i64 0, .int .u32 c.xid, .int .u32 c.addr, .int .u32 c.server, .int .i64 c.until_, .int .i64 c.one, .int .i64 c.two, .bool c.due, .int .i64 c.tries, .int .i64 c.said, .int .i64 c.asks] 44 (0, 0))]) rfl rfl Client_sz3 (i := 0) rfl rfl (le rfl) rfl rfl ?_
  refine Run.to_end ?_
  refine Ex.keep [0] ?_
  exact Ex.end0 rfl ⟨rfl, rfl, by rw [show Cli.start c = _ from if_pos g1]; rfl⟩
 ·have g1 := h1
  try simp only [kb] at g1
  refine Tr.cond_f rfl h1 ?_
  refine Tr.to_end ?_
  refine Ex.keep [0] ?_
  exact Ex.end0 rfl ⟨rfl, rfl, by rw [show Cli.start c = _ from if_neg g1]; rfl⟩
end Go.Proofs.Ytelahacalnmilaa
