/- Promises that hold, walked.
Conditions: as each theorem names them. -/
import Derived.Test.YtjfacdepgkdoeaaProg
import Derived.Test.YtjfacdepgkdoeaaAA
import Derived.Test.YtjfacdepgkdoeaaSeqs
import Derived.Test.YtjfacdepgkdoeaaSortn3
set_option linter.unusedSimpArgs false
set_option linter.unusedVariables false
set_option maxRecDepth 4000
namespace Go.Proofs.Ytjfacdepgkdoeaa
open Go Go.K
attribute [local irreducible] Code.wp wpList Calls wpQuiet
theorem Audit_fo47_0 : fieldOff Try.prog 47 0 = some 0 := by kernel_rfl
theorem Audit_ts3 : scal Try.prog 3 = true := by kernel_rfl
theorem Audit_fo47_2 : fieldOff Try.prog 47 2 = some 2 := by kernel_rfl
theorem Audit_ts9 : scal Try.prog 9 = true := by kernel_rfl
theorem Audit_st9 : strT Try.prog 9 = true := by kernel_rfl
theorem Audit_fo47_3 : fieldOff Try.prog 47 3 = some 3 := by kernel_rfl
theorem Audit_fo47_4 : fieldOff Try.prog 47 4 = some 4 := by kernel_rfl
theorem Audit_ag47 : aggsz Try.prog 47 = some 5 := by kernel_rfl
theorem Audit_es40 : elemS Try.prog 40 = some (47, 5) := by kernel_rfl
theorem Audit_zo47 : zeroOf Try.prog 47 = some (.agg #[.int .i64 0, .int .u32 0, .string ⟨#[]⟩, .int .i64 0, .int .i64 0]) := by kernel_rfl
theorem Audit_sz47 : sizeT Try.prog 47 = some 5 := by kernel_rfl
theorem Audit_fo47_1 : fieldOff Try.prog 47 1 = some 1 := by kernel_rfl
theorem Audit_ts37 : scal Try.prog 37 = true := by kernel_rfl
theorem Audit_mt35 : mapT Try.prog 35 = some (.u32, 37, 4) := by kernel_rfl
theorem Audit_mo : Try.prog.follows .mixedOrders = true := by kernel_rfl
theorem Audit_es32 : elemS Try.prog 32 = some (37, 1) := by kernel_rfl
theorem Audit_zi37 : zeroInfo Try.prog 37 = some (1, 4, .int .u32 0) := by kernel_rfl
theorem Audit_zo37 : zeroOf Try.prog 37 = some (.int .u32 0) := by kernel_rfl
theorem Audit_es100 : elemS Try.prog 100 = some (3, 1) := by kernel_rfl
theorem Audit_zo3 : zeroOf Try.prog 3 = some (.int .i64 0) := by kernel_rfl
theorem Audit_zi3 : zeroInfo Try.prog 3 = some (1, 8, .int .i64 0) := by kernel_rfl

theorem right_c {q : Pr} {V : Vw} : Does Try.prog 64 [.agg #[.int .i64 q.srv, .int .u32 q.addr, .string q.client, .int .i64 q.from_, .int .i64 q.till]] V [] (Pv (.bool (Pr.right q)) V []) := by
 refine Does.intro Try.func64 rfl rfl (le rfl) (fun B => ?_)
 refine Tr.seq ?_
 refine Tr.region ?_
 refine Run.box rfl (lt rfl) (fun b1 => ?_)
 refine Run.val (lt rfl) (Y.assign rfl) ?_
 refine Run.to_end ?_
 refine Ex.go ?_
 refine Tr.seq ?_
 refine Tr.block ?_
 refine Tr.seq ?_
 refine Tr.seq ?_
 refine Tr.region ?_
 refine Run.val (lt rfl) (Y.fieldAddr rfl Audit_fo47_0) ?_
 refine Run.val (lt rfl) (Y.load rfl Audit_ts3 (Kn.at 0 rfl) rfl) ?_
 refine Run.val (lt rfl) (Y.int rfl rfl rfl) ?_
 refine Run.val (lt rfl) (Y.move rfl) ?_
 rcases Bool.eq_false_or_eq_true (decide (q.srv < 0)) with h2 | h2
 ·have g2 := h2
  try simp only [kb] at g2
  refine Run.off rfl rfl rfl h2 rfl (lt rfl) ?_
  refine Run.off rfl rfl rfl h2 rfl (lt rfl) ?_
  refine Run.off rfl rfl rfl h2 rfl (lt rfl) ?_
  refine Run.val (lt rfl) (Y.pick_t rfl h2 rfl) ?_
  refine Run.val (lt rfl) (Y.assign rfl) ?_
  refine Run.to_end ?_
  refine Ex.go ?_
  refine Tr.cond_t rfl rfl ?_
  refine Tr.to_end ?_
  refine Ex.go ?_
  refine Tr.cond_t rfl rfl ?_
  refine Tr.seq ?_
  refine Tr.region ?_
  refine Run.val (lt rfl) (Y.assign rfl) ?_
  refine Run.to_end ?_
  refine Ex.go ?_
  refine Tr.to_ret ?_
  refine Ex.ret_block ?_
  refine Ex.ret_then ?_
  refine Ex.keep [] ?_
  exact Ex.ret1 rfl rfl  ⟨congrArg Value.bool (decide_eq_false (by omega)).symm, rfl, rfl⟩
 ·have g2 := h2
  try simp only [kb] at g2
  refine Run.on rfl rfl rfl h2 ?_
  refine Run.val (lt rfl) (Y.fieldAddr rfl Audit_fo47_0) ?_
  refine Run.on rfl rfl rfl h2 ?_
  refine Run.val (lt rfl) (Y.load rfl Audit_ts3 (Kn.at 0 rfl) rfl) ?_
  refine Run.on rfl rfl rfl h2 ?_
  refine Run.val (lt rfl) (Y.int rfl rfl rfl) ?_
  refine Run.val (lt rfl) (Y.pick_f rfl h2 rfl) ?_
  refine Run.val (lt rfl) (Y.assign rfl) ?_
  refine Run.to_end ?_
  refine Ex.go ?_
  rcases Bool.eq_false_or_eq_true (decide (q.srv > 1)) with h3 | h3
  ·have g3 := h3
   try simp only [kb] at g3
   refine Tr.cond_t rfl h3 ?_
   refine Tr.to_end ?_
   refine Ex.go ?_
   refine Tr.cond_t rfl h3 ?_
   refine Tr.seq ?_
   refine Tr.region ?_
   refine Run.val (lt rfl) (Y.assign rfl) ?_
   refine Run.to_end ?_
   refine Ex.go ?_
   refine Tr.to_ret ?_
   refine Ex.ret_block ?_
   refine Ex.ret_then ?_
   refine Ex.keep [] ?_
   exact Ex.ret1 rfl rfl  ⟨congrArg Value.bool (decide_eq_false (by omega)).symm, rfl, rfl⟩
  ·have g3 := h3
   try simp only [kb] at g3
   refine Tr.cond_f rfl h3 ?_
   refine Tr.region ?_
   refine Run.val (lt rfl) (Y.fieldAddr rfl Audit_fo47_2) ?_
   refine Run.val (lt rfl) (Y.load rfl Audit_ts9 (Kn.at 0 rfl) rfl) ?_
   refine Run.val (lt rfl) (Y.eqStr rfl rfl) ?_
   refine Run.val (lt rfl) (Y.move rfl) ?_
   rcases Bool.eq_false_or_eq_true (q.client.toList == (⟨#[]⟩ : ByteArray).toList) with h4 | h4
   ·have g4 := h4
    try simp only [kb] at g4
    have hz := str_nil_t h4
    refine Run.off rfl rfl rfl h4 rfl (lt rfl) ?_
    refine Run.off rfl rfl rfl h4 rfl (lt rfl) ?_
    refine Run.off rfl rfl rfl h4 rfl (lt rfl) ?_
    refine Run.off rfl rfl rfl h4 rfl (lt rfl) ?_
    refine Run.val (lt rfl) (Y.pick_t rfl h4 rfl) ?_
    refine Run.val (lt rfl) (Y.assign rfl) ?_
    refine Run.to_end ?_
    refine Ex.go ?_
    refine Tr.cond_t rfl rfl ?_
    refine Tr.seq ?_
    refine Tr.region ?_
    refine Run.val (lt rfl) (Y.assign rfl) ?_
    refine Run.to_end ?_
    refine Ex.go ?_
    refine Tr.to_ret ?_
    refine Ex.ret_block ?_
    refine Ex.ret_then ?_
    refine Ex.keep [] ?_
    exact Ex.ret1 rfl rfl  ⟨congrArg Value.bool (decide_eq_false (by omega)).symm, rfl, rfl⟩
   ·have g4 := h4
    try simp only [kb] at g4
    have hz := str_nil_f h4
    refine Run.on rfl rfl rfl h4 ?_
    refine Run.val (lt rfl) (Y.fieldAddr rfl Audit_fo47_2) ?_
    refine Run.on rfl rfl rfl h4 ?_
    refine Run.val (lt rfl) (Y.load rfl Audit_ts9 (Kn.at 0 rfl) rfl) ?_
    refine Run.on rfl rfl rfl h4 ?_
    refine Run.val (lt rfl) (Y.lenStr rfl Audit_st9) ?_
    refine Run.on rfl rfl rfl h4 ?_
    refine Run.val (lt rfl) (Y.int rfl rfl rfl) ?_
    refine Run.val (lt rfl) (Y.pick_f rfl h4 rfl) ?_
    refine Run.val (lt rfl) (Y.assign rfl) ?_
    refine Run.to_end ?_
    refine Ex.go ?_
    rcases Bool.eq_false_or_eq_true (decide ((q.client.size : Int) > 32)) with h5 | h5
    ·have g5 := h5
     try simp only [kb] at g5
     refine Tr.cond_t rfl h5 ?_
     refine Tr.seq ?_
     refine Tr.region ?_
     refine Run.val (lt rfl) (Y.assign rfl) ?_
     refine Run.to_end ?_
     refine Ex.go ?_
     refine Tr.to_ret ?_
     refine Ex.ret_block ?_
     refine Ex.ret_then ?_
     refine Ex.keep [] ?_
     exact Ex.ret1 rfl rfl  ⟨congrArg Value.bool (decide_eq_false (by omega)).symm, rfl, rfl⟩
    ·have g5 := h5
     try simp only [kb] at g5
     refine Tr.cond_f rfl h5 ?_
     refine Tr.to_end ?_
     refine Ex.end_block ?_
     refine Ex.go ?_
     refine Tr.seq ?_
     refine Tr.region ?_
     refine Run.val (lt rfl) (Y.fieldAddr rfl Audit_fo47_3) ?_
     refine Run.val (lt rfl) (Y.load rfl Audit_ts3 (Kn.at 0 rfl) rfl) ?_
     refine Run.val (lt rfl) (Y.int rfl rfl rfl) ?_
     refine Run.val (lt rfl) (Y.move rfl) ?_
     rcases Bool.eq_false_or_eq_true (decide (q.from_ ≥ 0)) with h6 | h6
     ·have g6 := h6
      try simp only [kb] at g6
      refine Run.on rfl rfl rfl h6 ?_
      refine Run.val (lt rfl) (Y.fieldAddr rfl Audit_fo47_3) ?_
      refine Run.on rfl rfl rfl h6 ?_
      refine Run.val (lt rfl) (Y.load rfl Audit_ts3 (Kn.at 0 rfl) rfl) ?_
      refine Run.on rfl rfl rfl h6 ?_
      refine Run.val (lt rfl) (Y.fieldAddr rfl Audit_fo47_4) ?_
      refine Run.on rfl rfl rfl h6 ?_
      refine Run.val (lt rfl) (Y.load rfl Audit_ts3 (Kn.at 0 rfl) rfl) ?_
      refine Run.on rfl rfl rfl h6 ?_
      refine Run.val (lt rfl) (Y.int rfl rfl rfl) ?_
      refine Run.val (lt rfl) (Y.pick_t rfl h6 rfl) ?_
      refine Run.val (lt rfl) (Y.move rfl) ?_
      rcases Bool.eq_false_or_eq_true (decide (q.from_ ≤ q.till)) with h7 | h7
      ·have g7 := h7
       try simp only [kb] at g7
       refine Run.on rfl rfl rfl h7 ?_
       refine Run.val (lt rfl) (Y.fieldAddr rfl Audit_fo47_4) ?_
       refine Run.on rfl rfl rfl h7 ?_
       refine Run.val (lt rfl) (Y.load rfl Audit_ts3 (Kn.at 0 rfl) rfl) ?_
       refine Run.on rfl rfl rfl h7 ?_
       refine Run.val (lt rfl) (Y.int rfl rfl rfl) ?_
       refine Run.val (lt rfl) (Y.pick_t rfl h7 rfl) ?_
       refine Run.val (lt rfl) (Y.assign rfl) ?_
       refine Run.to_end ?_
       refine Ex.go ?_
       refine Tr.to_ret ?_
       refine Ex.keep [] ?_
       exact Ex.ret1 rfl rfl  ⟨congrArg Value.bool (decide_eq_decide.2 (by omega)), rfl, rfl⟩
      ·have g7 := h7
       try simp only [kb] at g7
       refine Run.off rfl rfl rfl h7 rfl (lt rfl) ?_
       refine Run.off rfl rfl rfl h7 rfl (lt rfl) ?_
       refine Run.off rfl rfl rfl h7 rfl (lt rfl) ?_
       refine Run.val (lt rfl) (Y.pick_f rfl h7 rfl) ?_
       refine Run.val (lt rfl) (Y.assign rfl) ?_
       refine Run.to_end ?_
       refine Ex.go ?_
       refine Tr.to_ret ?_
       refine Ex.keep [] ?_
       exact Ex.ret1 rfl rfl  ⟨congrArg Value.bool (decide_eq_false (by omega)).symm, rfl, rfl⟩
     ·have g6 := h6
      try simp only [kb] at g6
      refine Run.off rfl rfl rfl h6 rfl (lt rfl) ?_
      refine Run.off rfl rfl rfl h6 rfl (lt rfl) ?_
      refine Run.off rfl rfl rfl h6 rfl (lt rfl) ?_
      refine Run.off rfl rfl rfl h6 rfl (lt rfl) ?_
      refine Run.off rfl rfl rfl h6 rfl (lt rfl) ?_
      refine Run.val (lt rfl) (Y.pick_f rfl h6 rfl) ?_
      refine Run.val (lt rfl) (Y.move rfl) ?_
      refine Run.off rfl rfl rfl rfl rfl (lt rfl) ?_
      refine Run.off rfl rfl rfl rfl rfl (lt rfl) ?_
      refine Run.off rfl rfl rfl rfl rfl (lt rfl) ?_
      refine Run.val (lt rfl) (Y.pick_f rfl rfl rfl) ?_
      refine Run.val (lt rfl) (Y.assign rfl) ?_
      refine Run.to_end ?_
      refine Ex.go ?_
      refine Tr.to_ret ?_
      refine Ex.keep [] ?_
      exact Ex.ret1 rfl rfl  ⟨congrArg Value.bool (decide_eq_false (by omega)).symm, rfl, rfl⟩

theorem right_c_h {q : Pr} {V : Vw} {H : Hp} {v : Value} (hq : v = .agg #[.int .i64 q.srv, .int .u32 q.addr, .string q.client, .int .i64 q.from_, .int .i64 q.till]) : Does Try.prog 64 [v] V H (Pv (.bool (Pr.right q)) V H) := by subst hq; exact right_c.frame

theorem rright_c {q : Pr} {V : Vw} : Does Try.prog 66 [.agg #[.int .i64 q.srv, .int .u32 q.addr, .string q.client, .int .i64 q.from_, .int .i64 q.till]] V [] (Pv (.bool (Pr.right q)) V []) := by
 refine Does.intro Try.func66 rfl rfl (le rfl) (fun B => ?_)
 refine Tr.seq ?_
 refine Tr.region ?_
 refine Run.box rfl (lt rfl) (fun b1 => ?_)
 refine Run.val (lt rfl) (Y.assign rfl) ?_
 refine Run.to_end ?_
 refine Ex.go ?_
 refine Tr.seq ?_
 refine Tr.region ?_
 refine Run.val (lt rfl) (Y.fieldAddr rfl Audit_fo47_0) ?_
 refine Run.val (lt rfl) (Y.load rfl Audit_ts3 (Kn.at 0 rfl) rfl) ?_
 refine Run.val (lt rfl) (Y.int rfl rfl rfl) ?_
 refine Run.val (lt rfl) (Y.move rfl) ?_
 rcases Bool.eq_false_or_eq_true (decide (q.srv ≥ 0)) with h2 | h2
 ·have g2 := h2
  try simp only [kb] at g2
  refine Run.on rfl rfl rfl h2 ?_
  refine Run.val (lt rfl) (Y.fieldAddr rfl Audit_fo47_0) ?_
  refine Run.on rfl rfl rfl h2 ?_
  refine Run.val (lt rfl) (Y.load rfl Audit_ts3 (Kn.at 0 rfl) rfl) ?_
  refine Run.on rfl rfl rfl h2 ?_
  refine Run.val (lt rfl) (Y.int rfl rfl rfl) ?_
  refine Run.val (lt rfl) (Y.pick_t rfl h2 rfl) ?_
  refine Run.val (lt rfl) (Y.move rfl) ?_
  rcases Bool.eq_false_or_eq_true (decide (q.srv ≤ 1)) with h3 | h3
  ·have g3 := h3
   try simp only [kb] at g3
   refine Run.on rfl rfl rfl h3 ?_
   refine Run.val (lt rfl) (Y.fieldAddr rfl Audit_fo47_2) ?_
   refine Run.on rfl rfl rfl h3 ?_
   refine Run.val (lt rfl) (Y.load rfl Audit_ts9 (Kn.at 0 rfl) rfl) ?_
   refine Run.on rfl rfl rfl h3 ?_
   refine Run.val (lt rfl) (Y.lenStr rfl Audit_st9) ?_
   refine Run.on rfl rfl rfl h3 ?_
   refine Run.val (lt rfl) (Y.int rfl rfl rfl) ?_
   refine Run.val (lt rfl) (Y.pick_t rfl h3 rfl) ?_
   refine Run.val (lt rfl) (Y.move rfl) ?_
   rcases Bool.eq_false_or_eq_true (decide ((q.client.size : Int) ≥ 1)) with h4 | h4
   ·have g4 := h4
    try simp only [kb] at g4
    refine Run.on rfl rfl rfl h4 ?_
    refine Run.val (lt rfl) (Y.fieldAddr rfl Audit_fo47_2) ?_
    refine Run.on rfl rfl rfl h4 ?_
    refine Run.val (lt rfl) (Y.load rfl Audit_ts9 (Kn.at 0 rfl) rfl) ?_
    refine Run.on rfl rfl rfl h4 ?_
    refine Run.val (lt rfl) (Y.lenStr rfl Audit_st9) ?_
    refine Run.on rfl rfl rfl h4 ?_
    refine Run.val (lt rfl) (Y.int rfl rfl rfl) ?_
    refine Run.val (lt rfl) (Y.pick_t rfl h4 rfl) ?_
    refine Run.val (lt rfl) (Y.move rfl) ?_
    rcases Bool.eq_false_or_eq_true (decide ((q.client.size : Int) ≤ 32)) with h5 | h5
    ·have g5 := h5
     try simp only [kb] at g5
     refine Run.on rfl rfl rfl h5 ?_
     refine Run.val (lt rfl) (Y.fieldAddr rfl Audit_fo47_3) ?_
     refine Run.on rfl rfl rfl h5 ?_
     refine Run.val (lt rfl) (Y.load rfl Audit_ts3 (Kn.at 0 rfl) rfl) ?_
     refine Run.on rfl rfl rfl h5 ?_
     refine Run.val (lt rfl) (Y.int rfl rfl rfl) ?_
     refine Run.val (lt rfl) (Y.pick_t rfl h5 rfl) ?_
     refine Run.val (lt rfl) (Y.move rfl) ?_
     rcases Bool.eq_false_or_eq_true (decide (q.from_ ≥ 0)) with h6 | h6
     ·have g6 := h6
      try simp only [kb] at g6
      refine Run.on rfl rfl rfl h6 ?_
      refine Run.val (lt rfl) (Y.fieldAddr rfl Audit_fo47_3) ?_
      refine Run.on rfl rfl rfl h6 ?_
      refine Run.val (lt rfl) (Y.load rfl Audit_ts3 (Kn.at 0 rfl) rfl) ?_
      refine Run.on rfl rfl rfl h6 ?_
      refine Run.val (lt rfl) (Y.fieldAddr rfl Audit_fo47_4) ?_
      refine Run.on rfl rfl rfl h6 ?_
      refine Run.val (lt rfl) (Y.load rfl Audit_ts3 (Kn.at 0 rfl) rfl) ?_
      refine Run.on rfl rfl rfl h6 ?_
      refine Run.val (lt rfl) (Y.int rfl rfl rfl) ?_
      refine Run.val (lt rfl) (Y.pick_t rfl h6 rfl) ?_
      refine Run.val (lt rfl) (Y.move rfl) ?_
      rcases Bool.eq_false_or_eq_true (decide (q.from_ ≤ q.till)) with h7 | h7
      ·have g7 := h7
       try simp only [kb] at g7
       refine Run.on rfl rfl rfl h7 ?_
       refine Run.val (lt rfl) (Y.fieldAddr rfl Audit_fo47_4) ?_
       refine Run.on rfl rfl rfl h7 ?_
       refine Run.val (lt rfl) (Y.load rfl Audit_ts3 (Kn.at 0 rfl) rfl) ?_
       refine Run.on rfl rfl rfl h7 ?_
       refine Run.val (lt rfl) (Y.int rfl rfl rfl) ?_
       refine Run.val (lt rfl) (Y.pick_t rfl h7 rfl) ?_
       refine Run.val (lt rfl) (Y.assign rfl) ?_
       refine Run.to_end ?_
       refine Ex.go ?_
       refine Tr.to_ret ?_
       refine Ex.keep [] ?_
       exact Ex.ret1 rfl rfl  ⟨congrArg Value.bool (decide_eq_decide.2 (by omega)), rfl, rfl⟩
      ·have g7 := h7
       try simp only [kb] at g7
       refine Run.off rfl rfl rfl h7 rfl (lt rfl) ?_
       refine Run.off rfl rfl rfl h7 rfl (lt rfl) ?_
       refine Run.off rfl rfl rfl h7 rfl (lt rfl) ?_
       refine Run.val (lt rfl) (Y.pick_f rfl h7 rfl) ?_
       refine Run.val (lt rfl) (Y.assign rfl) ?_
       refine Run.to_end ?_
       refine Ex.go ?_
       refine Tr.to_ret ?_
       refine Ex.keep [] ?_
       exact Ex.ret1 rfl rfl  ⟨congrArg Value.bool (decide_eq_false (by omega)).symm, rfl, rfl⟩
     ·have g6 := h6
      try simp only [kb] at g6
      refine Run.off rfl rfl rfl h6 rfl (lt rfl) ?_
      refine Run.off rfl rfl rfl h6 rfl (lt rfl) ?_
      refine Run.off rfl rfl rfl h6 rfl (lt rfl) ?_
      refine Run.off rfl rfl rfl h6 rfl (lt rfl) ?_
      refine Run.off rfl rfl rfl h6 rfl (lt rfl) ?_
      refine Run.val (lt rfl) (Y.pick_f rfl h6 rfl) ?_
      refine Run.val (lt rfl) (Y.move rfl) ?_
      refine Run.off rfl rfl rfl rfl rfl (lt rfl) ?_
      refine Run.off rfl rfl rfl rfl rfl (lt rfl) ?_
      refine Run.off rfl rfl rfl rfl rfl (lt rfl) ?_
      refine Run.val (lt rfl) (Y.pick_f rfl rfl rfl) ?_
      refine Run.val (lt rfl) (Y.assign rfl) ?_
      refine Run.to_end ?_
      refine Ex.go ?_
      refine Tr.to_ret ?_
      refine Ex.keep [] ?_
      exact Ex.ret1 rfl rfl  ⟨congrArg Value.bool (decide_eq_false (by omega)).symm, rfl, rfl⟩
    ·have g5 := h5
     try simp only [kb] at g5
     refine Run.off rfl rfl rfl h5 rfl (lt rfl) ?_
     refine Run.off rfl rfl rfl h5 rfl (lt rfl) ?_
     refine Run.off rfl rfl rfl h5 rfl (lt rfl) ?_
     refine Run.val (lt rfl) (Y.pick_f rfl h5 rfl) ?_
     refine Run.val (lt rfl) (Y.move rfl) ?_
     refine Run.off rfl rfl rfl rfl rfl (lt rfl) ?_
     refine Run.off rfl rfl rfl rfl rfl (lt rfl) ?_
     refine Run.off rfl rfl rfl rfl rfl (lt rfl) ?_
     refine Run.off rfl rfl rfl rfl rfl (lt rfl) ?_
     refine Run.off rfl rfl rfl rfl rfl (lt rfl) ?_
     refine Run.val (lt rfl) (Y.pick_f rfl rfl rfl) ?_
     refine Run.val (lt rfl) (Y.move rfl) ?_
     refine Run.off rfl rfl rfl rfl rfl (lt rfl) ?_
     refine Run.off rfl rfl rfl rfl rfl (lt rfl) ?_
     refine Run.off rfl rfl rfl rfl rfl (lt rfl) ?_
     refine Run.val (lt rfl) (Y.pick_f rfl rfl rfl) ?_
     refine Run.val (lt rfl) (Y.assign rfl) ?_
     refine Run.to_end ?_
     refine Ex.go ?_
     refine Tr.to_ret ?_
     refine Ex.keep [] ?_
     exact Ex.ret1 rfl rfl  ⟨congrArg Value.bool (decide_eq_false (by omega)).symm, rfl, rfl⟩
   ·have g4 := h4
    try simp only [kb] at g4
    refine Run.off rfl rfl rfl h4 rfl (lt rfl) ?_
    refine Run.off rfl rfl rfl h4 rfl (lt rfl) ?_
    refine Run.off rfl rfl rfl h4 rfl (lt rfl) ?_
    refine Run.off rfl rfl rfl h4 rfl (lt rfl) ?_
    refine Run.val (lt rfl) (Y.pick_f rfl h4 rfl) ?_
    refine Run.val (lt rfl) (Y.move rfl) ?_
    refine Run.off rfl rfl rfl rfl rfl (lt rfl) ?_
    refine Run.off rfl rfl rfl rfl rfl (lt rfl) ?_
    refine Run.off rfl rfl rfl rfl rfl (lt rfl) ?_
    refine Run.val (lt rfl) (Y.pick_f rfl rfl rfl) ?_
    refine Run.val (lt rfl) (Y.move rfl) ?_
    refine Run.off rfl rfl rfl rfl rfl (lt rfl) ?_
    refine Run.off rfl rfl rfl rfl rfl (lt rfl) ?_
    refine Run.off rfl rfl rfl rfl rfl (lt rfl) ?_
    refine Run.off rfl rfl rfl rfl rfl (lt rfl) ?_
    refine Run.off rfl rfl rfl rfl rfl (lt rfl) ?_
    refine Run.val (lt rfl) (Y.pick_f rfl rfl rfl) ?_
    refine Run.val (lt rfl) (Y.move rfl) ?_
    refine Run.off rfl rfl rfl rfl rfl (lt rfl) ?_
    refine Run.off rfl rfl rfl rfl rfl (lt rfl) ?_
    refine Run.off rfl rfl rfl rfl rfl (lt rfl) ?_
    refine Run.val (lt rfl) (Y.pick_f rfl rfl rfl) ?_
    refine Run.val (lt rfl) (Y.assign rfl) ?_
    refine Run.to_end ?_
    refine Ex.go ?_
    refine Tr.to_ret ?_
    refine Ex.keep [] ?_
    exact Ex.ret1 rfl rfl  ⟨congrArg Value.bool (decide_eq_false (by omega)).symm, rfl, rfl⟩
  ·have g3 := h3
   try simp only [kb] at g3
   refine Run.off rfl rfl rfl h3 rfl (lt rfl) ?_
   refine Run.off rfl rfl rfl h3 rfl (lt rfl) ?_
   refine Run.off rfl rfl rfl h3 rfl (lt rfl) ?_
   refine Run.off rfl rfl rfl h3 rfl (lt rfl) ?_
   refine Run.val (lt rfl) (Y.pick_f rfl h3 rfl) ?_
   refine Run.val (lt rfl) (Y.move rfl) ?_
   refine Run.off rfl rfl rfl rfl rfl (lt rfl) ?_
   refine Run.off rfl rfl rfl rfl rfl (lt rfl) ?_
   refine Run.off rfl rfl rfl rfl rfl (lt rfl) ?_
   refine Run.off rfl rfl rfl rfl rfl (lt rfl) ?_
   refine Run.val (lt rfl) (Y.pick_f rfl rfl rfl) ?_
   refine Run.val (lt rfl) (Y.move rfl) ?_
   refine Run.off rfl rfl rfl rfl rfl (lt rfl) ?_
   refine Run.off rfl rfl rfl rfl rfl (lt rfl) ?_
   refine Run.off rfl rfl rfl rfl rfl (lt rfl) ?_
   refine Run.val (lt rfl) (Y.pick_f rfl rfl rfl) ?_
   refine Run.val (lt rfl) (Y.move rfl) ?_
   refine Run.off rfl rfl rfl rfl rfl (lt rfl) ?_
   refine Run.off rfl rfl rfl rfl rfl (lt rfl) ?_
   refine Run.off rfl rfl rfl rfl rfl (lt rfl) ?_
   refine Run.off rfl rfl rfl rfl rfl (lt rfl) ?_
   refine Run.off rfl rfl rfl rfl rfl (lt rfl) ?_
   refine Run.val (lt rfl) (Y.pick_f rfl rfl rfl) ?_
   refine Run.val (lt rfl) (Y.move rfl) ?_
   refine Run.off rfl rfl rfl rfl rfl (lt rfl) ?_
   refine Run.off rfl rfl rfl rfl rfl (lt rfl) ?_
   refine Run.off rfl rfl rfl rfl rfl (lt rfl) ?_
   refine Run.val (lt rfl) (Y.pick_f rfl rfl rfl) ?_
   refine Run.val (lt rfl) (Y.assign rfl) ?_
   refine Run.to_end ?_
   refine Ex.go ?_
   refine Tr.to_ret ?_
   refine Ex.keep [] ?_
   exact Ex.ret1 rfl rfl  ⟨congrArg Value.bool (decide_eq_false (by omega)).symm, rfl, rfl⟩
 ·have g2 := h2
  try simp only [kb] at g2
  refine Run.off rfl rfl rfl h2 rfl (lt rfl) ?_
  refine Run.off rfl rfl rfl h2 rfl (lt rfl) ?_
  refine Run.off rfl rfl rfl h2 rfl (lt rfl) ?_
  refine Run.val (lt rfl) (Y.pick_f rfl h2 rfl) ?_
  refine Run.val (lt rfl) (Y.move rfl) ?_
  refine Run.off rfl rfl rfl rfl rfl (lt rfl) ?_
  refine Run.off rfl rfl rfl rfl rfl (lt rfl) ?_
  refine Run.off rfl rfl rfl rfl rfl (lt rfl) ?_
  refine Run.off rfl rfl rfl rfl rfl (lt rfl) ?_
  refine Run.val (lt rfl) (Y.pick_f rfl rfl rfl) ?_
  refine Run.val (lt rfl) (Y.move rfl) ?_
  refine Run.off rfl rfl rfl rfl rfl (lt rfl) ?_
  refine Run.off rfl rfl rfl rfl rfl (lt rfl) ?_
  refine Run.off rfl rfl rfl rfl rfl (lt rfl) ?_
  refine Run.off rfl rfl rfl rfl rfl (lt rfl) ?_
  refine Run.val (lt rfl) (Y.pick_f rfl rfl rfl) ?_
  refine Run.val (lt rfl) (Y.move rfl) ?_
  refine Run.off rfl rfl rfl rfl rfl (lt rfl) ?_
  refine Run.off rfl rfl rfl rfl rfl (lt rfl) ?_
  refine Run.off rfl rfl rfl rfl rfl (lt rfl) ?_
  refine Run.val (lt rfl) (Y.pick_f rfl rfl rfl) ?_
  refine Run.val (lt rfl) (Y.move rfl) ?_
  refine Run.off rfl rfl rfl rfl rfl (lt rfl) ?_
  refine Run.off rfl rfl rfl rfl rfl (lt rfl) ?_
  refine Run.off rfl rfl rfl rfl rfl (lt rfl) ?_
  refine Run.off rfl rfl rfl rfl rfl (lt rfl) ?_
  refine Run.off rfl rfl rfl rfl rfl (lt rfl) ?_
  refine Run.val (lt rfl) (Y.pick_f rfl rfl rfl) ?_
  refine Run.val (lt rfl) (Y.move rfl) ?_
  refine Run.off rfl rfl rfl rfl rfl (lt rfl) ?_
  refine Run.off rfl rfl rfl rfl rfl (lt rfl) ?_
  refine Run.off rfl rfl rfl rfl rfl (lt rfl) ?_
  refine Run.val (lt rfl) (Y.pick_f rfl rfl rfl) ?_
  refine Run.val (lt rfl) (Y.assign rfl) ?_
  refine Run.to_end ?_
  refine Ex.go ?_
  refine Tr.to_ret ?_
  refine Ex.keep [] ?_
  exact Ex.ret1 rfl rfl  ⟨congrArg Value.bool (decide_eq_false (by omega)).symm, rfl, rfl⟩

theorem rright_c_h {q : Pr} {V : Vw} {H : Hp} {v : Value} (hq : v = .agg #[.int .i64 q.srv, .int .u32 q.addr, .string q.client, .int .i64 q.from_, .int .i64 q.till]) : Does Try.prog 66 [v] V H (Pv (.bool (Pr.right q)) V H) := by subst hq; exact rright_c.frame

theorem holds_c {q : Pr} {now : Int} {V : Vw} : Does Try.prog 67 [.agg #[.int .i64 q.srv, .int .u32 q.addr, .string q.client, .int .i64 q.from_, .int .i64 q.till], .int .i64 now] V [] (Pv (.bool (Pr.holds q now)) V []) := by
 refine Does.intro Try.func67 rfl rfl (le rfl) (fun B => ?_)
 refine Tr.seq ?_
 refine Tr.region ?_
 refine Run.box rfl (lt rfl) (fun b1 => ?_)
 refine Run.val (lt rfl) (Y.assign rfl) ?_
 refine Run.to_end ?_
 refine Ex.go ?_
 refine Tr.seq ?_
 refine Tr.region ?_
 refine Run.val (lt rfl) (Y.loadAgg rfl Audit_ag47 (Kn.at 0 rfl) rfl) ?_
 refine Run.call0 (l := [.tmp 5]) rfl rfl rfl (lt rfl) (right_c_h rfl) ?_
 refine Run.val (lt rfl) (Y.move rfl) ?_
 rcases Bool.eq_false_or_eq_true (Pr.right q) with h2 | h2
 ·have g2 := h2
  try simp only [kb] at g2
  refine Run.on rfl rfl rfl h2 ?_
  refine Run.val (lt rfl) (Y.fieldAddr rfl Audit_fo47_3) ?_
  refine Run.on rfl rfl rfl h2 ?_
  refine Run.val (lt rfl) (Y.load rfl Audit_ts3 (Kn.at 0 rfl) rfl) ?_
  refine Run.on rfl rfl rfl h2 ?_
  refine Run.val (lt rfl) (Y.move rfl) ?_
  refine Run.on rfl rfl rfl h2 ?_
  refine Run.val (lt rfl) (Y.int rfl rfl rfl) ?_
  refine Run.val (lt rfl) (Y.pick_t rfl h2 rfl) ?_
  refine Run.val (lt rfl) (Y.move rfl) ?_
  rcases Bool.eq_false_or_eq_true (decide (q.from_ ≤ now)) with h3 | h3
  ·have g3 := h3
   try simp only [kb] at g3
   refine Run.on rfl rfl rfl h3 ?_
   refine Run.val (lt rfl) (Y.move rfl) ?_
   refine Run.on rfl rfl rfl h3 ?_
   refine Run.val (lt rfl) (Y.fieldAddr rfl Audit_fo47_4) ?_
   refine Run.on rfl rfl rfl h3 ?_
   refine Run.val (lt rfl) (Y.load rfl Audit_ts3 (Kn.at 0 rfl) rfl) ?_
   refine Run.on rfl rfl rfl h3 ?_
   refine Run.val (lt rfl) (Y.int rfl rfl rfl) ?_
   refine Run.val (lt rfl) (Y.pick_t rfl h3 rfl) ?_
   refine Run.val (lt rfl) (Y.assign rfl) ?_
   refine Run.to_end ?_
   refine Ex.go ?_
   refine Tr.to_ret ?_
   refine Ex.keep [] ?_
   exact Ex.ret1 rfl rfl  ⟨congrArg Value.bool (by unfold Pr.holds; simp_all <;> omega), rfl, rfl⟩
  ·have g3 := h3
   try simp only [kb] at g3
   refine Run.off rfl rfl rfl h3 rfl (lt rfl) ?_
   refine Run.off rfl rfl rfl h3 rfl (lt rfl) ?_
   refine Run.off rfl rfl rfl h3 rfl (lt rfl) ?_
   refine Run.off rfl rfl rfl h3 rfl (lt rfl) ?_
   refine Run.val (lt rfl) (Y.pick_f rfl h3 rfl) ?_
   refine Run.val (lt rfl) (Y.assign rfl) ?_
   refine Run.to_end ?_
   refine Ex.go ?_
   refine Tr.to_ret ?_
   refine Ex.keep [] ?_
   exact Ex.ret1 rfl rfl  ⟨congrArg Value.bool (by unfold Pr.holds; simp_all <;> omega), rfl, rfl⟩
 ·have g2 := h2
  try simp only [kb] at g2
  refine Run.off rfl rfl rfl h2 rfl (lt rfl) ?_
  refine Run.off rfl rfl rfl h2 rfl (lt rfl) ?_
  refine Run.off rfl rfl rfl h2 rfl (lt rfl) ?_
  refine Run.off rfl rfl rfl h2 rfl (lt rfl) ?_
  refine Run.val (lt rfl) (Y.pick_f rfl h2 rfl) ?_
  refine Run.val (lt rfl) (Y.move rfl) ?_
  refine Run.off rfl rfl rfl rfl rfl (lt rfl) ?_
  refine Run.off rfl rfl rfl rfl rfl (lt rfl) ?_
  refine Run.off rfl rfl rfl rfl rfl (lt rfl) ?_
  refine Run.off rfl rfl rfl rfl rfl (lt rfl) ?_
  refine Run.val (lt rfl) (Y.pick_f rfl rfl rfl) ?_
  refine Run.val (lt rfl) (Y.assign rfl) ?_
  refine Run.to_end ?_
  refine Ex.go ?_
  refine Tr.to_ret ?_
  refine Ex.keep [] ?_
  exact Ex.ret1 rfl rfl  ⟨congrArg Value.bool (by unfold Pr.holds; simp_all <;> omega), rfl, rfl⟩

theorem holds_c_h {q : Pr} {now : Int} {V : Vw} {H : Hp} {v : Value} (hq : v = .agg #[.int .i64 q.srv, .int .u32 q.addr, .string q.client, .int .i64 q.from_, .int .i64 q.till]) : Does Try.prog 67 [v, .int .i64 now] V H (Pv (.bool (Pr.holds q now)) V H) := by subst hq; exact holds_c.frame

theorem rholds_c {q : Pr} {now : Int} {V : Vw} : Does Try.prog 70 [.agg #[.int .i64 q.srv, .int .u32 q.addr, .string q.client, .int .i64 q.from_, .int .i64 q.till], .int .i64 now] V [] (Pv (.bool (Pr.holds q now)) V []) := by
 refine Does.intro Try.func70 rfl rfl (le rfl) (fun B => ?_)
 refine Tr.seq ?_
 refine Tr.region ?_
 refine Run.box rfl (lt rfl) (fun b1 => ?_)
 refine Run.val (lt rfl) (Y.assign rfl) ?_
 refine Run.to_end ?_
 refine Ex.go ?_
 refine Tr.seq ?_
 refine Tr.region ?_
 refine Run.val (lt rfl) (Y.loadAgg rfl Audit_ag47 (Kn.at 0 rfl) rfl) ?_
 refine Run.call0 (l := [.tmp 6]) rfl rfl rfl (lt rfl) (rright_c_h rfl) ?_
 refine Run.val (lt rfl) (Y.assign rfl) ?_
 refine Run.to_end ?_
 refine Ex.go ?_
 refine Tr.seq ?_
 refine Tr.region ?_
 refine Run.val (lt rfl) (Y.move rfl) ?_
 refine Run.val (lt rfl) (Y.move rfl) ?_
 rcases Bool.eq_false_or_eq_true (Pr.right q) with h2 | h2
 ·have g2 := h2
  try simp only [kb] at g2
  refine Run.on rfl rfl rfl h2 ?_
  refine Run.val (lt rfl) (Y.move rfl) ?_
  refine Run.on rfl rfl rfl h2 ?_
  refine Run.val (lt rfl) (Y.fieldAddr rfl Audit_fo47_3) ?_
  refine Run.on rfl rfl rfl h2 ?_
  refine Run.val (lt rfl) (Y.load rfl Audit_ts3 (Kn.at 0 rfl) rfl) ?_
  refine Run.on rfl rfl rfl h2 ?_
  refine Run.val (lt rfl) (Y.int rfl rfl rfl) ?_
  refine Run.val (lt rfl) (Y.pick_t rfl h2 rfl) ?_
  refine Run.val (lt rfl) (Y.move rfl) ?_
  rcases Bool.eq_false_or_eq_true (decide (now ≥ q.from_)) with h3 | h3
  ·have g3 := h3
   try simp only [kb] at g3
   refine Run.on rfl rfl rfl h3 ?_
   refine Run.val (lt rfl) (Y.move rfl) ?_
   refine Run.on rfl rfl rfl h3 ?_
   refine Run.val (lt rfl) (Y.fieldAddr rfl Audit_fo47_4) ?_
   refine Run.on rfl rfl rfl h3 ?_
   refine Run.val (lt rfl) (Y.load rfl Audit_ts3 (Kn.at 0 rfl) rfl) ?_
   refine Run.on rfl rfl rfl h3 ?_
   refine Run.val (lt rfl) (Y.int rfl rfl rfl) ?_
   refine Run.val (lt rfl) (Y.pick_t rfl h3 rfl) ?_
   refine Run.val (lt rfl) (Y.assign rfl) ?_
   refine Run.to_end ?_
   refine Ex.go ?_
   refine Tr.to_ret ?_
   refine Ex.keep [] ?_
   exact Ex.ret1 rfl rfl  ⟨congrArg Value.bool (by unfold Pr.holds; simp_all <;> omega), rfl, rfl⟩
  ·have g3 := h3
   try simp only [kb] at g3
   refine Run.off rfl rfl rfl h3 rfl (lt rfl) ?_
   refine Run.off rfl rfl rfl h3 rfl (lt rfl) ?_
   refine Run.off rfl rfl rfl h3 rfl (lt rfl) ?_
   refine Run.off rfl rfl rfl h3 rfl (lt rfl) ?_
   refine Run.val (lt rfl) (Y.pick_f rfl h3 rfl) ?_
   refine Run.val (lt rfl) (Y.assign rfl) ?_
   refine Run.to_end ?_
   refine Ex.go ?_
   refine Tr.to_ret ?_
   refine Ex.keep [] ?_
   exact Ex.ret1 rfl rfl  ⟨congrArg Value.bool (by unfold Pr.holds; simp_all <;> omega), rfl, rfl⟩
 ·have g2 := h2
  try simp only [kb] at g2
  refine Run.off rfl rfl rfl h2 rfl (lt rfl) ?_
  refine Run.off rfl rfl rfl h2 rfl (lt rfl) ?_
  refine Run.off rfl rfl rfl h2 rfl (lt rfl) ?_
  refine Run.off rfl rfl rfl h2 rfl (lt rfl) ?_
  refine Run.val (lt rfl) (Y.pick_f rfl h2 rfl) ?_
  refine Run.val (lt rfl) (Y.move rfl) ?_
  refine Run.off rfl rfl rfl rfl rfl (lt rfl) ?_
  refine Run.off rfl rfl rfl rfl rfl (lt rfl) ?_
  refine Run.off rfl rfl rfl rfl rfl (lt rfl) ?_
  refine Run.off rfl rfl rfl rfl rfl (lt rfl) ?_
  refine Run.val (lt rfl) (Y.pick_f rfl rfl rfl) ?_
  refine Run.val (lt rfl) (Y.assign rfl) ?_
  refine Run.to_end ?_
  refine Ex.go ?_
  refine Tr.to_ret ?_
  refine Ex.keep [] ?_
  exact Ex.ret1 rfl rfl  ⟨congrArg Value.bool (by unfold Pr.holds; simp_all <;> omega), rfl, rfl⟩

theorem rholds_c_h {q : Pr} {now : Int} {V : Vw} {H : Hp} {v : Value} (hq : v = .agg #[.int .i64 q.srv, .int .u32 q.addr, .string q.client, .int .i64 q.from_, .int .i64 q.till]) : Does Try.prog 70 [v, .int .i64 now] V H (Pv (.bool (Pr.holds q now)) V H) := by subst hq; exact rholds_c.frame

theorem held_c {V : Vw} {l : List Pr} {p : Option Addr} {c : Nat} (hv : Rd V [] 5 (.slice p l.length c) l.length (l.flatMap Pr.cells)) (hl : l.length ≤ 60) {now : Int}  : Does Try.prog 25 [.slice p l.length c, .int .i64 now] V [] (fun v V' H' => V' = V ∧ ∃ q, Ow 37 1 v (Pr.held l now).length ((Pr.held l now).flatMap nU) q ∧ H' = [q]) := by
 refine Does.intro Try.func25 rfl rfl (le rfl) (fun B => ?_)
 refine Tr.seq ?_
 refine Tr.region ?_
 refine Run.val (lt rfl) (Y.assign rfl) ?_
 refine Run.to_end ?_
 refine Ex.go ?_
 refine Tr.seq ?_
 refine Tr.region ?_
 refine Run.makeMap .u32 (lt rfl) (fun v1 s2 hm3 => ?_)
 refine Run.val (lt rfl) (Y.assign rfl) ?_
 refine Run.to_end ?_
 refine Ex.go ?_
 refine Tr.seq ?_
 refine Tr.seq ?_
 refine Tr.region ?_
 refine Run.val (lt rfl) (Y.move rfl) ?_
 refine Run.val (lt rfl) (Y.lenSl rfl Audit_es40) ?_
 refine Run.val (lt rfl) (Y.move rfl) ?_
 refine Run.to_end ?_
 refine Ex.go ?_
 refine Tr.block ?_
 refine Tr.loop (X := Nat × Sg) (fun z0 => V) (fun z0 => [z0.2]) (fun z0 => [(1, .int .i64 now), (5, v1), (9, .slice p l.length c), (10, .int .i64 ((l.length : Nat) : Int)), (11, .int .i64 (z0.1 : Int))]) (fun z0 => Om .u32 v1 (yes (dd (Pr.hs now (l.take z0.1)))) z0.2 ∧ z0.1 ≤ l.length) (fun z0 => l.length - z0.1) (⟨0, s2⟩ : Nat × Sg) ⟨hm3, Nat.zero_le _⟩ (fun a w i => ⟨i.1.sub (subB_cons (by first | rfl | exact congrArg (fun z => some (Value.int _ z)) (by omega)) (subB_cons (by first | rfl | exact congrArg (fun z => some (Value.int _ z)) (by omega)) (subB_cons (by first | rfl | exact congrArg (fun z => some (Value.int _ z)) (by omega)) (subB_cons (by first | rfl | exact congrArg (fun z => some (Value.int _ z)) (by omega)) (subB_cons (by first | rfl | exact congrArg (fun z => some (Value.int _ z)) (by omega)) (subB_nil _)))))), i.2⟩) ?_
 rintro ⟨i1, s1⟩ ⟨hm, hi⟩
 try dsimp only at hm hi ⊢
 refine Tr.seq ?_
 refine Tr.region ?_
 refine Run.val (lt rfl) (Y.int rfl rfl rfl) ?_
 refine Run.to_end ?_
 refine Ex.go ?_
 refine Tr.seq ?_
 rcases Bool.eq_false_or_eq_true (decide ((i1 : Int) < ((l.length : Nat) : Int))) with h4 | h4
 ·have g4 := h4
  try simp only [kb] at g4
  refine Tr.cond_t rfl h4 ?_
  refine Tr.to_end ?_
  refine Ex.go ?_
  refine Tr.seq ?_
  refine Tr.block ?_
  refine Tr.seq ?_
  refine Tr.region ?_
  refine Run.val (lt rfl) (Y.idxR i1 rfl rfl Audit_es40 hv.of_nil (by omega) (by omega)) ?_
  refine Run.val (lt rfl) (Y.ldRA (vs := [.int .i64 ((l.getD i1 Pr.dflt).srv), .int .u32 ((l.getD i1 Pr.dflt).addr), .string ((l.getD i1 Pr.dflt).client), .int .i64 ((l.getD i1 Pr.dflt).from_), .int .i64 ((l.getD i1 Pr.dflt).till)]) rfl Audit_ag47 hv.of_nil rfl (by decide) (fun o ho => flatm_atA Pr.len (by omega) Pr.dflt o ho)) ?_
  refine Run.alloc Audit_zo47 (lt rfl) (fun b5 => ?_)
  refine Run.store (s := [(b5, .cells #[.int .i64 ((l.getD i1 Pr.dflt).srv), .int .u32 ((l.getD i1 Pr.dflt).addr), .string ((l.getD i1 Pr.dflt).client), .int .i64 ((l.getD i1 Pr.dflt).from_), .int .i64 ((l.getD i1 Pr.dflt).till)] 47 (0, 0))]) rfl rfl Audit_sz47 (i := 0) rfl rfl (le rfl) rfl rfl ?_
  refine Run.to_end ?_
  refine Ex.go ?_
  refine Tr.seq ?_
  refine Tr.region ?_
  refine Run.val (lt rfl) (Y.loadAgg rfl Audit_ag47 (Kn.at 0 rfl) rfl) ?_
  refine Run.val (lt rfl) (Y.move rfl) ?_
  refine Run.call0 (l := [.tmp 15, .tmp 16]) rfl rfl rfl (lt rfl) (holds_c_h rfl) ?_
  refine Run.to_end ?_
  refine Ex.go ?_
  rcases Bool.eq_false_or_eq_true (Pr.holds (l.getD i1 Pr.dflt) now) with h6 | h6
  ·have g6 := h6
   try simp only [kb] at g6
   refine Tr.cond_t rfl h6 ?_
   refine Tr.region ?_
   refine Run.val (lt rfl) (Y.move rfl) ?_
   refine Run.val (lt rfl) (Y.fieldAddr rfl Audit_fo47_1) ?_
   refine Run.val (lt rfl) (Y.load rfl Audit_ts37 (Kn.at 0 rfl) rfl) ?_
   refine Run.mapUpdate 1 rfl rfl rfl Audit_mt35 hm rfl (fun s7 hm8 => ?_)
   refine Run.heapTo (H' := [[(b5, .cells #[.int .i64 ((l.getD i1 Pr.dflt).srv), .int .u32 ((l.getD i1 Pr.dflt).addr), .string ((l.getD i1 Pr.dflt).client), .int .i64 ((l.getD i1 Pr.dflt).from_), .int .i64 ((l.getD i1 Pr.dflt).till)] 47 (0, 0))], s7]) rfl ?_
   refine Run.to_end ?_
   refine Ex.end_block ?_
   refine Ex.go ?_
   refine Tr.region ?_
   refine Run.val (lt rfl) (Y.add rfl rfl (by omega)) ?_
   refine Run.val (lt rfl) (Y.move rfl) ?_
   refine Run.to_end ?_
   refine Ex.keep [1] ?_
   exact Ex.round (⟨i1 + 1, s7⟩ : Nat × Sg) ⟨by rw [Pr.dd_yes (by omega) h6, ← mset_yes]; exact hm8, by omega⟩ (by dsimp only; omega) rfl rfl (subB_cons (by first | rfl | exact congrArg (fun z => some (Value.int _ z)) (by omega)) (subB_cons (by first | rfl | exact congrArg (fun z => some (Value.int _ z)) (by omega)) (subB_cons (by first | rfl | exact congrArg (fun z => some (Value.int _ z)) (by omega)) (subB_cons (by first | rfl | exact congrArg (fun z => some (Value.int _ z)) (by omega)) (subB_cons (by first | rfl | exact congrArg (fun z => some (Value.int _ z)) (by omega)) (subB_nil _))))))
  ·have g6 := h6
   try simp only [kb] at g6
   refine Tr.cond_f rfl h6 ?_
   refine Tr.to_end ?_
   refine Ex.end_block ?_
   refine Ex.go ?_
   refine Tr.region ?_
   refine Run.val (lt rfl) (Y.add rfl rfl (by omega)) ?_
   refine Run.val (lt rfl) (Y.move rfl) ?_
   refine Run.to_end ?_
   refine Ex.keep [1] ?_
   exact Ex.round (⟨i1 + 1, s1⟩ : Nat × Sg) ⟨by rw [Pr.hs_take0 (by omega) h6]; exact hm, by omega⟩ (by dsimp only; omega) rfl rfl (subB_cons (by first | rfl | exact congrArg (fun z => some (Value.int _ z)) (by omega)) (subB_cons (by first | rfl | exact congrArg (fun z => some (Value.int _ z)) (by omega)) (subB_cons (by first | rfl | exact congrArg (fun z => some (Value.int _ z)) (by omega)) (subB_cons (by first | rfl | exact congrArg (fun z => some (Value.int _ z)) (by omega)) (subB_cons (by first | rfl | exact congrArg (fun z => some (Value.int _ z)) (by omega)) (subB_nil _))))))
 ·have g4 := h4
  try simp only [kb] at g4
  refine Tr.cond_f rfl h4 ?_
  refine Tr.to_exit ?_
  refine Ex.exit_then ?_
  refine Ex.exit_then ?_
  refine Ex.exit_in ?_
  refine Ex.go ?_
  refine Tr.seq ?_
  refine Tr.region ?_
  refine Run.val (lt rfl) (Y.move rfl) ?_
  obtain rfl : i1 = l.length := by omega
  rw [List.take_length] at hm
  obtain ⟨bm, es, clock, rfl, rfl, hmi⟩ := hm
  refine Run.call [] (l := [.tmp 22]) rfl rfl rfl (lt rfl) keysu_top (fun v3 V2 H2 hle hR => ?_)
  obtain ⟨hV, bk, rfl, rfl⟩ := hR; replace hV := hV.symm; subst hV
  refine Run.heapTo (H' := [[(bm, .map es clock)], [(bk, .cells #[.map (some bm)] 35 (0, 0))]]) rfl ?_
  refine Run.heapTo (H' := [[(bm, .map es clock)], [(bk, .cells #[.map (some bm)] 35 (0, 0))]]) rfl ?_
  have hdl := Nat.le_trans (dd_len (Pr.hs now l)) (Pr.hs_le now l)
  have hyl : (yes (dd (Pr.hs now l))).length = (dd (Pr.hs now l)).length := by unfold yes; rw [List.length_map]
  refine Run.call [1, 0] (l := [.tmp 23]) rfl rfl rfl (lt rfl) (sorted_u (caps := [.pointer (some ⟨bk, 0, none⟩)]) (keysu_it hmi) (by omega) (fun xs hp => by have := hp.length_eq; rw [List.length_map] at this; omega)) (fun v4 V3 H3 hle3 hR3 => ?_)
  obtain ⟨hV, xs, q9, hS9, ho9, rfl⟩ := hR3; replace hV := hV.symm; subst hV
  rw [yes_keys] at hS9
  rw [show isort xs = Pr.held l now from up_unique (isort_up _) (isort_up _) ((isort_perm xs).trans (hS9.trans (isort_perm _).symm)), show xs.length = (Pr.held l now).length from by unfold Pr.held; rw [isort_length]; exact hS9.length_eq] at ho9
  refine Run.heapTo (H' := [q9, [(bk, .cells #[.map (some bm)] 35 (0, 0))], [(bm, .map es clock)]]) rfl ?_
  refine Run.heapTo (H' := [q9, [(bk, .cells #[.map (some bm)] 35 (0, 0))], [(bm, .map es clock)]]) rfl ?_
  refine Run.val (lt rfl) (Y.assign rfl) ?_
  refine Run.to_end ?_
  refine Ex.go ?_
  refine Tr.to_ret ?_
  refine Ex.keep [0] ?_
  exact Ex.ret1 rfl rfl  ⟨rfl, q9, ho9, rfl⟩

set_option maxHeartbeats 1000000 in
theorem rheld_c {V : Vw} {l : List Pr} {p : Option Addr} {c : Nat} (hv : Rd V [] 5 (.slice p l.length c) l.length (l.flatMap Pr.cells)) (hl : l.length ≤ 60) {now : Int}  : Does Try.prog 26 [.slice p l.length c, .int .i64 now] V [] (fun v V' H' => V' = V ∧ ∃ q, Ow 37 1 v (Pr.held l now).length ((Pr.held l now).flatMap nU) q ∧ H' = [q]) := by
 refine Does.intro Try.func26 rfl rfl (le rfl) (fun B => ?_)
 refine Tr.seq ?_
 refine Tr.region ?_
 refine Run.val (lt rfl) (Y.assign rfl) ?_
 refine Run.to_end ?_
 refine Ex.go ?_
 refine Tr.seq ?_
 refine Tr.region ?_
 refine Run.nilseg ?_
 refine Run.val (lt rfl) (Y.assign rfl) ?_
 refine Run.to_end ?_
 refine Ex.go ?_
 refine Tr.seq ?_
 refine Tr.seq ?_
 refine Tr.region ?_
 refine Run.val (lt rfl) (Y.assign rfl) ?_
 refine Run.to_end ?_
 refine Ex.go ?_
 refine Tr.block ?_
 refine Tr.loop (X := Nat × Option Addr × Nat × Nat × Sg) (fun z0 => V) (fun z0 => [z0.2.2.2.2]) (fun z0 => [(0, .slice p l.length c), (1, .int .i64 now), (5, .slice z0.2.1 z0.2.2.1 z0.2.2.2.1), (6, .int .i64 (z0.1 : Int))]) (fun z0 => Ow 37 1 (.slice z0.2.1 z0.2.2.1 z0.2.2.2.1) z0.2.2.1 ((Pr.held (l.take z0.1) now).flatMap nU) z0.2.2.2.2 ∧ z0.2.2.1 = (Pr.held (l.take z0.1) now).length ∧ z0.1 ≤ l.length) (fun z0 => l.length - z0.1) (⟨0, none, 0, 0, []⟩ : Nat × Option Addr × Nat × Nat × Sg) ⟨Ow.nil _ _, rfl, Nat.zero_le _⟩ (fun a w i => ⟨i.1.sub (subB_cons (by first | rfl | exact congrArg (fun z => some (Value.int _ z)) (by omega)) (subB_cons (by first | rfl | exact congrArg (fun z => some (Value.int _ z)) (by omega)) (subB_cons (by first | rfl | exact congrArg (fun z => some (Value.int _ z)) (by omega)) (subB_cons (by first | rfl | exact congrArg (fun z => some (Value.int _ z)) (by omega)) (subB_nil _))))), i.2⟩) ?_
 rintro ⟨i1, p1, n1, k1, q1⟩ ⟨how, hn, hi⟩
 try dsimp only at how hn hi ⊢
 have hsl := Pr.held_len (l.take i1) now
 rw [List.length_take] at hsl
 have hcp := how.cap
 refine Tr.seq ?_
 refine Tr.seq ?_
 refine Tr.region ?_
 refine Run.val (lt rfl) (Y.move rfl) ?_
 refine Run.val (lt rfl) (Y.move rfl) ?_
 refine Run.val (lt rfl) (Y.lenSl rfl Audit_es40) ?_
 refine Run.val (lt rfl) (Y.int rfl rfl rfl) ?_
 refine Run.to_end ?_
 refine Ex.go ?_
 rcases Bool.eq_false_or_eq_true (decide ((i1 : Int) < ((l.length : Nat) : Int))) with h1 | h1
 ·have g1 := h1
  try simp only [kb] at g1
  refine Tr.cond_t rfl h1 ?_
  refine Tr.to_end ?_
  refine Ex.go ?_
  refine Tr.seq ?_
  refine Tr.block ?_
  refine Tr.seq ?_
  refine Tr.seq ?_
  refine Tr.region ?_
  refine Run.val (lt rfl) (Y.move rfl) ?_
  refine Run.val (lt rfl) (Y.move rfl) ?_
  refine Run.val (lt rfl) (Y.idxR i1 rfl rfl Audit_es40 hv.of_nil (by omega) (by omega)) ?_
  refine Run.val (lt rfl) (Y.ldRA (vs := [.int .i64 ((l.getD i1 Pr.dflt).srv), .int .u32 ((l.getD i1 Pr.dflt).addr), .string ((l.getD i1 Pr.dflt).client), .int .i64 ((l.getD i1 Pr.dflt).from_), .int .i64 ((l.getD i1 Pr.dflt).till)]) rfl Audit_ag47 hv.of_nil rfl (by decide) (fun o ho => flatm_atA Pr.len (by omega) Pr.dflt o ho)) ?_
  refine Run.val (lt rfl) (Y.move rfl) ?_
  refine Run.call0 (l := [.tmp 18, .tmp 19]) rfl rfl rfl (lt rfl) (rholds_c_h rfl) ?_
  refine Run.val (lt rfl) (Y.not rfl) ?_
  refine Run.to_end ?_
  refine Ex.go ?_
  rcases Bool.eq_false_or_eq_true (Pr.holds (l.getD i1 Pr.dflt) now) with h2 | h2
  ·have g2 := h2
   try simp only [kb] at g2
   refine Tr.cond_f rfl (congrArg Bool.not h2) ?_
   refine Tr.to_end ?_
   refine Ex.go ?_
   refine Tr.seq ?_
   refine Tr.region ?_
   refine Run.val (lt rfl) (Y.assign rfl) ?_
   refine Run.to_end ?_
   refine Ex.go ?_
   refine Tr.seq ?_
   refine Tr.block ?_
   refine Tr.loop (X := Nat) (fun z0 => V) (fun z0 => [q1]) (fun z0 => [(0, .slice p l.length c), (1, .int .i64 now), (5, .slice p1 n1 k1), (6, .int .i64 (i1 : Int)), (7, .int .i64 (z0 : Int))]) (fun z0 => z0 ≤ n1 ∧ ∀ j, j < z0 → (Pr.held (l.take i1) now).getD j 0 < (l.getD i1 Pr.dflt).addr) (fun z0 => n1 - z0) (0 : Nat) ⟨Nat.zero_le _, fun j hj => absurd hj (Nat.not_lt_zero j)⟩ (fun a w i => ⟨i.1.sub (subB_cons (by first | rfl | exact congrArg (fun z => some (Value.int _ z)) (by omega)) (subB_cons (by first | rfl | exact congrArg (fun z => some (Value.int _ z)) (by omega)) (subB_cons (by first | rfl | exact congrArg (fun z => some (Value.int _ z)) (by omega)) (subB_cons (by first | rfl | exact congrArg (fun z => some (Value.int _ z)) (by omega)) (subB_cons (by first | rfl | exact congrArg (fun z => some (Value.int _ z)) (by omega)) (subB_nil _)))))), i.2⟩) ?_
   rintro a1 ⟨hal, ha⟩
   have hrl0 : (Pr.held (l.take i1) now).length = n1 := hn.symm
   refine Tr.seq ?_
   refine Tr.seq ?_
   refine Tr.quiet Audit_mo (by kernel_rfl) ?_
   refine RunQ.val (lt rfl) (Y.move rfl) ?_
   refine RunQ.val (lt rfl) (Y.move rfl) ?_
   refine RunQ.val (lt rfl) (Y.lenSl rfl Audit_es32) ?_
   refine RunQ.val (lt rfl) (Y.int rfl rfl rfl) ?_
   refine RunQ.val (lt rfl) (Y.move rfl) ?_
   rcases Bool.eq_false_or_eq_true (decide ((a1 : Int) < ((n1 : Nat) : Int))) with h3 | h3
   ·have g3 := h3
    try simp only [kb] at g3
    refine RunQ.on rfl rfl rfl h3 ?_
    refine RunQ.val (lt rfl) (Y.move rfl) ?_
    refine RunQ.on rfl rfl rfl h3 ?_
    refine RunQ.val (lt rfl) (Y.move rfl) ?_
    refine RunQ.on rfl rfl rfl h3 ?_
    refine RunQ.val (lt rfl) (Y.idxR a1 rfl rfl Audit_es32 (how.rd 0 rfl) (by omega) (by omega)) ?_
    refine RunQ.on rfl rfl rfl h3 ?_
    refine RunQ.val (lt rfl) (Y.ldR rfl Audit_ts37 (how.rd 0 rfl) (flatm_at0 nU_enc.len (by omega) 0 (by decide) rfl)) ?_
    refine RunQ.on rfl rfl rfl h3 ?_
    refine RunQ.val (lt rfl) (Y.move rfl) ?_
    refine RunQ.on rfl rfl rfl h3 ?_
    refine RunQ.val (lt rfl) (Y.move rfl) ?_
    refine RunQ.on rfl rfl rfl h3 ?_
    refine RunQ.val (lt rfl) (Y.idxR i1 rfl rfl Audit_es40 hv.of_nil (by omega) (by omega)) ?_
    refine RunQ.on rfl rfl rfl h3 ?_
    refine RunQ.val (lt rfl) (Y.fieldR rfl Audit_fo47_1 hv.of_nil (by omega)) ?_
    refine RunQ.on rfl rfl rfl h3 ?_
    refine RunQ.val (lt rfl) (Y.ldR rfl Audit_ts37 hv.of_nil (flatm_at Pr.len (by omega) Pr.dflt (by decide) rfl)) ?_
    refine RunQ.on rfl rfl rfl h3 ?_
    refine RunQ.val (lt rfl) (Y.int rfl rfl rfl) ?_
    refine RunQ.val (lt rfl) (Y.pick_t rfl h3 rfl) ?_
    refine RunQ.to_end ?_
    refine Ex.go ?_
    rcases Bool.eq_false_or_eq_true (decide (((Pr.held (l.take i1) now).getD a1 0) < ((l.getD i1 Pr.dflt).addr))) with h4 | h4
    ·have g4 := h4
     try simp only [kb] at g4
     refine Tr.cond_t rfl h4 ?_
     refine Tr.to_end ?_
     refine Ex.go ?_
     refine Tr.block ?_
     refine Tr.region ?_
     refine Run.val (lt rfl) (Y.move rfl) ?_
     refine Run.val (lt rfl) (Y.add rfl rfl (by omega)) ?_
     refine Run.val (lt rfl) (Y.assign rfl) ?_
     refine Run.to_end ?_
     refine Ex.end_block ?_
     exact Ex.round (a1 + 1 : Nat) ⟨by omega, upto_succ ha (by omega)⟩ (by omega) rfl rfl (subB_cons (by first | rfl | exact congrArg (fun z => some (Value.int _ z)) (by omega)) (subB_cons (by first | rfl | exact congrArg (fun z => some (Value.int _ z)) (by omega)) (subB_cons (by first | rfl | exact congrArg (fun z => some (Value.int _ z)) (by omega)) (subB_cons (by first | rfl | exact congrArg (fun z => some (Value.int _ z)) (by omega)) (subB_cons (by first | rfl | exact congrArg (fun z => some (Value.int _ z)) (by omega)) (subB_nil _))))))
    ·have g4 := h4
     try simp only [kb] at g4
     refine Tr.cond_f rfl h4 ?_
     refine Tr.to_exit ?_
     refine Ex.exit_then ?_
     refine Ex.exit_then ?_
     refine Ex.exit_in ?_
     refine Ex.go ?_
     refine Tr.seq ?_
     refine Tr.seq ?_
     refine Tr.quiet Audit_mo (by kernel_rfl) ?_
     refine RunQ.val (lt rfl) (Y.move rfl) ?_
     refine RunQ.val (lt rfl) (Y.move rfl) ?_
     refine RunQ.val (lt rfl) (Y.lenSl rfl Audit_es32) ?_
     refine RunQ.val (lt rfl) (Y.int rfl rfl rfl) ?_
     refine RunQ.val (lt rfl) (Y.move rfl) ?_
     refine RunQ.on rfl rfl rfl h3 ?_
     refine RunQ.val (lt rfl) (Y.move rfl) ?_
     refine RunQ.on rfl rfl rfl h3 ?_
     refine RunQ.val (lt rfl) (Y.move rfl) ?_
     refine RunQ.on rfl rfl rfl h3 ?_
     refine RunQ.val (lt rfl) (Y.idxR a1 rfl rfl Audit_es32 (how.rd 0 rfl) (by omega) (by omega)) ?_
     refine RunQ.on rfl rfl rfl h3 ?_
     refine RunQ.val (lt rfl) (Y.ldR rfl Audit_ts37 (how.rd 0 rfl) (flatm_at0 nU_enc.len (by omega) 0 (by decide) rfl)) ?_
     refine RunQ.on rfl rfl rfl h3 ?_
     refine RunQ.val (lt rfl) (Y.move rfl) ?_
     refine RunQ.on rfl rfl rfl h3 ?_
     refine RunQ.val (lt rfl) (Y.move rfl) ?_
     refine RunQ.on rfl rfl rfl h3 ?_
     refine RunQ.val (lt rfl) (Y.idxR i1 rfl rfl Audit_es40 hv.of_nil (by omega) (by omega)) ?_
     refine RunQ.on rfl rfl rfl h3 ?_
     refine RunQ.val (lt rfl) (Y.fieldR rfl Audit_fo47_1 hv.of_nil (by omega)) ?_
     refine RunQ.on rfl rfl rfl h3 ?_
     refine RunQ.val (lt rfl) (Y.ldR rfl Audit_ts37 hv.of_nil (flatm_at Pr.len (by omega) Pr.dflt (by decide) rfl)) ?_
     refine RunQ.on rfl rfl rfl h3 ?_
     refine RunQ.val (lt rfl) (Y.int rfl rfl rfl) ?_
     refine RunQ.val (lt rfl) (Y.pick_t rfl h3 rfl) ?_
     refine RunQ.to_end ?_
     refine Ex.go ?_
     rcases Bool.eq_false_or_eq_true (((Pr.held (l.take i1) now).getD a1 0) == ((l.getD i1 Pr.dflt).addr)) with h5 | h5
     ·have g5 := h5
      try simp only [kb] at g5
      refine Tr.cond_t rfl h5 ?_
      refine Tr.to_exit ?_
      refine Ex.exit_then ?_
      refine Ex.exit_in ?_
      refine Ex.go ?_
      refine Tr.region ?_
      refine Run.val (lt rfl) (Y.move rfl) ?_
      refine Run.val (lt rfl) (Y.add rfl rfl (by omega)) ?_
      refine Run.val (lt rfl) (Y.assign rfl) ?_
      refine Run.to_end ?_
      refine Ex.keep [0] ?_
      have hrl : (Pr.held (l.take i1) now).length = n1 := hn.symm
      have hsp : spot (l.getD i1 Pr.dflt).addr (Pr.held (l.take i1) now) = a1 := spot_at (by omega) ha (by first | (left; omega) | (right; omega))
      have hc : (Pr.held (l.take i1) now).contains (l.getD i1 Pr.dflt).addr = true := (spot_mem (Pr.held_up _ _)).2 (by rw [hsp]; exact ⟨by omega, by omega⟩)
      have er := Pr.held_in (now := now) (l := l) (i := i1) (by omega) h2 hc
      exact Ex.round (⟨i1 + 1, p1, n1, k1, q1⟩ : Nat × Option Addr × Nat × Nat × Sg) ⟨by rw [er]; exact how, by rw [er]; exact hn, by omega⟩ (by dsimp only; omega) rfl rfl (subB_cons (by first | rfl | exact congrArg (fun z => some (Value.int _ z)) (by omega)) (subB_cons (by first | rfl | exact congrArg (fun z => some (Value.int _ z)) (by omega)) (subB_cons (by first | rfl | exact congrArg (fun z => some (Value.int _ z)) (by omega)) (subB_cons (by first | rfl | exact congrArg (fun z => some (Value.int _ z)) (by omega)) (subB_nil _)))))
     ·have g5 := h5
      try simp only [kb] at g5
      refine Tr.cond_f rfl h5 ?_
      refine Tr.to_end ?_
      refine Ex.go ?_
      refine Tr.seq ?_
      refine Tr.region ?_
      refine Run.buildSlice0 Audit_es32 (lt rfl) (fun b6 => ?_)
      refine Run.val (lt rfl) (Y.move rfl) ?_
      refine Run.val (lt rfl) (Y.move rfl) ?_
      refine Run.val (lt rfl) (Y.slice (l := 0) (m := a1) rfl Audit_es32 rfl rfl (by omega) (by omega)) ?_
      refine Run.append (n := 0) (m := (a1 - 0)) (xs := []) (ys := (((Pr.held (l.take i1) now).drop 0).take (a1 - 0)).flatMap nU) rfl rfl Audit_es32 Audit_zi37 (by decide) (j := 0) rfl (Ow.lit (cur := #[]) rfl (by decide)) (Src.of_rd Audit_es32 (Rd.cut nU_enc.len (how.rd 1 rfl) 0 a1 (by omega) (by omega))) (by omega) (by omega) (all_one_flat nU_enc _) (lt rfl) (fun v7 s8 ho9 hf => ?_)
      obtain ⟨p7, c7, rfl⟩ := hf
      replace ho9 := Ow.app (f := nU) (l := []) (m := ((Pr.held (l.take i1) now).drop 0).take (a1 - 0)) ho9
      refine Run.val (lt rfl) (Y.assign rfl) ?_
      refine Run.to_end ?_
      refine Ex.go ?_
      refine Tr.seq ?_
      refine Tr.region ?_
      refine Run.val (lt rfl) (Y.move rfl) ?_
      refine Run.val (lt rfl) (Y.move rfl) ?_
      refine Run.val (lt rfl) (Y.move rfl) ?_
      refine Run.val (lt rfl) (Y.idxR i1 rfl rfl Audit_es40 hv.of_nil (by omega) (by omega)) ?_
      refine Run.val (lt rfl) (Y.fieldR rfl Audit_fo47_1 hv.of_nil (by omega)) ?_
      refine Run.val (lt rfl) (Y.ldR rfl Audit_ts37 hv.of_nil (flatm_at Pr.len (by omega) Pr.dflt (by decide) rfl)) ?_
      refine Run.buildSlice (l := [(0, .tmp 66)]) Audit_es32 Audit_zo37 rfl (by decide) rfl rfl (by decide) (lt rfl) (fun b10 => ?_)
      refine Run.append (n := 0 + (a1 - 0)) (m := 1) (xs := ([] ++ (((Pr.held (l.take i1) now).drop 0).take (a1 - 0))).flatMap nU) (ys := [.int .u32 ((l.getD i1 Pr.dflt).addr)]) rfl rfl Audit_es32 Audit_zi37 (by decide) (j := 1) rfl ho9 (Src.of_rd Audit_es32 (Rd.one (Kn.at 0 rfl) rfl)) (by omega) (by omega) rfl (lt rfl) (fun v11 s12 ho13 hf => ?_)
      obtain ⟨p11, c11, rfl⟩ := hf
      replace ho13 := Ow.app1 (f := nU) (l := [] ++ (((Pr.held (l.take i1) now).drop 0).take (a1 - 0))) (x := (l.getD i1 Pr.dflt).addr) ho13
      refine Run.val (lt rfl) (Y.assign rfl) ?_
      refine Run.to_end ?_
      refine Ex.go ?_
      refine Tr.region ?_
      refine Run.val (lt rfl) (Y.move rfl) ?_
      refine Run.val (lt rfl) (Y.move rfl) ?_
      refine Run.val (lt rfl) (Y.move rfl) ?_
      refine Run.val (lt rfl) (Y.slice (l := a1) (m := n1) rfl Audit_es32 rfl rfl (by omega) (by omega)) ?_
      refine Run.append (n := 0 + (a1 - 0) + 1) (m := (n1 - a1)) (xs := (([] ++ (((Pr.held (l.take i1) now).drop 0).take (a1 - 0))) ++ [(l.getD i1 Pr.dflt).addr]).flatMap nU) (ys := (((Pr.held (l.take i1) now).drop a1).take (n1 - a1)).flatMap nU) rfl rfl Audit_es32 Audit_zi37 (by decide) (j := 1) rfl ho13 (Src.of_rd Audit_es32 (Rd.cut nU_enc.len (how.rd 2 rfl) a1 n1 (by omega) (by omega))) (by omega) (by omega) (all_one_flat nU_enc _) (lt rfl) (fun v14 s15 ho16 hf => ?_)
      obtain ⟨p14, c14, rfl⟩ := hf
      replace ho16 := Ow.app (f := nU) (l := ([] ++ (((Pr.held (l.take i1) now).drop 0).take (a1 - 0))) ++ [(l.getD i1 Pr.dflt).addr]) (m := ((Pr.held (l.take i1) now).drop a1).take (n1 - a1)) ho16
      refine Run.val (lt rfl) (Y.assign rfl) ?_
      refine Run.to_end ?_
      refine Ex.end_block ?_
      refine Ex.go ?_
      refine Tr.region ?_
      refine Run.val (lt rfl) (Y.move rfl) ?_
      refine Run.val (lt rfl) (Y.add rfl rfl (by omega)) ?_
      refine Run.val (lt rfl) (Y.assign rfl) ?_
      refine Run.to_end ?_
      refine Ex.keep [1] ?_
      have hrl : (Pr.held (l.take i1) now).length = n1 := hn.symm
      have hsp : spot (l.getD i1 Pr.dflt).addr (Pr.held (l.take i1) now) = a1 := spot_at (by omega) ha (by first | (left; omega) | (right; omega))
      have hc : (Pr.held (l.take i1) now).contains (l.getD i1 Pr.dflt).addr = false := by cases hcc : (Pr.held (l.take i1) now).contains (l.getD i1 Pr.dflt).addr with | false => rfl | true => (have h9 := (spot_mem (Pr.held_up _ _)).1 hcc; rw [hsp] at h9; omega)
      have er := Pr.held_yes (now := now) (l := l) (i := i1) (by omega) h2 hc
      have ho9 := ho16
      rw [Le.ins_cat hrl hsp, ← er] at ho9
      have el := congrArg List.length er
      rw [(ins_perm _ _).length_eq, List.length_cons] at el
      exact Ex.round (⟨i1 + 1, p14, (0 + (a1 - 0) + 1 + (n1 - a1)), c14, s15⟩ : Nat × Option Addr × Nat × Nat × Sg) ⟨ho9, by dsimp only; omega, by omega⟩ (by dsimp only; omega) rfl rfl (subB_cons (by first | rfl | exact congrArg (fun z => some (Value.int _ z)) (by omega)) (subB_cons (by first | rfl | exact congrArg (fun z => some (Value.int _ z)) (by omega)) (subB_cons (by first | rfl | exact congrArg (fun z => some (Value.int _ z)) (by omega)) (subB_cons (by first | rfl | exact congrArg (fun z => some (Value.int _ z)) (by omega)) (subB_nil _)))))
   ·have g3 := h3
    try simp only [kb] at g3
    refine RunQ.off rfl rfl rfl h3 rfl (lt rfl) ?_
    refine RunQ.off rfl rfl rfl h3 rfl (lt rfl) ?_
    refine RunQ.off rfl rfl rfl h3 rfl (lt rfl) ?_
    refine RunQ.off rfl rfl rfl h3 rfl (lt rfl) ?_
    refine RunQ.off rfl rfl rfl h3 rfl (lt rfl) ?_
    refine RunQ.off rfl rfl rfl h3 rfl (lt rfl) ?_
    refine RunQ.off rfl rfl rfl h3 rfl (lt rfl) ?_
    refine RunQ.off rfl rfl rfl h3 rfl (lt rfl) ?_
    refine RunQ.off rfl rfl rfl h3 rfl (lt rfl) ?_
    refine RunQ.off rfl rfl rfl h3 rfl (lt rfl) ?_
    refine RunQ.val (lt rfl) (Y.pick_f rfl h3 rfl) ?_
    refine RunQ.to_end ?_
    refine Ex.go ?_
    refine Tr.cond_f rfl rfl ?_
    refine Tr.to_exit ?_
    refine Ex.exit_then ?_
    refine Ex.exit_then ?_
    refine Ex.exit_in ?_
    refine Ex.go ?_
    refine Tr.seq ?_
    refine Tr.seq ?_
    refine Tr.quiet Audit_mo (by kernel_rfl) ?_
    refine RunQ.val (lt rfl) (Y.move rfl) ?_
    refine RunQ.val (lt rfl) (Y.move rfl) ?_
    refine RunQ.val (lt rfl) (Y.lenSl rfl Audit_es32) ?_
    refine RunQ.val (lt rfl) (Y.int rfl rfl rfl) ?_
    refine RunQ.val (lt rfl) (Y.move rfl) ?_
    refine RunQ.off rfl rfl rfl h3 rfl (lt rfl) ?_
    refine RunQ.off rfl rfl rfl h3 rfl (lt rfl) ?_
    refine RunQ.off rfl rfl rfl h3 rfl (lt rfl) ?_
    refine RunQ.off rfl rfl rfl h3 rfl (lt rfl) ?_
    refine RunQ.off rfl rfl rfl h3 rfl (lt rfl) ?_
    refine RunQ.off rfl rfl rfl h3 rfl (lt rfl) ?_
    refine RunQ.off rfl rfl rfl h3 rfl (lt rfl) ?_
    refine RunQ.off rfl rfl rfl h3 rfl (lt rfl) ?_
    refine RunQ.off rfl rfl rfl h3 rfl (lt rfl) ?_
    refine RunQ.off rfl rfl rfl h3 rfl (lt rfl) ?_
    refine RunQ.val (lt rfl) (Y.pick_f rfl h3 rfl) ?_
    refine RunQ.to_end ?_
    refine Ex.go ?_
    refine Tr.cond_f rfl rfl ?_
    refine Tr.to_end ?_
    refine Ex.go ?_
    refine Tr.seq ?_
    refine Tr.region ?_
    refine Run.buildSlice0 Audit_es32 (lt rfl) (fun b17 => ?_)
    refine Run.val (lt rfl) (Y.move rfl) ?_
    refine Run.val (lt rfl) (Y.move rfl) ?_
    refine Run.val (lt rfl) (Y.slice (l := 0) (m := a1) rfl Audit_es32 rfl rfl (by omega) (by omega)) ?_
    refine Run.append (n := 0) (m := (a1 - 0)) (xs := []) (ys := (((Pr.held (l.take i1) now).drop 0).take (a1 - 0)).flatMap nU) rfl rfl Audit_es32 Audit_zi37 (by decide) (j := 0) rfl (Ow.lit (cur := #[]) rfl (by decide)) (Src.of_rd Audit_es32 (Rd.cut nU_enc.len (how.rd 1 rfl) 0 a1 (by omega) (by omega))) (by omega) (by omega) (all_one_flat nU_enc _) (lt rfl) (fun v18 s19 ho20 hf => ?_)
    obtain ⟨p18, c18, rfl⟩ := hf
    replace ho20 := Ow.app (f := nU) (l := []) (m := ((Pr.held (l.take i1) now).drop 0).take (a1 - 0)) ho20
    refine Run.val (lt rfl) (Y.assign rfl) ?_
    refine Run.to_end ?_
    refine Ex.go ?_
    refine Tr.seq ?_
    refine Tr.region ?_
    refine Run.val (lt rfl) (Y.move rfl) ?_
    refine Run.val (lt rfl) (Y.move rfl) ?_
    refine Run.val (lt rfl) (Y.move rfl) ?_
    refine Run.val (lt rfl) (Y.idxR i1 rfl rfl Audit_es40 hv.of_nil (by omega) (by omega)) ?_
    refine Run.val (lt rfl) (Y.fieldR rfl Audit_fo47_1 hv.of_nil (by omega)) ?_
    refine Run.val (lt rfl) (Y.ldR rfl Audit_ts37 hv.of_nil (flatm_at Pr.len (by omega) Pr.dflt (by decide) rfl)) ?_
    refine Run.buildSlice (l := [(0, .tmp 66)]) Audit_es32 Audit_zo37 rfl (by decide) rfl rfl (by decide) (lt rfl) (fun b21 => ?_)
    refine Run.append (n := 0 + (a1 - 0)) (m := 1) (xs := ([] ++ (((Pr.held (l.take i1) now).drop 0).take (a1 - 0))).flatMap nU) (ys := [.int .u32 ((l.getD i1 Pr.dflt).addr)]) rfl rfl Audit_es32 Audit_zi37 (by decide) (j := 1) rfl ho20 (Src.of_rd Audit_es32 (Rd.one (Kn.at 0 rfl) rfl)) (by omega) (by omega) rfl (lt rfl) (fun v22 s23 ho24 hf => ?_)
    obtain ⟨p22, c22, rfl⟩ := hf
    replace ho24 := Ow.app1 (f := nU) (l := [] ++ (((Pr.held (l.take i1) now).drop 0).take (a1 - 0))) (x := (l.getD i1 Pr.dflt).addr) ho24
    refine Run.val (lt rfl) (Y.assign rfl) ?_
    refine Run.to_end ?_
    refine Ex.go ?_
    refine Tr.region ?_
    refine Run.val (lt rfl) (Y.move rfl) ?_
    refine Run.val (lt rfl) (Y.move rfl) ?_
    refine Run.val (lt rfl) (Y.move rfl) ?_
    refine Run.val (lt rfl) (Y.slice (l := a1) (m := n1) rfl Audit_es32 rfl rfl (by omega) (by omega)) ?_
    refine Run.append (n := 0 + (a1 - 0) + 1) (m := (n1 - a1)) (xs := (([] ++ (((Pr.held (l.take i1) now).drop 0).take (a1 - 0))) ++ [(l.getD i1 Pr.dflt).addr]).flatMap nU) (ys := (((Pr.held (l.take i1) now).drop a1).take (n1 - a1)).flatMap nU) rfl rfl Audit_es32 Audit_zi37 (by decide) (j := 1) rfl ho24 (Src.of_rd Audit_es32 (Rd.cut nU_enc.len (how.rd 2 rfl) a1 n1 (by omega) (by omega))) (by omega) (by omega) (all_one_flat nU_enc _) (lt rfl) (fun v25 s26 ho27 hf => ?_)
    obtain ⟨p25, c25, rfl⟩ := hf
    replace ho27 := Ow.app (f := nU) (l := ([] ++ (((Pr.held (l.take i1) now).drop 0).take (a1 - 0))) ++ [(l.getD i1 Pr.dflt).addr]) (m := ((Pr.held (l.take i1) now).drop a1).take (n1 - a1)) ho27
    refine Run.val (lt rfl) (Y.assign rfl) ?_
    refine Run.to_end ?_
    refine Ex.end_block ?_
    refine Ex.go ?_
    refine Tr.region ?_
    refine Run.val (lt rfl) (Y.move rfl) ?_
    refine Run.val (lt rfl) (Y.add rfl rfl (by omega)) ?_
    refine Run.val (lt rfl) (Y.assign rfl) ?_
    refine Run.to_end ?_
    refine Ex.keep [1] ?_
    have hrl : (Pr.held (l.take i1) now).length = n1 := hn.symm
    have hsp : spot (l.getD i1 Pr.dflt).addr (Pr.held (l.take i1) now) = a1 := spot_at (by omega) ha (by first | (left; omega) | (right; omega))
    have hc : (Pr.held (l.take i1) now).contains (l.getD i1 Pr.dflt).addr = false := by cases hcc : (Pr.held (l.take i1) now).contains (l.getD i1 Pr.dflt).addr with | false => rfl | true => (have h9 := (spot_mem (Pr.held_up _ _)).1 hcc; rw [hsp] at h9; omega)
    have er := Pr.held_yes (now := now) (l := l) (i := i1) (by omega) h2 hc
    have ho9 := ho27
    rw [Le.ins_cat hrl hsp, ← er] at ho9
    have el := congrArg List.length er
    rw [(ins_perm _ _).length_eq, List.length_cons] at el
    exact Ex.round (⟨i1 + 1, p25, (0 + (a1 - 0) + 1 + (n1 - a1)), c25, s26⟩ : Nat × Option Addr × Nat × Nat × Sg) ⟨ho9, by dsimp only; omega, by omega⟩ (by dsimp only; omega) rfl rfl (subB_cons (by first | rfl | exact congrArg (fun z => some (Value.int _ z)) (by omega)) (subB_cons (by first | rfl | exact congrArg (fun z => some (Value.int _ z)) (by omega)) (subB_cons (by first | rfl | exact congrArg (fun z => some (Value.int _ z)) (by omega)) (subB_cons (by first | rfl | exact congrArg (fun z => some (Value.int _ z)) (by omega)) (subB_nil _)))))
  ·have g2 := h2
   try simp only [kb] at g2
   refine Tr.cond_t rfl (congrArg Bool.not h2) ?_
   refine Tr.to_exit ?_
   refine Ex.exit_then ?_
   refine Ex.exit_in ?_
   refine Ex.go ?_
   refine Tr.region ?_
   refine Run.val (lt rfl) (Y.move rfl) ?_
   refine Run.val (lt rfl) (Y.add rfl rfl (by omega)) ?_
   refine Run.val (lt rfl) (Y.assign rfl) ?_
   refine Run.to_end ?_
   refine Ex.keep [0] ?_
   have er := Pr.held_no (now := now) (l := l) (i := i1) (by omega) h2
   exact Ex.round (⟨i1 + 1, p1, n1, k1, q1⟩ : Nat × Option Addr × Nat × Nat × Sg) ⟨by rw [er]; exact how, by rw [er]; exact hn, by omega⟩ (by dsimp only; omega) rfl rfl (subB_cons (by first | rfl | exact congrArg (fun z => some (Value.int _ z)) (by omega)) (subB_cons (by first | rfl | exact congrArg (fun z => some (Value.int _ z)) (by omega)) (subB_cons (by first | rfl | exact congrArg (fun z => some (Value.int _ z)) (by omega)) (subB_cons (by first | rfl | exact congrArg (fun z => some (Value.int _ z)) (by omega)) (subB_nil _)))))
 ·have g1 := h1
  try simp only [kb] at g1
  refine Tr.cond_f rfl h1 ?_
  refine Tr.to_exit ?_
  refine Ex.exit_then ?_
  refine Ex.exit_then ?_
  refine Ex.exit_in ?_
  refine Ex.go ?_
  refine Tr.seq ?_
  refine Tr.region ?_
  refine Run.val (lt rfl) (Y.move rfl) ?_
  refine Run.val (lt rfl) (Y.assign rfl) ?_
  refine Run.to_end ?_
  refine Ex.go ?_
  refine Tr.to_ret ?_
  refine Ex.keep [0] ?_
  obtain rfl : i1 = l.length := by omega
  rw [List.take_length] at how hn
  subst hn
  exact Ex.ret1 rfl rfl  ⟨rfl, q1, how, rfl⟩

theorem peak_c {V : Vw} {l : List Pr} {p : Option Addr} {c : Nat} (hv : Rd V [] 5 (.slice p l.length c) l.length (l.flatMap Pr.cells)) (hl : l.length ≤ 60)  : Does Try.prog 22 [.slice p l.length c] V [] (Pv (.tuple #[.int .i64 (Pr.peak l).1, .int .i64 (Pr.peak l).2]) V []) := by
 refine Does.intro Try.func22 rfl rfl (le rfl) (fun B => ?_)
 refine Tr.seq ?_
 refine Tr.region ?_
 refine Run.val (lt rfl) (Y.assign rfl) ?_
 refine Run.val (lt rfl) (Y.assign rfl) ?_
 refine Run.to_end ?_
 refine Ex.go ?_
 refine Tr.seq ?_
 refine Tr.region ?_
 refine Run.nilseg ?_
 refine Run.val (lt rfl) (Y.assign rfl) ?_
 refine Run.to_end ?_
 refine Ex.go ?_
 refine Tr.seq ?_
 refine Tr.seq ?_
 refine Tr.region ?_
 refine Run.val (lt rfl) (Y.move rfl) ?_
 refine Run.val (lt rfl) (Y.lenSl rfl Audit_es40) ?_
 refine Run.val (lt rfl) (Y.move rfl) ?_
 refine Run.to_end ?_
 refine Ex.go ?_
 refine Tr.block ?_
 refine Tr.loop (X := Nat × Option Addr × Nat × Nat × Sg) (fun z0 => V) (fun z0 => [z0.2.2.2.2]) (fun z0 => [(0, .slice p l.length c), (4, .slice z0.2.1 z0.2.2.1 z0.2.2.2.1), (12, .slice p l.length c), (13, .int .i64 ((l.length : Nat) : Int)), (14, .int .i64 (z0.1 : Int))]) (fun z0 => Ow 3 1 (.slice z0.2.1 z0.2.2.1 z0.2.2.2.1) z0.2.2.1 ((Pr.frs (l.take z0.1)).flatMap nI) z0.2.2.2.2 ∧ z0.2.2.1 = (Pr.frs (l.take z0.1)).length ∧ z0.1 ≤ l.length) (fun z0 => l.length - z0.1) (⟨0, none, 0, 0, []⟩ : Nat × Option Addr × Nat × Nat × Sg) ⟨Ow.nil _ _, rfl, Nat.zero_le _⟩ (fun a w i => ⟨i.1.sub (subB_cons (by first | rfl | exact congrArg (fun z => some (Value.int _ z)) (by omega)) (subB_cons (by first | rfl | exact congrArg (fun z => some (Value.int _ z)) (by omega)) (subB_cons (by first | rfl | exact congrArg (fun z => some (Value.int _ z)) (by omega)) (subB_cons (by first | rfl | exact congrArg (fun z => some (Value.int _ z)) (by omega)) (subB_cons (by first | rfl | exact congrArg (fun z => some (Value.int _ z)) (by omega)) (subB_nil _)))))), i.2⟩) ?_
 rintro ⟨i1, p1, n1, k1, q1⟩ ⟨how, hn, hi⟩
 try dsimp only at how hn hi ⊢
 have hsl := Pr.frs_le (l.take i1)
 rw [List.length_take] at hsl
 refine Tr.seq ?_
 refine Tr.region ?_
 refine Run.val (lt rfl) (Y.int rfl rfl rfl) ?_
 refine Run.to_end ?_
 refine Ex.go ?_
 refine Tr.seq ?_
 rcases Bool.eq_false_or_eq_true (decide ((i1 : Int) < ((l.length : Nat) : Int))) with h1 | h1
 ·have g1 := h1
  try simp only [kb] at g1
  refine Tr.cond_t rfl h1 ?_
  refine Tr.to_end ?_
  refine Ex.go ?_
  refine Tr.seq ?_
  refine Tr.block ?_
  refine Tr.seq ?_
  refine Tr.region ?_
  refine Run.val (lt rfl) (Y.idxR i1 rfl rfl Audit_es40 hv.of_nil (by omega) (by omega)) ?_
  refine Run.val (lt rfl) (Y.ldRA (vs := [.int .i64 ((l.getD i1 Pr.dflt).srv), .int .u32 ((l.getD i1 Pr.dflt).addr), .string ((l.getD i1 Pr.dflt).client), .int .i64 ((l.getD i1 Pr.dflt).from_), .int .i64 ((l.getD i1 Pr.dflt).till)]) rfl Audit_ag47 hv.of_nil rfl (by decide) (fun o ho => flatm_atA Pr.len (by omega) Pr.dflt o ho)) ?_
  refine Run.alloc Audit_zo47 (lt rfl) (fun b2 => ?_)
  refine Run.store (s := [(b2, .cells #[.int .i64 ((l.getD i1 Pr.dflt).srv), .int .u32 ((l.getD i1 Pr.dflt).addr), .string ((l.getD i1 Pr.dflt).client), .int .i64 ((l.getD i1 Pr.dflt).from_), .int .i64 ((l.getD i1 Pr.dflt).till)] 47 (0, 0))]) rfl rfl Audit_sz47 (i := 0) rfl rfl (le rfl) rfl rfl ?_
  refine Run.to_end ?_
  refine Ex.go ?_
  refine Tr.seq ?_
  refine Tr.region ?_
  refine Run.val (lt rfl) (Y.loadAgg rfl Audit_ag47 (Kn.at 0 rfl) rfl) ?_
  refine Run.call0 (l := [.tmp 18]) rfl rfl rfl (lt rfl) (right_c_h rfl) ?_
  refine Run.to_end ?_
  refine Ex.go ?_
  rcases Bool.eq_false_or_eq_true (Pr.right (l.getD i1 Pr.dflt)) with h3 | h3
  ·have g3 := h3
   try simp only [kb] at g3
   refine Tr.cond_t rfl h3 ?_
   refine Tr.region ?_
   refine Run.val (lt rfl) (Y.move rfl) ?_
   refine Run.val (lt rfl) (Y.fieldAddr rfl Audit_fo47_3) ?_
   refine Run.val (lt rfl) (Y.load rfl Audit_ts3 (Kn.at 0 rfl) rfl) ?_
   refine Run.buildSlice (l := [(0, .tmp 22)]) Audit_es100 Audit_zo3 rfl (by decide) rfl rfl (by decide) (lt rfl) (fun b4 => ?_)
   refine Run.append (n := n1) (m := 1) (xs := (Pr.frs (l.take i1)).flatMap nI) (ys := [.int .i64 ((l.getD i1 Pr.dflt).from_)]) rfl rfl Audit_es100 Audit_zi3 (by decide) (j := 2) rfl how (Src.of_rd Audit_es100 (Rd.one (Kn.at 0 rfl) rfl)) (by omega) (by omega) rfl (lt rfl) (fun v5 s6 ho7 hf => ?_)
   obtain ⟨p5, c5, rfl⟩ := hf
   replace ho7 := Ow.app1 (f := nI) (l := Pr.frs (l.take i1)) (x := (l.getD i1 Pr.dflt).from_) ho7
   refine Run.val (lt rfl) (Y.assign rfl) ?_
   refine Run.to_end ?_
   refine Ex.end_block ?_
   refine Ex.go ?_
   refine Tr.region ?_
   refine Run.val (lt rfl) (Y.add rfl rfl (by omega)) ?_
   refine Run.val (lt rfl) (Y.move rfl) ?_
   refine Run.to_end ?_
   refine Ex.keep [2] ?_
   exact Ex.round (⟨i1 + 1, p5, (n1 + 1), c5, s6⟩ : Nat × Option Addr × Nat × Nat × Sg) ⟨by rw [Pr.frs_take (by omega) h3]; exact ho7, by rw [Pr.frs_take (by omega) h3]; rw [List.length_append, List.length_singleton]; dsimp only; omega, by omega⟩ (by dsimp only; omega) rfl rfl (subB_cons (by first | rfl | exact congrArg (fun z => some (Value.int _ z)) (by omega)) (subB_cons (by first | rfl | exact congrArg (fun z => some (Value.int _ z)) (by omega)) (subB_cons (by first | rfl | exact congrArg (fun z => some (Value.int _ z)) (by omega)) (subB_cons (by first | rfl | exact congrArg (fun z => some (Value.int _ z)) (by omega)) (subB_cons (by first | rfl | exact congrArg (fun z => some (Value.int _ z)) (by omega)) (subB_nil _))))))
  ·have g3 := h3
   try simp only [kb] at g3
   refine Tr.cond_f rfl h3 ?_
   refine Tr.to_end ?_
   refine Ex.end_block ?_
   refine Ex.go ?_
   refine Tr.region ?_
   refine Run.val (lt rfl) (Y.add rfl rfl (by omega)) ?_
   refine Run.val (lt rfl) (Y.move rfl) ?_
   refine Run.to_end ?_
   refine Ex.keep [1] ?_
   exact Ex.round (⟨i1 + 1, p1, n1, k1, q1⟩ : Nat × Option Addr × Nat × Nat × Sg) ⟨by rw [Pr.frs_take0 (by omega) h3]; exact how, by rw [Pr.frs_take0 (by omega) h3]; exact hn, by omega⟩ (by dsimp only; omega) rfl rfl (subB_cons (by first | rfl | exact congrArg (fun z => some (Value.int _ z)) (by omega)) (subB_cons (by first | rfl | exact congrArg (fun z => some (Value.int _ z)) (by omega)) (subB_cons (by first | rfl | exact congrArg (fun z => some (Value.int _ z)) (by omega)) (subB_cons (by first | rfl | exact congrArg (fun z => some (Value.int _ z)) (by omega)) (subB_cons (by first | rfl | exact congrArg (fun z => some (Value.int _ z)) (by omega)) (subB_nil _))))))
 ·have g1 := h1
  try simp only [kb] at g1
  refine Tr.cond_f rfl h1 ?_
  refine Tr.to_exit ?_
  refine Ex.exit_then ?_
  refine Ex.exit_then ?_
  refine Ex.exit_in ?_
  refine Ex.go ?_
  refine Tr.seq ?_
  refine Tr.region ?_
  refine Run.val (lt rfl) (Y.move rfl) ?_
  obtain rfl : i1 = l.length := by omega
  rw [List.take_length] at how hn hsl
  subst hn
  refine Run.call [0] (l := [.tmp 26]) rfl rfl rfl (lt rfl) (sort_n how (by omega)) (fun v3 V2 H2 hle hR => ?_)
  obtain ⟨hV, rfl, l2, q2, hp2, hs2, ho2, rfl⟩ := hR; replace hV := hV.symm; subst hV
  obtain rfl := up_isort (srt_up hs2) hp2
  rw [isort_length] at ho2
  refine Run.heapTo (H' := [q2]) rfl ?_
  have hml : (isort (Pr.frs l)).length = (Pr.frs l).length := isort_length _
  refine Run.heapTo (H' := [q2]) rfl ?_
  refine Run.to_end ?_
  refine Ex.go ?_
  refine Tr.seq ?_
  refine Tr.region ?_
  refine Run.val (lt rfl) (Y.assign rfl) ?_
  refine Run.val (lt rfl) (Y.assign rfl) ?_
  refine Run.to_end ?_
  refine Ex.go ?_
  refine Tr.seq ?_
  refine Tr.seq ?_
  refine Tr.region ?_
  refine Run.val (lt rfl) (Y.move rfl) ?_
  refine Run.val (lt rfl) (Y.lenSl rfl Audit_es100) ?_
  refine Run.val (lt rfl) (Y.move rfl) ?_
  refine Run.to_end ?_
  refine Ex.go ?_
  refine Tr.block ?_
  refine Tr.loop (X := Nat) (fun z0 => V) (fun z0 => [q2]) (fun z0 => [(0, .slice p l.length c), (7, .int .i64 ((Pr.pka l ((isort (Pr.frs l)).take z0)).1)), (8, .int .i64 ((Pr.pka l ((isort (Pr.frs l)).take z0)).2)), (28, .slice p1 (Pr.frs l).length k1), (29, .int .i64 (((Pr.frs l).length : Nat) : Int)), (30, .int .i64 (z0 : Int))]) (fun z0 => z0 ≤ (Pr.frs l).length) (fun z0 => (Pr.frs l).length - z0) (0 : Nat) (Nat.zero_le _) (fun a w i => ⟨i.1.sub (subB_cons (by first | rfl | exact congrArg (fun z => some (Value.int _ z)) (by omega)) (subB_cons (by first | rfl | exact congrArg (fun z => some (Value.int _ z)) (by omega)) (subB_cons (by first | rfl | exact congrArg (fun z => some (Value.int _ z)) (by omega)) (subB_cons (by first | rfl | exact congrArg (fun z => some (Value.int _ z)) (by omega)) (subB_cons (by first | rfl | exact congrArg (fun z => some (Value.int _ z)) (by omega)) (subB_cons (by first | rfl | exact congrArg (fun z => some (Value.int _ z)) (by omega)) (subB_nil _))))))), i.2⟩) ?_
  rintro i2 hi2
  refine Tr.seq ?_
  refine Tr.region ?_
  refine Run.val (lt rfl) (Y.int rfl rfl rfl) ?_
  refine Run.to_end ?_
  refine Ex.go ?_
  refine Tr.seq ?_
  rcases Bool.eq_false_or_eq_true (decide ((i2 : Int) < (((Pr.frs l).length : Nat) : Int))) with h8 | h8
  ·have g8 := h8
   try simp only [kb] at g8
   refine Tr.cond_t rfl h8 ?_
   refine Tr.to_end ?_
   refine Ex.go ?_
   refine Tr.seq ?_
   refine Tr.block ?_
   refine Tr.seq ?_
   refine Tr.region ?_
   refine Run.val (lt rfl) (Y.idxR i2 rfl rfl Audit_es100 (ho2.rd 0 rfl) (by omega) (by omega)) ?_
   refine Run.val (lt rfl) (Y.ldR rfl Audit_ts3 (ho2.rd 0 rfl) (flatm_at0 nI_enc.len (by omega) 0 (by decide) rfl)) ?_
   refine Run.val (lt rfl) (Y.assign rfl) ?_
   refine Run.to_end ?_
   refine Ex.go ?_
   refine Tr.seq ?_
   refine Tr.region ?_
   refine Run.val (lt rfl) (Y.move rfl) ?_
   refine Run.val (lt rfl) (Y.move rfl) ?_
   refine Run.call [] (l := [.tmp 34, .tmp 35]) rfl rfl rfl (lt rfl) (held_c (l := l) (now := ((isort (Pr.frs l)).getD i2 0)) hv (by first | omega | decide)) (fun v9 V2 H2 hle hR => ?_)
   obtain ⟨hV, q10, ho11, rfl⟩ := hR; replace hV := hV.symm; subst hV; obtain ⟨p12, k13, rfl⟩ := ho11.form
   have hhlq10 := Pr.held_len l ((isort (Pr.frs l)).getD i2 0)
   refine Run.heapTo (H' := [q2, q10]) rfl ?_
   refine Run.heapTo (H' := [q2, q10]) rfl ?_
   refine Run.val (lt rfl) (Y.lenSl rfl Audit_es32) ?_
   refine Run.val (lt rfl) (Y.assign rfl) ?_
   refine Run.to_end ?_
   refine Ex.go ?_
   refine Tr.seq ?_
   refine Tr.region ?_
   refine Run.val (lt rfl) (Y.move rfl) ?_
   refine Run.val (lt rfl) (Y.move rfl) ?_
   refine Run.val (lt rfl) (Y.int rfl rfl rfl) ?_
   refine Run.to_end ?_
   refine Ex.go ?_
   rcases Bool.eq_false_or_eq_true (decide ((((Pr.held l ((isort (Pr.frs l)).getD i2 0)).length : Nat) : Int) > ((Pr.pka l ((isort (Pr.frs l)).take i2)).1))) with h14 | h14
   ·have g14 := h14
    try simp only [kb] at g14
    refine Tr.cond_t rfl h14 ?_
    refine Tr.region ?_
    refine Run.val (lt rfl) (Y.move rfl) ?_
    refine Run.val (lt rfl) (Y.move rfl) ?_
    refine Run.val (lt rfl) (Y.assign rfl) ?_
    refine Run.val (lt rfl) (Y.assign rfl) ?_
    refine Run.to_end ?_
    refine Ex.end_block ?_
    refine Ex.go ?_
    refine Tr.region ?_
    refine Run.val (lt rfl) (Y.add rfl rfl (by omega)) ?_
    refine Run.val (lt rfl) (Y.move rfl) ?_
    refine Run.to_end ?_
    refine Ex.keep [0] ?_
    have er : Pr.pka l ((isort (Pr.frs l)).take (i2 + 1)) = (Pr.many l ((isort (Pr.frs l)).getD i2 0), (isort (Pr.frs l)).getD i2 0) := by rw [take_succ_getD _ i2 0 (by omega), Pr.pka_snoc, Pr.sa_yes (by unfold Pr.many; omega)]
    exact Ex.round (i2 + 1 : Nat) (by omega) (by omega) rfl rfl (subB_cons (by first | rfl | exact congrArg (fun z => some (Value.int _ z)) (by omega) | exact congrArg (fun z => some (Value.int _ z)) (by (try dsimp only); rw [er]; try rfl)) (subB_cons (by first | rfl | exact congrArg (fun z => some (Value.int _ z)) (by omega) | exact congrArg (fun z => some (Value.int _ z)) (by (try dsimp only); rw [er]; try rfl)) (subB_cons (by first | rfl | exact congrArg (fun z => some (Value.int _ z)) (by omega) | exact congrArg (fun z => some (Value.int _ z)) (by (try dsimp only); rw [er]; try rfl)) (subB_cons (by first | rfl | exact congrArg (fun z => some (Value.int _ z)) (by omega) | exact congrArg (fun z => some (Value.int _ z)) (by (try dsimp only); rw [er]; try rfl)) (subB_cons (by first | rfl | exact congrArg (fun z => some (Value.int _ z)) (by omega) | exact congrArg (fun z => some (Value.int _ z)) (by (try dsimp only); rw [er]; try rfl)) (subB_cons (by first | rfl | exact congrArg (fun z => some (Value.int _ z)) (by omega) | exact congrArg (fun z => some (Value.int _ z)) (by (try dsimp only); rw [er]; try rfl)) (subB_nil _)))))))
   ·have g14 := h14
    try simp only [kb] at g14
    refine Tr.cond_f rfl h14 ?_
    refine Tr.to_end ?_
    refine Ex.end_block ?_
    refine Ex.go ?_
    refine Tr.region ?_
    refine Run.val (lt rfl) (Y.add rfl rfl (by omega)) ?_
    refine Run.val (lt rfl) (Y.move rfl) ?_
    refine Run.to_end ?_
    refine Ex.keep [0] ?_
    have er : Pr.pka l ((isort (Pr.frs l)).take (i2 + 1)) = Pr.pka l ((isort (Pr.frs l)).take i2) := by rw [take_succ_getD _ i2 0 (by omega), Pr.pka_snoc, Pr.sa_no (by unfold Pr.many; omega)]
    exact Ex.round (i2 + 1 : Nat) (by omega) (by omega) rfl rfl (subB_cons (by first | rfl | exact congrArg (fun z => some (Value.int _ z)) (by omega) | exact congrArg (fun z => some (Value.int _ z)) (by (try dsimp only); rw [er]; try rfl)) (subB_cons (by first | rfl | exact congrArg (fun z => some (Value.int _ z)) (by omega) | exact congrArg (fun z => some (Value.int _ z)) (by (try dsimp only); rw [er]; try rfl)) (subB_cons (by first | rfl | exact congrArg (fun z => some (Value.int _ z)) (by omega) | exact congrArg (fun z => some (Value.int _ z)) (by (try dsimp only); rw [er]; try rfl)) (subB_cons (by first | rfl | exact congrArg (fun z => some (Value.int _ z)) (by omega) | exact congrArg (fun z => some (Value.int _ z)) (by (try dsimp only); rw [er]; try rfl)) (subB_cons (by first | rfl | exact congrArg (fun z => some (Value.int _ z)) (by omega) | exact congrArg (fun z => some (Value.int _ z)) (by (try dsimp only); rw [er]; try rfl)) (subB_cons (by first | rfl | exact congrArg (fun z => some (Value.int _ z)) (by omega) | exact congrArg (fun z => some (Value.int _ z)) (by (try dsimp only); rw [er]; try rfl)) (subB_nil _)))))))
  ·have g8 := h8
   try simp only [kb] at g8
   refine Tr.cond_f rfl h8 ?_
   refine Tr.to_exit ?_
   refine Ex.exit_then ?_
   refine Ex.exit_then ?_
   refine Ex.exit_in ?_
   refine Ex.go ?_
   refine Tr.seq ?_
   refine Tr.region ?_
   refine Run.val (lt rfl) (Y.move rfl) ?_
   refine Run.val (lt rfl) (Y.move rfl) ?_
   refine Run.val (lt rfl) (Y.assign rfl) ?_
   refine Run.val (lt rfl) (Y.assign rfl) ?_
   refine Run.to_end ?_
   refine Ex.go ?_
   refine Tr.to_ret ?_
   refine Ex.keep [] ?_
   exact Ex.ret2 rfl rfl rfl  ⟨by unfold Pr.peak; rw [List.take_of_length_le (by omega)], rfl, rfl⟩

theorem rpeak_c {V : Vw} {l : List Pr} {p : Option Addr} {c : Nat} (hv : Rd V [] 5 (.slice p l.length c) l.length (l.flatMap Pr.cells)) (hl : l.length ≤ 60)  : Does Try.prog 23 [.slice p l.length c] V [] (Pv (.tuple #[.int .i64 (Pr.peak l).1, .int .i64 (Pr.peak l).2]) V []) := by
 refine Does.intro Try.func23 rfl rfl (le rfl) (fun B => ?_)
 refine Tr.seq ?_
 refine Tr.region ?_
 refine Run.val (lt rfl) (Y.assign rfl) ?_
 refine Run.val (lt rfl) (Y.assign rfl) ?_
 refine Run.to_end ?_
 refine Ex.go ?_
 refine Tr.seq ?_
 refine Tr.region ?_
 refine Run.val (lt rfl) (Y.assign rfl) ?_
 refine Run.to_end ?_
 refine Ex.go ?_
 refine Tr.seq ?_
 refine Tr.region ?_
 refine Run.val (lt rfl) (Y.assign rfl) ?_
 refine Run.to_end ?_
 refine Ex.go ?_
 refine Tr.seq ?_
 refine Tr.seq ?_
 refine Tr.region ?_
 refine Run.val (lt rfl) (Y.assign rfl) ?_
 refine Run.to_end ?_
 refine Ex.go ?_
 refine Tr.block ?_
 refine Tr.loop (X := Nat) (fun z0 => V) (fun z0 => []) (fun z0 => [(0, .slice p l.length c), (4, .int .i64 ((Pr.pkb l (Pr.frs (l.take z0))).1)), (5, .int .i64 ((Pr.pkb l (Pr.frs (l.take z0))).2)), (6, .int .i64 (z0 : Int))]) (fun z0 => z0 ≤ l.length) (fun z0 => l.length - z0) (0 : Nat) (Nat.zero_le _) (fun a w i => ⟨i.1.sub (subB_cons (by first | rfl | exact congrArg (fun z => some (Value.int _ z)) (by omega)) (subB_cons (by first | rfl | exact congrArg (fun z => some (Value.int _ z)) (by omega)) (subB_cons (by first | rfl | exact congrArg (fun z => some (Value.int _ z)) (by omega)) (subB_cons (by first | rfl | exact congrArg (fun z => some (Value.int _ z)) (by omega)) (subB_nil _))))), i.2⟩) ?_
 rintro i1 hi
 refine Tr.seq ?_
 refine Tr.seq ?_
 refine Tr.region ?_
 refine Run.val (lt rfl) (Y.move rfl) ?_
 refine Run.val (lt rfl) (Y.move rfl) ?_
 refine Run.val (lt rfl) (Y.lenSl rfl Audit_es40) ?_
 refine Run.val (lt rfl) (Y.int rfl rfl rfl) ?_
 refine Run.to_end ?_
 refine Ex.go ?_
 rcases Bool.eq_false_or_eq_true (decide ((i1 : Int) < ((l.length : Nat) : Int))) with h1 | h1
 ·have g1 := h1
  try simp only [kb] at g1
  refine Tr.cond_t rfl h1 ?_
  refine Tr.to_end ?_
  refine Ex.go ?_
  refine Tr.seq ?_
  refine Tr.block ?_
  refine Tr.seq ?_
  refine Tr.seq ?_
  refine Tr.region ?_
  refine Run.val (lt rfl) (Y.move rfl) ?_
  refine Run.val (lt rfl) (Y.move rfl) ?_
  refine Run.val (lt rfl) (Y.idxR i1 rfl rfl Audit_es40 hv.of_nil (by omega) (by omega)) ?_
  refine Run.val (lt rfl) (Y.ldRA (vs := [.int .i64 ((l.getD i1 Pr.dflt).srv), .int .u32 ((l.getD i1 Pr.dflt).addr), .string ((l.getD i1 Pr.dflt).client), .int .i64 ((l.getD i1 Pr.dflt).from_), .int .i64 ((l.getD i1 Pr.dflt).till)]) rfl Audit_ag47 hv.of_nil rfl (by decide) (fun o ho => flatm_atA Pr.len (by omega) Pr.dflt o ho)) ?_
  refine Run.call0 (l := [.tmp 17]) rfl rfl rfl (lt rfl) (rright_c_h rfl) ?_
  refine Run.val (lt rfl) (Y.not rfl) ?_
  refine Run.to_end ?_
  refine Ex.go ?_
  rcases Bool.eq_false_or_eq_true (Pr.right (l.getD i1 Pr.dflt)) with h2 | h2
  ·have g2 := h2
   try simp only [kb] at g2
   refine Tr.cond_f rfl (congrArg Bool.not h2) ?_
   refine Tr.to_end ?_
   refine Ex.go ?_
   refine Tr.seq ?_
   refine Tr.region ?_
   refine Run.val (lt rfl) (Y.move rfl) ?_
   refine Run.val (lt rfl) (Y.move rfl) ?_
   refine Run.val (lt rfl) (Y.move rfl) ?_
   refine Run.val (lt rfl) (Y.idxR i1 rfl rfl Audit_es40 hv.of_nil (by omega) (by omega)) ?_
   refine Run.val (lt rfl) (Y.fieldR rfl Audit_fo47_3 hv.of_nil (by omega)) ?_
   refine Run.val (lt rfl) (Y.ldR rfl Audit_ts3 hv.of_nil (flatm_at Pr.len (by omega) Pr.dflt (by decide) rfl)) ?_
   refine Run.call [] (l := [.tmp 20, .tmp 25]) rfl rfl rfl (lt rfl) (rheld_c (l := l) (now := (l.getD i1 Pr.dflt).from_) hv (by first | omega | decide)) (fun v3 V2 H2 hle hR => ?_)
   obtain ⟨hV, q4, ho5, rfl⟩ := hR; replace hV := hV.symm; subst hV; obtain ⟨p6, k7, rfl⟩ := ho5.form
   have hhlq4 := Pr.held_len l ((l.getD i1 Pr.dflt).from_)
   refine Run.heapTo (H' := [q4]) rfl ?_
   refine Run.heapTo (H' := [q4]) rfl ?_
   refine Run.val (lt rfl) (Y.lenSl rfl Audit_es32) ?_
   refine Run.val (lt rfl) (Y.assign rfl) ?_
   refine Run.to_end ?_
   refine Ex.go ?_
   refine Tr.seq ?_
   refine Tr.region ?_
   refine Run.val (lt rfl) (Y.move rfl) ?_
   refine Run.val (lt rfl) (Y.move rfl) ?_
   refine Run.val (lt rfl) (Y.int rfl rfl rfl) ?_
   refine Run.val (lt rfl) (Y.move rfl) ?_
   rcases Bool.eq_false_or_eq_true (decide ((((Pr.held l ((l.getD i1 Pr.dflt).from_)).length : Nat) : Int) > ((Pr.pkb l (Pr.frs (l.take i1))).1))) with h8 | h8
   ·have g8 := h8
    try simp only [kb] at g8
    refine Run.off rfl rfl rfl h8 rfl (lt rfl) ?_
    refine Run.off rfl rfl rfl h8 rfl (lt rfl) ?_
    refine Run.off rfl rfl rfl h8 rfl (lt rfl) ?_
    refine Run.off rfl rfl rfl h8 rfl (lt rfl) ?_
    refine Run.off_u rfl rfl rfl rfl (lt rfl) ?_
    refine Run.off_u rfl rfl rfl rfl (lt rfl) ?_
    refine Run.off_u rfl rfl rfl rfl (lt rfl) ?_
    refine Run.off_u rfl rfl rfl rfl (lt rfl) ?_
    refine Run.off_u rfl rfl rfl rfl (lt rfl) ?_
    refine Run.off_u rfl rfl rfl rfl (lt rfl) ?_
    refine Run.off_u rfl rfl rfl rfl (lt rfl) ?_
    refine Run.off rfl rfl rfl h8 rfl (lt rfl) ?_
    refine Run.val (lt rfl) (Y.pick_t rfl h8 rfl) ?_
    refine Run.to_end ?_
    refine Ex.go ?_
    refine Tr.cond_t rfl rfl ?_
    refine Tr.seq ?_
    refine Tr.region ?_
    refine Run.val (lt rfl) (Y.move rfl) ?_
    refine Run.val (lt rfl) (Y.assign rfl) ?_
    refine Run.to_end ?_
    refine Ex.go ?_
    refine Tr.region ?_
    refine Run.val (lt rfl) (Y.move rfl) ?_
    refine Run.val (lt rfl) (Y.move rfl) ?_
    refine Run.val (lt rfl) (Y.idxR i1 rfl rfl Audit_es40 hv.of_nil (by omega) (by omega)) ?_
    refine Run.val (lt rfl) (Y.fieldR rfl Audit_fo47_3 hv.of_nil (by omega)) ?_
    refine Run.val (lt rfl) (Y.ldR rfl Audit_ts3 hv.of_nil (flatm_at Pr.len (by omega) Pr.dflt (by decide) rfl)) ?_
    refine Run.val (lt rfl) (Y.assign rfl) ?_
    refine Run.to_end ?_
    refine Ex.end_block ?_
    refine Ex.go ?_
    refine Tr.region ?_
    refine Run.val (lt rfl) (Y.move rfl) ?_
    refine Run.val (lt rfl) (Y.add rfl rfl (by omega)) ?_
    refine Run.val (lt rfl) (Y.assign rfl) ?_
    refine Run.to_end ?_
    refine Ex.keep [] ?_
    have er : Pr.pkb l (Pr.frs (l.take (i1 + 1))) = (Pr.many l (l.getD i1 Pr.dflt).from_, (l.getD i1 Pr.dflt).from_) := by rw [Pr.frs_take (by omega) h2, Pr.pkb_snoc]; exact if_pos (by unfold Pr.many; omega)
    exact Ex.round (i1 + 1 : Nat) (by omega) (by omega) rfl rfl (subB_cons (by first | rfl | exact congrArg (fun z => some (Value.int _ z)) (by omega) | exact congrArg (fun z => some (Value.int _ z)) (by (try dsimp only); rw [er]; try rfl)) (subB_cons (by first | rfl | exact congrArg (fun z => some (Value.int _ z)) (by omega) | exact congrArg (fun z => some (Value.int _ z)) (by (try dsimp only); rw [er]; try rfl)) (subB_cons (by first | rfl | exact congrArg (fun z => some (Value.int _ z)) (by omega) | exact congrArg (fun z => some (Value.int _ z)) (by (try dsimp only); rw [er]; try rfl)) (subB_cons (by first | rfl | exact congrArg (fun z => some (Value.int _ z)) (by omega) | exact congrArg (fun z => some (Value.int _ z)) (by (try dsimp only); rw [er]; try rfl)) (subB_nil _)))))
   ·have g8 := h8
    try simp only [kb] at g8
    refine Run.on rfl rfl rfl h8 ?_
    refine Run.val (lt rfl) (Y.move rfl) ?_
    refine Run.on rfl rfl rfl h8 ?_
    refine Run.val (lt rfl) (Y.move rfl) ?_
    refine Run.on rfl rfl rfl h8 ?_
    refine Run.val (lt rfl) (Y.int rfl rfl rfl) ?_
    refine Run.on rfl rfl rfl h8 ?_
    refine Run.val (lt rfl) (Y.move rfl) ?_
    rcases Bool.eq_false_or_eq_true ((((Pr.held l ((l.getD i1 Pr.dflt).from_)).length : Nat) : Int) == ((Pr.pkb l (Pr.frs (l.take i1))).1)) with h9 | h9
    ·have g9 := h9
     try simp only [kb] at g9
     refine Run.on rfl rfl rfl h9 ?_
     refine Run.val (lt rfl) (Y.move rfl) ?_
     refine Run.on rfl rfl rfl h9 ?_
     refine Run.val (lt rfl) (Y.move rfl) ?_
     refine Run.on rfl rfl rfl h9 ?_
     refine Run.val (lt rfl) (Y.idxR i1 rfl rfl Audit_es40 hv.of_nil (by omega) (by omega)) ?_
     refine Run.on rfl rfl rfl h9 ?_
     refine Run.val (lt rfl) (Y.fieldR rfl Audit_fo47_3 hv.of_nil (by omega)) ?_
     refine Run.on rfl rfl rfl h9 ?_
     refine Run.val (lt rfl) (Y.ldR rfl Audit_ts3 hv.of_nil (flatm_at Pr.len (by omega) Pr.dflt (by decide) rfl)) ?_
     refine Run.on rfl rfl rfl h9 ?_
     refine Run.val (lt rfl) (Y.move rfl) ?_
     refine Run.on rfl rfl rfl h9 ?_
     refine Run.val (lt rfl) (Y.int rfl rfl rfl) ?_
     refine Run.on rfl rfl rfl h8 ?_
     refine Run.val (lt rfl) (Y.pick_t rfl h9 rfl) ?_
     refine Run.val (lt rfl) (Y.pick_f rfl h8 rfl) ?_
     refine Run.to_end ?_
     refine Ex.go ?_
     rcases Bool.eq_false_or_eq_true (decide (((l.getD i1 Pr.dflt).from_) < ((Pr.pkb l (Pr.frs (l.take i1))).2))) with h10 | h10
     ·have g10 := h10
      try simp only [kb] at g10
      refine Tr.cond_t rfl h10 ?_
      refine Tr.seq ?_
      refine Tr.region ?_
      refine Run.val (lt rfl) (Y.move rfl) ?_
      refine Run.val (lt rfl) (Y.assign rfl) ?_
      refine Run.to_end ?_
      refine Ex.go ?_
      refine Tr.region ?_
      refine Run.val (lt rfl) (Y.move rfl) ?_
      refine Run.val (lt rfl) (Y.move rfl) ?_
      refine Run.val (lt rfl) (Y.idxR i1 rfl rfl Audit_es40 hv.of_nil (by omega) (by omega)) ?_
      refine Run.val (lt rfl) (Y.fieldR rfl Audit_fo47_3 hv.of_nil (by omega)) ?_
      refine Run.val (lt rfl) (Y.ldR rfl Audit_ts3 hv.of_nil (flatm_at Pr.len (by omega) Pr.dflt (by decide) rfl)) ?_
      refine Run.val (lt rfl) (Y.assign rfl) ?_
      refine Run.to_end ?_
      refine Ex.end_block ?_
      refine Ex.go ?_
      refine Tr.region ?_
      refine Run.val (lt rfl) (Y.move rfl) ?_
      refine Run.val (lt rfl) (Y.add rfl rfl (by omega)) ?_
      refine Run.val (lt rfl) (Y.assign rfl) ?_
      refine Run.to_end ?_
      refine Ex.keep [] ?_
      have er : Pr.pkb l (Pr.frs (l.take (i1 + 1))) = (Pr.many l (l.getD i1 Pr.dflt).from_, (l.getD i1 Pr.dflt).from_) := by rw [Pr.frs_take (by omega) h2, Pr.pkb_snoc]; exact if_pos (by unfold Pr.many; omega)
      exact Ex.round (i1 + 1 : Nat) (by omega) (by omega) rfl rfl (subB_cons (by first | rfl | exact congrArg (fun z => some (Value.int _ z)) (by omega) | exact congrArg (fun z => some (Value.int _ z)) (by (try dsimp only); rw [er]; try rfl)) (subB_cons (by first | rfl | exact congrArg (fun z => some (Value.int _ z)) (by omega) | exact congrArg (fun z => some (Value.int _ z)) (by (try dsimp only); rw [er]; try rfl)) (subB_cons (by first | rfl | exact congrArg (fun z => some (Value.int _ z)) (by omega) | exact congrArg (fun z => some (Value.int _ z)) (by (try dsimp only); rw [er]; try rfl)) (subB_cons (by first | rfl | exact congrArg (fun z => some (Value.int _ z)) (by omega) | exact congrArg (fun z => some (Value.int _ z)) (by (try dsimp only); rw [er]; try rfl)) (subB_nil _)))))
     ·have g10 := h10
      try simp only [kb] at g10
      refine Tr.cond_f rfl h10 ?_
      refine Tr.to_end ?_
      refine Ex.end_block ?_
      refine Ex.go ?_
      refine Tr.region ?_
      refine Run.val (lt rfl) (Y.move rfl) ?_
      refine Run.val (lt rfl) (Y.add rfl rfl (by omega)) ?_
      refine Run.val (lt rfl) (Y.assign rfl) ?_
      refine Run.to_end ?_
      refine Ex.keep [] ?_
      have er : Pr.pkb l (Pr.frs (l.take (i1 + 1))) = Pr.pkb l (Pr.frs (l.take i1)) := by rw [Pr.frs_take (by omega) h2, Pr.pkb_snoc]; exact if_neg (by unfold Pr.many; omega)
      exact Ex.round (i1 + 1 : Nat) (by omega) (by omega) rfl rfl (subB_cons (by first | rfl | exact congrArg (fun z => some (Value.int _ z)) (by omega) | exact congrArg (fun z => some (Value.int _ z)) (by (try dsimp only); rw [er]; try rfl)) (subB_cons (by first | rfl | exact congrArg (fun z => some (Value.int _ z)) (by omega) | exact congrArg (fun z => some (Value.int _ z)) (by (try dsimp only); rw [er]; try rfl)) (subB_cons (by first | rfl | exact congrArg (fun z => some (Value.int _ z)) (by omega) | exact congrArg (fun z => some (Value.int _ z)) (by (try dsimp only); rw [er]; try rfl)) (subB_cons (by first | rfl | exact congrArg (fun z => some (Value.int _ z)) (by omega) | exact congrArg (fun z => some (Value.int _ z)) (by (try dsimp only); rw [er]; try rfl)) (subB_nil _)))))
    ·have g9 := h9
     try simp only [kb] at g9
     refine Run.off rfl rfl rfl h9 rfl (lt rfl) ?_
     refine Run.off rfl rfl rfl h9 rfl (lt rfl) ?_
     refine Run.off rfl rfl rfl h9 rfl (lt rfl) ?_
     refine Run.off rfl rfl rfl h9 rfl (lt rfl) ?_
     refine Run.off rfl rfl rfl h9 rfl (lt rfl) ?_
     refine Run.off rfl rfl rfl h9 rfl (lt rfl) ?_
     refine Run.off rfl rfl rfl h9 rfl (lt rfl) ?_
     refine Run.on rfl rfl rfl h8 ?_
     refine Run.val (lt rfl) (Y.pick_f rfl h9 rfl) ?_
     refine Run.val (lt rfl) (Y.pick_f rfl h8 rfl) ?_
     refine Run.to_end ?_
     refine Ex.go ?_
     refine Tr.cond_f rfl rfl ?_
     refine Tr.to_end ?_
     refine Ex.end_block ?_
     refine Ex.go ?_
     refine Tr.region ?_
     refine Run.val (lt rfl) (Y.move rfl) ?_
     refine Run.val (lt rfl) (Y.add rfl rfl (by omega)) ?_
     refine Run.val (lt rfl) (Y.assign rfl) ?_
     refine Run.to_end ?_
     refine Ex.keep [] ?_
     have er : Pr.pkb l (Pr.frs (l.take (i1 + 1))) = Pr.pkb l (Pr.frs (l.take i1)) := by rw [Pr.frs_take (by omega) h2, Pr.pkb_snoc]; exact if_neg (by unfold Pr.many; omega)
     exact Ex.round (i1 + 1 : Nat) (by omega) (by omega) rfl rfl (subB_cons (by first | rfl | exact congrArg (fun z => some (Value.int _ z)) (by omega) | exact congrArg (fun z => some (Value.int _ z)) (by (try dsimp only); rw [er]; try rfl)) (subB_cons (by first | rfl | exact congrArg (fun z => some (Value.int _ z)) (by omega) | exact congrArg (fun z => some (Value.int _ z)) (by (try dsimp only); rw [er]; try rfl)) (subB_cons (by first | rfl | exact congrArg (fun z => some (Value.int _ z)) (by omega) | exact congrArg (fun z => some (Value.int _ z)) (by (try dsimp only); rw [er]; try rfl)) (subB_cons (by first | rfl | exact congrArg (fun z => some (Value.int _ z)) (by omega) | exact congrArg (fun z => some (Value.int _ z)) (by (try dsimp only); rw [er]; try rfl)) (subB_nil _)))))
  ·have g2 := h2
   try simp only [kb] at g2
   refine Tr.cond_t rfl (congrArg Bool.not h2) ?_
   refine Tr.to_exit ?_
   refine Ex.exit_then ?_
   refine Ex.exit_in ?_
   refine Ex.go ?_
   refine Tr.region ?_
   refine Run.val (lt rfl) (Y.move rfl) ?_
   refine Run.val (lt rfl) (Y.add rfl rfl (by omega)) ?_
   refine Run.val (lt rfl) (Y.assign rfl) ?_
   refine Run.to_end ?_
   refine Ex.keep [] ?_
   have er : Pr.pkb l (Pr.frs (l.take (i1 + 1))) = Pr.pkb l (Pr.frs (l.take i1)) := by rw [Pr.frs_take0 (by omega) h2]
   exact Ex.round (i1 + 1 : Nat) (by omega) (by omega) rfl rfl (subB_cons (by first | rfl | exact congrArg (fun z => some (Value.int _ z)) (by omega) | exact congrArg (fun z => some (Value.int _ z)) (by (try dsimp only); rw [er]; try rfl)) (subB_cons (by first | rfl | exact congrArg (fun z => some (Value.int _ z)) (by omega) | exact congrArg (fun z => some (Value.int _ z)) (by (try dsimp only); rw [er]; try rfl)) (subB_cons (by first | rfl | exact congrArg (fun z => some (Value.int _ z)) (by omega) | exact congrArg (fun z => some (Value.int _ z)) (by (try dsimp only); rw [er]; try rfl)) (subB_cons (by first | rfl | exact congrArg (fun z => some (Value.int _ z)) (by omega) | exact congrArg (fun z => some (Value.int _ z)) (by (try dsimp only); rw [er]; try rfl)) (subB_nil _)))))
 ·have g1 := h1
  try simp only [kb] at g1
  refine Tr.cond_f rfl h1 ?_
  refine Tr.to_exit ?_
  refine Ex.exit_then ?_
  refine Ex.exit_then ?_
  refine Ex.exit_in ?_
  refine Ex.go ?_
  refine Tr.seq ?_
  refine Tr.region ?_
  refine Run.val (lt rfl) (Y.move rfl) ?_
  refine Run.val (lt rfl) (Y.move rfl) ?_
  refine Run.val (lt rfl) (Y.assign rfl) ?_
  refine Run.val (lt rfl) (Y.assign rfl) ?_
  refine Run.to_end ?_
  refine Ex.go ?_
  refine Tr.to_ret ?_
  refine Ex.keep [] ?_
  exact Ex.ret2 rfl rfl rfl  ⟨by rw [← Pr.peak_b, List.take_of_length_le (by omega)], rfl, rfl⟩

theorem same28 {V : Vw} {l m : List Int} {p p2 : Option Addr} {c c2 : Nat} {H : Hp} (hv : Rd V H 1 (.slice p l.length c) l.length (l.flatMap nU)) (hw : Rd V H 1 (.slice p2 m.length c2) m.length (m.flatMap nU)) (hlm : l.length ≤ 1000000000)  : Does Try.prog 24 [.slice p l.length c, .slice p2 m.length c2] V H (Pv (.bool (l == m)) V H) := by
 refine Does.intro Try.func24 rfl rfl (le rfl) (fun B => ?_)
 refine Tr.seq ?_
 refine Tr.region ?_
 refine Run.val (lt rfl) (Y.assign rfl) ?_
 refine Run.to_end ?_
 refine Ex.go ?_
 refine Tr.seq ?_
 refine Tr.seq ?_
 refine Tr.region ?_
 refine Run.val (lt rfl) (Y.move rfl) ?_
 refine Run.val (lt rfl) (Y.lenSl rfl Audit_es32) ?_
 refine Run.val (lt rfl) (Y.move rfl) ?_
 refine Run.val (lt rfl) (Y.lenSl rfl Audit_es32) ?_
 refine Run.val (lt rfl) (Y.int rfl rfl rfl) ?_
 refine Run.to_end ?_
 refine Ex.go ?_
 rcases Bool.eq_false_or_eq_true (((l.length : Nat) : Int) != ((m.length : Nat) : Int)) with h1 | h1
 ·have g1 := h1
  try simp only [kb] at g1
  refine Tr.cond_t rfl h1 ?_
  refine Tr.seq ?_
  refine Tr.region ?_
  refine Run.val (lt rfl) (Y.assign rfl) ?_
  refine Run.to_end ?_
  refine Ex.go ?_
  refine Tr.to_ret ?_
  refine Ex.ret_then ?_
  exact Ex.ret1 rfl rfl  ⟨congrArg Value.bool (show (l == m) = false by first | exact len_ne (by omega) | exact getD_ne (i := i1) (d := 0) (by omega)).symm, rfl, rfl⟩
 ·have g1 := h1
  try simp only [kb] at g1
  refine Tr.cond_f rfl h1 ?_
  refine Tr.to_end ?_
  refine Ex.go ?_
  refine Tr.seq ?_
  refine Tr.seq ?_
  refine Tr.region ?_
  refine Run.val (lt rfl) (Y.assign rfl) ?_
  refine Run.to_end ?_
  refine Ex.go ?_
  refine Tr.block ?_
  refine Tr.loop (X := Nat) (fun z0 => V) (fun z0 => H) (fun z0 => [(0, .slice p l.length c), (1, .slice p2 m.length c2), (5, .int .i64 (z0 : Int))]) (fun z0 => z0 ≤ l.length ∧ ∀ j, j < z0 → l.getD j 0 = m.getD j 0) (fun z0 => l.length - z0) (0 : Nat) ⟨Nat.zero_le _, fun j hj => absurd hj (Nat.not_lt_zero j)⟩ (fun a w i => ⟨i.1.sub (subB_cons (by first | rfl | exact congrArg (fun z => some (Value.int _ z)) (by omega)) (subB_cons (by first | rfl | exact congrArg (fun z => some (Value.int _ z)) (by omega)) (subB_cons (by first | rfl | exact congrArg (fun z => some (Value.int _ z)) (by omega)) (subB_nil _)))), i.2⟩) ?_
  rintro i1 ⟨hi, he⟩
  refine Tr.seq ?_
  refine Tr.seq ?_
  refine Tr.region ?_
  refine Run.val (lt rfl) (Y.move rfl) ?_
  refine Run.val (lt rfl) (Y.move rfl) ?_
  refine Run.val (lt rfl) (Y.lenSl rfl Audit_es32) ?_
  refine Run.val (lt rfl) (Y.int rfl rfl rfl) ?_
  refine Run.to_end ?_
  refine Ex.go ?_
  rcases Bool.eq_false_or_eq_true (decide ((i1 : Int) < ((l.length : Nat) : Int))) with h2 | h2
  ·have g2 := h2
   try simp only [kb] at g2
   refine Tr.cond_t rfl h2 ?_
   refine Tr.to_end ?_
   refine Ex.go ?_
   refine Tr.seq ?_
   refine Tr.block ?_
   refine Tr.seq ?_
   refine Tr.quiet Audit_mo (by kernel_rfl) ?_
   refine RunQ.val (lt rfl) (Y.move rfl) ?_
   refine RunQ.val (lt rfl) (Y.move rfl) ?_
   refine RunQ.val (lt rfl) (Y.idxR i1 rfl rfl Audit_es32 hv (by omega) (by omega)) ?_
   refine RunQ.val (lt rfl) (Y.ldR rfl Audit_ts37 hv (flatm_at0 nU_enc.len (by omega) 0 (by decide) rfl)) ?_
   refine RunQ.val (lt rfl) (Y.move rfl) ?_
   refine RunQ.val (lt rfl) (Y.move rfl) ?_
   refine RunQ.val (lt rfl) (Y.idxR i1 rfl rfl Audit_es32 hw (by omega) (by omega)) ?_
   refine RunQ.val (lt rfl) (Y.ldR rfl Audit_ts37 hw (flatm_at0 nU_enc.len (by omega) 0 (by decide) rfl)) ?_
   refine RunQ.val (lt rfl) (Y.int rfl rfl rfl) ?_
   refine RunQ.to_end ?_
   refine Ex.go ?_
   rcases Bool.eq_false_or_eq_true ((l.getD i1 0) != (m.getD i1 0)) with h3 | h3
   ·have g3 := h3
    try simp only [kb] at g3
    refine Tr.cond_t rfl h3 ?_
    refine Tr.seq ?_
    refine Tr.region ?_
    refine Run.val (lt rfl) (Y.assign rfl) ?_
    refine Run.to_end ?_
    refine Ex.go ?_
    refine Tr.to_ret ?_
    refine Ex.ret_block ?_
    refine Ex.ret_then ?_
    refine Ex.ret_then ?_
    refine Ex.ret_block ?_
    refine Ex.ret_then ?_
    exact Ex.ret1 rfl rfl  ⟨congrArg Value.bool (show (l == m) = false by first | exact len_ne (by omega) | exact getD_ne (i := i1) (d := 0) (by omega)).symm, rfl, rfl⟩
   ·have g3 := h3
    try simp only [kb] at g3
    refine Tr.cond_f rfl h3 ?_
    refine Tr.to_end ?_
    refine Ex.end_block ?_
    refine Ex.go ?_
    refine Tr.region ?_
    refine Run.val (lt rfl) (Y.move rfl) ?_
    refine Run.val (lt rfl) (Y.add rfl rfl (by omega)) ?_
    refine Run.val (lt rfl) (Y.assign rfl) ?_
    refine Run.to_end ?_
    exact Ex.round (i1 + 1 : Nat) ⟨by omega, upto_succ he (by omega)⟩ (by omega) rfl rfl (subB_cons (by first | rfl | exact congrArg (fun z => some (Value.int _ z)) (by omega)) (subB_cons (by first | rfl | exact congrArg (fun z => some (Value.int _ z)) (by omega)) (subB_cons (by first | rfl | exact congrArg (fun z => some (Value.int _ z)) (by omega)) (subB_nil _))))
  ·have g2 := h2
   try simp only [kb] at g2
   refine Tr.cond_f rfl h2 ?_
   refine Tr.to_exit ?_
   refine Ex.exit_then ?_
   refine Ex.exit_then ?_
   refine Ex.exit_in ?_
   refine Ex.go ?_
   refine Tr.seq ?_
   refine Tr.region ?_
   refine Run.val (lt rfl) (Y.assign rfl) ?_
   refine Run.to_end ?_
   refine Ex.go ?_
   refine Tr.to_ret ?_
   exact Ex.ret1 rfl rfl  ⟨congrArg Value.bool (getD_eq (d := 0) (by omega) (fun j hj => he j (by omega))).symm, rfl, rfl⟩

theorem same28_h {V : Vw} {H : Hp} {l m : List Int} {v w : Value} (hv : Rd V H 1 v l.length (l.flatMap nU)) (hw : Rd V H 1 w m.length (m.flatMap nU)) (hlm : l.length ≤ 1000000000) : Does Try.prog 24 [v, w] V H (Pv (.bool (l == m)) V H) := by
  obtain ⟨p, c, rfl, _⟩ := hv.form
  obtain ⟨p2, c2, rfl, _⟩ := hw.form
  exact same28 hv hw hlm
end Go.Proofs.Ytjfacdepgkdoeaa
