/- Promises that clash, and are ended, walked.
Conditions: as each theorem names them. -/
import Derived.Test.YtjfacdepgkdoeaaProg
import Derived.Test.YtjfacdepgkdoeaaAudit
set_option linter.unusedSimpArgs false
set_option linter.unusedVariables false
set_option maxRecDepth 4000
namespace Go.Proofs.Ytjfacdepgkdoeaa
open Go Go.K
attribute [local irreducible] Code.wp wpList Calls wpQuiet
theorem Audit2_es40 : elemS Try.prog 40 = some (47, 5) := by kernel_rfl
theorem Audit2_ag47 : aggsz Try.prog 47 = some 5 := by kernel_rfl
theorem Audit2_fo47_1 : fieldOff Try.prog 47 1 = some 1 := by kernel_rfl
theorem Audit2_ts37 : scal Try.prog 37 = true := by kernel_rfl
theorem Audit2_fo47_2 : fieldOff Try.prog 47 2 = some 2 := by kernel_rfl
theorem Audit2_ts9 : scal Try.prog 9 = true := by kernel_rfl
theorem Audit2_fo47_3 : fieldOff Try.prog 47 3 = some 3 := by kernel_rfl
theorem Audit2_ts3 : scal Try.prog 3 = true := by kernel_rfl
theorem Audit2_fo47_4 : fieldOff Try.prog 47 4 = some 4 := by kernel_rfl
theorem Audit2_zo47 : zeroOf Try.prog 47 = some (.agg #[.int .i64 0, .int .u32 0, .string ⟨#[]⟩, .int .i64 0, .int .i64 0]) := by kernel_rfl
theorem Audit2_sz47 : sizeT Try.prog 47 = some 5 := by kernel_rfl
theorem Audit2_mo : Try.prog.follows .mixedOrders = true := by kernel_rfl
theorem Audit2_sz3 : sizeT Try.prog 3 = some 1 := by kernel_rfl
theorem Audit2_zi47 : zeroInfo Try.prog 47 = some (5, 48, .agg #[.int .i64 0, .int .u32 0, .string ⟨#[]⟩, .int .i64 0, .int .i64 0]) := by kernel_rfl
theorem Audit2_tgs47 : tags Try.prog 47 = some [(0, .i64), (0, .u32), (2, .i64), (0, .i64), (0, .i64)] := by kernel_rfl
theorem Audit2_st9 : strT Try.prog 9 = true := by kernel_rfl

theorem index_pr {V : Vw} {H : Hp} {l : List Pr} {p : Option Addr} {c : Nat} (hv : Rd V H 5 (.slice p l.length c) l.length (l.flatMap Pr.cells)) (hlm : l.length ≤ 1000000000) {gf : FuncId} {caps : List Value} {pb : Pr → Bool} (hp : ∀ q, Does Try.prog gf (.agg (Pr.cells q).toArray :: caps) V H (Pv (.bool (pb q)) V H))  : Does Try.prog 71 [.slice p l.length c, .func (.func gf) #[] caps.toArray] V H (Pv (.int .i64 (ixf pb l)) V H) := by
 refine Does.intro Try.func71 rfl rfl (le rfl) (fun B => ?_)
 refine Tr.seq ?_
 refine Tr.region ?_
 refine Run.val (lt rfl) (Y.assign rfl) ?_
 refine Run.to_end ?_
 refine Ex.go ?_
 refine Tr.seq ?_
 refine Tr.seq ?_
 refine Tr.region ?_
 refine Run.val (lt rfl) (Y.move rfl) ?_
 refine Run.val (lt rfl) (Y.lenSl rfl Audit2_es40) ?_
 refine Run.val (lt rfl) (Y.move rfl) ?_
 refine Run.to_end ?_
 refine Ex.go ?_
 refine Tr.block ?_
 refine Tr.loop (X := Nat) (fun z0 => V) (fun z0 => H) (fun z0 => [(0, .slice p l.length c), (1, .func (.func gf) #[] caps.toArray), (7, .int .i64 ((l.length : Nat) : Int)), (8, .int .i64 (z0 : Int))]) (fun z0 => z0 ≤ l.length ∧ ∀ j, j < z0 → pb (l.getD j Pr.dflt) = false) (fun z0 => l.length - z0) (0 : Nat) ⟨Nat.zero_le _, fun j hj => absurd hj (Nat.not_lt_zero j)⟩ (fun a w i => ⟨i.1.sub (subB_cons (by first | rfl | exact congrArg (fun z => some (Value.int _ z)) (by omega)) (subB_cons (by first | rfl | exact congrArg (fun z => some (Value.int _ z)) (by omega)) (subB_cons (by first | rfl | exact congrArg (fun z => some (Value.int _ z)) (by omega)) (subB_cons (by first | rfl | exact congrArg (fun z => some (Value.int _ z)) (by omega)) (subB_nil _))))), i.2⟩) ?_
 rintro i1 ⟨hi, hn⟩
 refine Tr.seq ?_
 refine Tr.region ?_
 refine Run.val (lt rfl) (Y.int rfl rfl rfl) ?_
 refine Run.to_end ?_
 refine Ex.go ?_
 refine Tr.seq ?_
 rcases Bool.eq_false_or_eq_true (decide ((i1 : Int) < ((l.length : Nat) : Int))) with h1 | h1
 ·have g1 := h1
  try simp only [kb] at g1
  refine Tr.cond_t rfl h1 ?_
  refine Tr.to_end ?_
  refine Ex.go ?_
  refine Tr.seq ?_
  refine Tr.block ?_
  refine Tr.seq ?_
  refine Tr.region ?_
  refine Run.val (lt rfl) (Y.move rfl) ?_
  refine Run.val (lt rfl) (Y.assign rfl) ?_
  refine Run.to_end ?_
  refine Ex.go ?_
  refine Tr.seq ?_
  refine Tr.region ?_
  refine Run.val (lt rfl) (Y.move rfl) ?_
  refine Run.val (lt rfl) (Y.move rfl) ?_
  refine Run.val (lt rfl) (Y.move rfl) ?_
  refine Run.val (lt rfl) (Y.idxR i1 rfl rfl Audit2_es40 hv (by omega) (by omega)) ?_
  refine Run.val (lt rfl) (Y.ldRA (vs := [.int .i64 ((l.getD i1 Pr.dflt).srv), .int .u32 ((l.getD i1 Pr.dflt).addr), .string ((l.getD i1 Pr.dflt).client), .int .i64 ((l.getD i1 Pr.dflt).from_), .int .i64 ((l.getD i1 Pr.dflt).till)]) rfl Audit2_ag47 hv rfl (by decide) (fun o ho => flatm_atA Pr.len (by omega) Pr.dflt o ho)) ?_
  refine Run.call0 (l := [.tmp 15]) rfl rfl rfl (lt rfl) (hp (l.getD i1 Pr.dflt)) ?_
  refine Run.to_end ?_
  refine Ex.go ?_
  rcases Bool.eq_false_or_eq_true (pb (l.getD i1 Pr.dflt)) with h2 | h2
  ·have g2 := h2
   try simp only [kb] at g2
   refine Tr.cond_t rfl h2 ?_
   refine Tr.seq ?_
   refine Tr.region ?_
   refine Run.val (lt rfl) (Y.move rfl) ?_
   refine Run.val (lt rfl) (Y.assign rfl) ?_
   refine Run.to_end ?_
   refine Ex.go ?_
   refine Tr.to_ret ?_
   refine Ex.ret_block ?_
   refine Ex.ret_then ?_
   refine Ex.ret_then ?_
   refine Ex.ret_block ?_
   refine Ex.ret_then ?_
   exact Ex.ret1 rfl rfl  ⟨congrArg (Value.int _) (ixf_at hn (by omega) (by assumption)).symm, rfl, rfl⟩
  ·have g2 := h2
   try simp only [kb] at g2
   refine Tr.cond_f rfl h2 ?_
   refine Tr.to_end ?_
   refine Ex.end_block ?_
   refine Ex.go ?_
   refine Tr.region ?_
   refine Run.val (lt rfl) (Y.add rfl rfl (by omega)) ?_
   refine Run.val (lt rfl) (Y.move rfl) ?_
   refine Run.to_end ?_
   exact Ex.round (i1 + 1 : Nat) ⟨by omega, upto_succ hn (by assumption)⟩ (by omega) rfl rfl (subB_cons (by first | rfl | exact congrArg (fun z => some (Value.int _ z)) (by omega)) (subB_cons (by first | rfl | exact congrArg (fun z => some (Value.int _ z)) (by omega)) (subB_cons (by first | rfl | exact congrArg (fun z => some (Value.int _ z)) (by omega)) (subB_cons (by first | rfl | exact congrArg (fun z => some (Value.int _ z)) (by omega)) (subB_nil _)))))
 ·have g1 := h1
  try simp only [kb] at g1
  refine Tr.cond_f rfl h1 ?_
  refine Tr.to_exit ?_
  refine Ex.exit_then ?_
  refine Ex.exit_then ?_
  refine Ex.exit_in ?_
  refine Ex.go ?_
  refine Tr.seq ?_
  refine Tr.region ?_
  refine Run.val (lt rfl) (Y.assign rfl) ?_
  refine Run.to_end ?_
  refine Ex.go ?_
  refine Tr.to_ret ?_
  exact Ex.ret1 rfl rfl  ⟨congrArg (Value.int _) (ixf_none (d := Pr.dflt) (fun j hj => hn j (by omega))).symm, rfl, rfl⟩

theorem index_pr_h {V : Vw} {H : Hp} {l : List Pr} {v : Value} {n : Nat} (hv : Rd V H 5 v n (l.flatMap Pr.cells)) (hlm : l.length ≤ 1000000000) {gf : FuncId} {caps : List Value} {pb : Pr → Bool} (hp : ∀ q, Does Try.prog gf (.agg (Pr.cells q).toArray :: caps) V H (Pv (.bool (pb q)) V H)) : Does Try.prog 71 [v, .func (.func gf) #[] caps.toArray] V H (Pv (.int .i64 (ixf pb l)) V H) := by
  obtain rfl : n = l.length := by have := hv.len; rw [flat_len Pr.enc] at this; omega
  obtain ⟨p, c, rfl, _⟩ := hv.form
  exact index_pr hv hlm hp

theorem clash_c {q r : Pr} {V : Vw} : Does Try.prog 73 [.agg #[.int .i64 q.srv, .int .u32 q.addr, .string q.client, .int .i64 q.from_, .int .i64 q.till], .agg #[.int .i64 r.srv, .int .u32 r.addr, .string r.client, .int .i64 r.from_, .int .i64 r.till]] V [] (Pv (.bool (Pr.clash q r)) V []) := by
 refine Does.intro Try.func73 rfl rfl (le rfl) (fun B => ?_)
 refine Tr.seq ?_
 refine Tr.region ?_
 refine Run.box rfl (lt rfl) (fun b1 => ?_)
 refine Run.box rfl (lt rfl) (fun b2 => ?_)
 refine Run.val (lt rfl) (Y.assign rfl) ?_
 refine Run.to_end ?_
 refine Ex.go ?_
 refine Tr.seq ?_
 refine Tr.region ?_
 refine Run.val (lt rfl) (Y.fieldAddr rfl Audit2_fo47_1) ?_
 refine Run.val (lt rfl) (Y.load rfl Audit2_ts37 (Kn.at 1 rfl) rfl) ?_
 refine Run.val (lt rfl) (Y.fieldAddr rfl Audit2_fo47_1) ?_
 refine Run.val (lt rfl) (Y.load rfl Audit2_ts37 (Kn.at 0 rfl) rfl) ?_
 refine Run.val (lt rfl) (Y.int rfl rfl rfl) ?_
 refine Run.val (lt rfl) (Y.move rfl) ?_
 rcases Bool.eq_false_or_eq_true (q.addr == r.addr) with h3 | h3
 ·have g3 := h3
  try simp only [kb] at g3
  refine Run.on rfl rfl rfl h3 ?_
  refine Run.val (lt rfl) (Y.fieldAddr rfl Audit2_fo47_2) ?_
  refine Run.on rfl rfl rfl h3 ?_
  refine Run.val (lt rfl) (Y.load rfl Audit2_ts9 (Kn.at 1 rfl) rfl) ?_
  refine Run.on rfl rfl rfl h3 ?_
  refine Run.val (lt rfl) (Y.fieldAddr rfl Audit2_fo47_2) ?_
  refine Run.on rfl rfl rfl h3 ?_
  refine Run.val (lt rfl) (Y.load rfl Audit2_ts9 (Kn.at 0 rfl) rfl) ?_
  refine Run.on rfl rfl rfl h3 ?_
  refine Run.val (lt rfl) (Y.neStr rfl rfl) ?_
  refine Run.val (lt rfl) (Y.pick_t rfl h3 rfl) ?_
  refine Run.val (lt rfl) (Y.move rfl) ?_
  rcases Bool.eq_false_or_eq_true (q.client.toList == r.client.toList) with h4 | h4
  ·have g4 := h4
   try simp only [kb] at g4
   refine Run.off rfl rfl rfl (congrArg Bool.not h4) rfl (lt rfl) ?_
   refine Run.off rfl rfl rfl (congrArg Bool.not h4) rfl (lt rfl) ?_
   refine Run.val (lt rfl) (Y.pick_f rfl (congrArg Bool.not h4) rfl) ?_
   refine Run.val (lt rfl) (Y.move rfl) ?_
   refine Run.off rfl rfl rfl rfl rfl (lt rfl) ?_
   refine Run.off rfl rfl rfl rfl rfl (lt rfl) ?_
   refine Run.val (lt rfl) (Y.pick_f rfl rfl rfl) ?_
   refine Run.val (lt rfl) (Y.move rfl) ?_
   refine Run.off rfl rfl rfl rfl rfl (lt rfl) ?_
   refine Run.off rfl rfl rfl rfl rfl (lt rfl) ?_
   refine Run.off rfl rfl rfl rfl rfl (lt rfl) ?_
   refine Run.off rfl rfl rfl rfl rfl (lt rfl) ?_
   refine Run.off rfl rfl rfl rfl rfl (lt rfl) ?_
   refine Run.off rfl rfl rfl rfl rfl (lt rfl) ?_
   refine Run.off rfl rfl rfl rfl rfl (lt rfl) ?_
   refine Run.off rfl rfl rfl rfl rfl (lt rfl) ?_
   refine Run.off rfl rfl rfl rfl rfl (lt rfl) ?_
   refine Run.off rfl rfl rfl rfl rfl (lt rfl) ?_
   refine Run.off rfl rfl rfl rfl rfl (lt rfl) ?_
   refine Run.val (lt rfl) (Y.pick_f rfl rfl rfl) ?_
   refine Run.val (lt rfl) (Y.assign rfl) ?_
   refine Run.to_end ?_
   refine Ex.go ?_
   refine Tr.to_ret ?_
   refine Ex.keep [] ?_
   exact Ex.ret1 rfl rfl  ⟨congrArg Value.bool (by unfold Pr.clash Pr.meet; simp_all <;> omega), rfl, rfl⟩
  ·have g4 := h4
   try simp only [kb] at g4
   refine Run.on rfl rfl rfl (congrArg Bool.not h4) ?_
   refine Run.val (lt rfl) (Y.loadAgg rfl Audit2_ag47 (Kn.at 1 rfl) rfl) ?_
   refine Run.on rfl rfl rfl (congrArg Bool.not h4) ?_
   refine Run.call0 (l := [.tmp 18]) rfl rfl rfl (lt rfl) (right_c_h rfl) ?_
   refine Run.val (lt rfl) (Y.pick_t rfl (congrArg Bool.not h4) rfl) ?_
   refine Run.val (lt rfl) (Y.move rfl) ?_
   rcases Bool.eq_false_or_eq_true (Pr.right q) with h5 | h5
   ·have g5 := h5
    try simp only [kb] at g5
    refine Run.on rfl rfl rfl h5 ?_
    refine Run.val (lt rfl) (Y.loadAgg rfl Audit2_ag47 (Kn.at 0 rfl) rfl) ?_
    refine Run.on rfl rfl rfl h5 ?_
    refine Run.call0 (l := [.tmp 22]) rfl rfl rfl (lt rfl) (right_c_h rfl) ?_
    refine Run.val (lt rfl) (Y.pick_t rfl h5 rfl) ?_
    refine Run.val (lt rfl) (Y.move rfl) ?_
    rcases Bool.eq_false_or_eq_true (Pr.right r) with h6 | h6
    ·have g6 := h6
     try simp only [kb] at g6
     refine Run.on rfl rfl rfl h6 ?_
     refine Run.val (lt rfl) (Y.fieldAddr rfl Audit2_fo47_3) ?_
     refine Run.on rfl rfl rfl h6 ?_
     refine Run.val (lt rfl) (Y.load rfl Audit2_ts3 (Kn.at 1 rfl) rfl) ?_
     refine Run.on rfl rfl rfl h6 ?_
     refine Run.val (lt rfl) (Y.fieldAddr rfl Audit2_fo47_3) ?_
     refine Run.on rfl rfl rfl h6 ?_
     refine Run.val (lt rfl) (Y.load rfl Audit2_ts3 (Kn.at 0 rfl) rfl) ?_
     refine Run.on rfl rfl rfl h6 ?_
     refine Run.val (lt rfl) (Y.max2 rfl rfl) ?_
     refine Run.on rfl rfl rfl h6 ?_
     refine Run.val (lt rfl) (Y.fieldAddr rfl Audit2_fo47_4) ?_
     refine Run.on rfl rfl rfl h6 ?_
     refine Run.val (lt rfl) (Y.load rfl Audit2_ts3 (Kn.at 1 rfl) rfl) ?_
     refine Run.on rfl rfl rfl h6 ?_
     refine Run.val (lt rfl) (Y.fieldAddr rfl Audit2_fo47_4) ?_
     refine Run.on rfl rfl rfl h6 ?_
     refine Run.val (lt rfl) (Y.load rfl Audit2_ts3 (Kn.at 0 rfl) rfl) ?_
     refine Run.on rfl rfl rfl h6 ?_
     refine Run.val (lt rfl) (Y.min2 rfl rfl) ?_
     refine Run.on rfl rfl rfl h6 ?_
     refine Run.val (lt rfl) (Y.int rfl rfl rfl) ?_
     refine Run.val (lt rfl) (Y.pick_t rfl h6 rfl) ?_
     refine Run.val (lt rfl) (Y.assign rfl) ?_
     refine Run.to_end ?_
     refine Ex.go ?_
     refine Tr.to_ret ?_
     refine Ex.keep [] ?_
     exact Ex.ret1 rfl rfl  ⟨congrArg Value.bool (by unfold Pr.clash Pr.meet; simp_all <;> omega), rfl, rfl⟩
    ·have g6 := h6
     try simp only [kb] at g6
     refine Run.off rfl rfl rfl h6 rfl (lt rfl) ?_
     refine Run.off rfl rfl rfl h6 rfl (lt rfl) ?_
     refine Run.off rfl rfl rfl h6 rfl (lt rfl) ?_
     refine Run.off rfl rfl rfl h6 rfl (lt rfl) ?_
     refine Run.off rfl rfl rfl h6 rfl (lt rfl) ?_
     refine Run.off rfl rfl rfl h6 rfl (lt rfl) ?_
     refine Run.off rfl rfl rfl h6 rfl (lt rfl) ?_
     refine Run.off rfl rfl rfl h6 rfl (lt rfl) ?_
     refine Run.off rfl rfl rfl h6 rfl (lt rfl) ?_
     refine Run.off rfl rfl rfl h6 rfl (lt rfl) ?_
     refine Run.off rfl rfl rfl h6 rfl (lt rfl) ?_
     refine Run.val (lt rfl) (Y.pick_f rfl h6 rfl) ?_
     refine Run.val (lt rfl) (Y.assign rfl) ?_
     refine Run.to_end ?_
     refine Ex.go ?_
     refine Tr.to_ret ?_
     refine Ex.keep [] ?_
     exact Ex.ret1 rfl rfl  ⟨congrArg Value.bool (by unfold Pr.clash Pr.meet; simp_all <;> omega), rfl, rfl⟩
   ·have g5 := h5
    try simp only [kb] at g5
    refine Run.off rfl rfl rfl h5 rfl (lt rfl) ?_
    refine Run.off rfl rfl rfl h5 rfl (lt rfl) ?_
    refine Run.val (lt rfl) (Y.pick_f rfl h5 rfl) ?_
    refine Run.val (lt rfl) (Y.move rfl) ?_
    refine Run.off rfl rfl rfl rfl rfl (lt rfl) ?_
    refine Run.off rfl rfl rfl rfl rfl (lt rfl) ?_
    refine Run.off rfl rfl rfl rfl rfl (lt rfl) ?_
    refine Run.off rfl rfl rfl rfl rfl (lt rfl) ?_
    refine Run.off rfl rfl rfl rfl rfl (lt rfl) ?_
    refine Run.off rfl rfl rfl rfl rfl (lt rfl) ?_
    refine Run.off rfl rfl rfl rfl rfl (lt rfl) ?_
    refine Run.off rfl rfl rfl rfl rfl (lt rfl) ?_
    refine Run.off rfl rfl rfl rfl rfl (lt rfl) ?_
    refine Run.off rfl rfl rfl rfl rfl (lt rfl) ?_
    refine Run.off rfl rfl rfl rfl rfl (lt rfl) ?_
    refine Run.val (lt rfl) (Y.pick_f rfl rfl rfl) ?_
    refine Run.val (lt rfl) (Y.assign rfl) ?_
    refine Run.to_end ?_
    refine Ex.go ?_
    refine Tr.to_ret ?_
    refine Ex.keep [] ?_
    exact Ex.ret1 rfl rfl  ⟨congrArg Value.bool (by unfold Pr.clash Pr.meet; simp_all <;> omega), rfl, rfl⟩
 ·have g3 := h3
  try simp only [kb] at g3
  refine Run.off rfl rfl rfl h3 rfl (lt rfl) ?_
  refine Run.off rfl rfl rfl h3 rfl (lt rfl) ?_
  refine Run.off rfl rfl rfl h3 rfl (lt rfl) ?_
  refine Run.off rfl rfl rfl h3 rfl (lt rfl) ?_
  refine Run.off rfl rfl rfl h3 rfl (lt rfl) ?_
  refine Run.val (lt rfl) (Y.pick_f rfl h3 rfl) ?_
  refine Run.val (lt rfl) (Y.move rfl) ?_
  refine Run.off rfl rfl rfl rfl rfl (lt rfl) ?_
  refine Run.off rfl rfl rfl rfl rfl (lt rfl) ?_
  refine Run.val (lt rfl) (Y.pick_f rfl rfl rfl) ?_
  refine Run.val (lt rfl) (Y.move rfl) ?_
  refine Run.off rfl rfl rfl rfl rfl (lt rfl) ?_
  refine Run.off rfl rfl rfl rfl rfl (lt rfl) ?_
  refine Run.val (lt rfl) (Y.pick_f rfl rfl rfl) ?_
  refine Run.val (lt rfl) (Y.move rfl) ?_
  refine Run.off rfl rfl rfl rfl rfl (lt rfl) ?_
  refine Run.off rfl rfl rfl rfl rfl (lt rfl) ?_
  refine Run.off rfl rfl rfl rfl rfl (lt rfl) ?_
  refine Run.off rfl rfl rfl rfl rfl (lt rfl) ?_
  refine Run.off rfl rfl rfl rfl rfl (lt rfl) ?_
  refine Run.off rfl rfl rfl rfl rfl (lt rfl) ?_
  refine Run.off rfl rfl rfl rfl rfl (lt rfl) ?_
  refine Run.off rfl rfl rfl rfl rfl (lt rfl) ?_
  refine Run.off rfl rfl rfl rfl rfl (lt rfl) ?_
  refine Run.off rfl rfl rfl rfl rfl (lt rfl) ?_
  refine Run.off rfl rfl rfl rfl rfl (lt rfl) ?_
  refine Run.val (lt rfl) (Y.pick_f rfl rfl rfl) ?_
  refine Run.val (lt rfl) (Y.assign rfl) ?_
  refine Run.to_end ?_
  refine Ex.go ?_
  refine Tr.to_ret ?_
  refine Ex.keep [] ?_
  exact Ex.ret1 rfl rfl  ⟨congrArg Value.bool (by unfold Pr.clash Pr.meet; simp_all <;> omega), rfl, rfl⟩

theorem meet_c {q r : Pr} {V : Vw} : Does Try.prog 74 [.agg #[.int .i64 q.srv, .int .u32 q.addr, .string q.client, .int .i64 q.from_, .int .i64 q.till], .agg #[.int .i64 r.srv, .int .u32 r.addr, .string r.client, .int .i64 r.from_, .int .i64 r.till]] V [] (Pv (.bool (Pr.meet q r)) V []) := by
 refine Does.intro Try.func74 rfl rfl (le rfl) (fun B => ?_)
 refine Tr.seq ?_
 refine Tr.region ?_
 refine Run.box rfl (lt rfl) (fun b1 => ?_)
 refine Run.box rfl (lt rfl) (fun b2 => ?_)
 refine Run.val (lt rfl) (Y.assign rfl) ?_
 refine Run.to_end ?_
 refine Ex.go ?_
 refine Tr.seq ?_
 refine Tr.region ?_
 refine Run.val (lt rfl) (Y.loadAgg rfl Audit2_ag47 (Kn.at 1 rfl) rfl) ?_
 refine Run.val (lt rfl) (Y.fieldAddr rfl Audit2_fo47_3) ?_
 refine Run.val (lt rfl) (Y.load rfl Audit2_ts3 (Kn.at 0 rfl) rfl) ?_
 refine Run.call0 (l := [.tmp 5, .tmp 7]) rfl rfl rfl (lt rfl) (rholds_c_h rfl) ?_
 refine Run.val (lt rfl) (Y.move rfl) ?_
 rcases Bool.eq_false_or_eq_true (Pr.holds q r.from_) with h3 | h3
 ·have g3 := h3
  try simp only [kb] at g3
  refine Run.on rfl rfl rfl h3 ?_
  refine Run.val (lt rfl) (Y.loadAgg rfl Audit2_ag47 (Kn.at 0 rfl) rfl) ?_
  refine Run.on rfl rfl rfl h3 ?_
  refine Run.call0 (l := [.tmp 10]) rfl rfl rfl (lt rfl) (rright_c_h rfl) ?_
  refine Run.val (lt rfl) (Y.pick_t rfl h3 rfl) ?_
  refine Run.val (lt rfl) (Y.move rfl) ?_
  rcases Bool.eq_false_or_eq_true (Pr.right r) with h4 | h4
  ·have g4 := h4
   try simp only [kb] at g4
   refine Run.off rfl rfl rfl h4 rfl (lt rfl) ?_
   refine Run.off rfl rfl rfl h4 rfl (lt rfl) ?_
   refine Run.off rfl rfl rfl h4 rfl (lt rfl) ?_
   refine Run.off rfl rfl rfl h4 rfl (lt rfl) ?_
   refine Run.off rfl rfl rfl h4 rfl (lt rfl) ?_
   refine Run.off_u rfl rfl rfl rfl (lt rfl) ?_
   refine Run.off_u rfl rfl rfl rfl (lt rfl) ?_
   refine Run.off rfl rfl rfl h4 rfl (lt rfl) ?_
   refine Run.val (lt rfl) (Y.pick_t rfl h4 rfl) ?_
   refine Run.val (lt rfl) (Y.assign rfl) ?_
   refine Run.to_end ?_
   refine Ex.go ?_
   refine Tr.to_ret ?_
   refine Ex.keep [] ?_
   exact Ex.ret1 rfl rfl  ⟨congrArg Value.bool (by rw [← Pr.rmeet_eq]; unfold Pr.rmeet; simp_all), rfl, rfl⟩
  ·have g4 := h4
   try simp only [kb] at g4
   refine Run.on rfl rfl rfl h4 ?_
   refine Run.val (lt rfl) (Y.loadAgg rfl Audit2_ag47 (Kn.at 0 rfl) rfl) ?_
   refine Run.on rfl rfl rfl h4 ?_
   refine Run.val (lt rfl) (Y.fieldAddr rfl Audit2_fo47_3) ?_
   refine Run.on rfl rfl rfl h4 ?_
   refine Run.val (lt rfl) (Y.load rfl Audit2_ts3 (Kn.at 1 rfl) rfl) ?_
   refine Run.on rfl rfl rfl h4 ?_
   refine Run.call0 (l := [.tmp 14, .tmp 16]) rfl rfl rfl (lt rfl) (rholds_c_h rfl) ?_
   refine Run.on rfl rfl rfl h4 ?_
   refine Run.val (lt rfl) (Y.move rfl) ?_
   rcases Bool.eq_false_or_eq_true (Pr.holds r q.from_) with h5 | h5
   ·have g5 := h5
    try simp only [kb] at g5
    refine Run.on rfl rfl rfl h5 ?_
    refine Run.val (lt rfl) (Y.loadAgg rfl Audit2_ag47 (Kn.at 1 rfl) rfl) ?_
    refine Run.on rfl rfl rfl h5 ?_
    refine Run.call0 (l := [.tmp 19]) rfl rfl rfl (lt rfl) (rright_c_h rfl) ?_
    refine Run.on rfl rfl rfl h4 ?_
    refine Run.val (lt rfl) (Y.pick_t rfl h5 rfl) ?_
    refine Run.val (lt rfl) (Y.pick_f rfl h4 rfl) ?_
    refine Run.val (lt rfl) (Y.assign rfl) ?_
    refine Run.to_end ?_
    refine Ex.go ?_
    refine Tr.to_ret ?_
    refine Ex.keep [] ?_
    exact Ex.ret1 rfl rfl  ⟨congrArg Value.bool (by rw [← Pr.rmeet_eq]; unfold Pr.rmeet; simp_all), rfl, rfl⟩
   ·have g5 := h5
    try simp only [kb] at g5
    refine Run.off rfl rfl rfl h5 rfl (lt rfl) ?_
    refine Run.off rfl rfl rfl h5 rfl (lt rfl) ?_
    refine Run.on rfl rfl rfl h4 ?_
    refine Run.val (lt rfl) (Y.pick_f rfl h5 rfl) ?_
    refine Run.val (lt rfl) (Y.pick_f rfl h4 rfl) ?_
    refine Run.val (lt rfl) (Y.assign rfl) ?_
    refine Run.to_end ?_
    refine Ex.go ?_
    refine Tr.to_ret ?_
    refine Ex.keep [] ?_
    exact Ex.ret1 rfl rfl  ⟨congrArg Value.bool (by rw [← Pr.rmeet_eq]; unfold Pr.rmeet; simp_all), rfl, rfl⟩
 ·have g3 := h3
  try simp only [kb] at g3
  refine Run.off rfl rfl rfl h3 rfl (lt rfl) ?_
  refine Run.off rfl rfl rfl h3 rfl (lt rfl) ?_
  refine Run.val (lt rfl) (Y.pick_f rfl h3 rfl) ?_
  refine Run.val (lt rfl) (Y.move rfl) ?_
  refine Run.on rfl rfl rfl rfl ?_
  refine Run.val (lt rfl) (Y.loadAgg rfl Audit2_ag47 (Kn.at 0 rfl) rfl) ?_
  refine Run.on rfl rfl rfl rfl ?_
  refine Run.val (lt rfl) (Y.fieldAddr rfl Audit2_fo47_3) ?_
  refine Run.on rfl rfl rfl rfl ?_
  refine Run.val (lt rfl) (Y.load rfl Audit2_ts3 (Kn.at 1 rfl) rfl) ?_
  refine Run.on rfl rfl rfl rfl ?_
  refine Run.call0 (l := [.tmp 14, .tmp 16]) rfl rfl rfl (lt rfl) (rholds_c_h rfl) ?_
  refine Run.on rfl rfl rfl rfl ?_
  refine Run.val (lt rfl) (Y.move rfl) ?_
  rcases Bool.eq_false_or_eq_true (Pr.holds r q.from_) with h6 | h6
  ·have g6 := h6
   try simp only [kb] at g6
   refine Run.on rfl rfl rfl h6 ?_
   refine Run.val (lt rfl) (Y.loadAgg rfl Audit2_ag47 (Kn.at 1 rfl) rfl) ?_
   refine Run.on rfl rfl rfl h6 ?_
   refine Run.call0 (l := [.tmp 19]) rfl rfl rfl (lt rfl) (rright_c_h rfl) ?_
   refine Run.on rfl rfl rfl rfl ?_
   refine Run.val (lt rfl) (Y.pick_t rfl h6 rfl) ?_
   refine Run.val (lt rfl) (Y.pick_f rfl rfl rfl) ?_
   refine Run.val (lt rfl) (Y.assign rfl) ?_
   refine Run.to_end ?_
   refine Ex.go ?_
   refine Tr.to_ret ?_
   refine Ex.keep [] ?_
   exact Ex.ret1 rfl rfl  ⟨congrArg Value.bool (by rw [← Pr.rmeet_eq]; unfold Pr.rmeet; simp_all), rfl, rfl⟩
  ·have g6 := h6
   try simp only [kb] at g6
   refine Run.off rfl rfl rfl h6 rfl (lt rfl) ?_
   refine Run.off rfl rfl rfl h6 rfl (lt rfl) ?_
   refine Run.on rfl rfl rfl rfl ?_
   refine Run.val (lt rfl) (Y.pick_f rfl h6 rfl) ?_
   refine Run.val (lt rfl) (Y.pick_f rfl rfl rfl) ?_
   refine Run.val (lt rfl) (Y.assign rfl) ?_
   refine Run.to_end ?_
   refine Ex.go ?_
   refine Tr.to_ret ?_
   refine Ex.keep [] ?_
   exact Ex.ret1 rfl rfl  ⟨congrArg Value.bool (by rw [← Pr.rmeet_eq]; unfold Pr.rmeet; simp_all), rfl, rfl⟩

theorem clash_c_h {q r : Pr} {V : Vw} {H : Hp} {v w : Value} (hq : v = .agg #[.int .i64 q.srv, .int .u32 q.addr, .string q.client, .int .i64 q.from_, .int .i64 q.till]) (hr : w = .agg #[.int .i64 r.srv, .int .u32 r.addr, .string r.client, .int .i64 r.from_, .int .i64 r.till]) : Does Try.prog 73 [v, w] V H (Pv (.bool (Pr.clash q r)) V H) := by subst hq hr; exact clash_c.frame
theorem meet_c_h {q r : Pr} {V : Vw} {H : Hp} {v w : Value} (hq : v = .agg #[.int .i64 q.srv, .int .u32 q.addr, .string q.client, .int .i64 q.from_, .int .i64 q.till]) (hr : w = .agg #[.int .i64 r.srv, .int .u32 r.addr, .string r.client, .int .i64 r.from_, .int .i64 r.till]) : Does Try.prog 74 [v, w] V H (Pv (.bool (Pr.meet q r)) V H) := by subst hq hr; exact meet_c.frame

theorem clos_c {q r : Pr} {b : Nat} {V : Vw} : Does Try.prog 72 [.agg #[.int .i64 q.srv, .int .u32 q.addr, .string q.client, .int .i64 q.from_, .int .i64 q.till], .pointer (some ⟨b, 0, none⟩)] V [[(b, .cells #[.int .i64 r.srv, .int .u32 r.addr, .string r.client, .int .i64 r.from_, .int .i64 r.till] 47 (0, 0))]] (Pv (.bool (Pr.clash q r)) V [[(b, .cells #[.int .i64 r.srv, .int .u32 r.addr, .string r.client, .int .i64 r.from_, .int .i64 r.till] 47 (0, 0))]]) := by
 refine Does.intro Try.func72 rfl rfl (le rfl) (fun B => ?_)
 refine Tr.seq ?_
 refine Tr.region ?_
 refine Run.box rfl (lt rfl) (fun b1 => ?_)
 refine Run.val (lt rfl) (Y.assign rfl) ?_
 refine Run.to_end ?_
 refine Ex.go ?_
 refine Tr.seq ?_
 refine Tr.region ?_
 refine Run.val (lt rfl) (Y.loadAgg rfl Audit2_ag47 (Kn.at 0 rfl) rfl) ?_
 refine Run.val (lt rfl) (Y.loadAgg rfl Audit2_ag47 (Kn.at 1 rfl) rfl) ?_
 refine Run.call0 (l := [.tmp 4, .tmp 5]) rfl rfl rfl (lt rfl) (clash_c_h rfl rfl) ?_
 refine Run.val (lt rfl) (Y.assign rfl) ?_
 refine Run.to_end ?_
 refine Ex.go ?_
 refine Tr.to_ret ?_
 refine Ex.keep [1] ?_
 exact Ex.ret1 rfl rfl  ⟨rfl, rfl, rfl⟩

theorem clashes_c {V : Vw} {l : List Pr} {p : Option Addr} {c : Nat} (hv : Rd V [] 5 (.slice p l.length c) l.length (l.flatMap Pr.cells)) (hl : l.length ≤ 60)  : Does Try.prog 27 [.slice p l.length c] V [] (fun v V' H' => V' = V ∧ H' = [] ∧ ∃ a b, v = .tuple #[.int .i64 a, .int .i64 b] ∧ Pr.First l a b) := by
 have hcc : l.length ≤ c := by obtain ⟨_, _, he, h⟩ := hv.form; cases he; exact h
 refine Does.intro Try.func27 rfl rfl (le rfl) (fun B => ?_)
 refine Tr.seq ?_
 refine Tr.region ?_
 refine Run.val (lt rfl) (Y.assign rfl) ?_
 refine Run.val (lt rfl) (Y.assign rfl) ?_
 refine Run.to_end ?_
 refine Ex.go ?_
 refine Tr.seq ?_
 refine Tr.seq ?_
 refine Tr.region ?_
 refine Run.val (lt rfl) (Y.move rfl) ?_
 refine Run.val (lt rfl) (Y.lenSl rfl Audit2_es40) ?_
 refine Run.val (lt rfl) (Y.move rfl) ?_
 refine Run.to_end ?_
 refine Ex.go ?_
 refine Tr.block ?_
 refine Tr.loop (X := Nat) (fun z0 => V) (fun z0 => []) (fun z0 => [(0, .slice p l.length c), (7, .slice p l.length c), (8, .int .i64 ((l.length : Nat) : Int)), (9, .int .i64 (z0 : Int))]) (fun z0 => z0 ≤ l.length ∧ ∀ j, j < z0 → ∀ i, i < j → Pr.clash (l.getD i Pr.dflt) (l.getD j Pr.dflt) = false) (fun z0 => l.length - z0) (0 : Nat) ⟨Nat.zero_le _, fun j hj => absurd hj (Nat.not_lt_zero j)⟩ (fun a w i => ⟨i.1.sub (subB_cons (by first | rfl | exact congrArg (fun z => some (Value.int _ z)) (by omega)) (subB_cons (by first | rfl | exact congrArg (fun z => some (Value.int _ z)) (by omega)) (subB_cons (by first | rfl | exact congrArg (fun z => some (Value.int _ z)) (by omega)) (subB_cons (by first | rfl | exact congrArg (fun z => some (Value.int _ z)) (by omega)) (subB_nil _))))), i.2⟩) ?_
 rintro i1 ⟨hi, hn⟩
 refine Tr.seq ?_
 refine Tr.region ?_
 refine Run.val (lt rfl) (Y.int rfl rfl rfl) ?_
 refine Run.to_end ?_
 refine Ex.go ?_
 refine Tr.seq ?_
 rcases Bool.eq_false_or_eq_true (decide ((i1 : Int) < ((l.length : Nat) : Int))) with h1 | h1
 ·have g1 := h1
  try simp only [kb] at g1
  refine Tr.cond_t rfl h1 ?_
  refine Tr.to_end ?_
  refine Ex.go ?_
  refine Tr.seq ?_
  refine Tr.block ?_
  refine Tr.seq ?_
  refine Tr.region ?_
  refine Run.val (lt rfl) (Y.move rfl) ?_
  refine Run.val (lt rfl) (Y.idxR i1 rfl rfl Audit2_es40 hv.of_nil (by omega) (by omega)) ?_
  refine Run.val (lt rfl) (Y.ldRA (vs := [.int .i64 ((l.getD i1 Pr.dflt).srv), .int .u32 ((l.getD i1 Pr.dflt).addr), .string ((l.getD i1 Pr.dflt).client), .int .i64 ((l.getD i1 Pr.dflt).from_), .int .i64 ((l.getD i1 Pr.dflt).till)]) rfl Audit2_ag47 hv.of_nil rfl (by decide) (fun o ho => flatm_atA Pr.len (by omega) Pr.dflt o ho)) ?_
  refine Run.alloc Audit2_zo47 (lt rfl) (fun b2 => ?_)
  refine Run.val (lt rfl) (Y.assign rfl) ?_
  refine Run.store (s := [(b2, .cells #[.int .i64 ((l.getD i1 Pr.dflt).srv), .int .u32 ((l.getD i1 Pr.dflt).addr), .string ((l.getD i1 Pr.dflt).client), .int .i64 ((l.getD i1 Pr.dflt).from_), .int .i64 ((l.getD i1 Pr.dflt).till)] 47 (0, 0))]) rfl rfl Audit2_sz47 (i := 0) rfl rfl (le rfl) rfl rfl ?_
  refine Run.to_end ?_
  refine Ex.go ?_
  refine Tr.seq ?_
  refine Tr.region ?_
  refine Run.val (lt rfl) (Y.move rfl) ?_
  refine Run.val (lt rfl) (Y.move rfl) ?_
  refine Run.val (lt rfl) (Y.slice (l := 0) (m := i1) rfl Audit2_es40 rfl rfl (by omega) (by omega)) ?_
  refine Run.val (lt rfl) (Y.makeFunc (l := []) (l' := [.tmp 5]) rfl rfl) ?_
  have hln : ((l.drop 0).take (i1 - 0)).length = i1 - 0 := by rw [List.length_take, List.length_drop]; omega
  refine Run.callW (l := [.tmp 16, .tmp 17]) rfl rfl rfl (lt rfl) (index_pr_h (l := (l.drop 0).take (i1 - 0)) (pb := (fun p => Pr.clash p (l.getD i1 Pr.dflt))) (caps := [.pointer (some ⟨b2, 0, none⟩)]) (Rd.cut Pr.len hv.of_nil 0 i1 (by omega) (by omega)) (by omega) (fun q => clos_c (r := (l.getD i1 Pr.dflt)))) (fun v9 V9 H9 hle9 hR9 => ?_)
  obtain ⟨rfl, rfl, rfl⟩ := hR9
  refine Run.heapTo (H' := [[(b2, .cells #[.int .i64 ((l.getD i1 Pr.dflt).srv), .int .u32 ((l.getD i1 Pr.dflt).addr), .string ((l.getD i1 Pr.dflt).client), .int .i64 ((l.getD i1 Pr.dflt).from_), .int .i64 ((l.getD i1 Pr.dflt).till)] 47 (0, 0))]]) rfl ?_
  refine Run.val (lt rfl) (Y.assign rfl) ?_
  refine Run.to_end ?_
  refine Ex.go ?_
  refine Tr.seq ?_
  refine Tr.region ?_
  have hcs := ixf_cases (fun p => Pr.clash p (l.getD i1 Pr.dflt)) ((l.drop 0).take (i1 - 0)) Pr.dflt
  rw [hln] at hcs
  simp only [List.drop_zero, Nat.sub_zero] at hcs
  refine Run.val (lt rfl) (Y.move rfl) ?_
  refine Run.val (lt rfl) (Y.int rfl rfl rfl) ?_
  refine Run.to_end ?_
  refine Ex.go ?_
  rcases Bool.eq_false_or_eq_true (decide ((ixf (fun p => Pr.clash p (l.getD i1 Pr.dflt)) ((l.drop 0).take (i1 - 0))) ≥ 0)) with h3 | h3
  ·have g3 := h3
   try simp only [kb] at g3
   rcases hcs with ⟨hx, hxn⟩ | ⟨ix, hx, hxl, hxt, hxn⟩
   case inl => (simp only [List.drop_zero, Nat.sub_zero] at g3; omega)
   refine Tr.cond_t rfl h3 ?_
   refine Tr.seq ?_
   refine Tr.region ?_
   refine Run.val (lt rfl) (Y.move rfl) ?_
   refine Run.val (lt rfl) (Y.move rfl) ?_
   refine Run.val (lt rfl) (Y.assign rfl) ?_
   refine Run.val (lt rfl) (Y.assign rfl) ?_
   refine Run.to_end ?_
   refine Ex.go ?_
   refine Tr.to_ret ?_
   refine Ex.ret_block ?_
   refine Ex.ret_then ?_
   refine Ex.ret_then ?_
   refine Ex.ret_block ?_
   refine Ex.ret_then ?_
   refine Ex.keep [] ?_
   exact Ex.ret2 rfl rfl rfl  ⟨rfl, rfl, _, _, rfl, .inr ⟨ix, i1, by simp only [List.drop_zero, Nat.sub_zero]; exact hx, rfl, hxl, by omega, by rw [take_getD _ hxl] at hxt; exact hxt, fun i hi => (by have := hxn i hi; rw [take_getD _ (by omega)] at this; exact this), hn⟩⟩
  ·have g3 := h3
   try simp only [kb] at g3
   rcases hcs with ⟨hx, hxn⟩ | ⟨ix, hx, hxl, hxt, hxn⟩
   case inr => (simp only [List.drop_zero, Nat.sub_zero] at g3; omega)
   refine Tr.cond_f rfl h3 ?_
   refine Tr.to_end ?_
   refine Ex.end_block ?_
   refine Ex.go ?_
   refine Tr.region ?_
   refine Run.val (lt rfl) (Y.add rfl rfl (by omega)) ?_
   refine Run.val (lt rfl) (Y.move rfl) ?_
   refine Run.to_end ?_
   refine Ex.keep [] ?_
   exact Ex.round (i1 + 1 : Nat) ⟨by omega, upto_succ hn (fun i hi => by have := hxn i hi; rw [take_getD _ hi] at this; exact this)⟩ (by omega) rfl rfl (subB_cons (by first | rfl | exact congrArg (fun z => some (Value.int _ z)) (by omega)) (subB_cons (by first | rfl | exact congrArg (fun z => some (Value.int _ z)) (by omega)) (subB_cons (by first | rfl | exact congrArg (fun z => some (Value.int _ z)) (by omega)) (subB_cons (by first | rfl | exact congrArg (fun z => some (Value.int _ z)) (by omega)) (subB_nil _)))))
 ·have g1 := h1
  try simp only [kb] at g1
  refine Tr.cond_f rfl h1 ?_
  refine Tr.to_exit ?_
  refine Ex.exit_then ?_
  refine Ex.exit_then ?_
  refine Ex.exit_in ?_
  refine Ex.go ?_
  refine Tr.seq ?_
  refine Tr.region ?_
  refine Run.val (lt rfl) (Y.assign rfl) ?_
  refine Run.val (lt rfl) (Y.assign rfl) ?_
  refine Run.to_end ?_
  refine Ex.go ?_
  refine Tr.to_ret ?_
  refine Ex.keep [] ?_
  exact Ex.ret2 rfl rfl rfl  ⟨rfl, rfl, _, _, rfl, .inl ⟨rfl, rfl, fun j hj => hn j (by omega)⟩⟩

theorem rclashes_c {V : Vw} {l : List Pr} {p : Option Addr} {c : Nat} (hv : Rd V [] 5 (.slice p l.length c) l.length (l.flatMap Pr.cells)) (hl : l.length ≤ 60)  : Does Try.prog 28 [.slice p l.length c] V [] (fun v V' H' => V' = V ∧ H' = [] ∧ ∃ a b, v = .tuple #[.int .i64 a, .int .i64 b] ∧ Pr.First l a b) := by
 refine Does.intro Try.func28 rfl rfl (le rfl) (fun B => ?_)
 refine Tr.seq ?_
 refine Tr.region ?_
 refine Run.val (lt rfl) (Y.assign rfl) ?_
 refine Run.val (lt rfl) (Y.assign rfl) ?_
 refine Run.to_end ?_
 refine Ex.go ?_
 refine Tr.seq ?_
 refine Tr.seq ?_
 refine Tr.region ?_
 refine Run.val (lt rfl) (Y.assign rfl) ?_
 refine Run.to_end ?_
 refine Ex.go ?_
 refine Tr.block ?_
 refine Tr.loop (X := Nat) (fun z0 => V) (fun z0 => []) (fun z0 => [(0, .slice p l.length c), (4, .int .i64 (z0 : Int))]) (fun z0 => z0 ≤ l.length ∧ ∀ j, j < z0 → ∀ i, i < j → Pr.clash (l.getD i Pr.dflt) (l.getD j Pr.dflt) = false) (fun z0 => l.length - z0) (0 : Nat) ⟨Nat.zero_le _, fun j hj => absurd hj (Nat.not_lt_zero j)⟩ (fun a w i => ⟨i.1.sub (subB_cons (by first | rfl | exact congrArg (fun z => some (Value.int _ z)) (by omega)) (subB_cons (by first | rfl | exact congrArg (fun z => some (Value.int _ z)) (by omega)) (subB_nil _))), i.2⟩) ?_
 rintro i1 ⟨hi, hn⟩
 refine Tr.seq ?_
 refine Tr.seq ?_
 refine Tr.region ?_
 refine Run.val (lt rfl) (Y.move rfl) ?_
 refine Run.val (lt rfl) (Y.move rfl) ?_
 refine Run.val (lt rfl) (Y.lenSl rfl Audit2_es40) ?_
 refine Run.val (lt rfl) (Y.int rfl rfl rfl) ?_
 refine Run.to_end ?_
 refine Ex.go ?_
 rcases Bool.eq_false_or_eq_true (decide ((i1 : Int) < ((l.length : Nat) : Int))) with h1 | h1
 ·have g1 := h1
  try simp only [kb] at g1
  refine Tr.cond_t rfl h1 ?_
  refine Tr.to_end ?_
  refine Ex.go ?_
  refine Tr.seq ?_
  refine Tr.block ?_
  refine Tr.seq ?_
  refine Tr.region ?_
  refine Run.val (lt rfl) (Y.assign rfl) ?_
  refine Run.to_end ?_
  refine Ex.go ?_
  refine Tr.block ?_
  refine Tr.loop (X := Nat) (fun z0 => V) (fun z0 => []) (fun z0 => [(0, .slice p l.length c), (4, .int .i64 (i1 : Int)), (5, .int .i64 (z0 : Int))]) (fun z0 => z0 ≤ i1 ∧ ∀ i, i < z0 → Pr.clash (l.getD i Pr.dflt) (l.getD i1 Pr.dflt) = false) (fun z0 => i1 - z0) (0 : Nat) ⟨Nat.zero_le _, fun j hj => absurd hj (Nat.not_lt_zero j)⟩ (fun a w i => ⟨i.1.sub (subB_cons (by first | rfl | exact congrArg (fun z => some (Value.int _ z)) (by omega)) (subB_cons (by first | rfl | exact congrArg (fun z => some (Value.int _ z)) (by omega)) (subB_cons (by first | rfl | exact congrArg (fun z => some (Value.int _ z)) (by omega)) (subB_nil _)))), i.2⟩) ?_
  rintro a1 ⟨hal, hm⟩
  refine Tr.seq ?_
  refine Tr.seq ?_
  refine Tr.region ?_
  refine Run.val (lt rfl) (Y.move rfl) ?_
  refine Run.val (lt rfl) (Y.move rfl) ?_
  refine Run.val (lt rfl) (Y.int rfl rfl rfl) ?_
  refine Run.to_end ?_
  refine Ex.go ?_
  rcases Bool.eq_false_or_eq_true (decide ((a1 : Int) < (i1 : Int))) with h2 | h2
  ·have g2 := h2
   try simp only [kb] at g2
   refine Tr.cond_t rfl h2 ?_
   refine Tr.to_end ?_
   refine Ex.go ?_
   refine Tr.seq ?_
   refine Tr.block ?_
   refine Tr.seq ?_
   refine Tr.quiet Audit2_mo (by kernel_rfl) ?_
   refine RunQ.val (lt rfl) (Y.move rfl) ?_
   refine RunQ.val (lt rfl) (Y.move rfl) ?_
   refine RunQ.val (lt rfl) (Y.idxR a1 rfl rfl Audit2_es40 hv.of_nil (by omega) (by omega)) ?_
   refine RunQ.val (lt rfl) (Y.fieldR rfl Audit2_fo47_1 hv.of_nil (by omega)) ?_
   refine RunQ.val (lt rfl) (Y.ldR rfl Audit2_ts37 hv.of_nil (flatm_at Pr.len (by omega) Pr.dflt (by decide) rfl)) ?_
   refine RunQ.val (lt rfl) (Y.move rfl) ?_
   refine RunQ.val (lt rfl) (Y.move rfl) ?_
   refine RunQ.val (lt rfl) (Y.idxR i1 rfl rfl Audit2_es40 hv.of_nil (by omega) (by omega)) ?_
   refine RunQ.val (lt rfl) (Y.fieldR rfl Audit2_fo47_1 hv.of_nil (by omega)) ?_
   refine RunQ.val (lt rfl) (Y.ldR rfl Audit2_ts37 hv.of_nil (flatm_at Pr.len (by omega) Pr.dflt (by decide) rfl)) ?_
   refine RunQ.val (lt rfl) (Y.int rfl rfl rfl) ?_
   refine RunQ.val (lt rfl) (Y.move rfl) ?_
   rcases Bool.eq_false_or_eq_true (((l.getD a1 Pr.dflt).addr) == ((l.getD i1 Pr.dflt).addr)) with h3 | h3
   ·have g3 := h3
    try simp only [kb] at g3
    refine RunQ.on rfl rfl rfl h3 ?_
    refine RunQ.val (lt rfl) (Y.move rfl) ?_
    refine RunQ.on rfl rfl rfl h3 ?_
    refine RunQ.val (lt rfl) (Y.move rfl) ?_
    refine RunQ.on rfl rfl rfl h3 ?_
    refine RunQ.val (lt rfl) (Y.idxR a1 rfl rfl Audit2_es40 hv.of_nil (by omega) (by omega)) ?_
    refine RunQ.on rfl rfl rfl h3 ?_
    refine RunQ.val (lt rfl) (Y.fieldR rfl Audit2_fo47_2 hv.of_nil (by omega)) ?_
    refine RunQ.on rfl rfl rfl h3 ?_
    refine RunQ.val (lt rfl) (Y.ldR rfl Audit2_ts9 hv.of_nil (flatm_at Pr.len (by omega) Pr.dflt (by decide) rfl)) ?_
    refine RunQ.on rfl rfl rfl h3 ?_
    refine RunQ.val (lt rfl) (Y.move rfl) ?_
    refine RunQ.on rfl rfl rfl h3 ?_
    refine RunQ.val (lt rfl) (Y.move rfl) ?_
    refine RunQ.on rfl rfl rfl h3 ?_
    refine RunQ.val (lt rfl) (Y.idxR i1 rfl rfl Audit2_es40 hv.of_nil (by omega) (by omega)) ?_
    refine RunQ.on rfl rfl rfl h3 ?_
    refine RunQ.val (lt rfl) (Y.fieldR rfl Audit2_fo47_2 hv.of_nil (by omega)) ?_
    refine RunQ.on rfl rfl rfl h3 ?_
    refine RunQ.val (lt rfl) (Y.ldR rfl Audit2_ts9 hv.of_nil (flatm_at Pr.len (by omega) Pr.dflt (by decide) rfl)) ?_
    refine RunQ.on rfl rfl rfl h3 ?_
    refine RunQ.val (lt rfl) (Y.neStr rfl rfl) ?_
    refine RunQ.val (lt rfl) (Y.pick_t rfl h3 rfl) ?_
    refine RunQ.val (lt rfl) (Y.move rfl) ?_
    rcases Bool.eq_false_or_eq_true (((l.getD a1 Pr.dflt).client).toList == ((l.getD i1 Pr.dflt).client).toList) with h4 | h4
    ·have g4 := h4
     try simp only [kb] at g4
     refine RunQ.off rfl rfl rfl (congrArg Bool.not h4) rfl (lt rfl) ?_
     refine RunQ.off rfl rfl rfl (congrArg Bool.not h4) rfl (lt rfl) ?_
     refine RunQ.off rfl rfl rfl (congrArg Bool.not h4) rfl (lt rfl) ?_
     refine RunQ.off rfl rfl rfl (congrArg Bool.not h4) rfl (lt rfl) ?_
     refine RunQ.off rfl rfl rfl (congrArg Bool.not h4) rfl (lt rfl) ?_
     refine RunQ.off rfl rfl rfl (congrArg Bool.not h4) rfl (lt rfl) ?_
     refine RunQ.off rfl rfl rfl (congrArg Bool.not h4) rfl (lt rfl) ?_
     refine RunQ.off rfl rfl rfl (congrArg Bool.not h4) rfl (lt rfl) ?_
     refine RunQ.off rfl rfl rfl (congrArg Bool.not h4) rfl (lt rfl) ?_
     refine RunQ.val (lt rfl) (Y.pick_f rfl (congrArg Bool.not h4) rfl) ?_
     refine RunQ.to_end ?_
     refine Ex.go ?_
     refine Tr.cond_f rfl rfl ?_
     refine Tr.to_end ?_
     refine Ex.end_block ?_
     refine Ex.go ?_
     refine Tr.region ?_
     refine Run.val (lt rfl) (Y.move rfl) ?_
     refine Run.val (lt rfl) (Y.add rfl rfl (by omega)) ?_
     refine Run.val (lt rfl) (Y.assign rfl) ?_
     refine Run.to_end ?_
     exact Ex.round (a1 + 1 : Nat) ⟨by omega, upto_succ hm (by unfold Pr.clash; simp_all)⟩ (by omega) rfl rfl (subB_cons (by first | rfl | exact congrArg (fun z => some (Value.int _ z)) (by omega)) (subB_cons (by first | rfl | exact congrArg (fun z => some (Value.int _ z)) (by omega)) (subB_cons (by first | rfl | exact congrArg (fun z => some (Value.int _ z)) (by omega)) (subB_nil _))))
    ·have g4 := h4
     try simp only [kb] at g4
     refine RunQ.on rfl rfl rfl (congrArg Bool.not h4) ?_
     refine RunQ.val (lt rfl) (Y.move rfl) ?_
     refine RunQ.on rfl rfl rfl (congrArg Bool.not h4) ?_
     refine RunQ.val (lt rfl) (Y.move rfl) ?_
     refine RunQ.on rfl rfl rfl (congrArg Bool.not h4) ?_
     refine RunQ.val (lt rfl) (Y.idxR a1 rfl rfl Audit2_es40 hv.of_nil (by omega) (by omega)) ?_
     refine RunQ.on rfl rfl rfl (congrArg Bool.not h4) ?_
     refine RunQ.val (lt rfl) (Y.ldRA (vs := [.int .i64 ((l.getD a1 Pr.dflt).srv), .int .u32 ((l.getD a1 Pr.dflt).addr), .string ((l.getD a1 Pr.dflt).client), .int .i64 ((l.getD a1 Pr.dflt).from_), .int .i64 ((l.getD a1 Pr.dflt).till)]) rfl Audit2_ag47 hv.of_nil rfl (by decide) (fun o ho => flatm_atA Pr.len (by omega) Pr.dflt o ho)) ?_
     refine RunQ.on rfl rfl rfl (congrArg Bool.not h4) ?_
     refine RunQ.val (lt rfl) (Y.move rfl) ?_
     refine RunQ.on rfl rfl rfl (congrArg Bool.not h4) ?_
     refine RunQ.val (lt rfl) (Y.move rfl) ?_
     refine RunQ.on rfl rfl rfl (congrArg Bool.not h4) ?_
     refine RunQ.val (lt rfl) (Y.idxR i1 rfl rfl Audit2_es40 hv.of_nil (by omega) (by omega)) ?_
     refine RunQ.on rfl rfl rfl (congrArg Bool.not h4) ?_
     refine RunQ.val (lt rfl) (Y.ldRA (vs := [.int .i64 ((l.getD i1 Pr.dflt).srv), .int .u32 ((l.getD i1 Pr.dflt).addr), .string ((l.getD i1 Pr.dflt).client), .int .i64 ((l.getD i1 Pr.dflt).from_), .int .i64 ((l.getD i1 Pr.dflt).till)]) rfl Audit2_ag47 hv.of_nil rfl (by decide) (fun o ho => flatm_atA Pr.len (by omega) Pr.dflt o ho)) ?_
     refine RunQ.on rfl rfl rfl (congrArg Bool.not h4) ?_
     refine RunQ.call0 (l := [.tmp 45, .tmp 49]) rfl rfl rfl (lt rfl) (meet_c_h rfl rfl) ?_
     refine RunQ.val (lt rfl) (Y.pick_t rfl (congrArg Bool.not h4) rfl) ?_
     refine RunQ.to_end ?_
     refine Ex.go ?_
     rcases Bool.eq_false_or_eq_true (Pr.meet (l.getD a1 Pr.dflt) (l.getD i1 Pr.dflt)) with h5 | h5
     ·have g5 := h5
      try simp only [kb] at g5
      refine Tr.cond_t rfl h5 ?_
      refine Tr.seq ?_
      refine Tr.region ?_
      refine Run.val (lt rfl) (Y.move rfl) ?_
      refine Run.val (lt rfl) (Y.move rfl) ?_
      refine Run.val (lt rfl) (Y.assign rfl) ?_
      refine Run.val (lt rfl) (Y.assign rfl) ?_
      refine Run.to_end ?_
      refine Ex.go ?_
      refine Tr.to_ret ?_
      refine Ex.ret_block ?_
      refine Ex.ret_then ?_
      refine Ex.ret_then ?_
      refine Ex.ret_block ?_
      refine Ex.ret_block ?_
      refine Ex.ret_then ?_
      refine Ex.ret_then ?_
      refine Ex.ret_block ?_
      refine Ex.ret_then ?_
      refine Ex.keep [] ?_
      exact Ex.ret2 rfl rfl rfl  ⟨rfl, rfl, _, _, rfl, .inr ⟨a1, i1, rfl, rfl, by omega, by omega, by unfold Pr.clash; simp_all, hm, hn⟩⟩
     ·have g5 := h5
      try simp only [kb] at g5
      refine Tr.cond_f rfl h5 ?_
      refine Tr.to_end ?_
      refine Ex.end_block ?_
      refine Ex.go ?_
      refine Tr.region ?_
      refine Run.val (lt rfl) (Y.move rfl) ?_
      refine Run.val (lt rfl) (Y.add rfl rfl (by omega)) ?_
      refine Run.val (lt rfl) (Y.assign rfl) ?_
      refine Run.to_end ?_
      exact Ex.round (a1 + 1 : Nat) ⟨by omega, upto_succ hm (by unfold Pr.clash; simp_all)⟩ (by omega) rfl rfl (subB_cons (by first | rfl | exact congrArg (fun z => some (Value.int _ z)) (by omega)) (subB_cons (by first | rfl | exact congrArg (fun z => some (Value.int _ z)) (by omega)) (subB_cons (by first | rfl | exact congrArg (fun z => some (Value.int _ z)) (by omega)) (subB_nil _))))
   ·have g3 := h3
    try simp only [kb] at g3
    refine RunQ.off rfl rfl rfl h3 rfl (lt rfl) ?_
    refine RunQ.off rfl rfl rfl h3 rfl (lt rfl) ?_
    refine RunQ.off rfl rfl rfl h3 rfl (lt rfl) ?_
    refine RunQ.off rfl rfl rfl h3 rfl (lt rfl) ?_
    refine RunQ.off rfl rfl rfl h3 rfl (lt rfl) ?_
    refine RunQ.off rfl rfl rfl h3 rfl (lt rfl) ?_
    refine RunQ.off rfl rfl rfl h3 rfl (lt rfl) ?_
    refine RunQ.off rfl rfl rfl h3 rfl (lt rfl) ?_
    refine RunQ.off rfl rfl rfl h3 rfl (lt rfl) ?_
    refine RunQ.off rfl rfl rfl h3 rfl (lt rfl) ?_
    refine RunQ.off rfl rfl rfl h3 rfl (lt rfl) ?_
    refine RunQ.val (lt rfl) (Y.pick_f rfl h3 rfl) ?_
    refine RunQ.val (lt rfl) (Y.move rfl) ?_
    refine RunQ.off rfl rfl rfl rfl rfl (lt rfl) ?_
    refine RunQ.off rfl rfl rfl rfl rfl (lt rfl) ?_
    refine RunQ.off rfl rfl rfl rfl rfl (lt rfl) ?_
    refine RunQ.off rfl rfl rfl rfl rfl (lt rfl) ?_
    refine RunQ.off rfl rfl rfl rfl rfl (lt rfl) ?_
    refine RunQ.off rfl rfl rfl rfl rfl (lt rfl) ?_
    refine RunQ.off rfl rfl rfl rfl rfl (lt rfl) ?_
    refine RunQ.off rfl rfl rfl rfl rfl (lt rfl) ?_
    refine RunQ.off rfl rfl rfl rfl rfl (lt rfl) ?_
    refine RunQ.val (lt rfl) (Y.pick_f rfl rfl rfl) ?_
    refine RunQ.to_end ?_
    refine Ex.go ?_
    refine Tr.cond_f rfl rfl ?_
    refine Tr.to_end ?_
    refine Ex.end_block ?_
    refine Ex.go ?_
    refine Tr.region ?_
    refine Run.val (lt rfl) (Y.move rfl) ?_
    refine Run.val (lt rfl) (Y.add rfl rfl (by omega)) ?_
    refine Run.val (lt rfl) (Y.assign rfl) ?_
    refine Run.to_end ?_
    exact Ex.round (a1 + 1 : Nat) ⟨by omega, upto_succ hm (by unfold Pr.clash; simp_all)⟩ (by omega) rfl rfl (subB_cons (by first | rfl | exact congrArg (fun z => some (Value.int _ z)) (by omega)) (subB_cons (by first | rfl | exact congrArg (fun z => some (Value.int _ z)) (by omega)) (subB_cons (by first | rfl | exact congrArg (fun z => some (Value.int _ z)) (by omega)) (subB_nil _))))
  ·have g2 := h2
   try simp only [kb] at g2
   refine Tr.cond_f rfl h2 ?_
   refine Tr.to_exit ?_
   refine Ex.exit_then ?_
   refine Ex.exit_then ?_
   refine Ex.exit_in ?_
   refine Ex.end_block ?_
   refine Ex.go ?_
   refine Tr.region ?_
   refine Run.val (lt rfl) (Y.move rfl) ?_
   refine Run.val (lt rfl) (Y.add rfl rfl (by omega)) ?_
   refine Run.val (lt rfl) (Y.assign rfl) ?_
   refine Run.to_end ?_
   exact Ex.round (i1 + 1 : Nat) ⟨by omega, upto_succ hn (fun i hi => hm i (by omega))⟩ (by omega) rfl rfl (subB_cons (by first | rfl | exact congrArg (fun z => some (Value.int _ z)) (by omega)) (subB_cons (by first | rfl | exact congrArg (fun z => some (Value.int _ z)) (by omega)) (subB_nil _)))
 ·have g1 := h1
  try simp only [kb] at g1
  refine Tr.cond_f rfl h1 ?_
  refine Tr.to_exit ?_
  refine Ex.exit_then ?_
  refine Ex.exit_then ?_
  refine Ex.exit_in ?_
  refine Ex.go ?_
  refine Tr.seq ?_
  refine Tr.region ?_
  refine Run.val (lt rfl) (Y.assign rfl) ?_
  refine Run.val (lt rfl) (Y.assign rfl) ?_
  refine Run.to_end ?_
  refine Ex.go ?_
  refine Tr.to_ret ?_
  refine Ex.keep [] ?_
  exact Ex.ret2 rfl rfl rfl  ⟨rfl, rfl, _, _, rfl, .inl ⟨rfl, rfl, fun j hj => hn j (by omega)⟩⟩

theorem end_c {V : Vw} {l : List Pr} {p : Option Addr} {c : Nat} (hv : Rd V [] 5 (.slice p l.length c) l.length (l.flatMap Pr.cells)) (hl : l.length ≤ 60) {a now : Int} {cl : ByteArray}  : Does Try.prog 30 [.slice p l.length c, .int .u32 a, .string cl, .int .i64 now] V [] (fun v V' H' => V' = V ∧ ∃ q, Ow 47 5 v (Pr.endd a cl now l).length ((Pr.endd a cl now l).flatMap Pr.cells) q ∧ H' = [q]) := by
 refine Does.intro Try.func30 rfl rfl (le rfl) (fun B => ?_)
 refine Tr.seq ?_
 refine Tr.region ?_
 refine Run.val (lt rfl) (Y.assign rfl) ?_
 refine Run.to_end ?_
 refine Ex.go ?_
 refine Tr.seq ?_
 refine Tr.region ?_
 refine Run.nilseg ?_
 refine Run.val (lt rfl) (Y.assign rfl) ?_
 refine Run.to_end ?_
 refine Ex.go ?_
 refine Tr.seq ?_
 refine Tr.seq ?_
 refine Tr.region ?_
 refine Run.val (lt rfl) (Y.move rfl) ?_
 refine Run.val (lt rfl) (Y.lenSl rfl Audit2_es40) ?_
 refine Run.val (lt rfl) (Y.move rfl) ?_
 refine Run.to_end ?_
 refine Ex.go ?_
 refine Tr.block ?_
 refine Tr.loop (X := Nat × Option Addr × Nat × Nat × Sg) (fun z0 => V) (fun z0 => [z0.2.2.2.2]) (fun z0 => [(0, .slice p l.length c), (1, .int .u32 a), (2, .string cl), (3, .int .i64 now), (9, .slice z0.2.1 z0.2.2.1 z0.2.2.2.1), (13, .slice p l.length c), (14, .int .i64 ((l.length : Nat) : Int)), (15, .int .i64 (z0.1 : Int))]) (fun z0 => Ow 47 5 (.slice z0.2.1 z0.2.2.1 z0.2.2.2.1) z0.2.2.1 ((Pr.endd a cl now (l.take z0.1)).flatMap Pr.cells) z0.2.2.2.2 ∧ z0.2.2.1 = (Pr.endd a cl now (l.take z0.1)).length ∧ z0.1 ≤ l.length) (fun z0 => l.length - z0.1) (⟨0, none, 0, 0, []⟩ : Nat × Option Addr × Nat × Nat × Sg) ⟨Ow.nil _ _, rfl, Nat.zero_le _⟩ (fun a w i => ⟨i.1.sub (subB_cons (by first | rfl | exact congrArg (fun z => some (Value.int _ z)) (by omega)) (subB_cons (by first | rfl | exact congrArg (fun z => some (Value.int _ z)) (by omega)) (subB_cons (by first | rfl | exact congrArg (fun z => some (Value.int _ z)) (by omega)) (subB_cons (by first | rfl | exact congrArg (fun z => some (Value.int _ z)) (by omega)) (subB_cons (by first | rfl | exact congrArg (fun z => some (Value.int _ z)) (by omega)) (subB_cons (by first | rfl | exact congrArg (fun z => some (Value.int _ z)) (by omega)) (subB_cons (by first | rfl | exact congrArg (fun z => some (Value.int _ z)) (by omega)) (subB_cons (by first | rfl | exact congrArg (fun z => some (Value.int _ z)) (by omega)) (subB_nil _))))))))), i.2⟩) ?_
 rintro ⟨i1, p1, n1, k1, q1⟩ ⟨how, hn, hi⟩
 try dsimp only at how hn hi ⊢
 have hsl := Pr.endd_len a cl now (l.take i1)
 rw [List.length_take] at hsl
 refine Tr.seq ?_
 refine Tr.region ?_
 refine Run.val (lt rfl) (Y.int rfl rfl rfl) ?_
 refine Run.to_end ?_
 refine Ex.go ?_
 refine Tr.seq ?_
 rcases Bool.eq_false_or_eq_true (decide ((i1 : Int) < ((l.length : Nat) : Int))) with h1 | h1
 ·have g1 := h1
  try simp only [kb] at g1
  refine Tr.cond_t rfl h1 ?_
  refine Tr.to_end ?_
  refine Ex.go ?_
  refine Tr.seq ?_
  refine Tr.block ?_
  refine Tr.seq ?_
  refine Tr.region ?_
  refine Run.val (lt rfl) (Y.idxR i1 rfl rfl Audit2_es40 hv.of_nil (by omega) (by omega)) ?_
  refine Run.val (lt rfl) (Y.ldRA (vs := [.int .i64 ((l.getD i1 Pr.dflt).srv), .int .u32 ((l.getD i1 Pr.dflt).addr), .string ((l.getD i1 Pr.dflt).client), .int .i64 ((l.getD i1 Pr.dflt).from_), .int .i64 ((l.getD i1 Pr.dflt).till)]) rfl Audit2_ag47 hv.of_nil rfl (by decide) (fun o ho => flatm_atA Pr.len (by omega) Pr.dflt o ho)) ?_
  refine Run.alloc Audit2_zo47 (lt rfl) (fun b2 => ?_)
  refine Run.store (s := [(b2, .cells #[.int .i64 ((l.getD i1 Pr.dflt).srv), .int .u32 ((l.getD i1 Pr.dflt).addr), .string ((l.getD i1 Pr.dflt).client), .int .i64 ((l.getD i1 Pr.dflt).from_), .int .i64 ((l.getD i1 Pr.dflt).till)] 47 (0, 0))]) rfl rfl Audit2_sz47 (i := 0) rfl rfl (le rfl) rfl rfl ?_
  refine Run.to_end ?_
  refine Ex.go ?_
  refine Tr.seq ?_
  refine Tr.region ?_
  refine Run.val (lt rfl) (Y.fieldAddr rfl Audit2_fo47_1) ?_
  refine Run.val (lt rfl) (Y.load rfl Audit2_ts37 (Kn.at 0 rfl) rfl) ?_
  refine Run.val (lt rfl) (Y.move rfl) ?_
  refine Run.val (lt rfl) (Y.int rfl rfl rfl) ?_
  refine Run.val (lt rfl) (Y.move rfl) ?_
  rcases Bool.eq_false_or_eq_true (((l.getD i1 Pr.dflt).addr) == a) with h3 | h3
  ·have g3 := h3
   try simp only [kb] at g3
   refine Run.on rfl rfl rfl h3 ?_
   refine Run.val (lt rfl) (Y.fieldAddr rfl Audit2_fo47_2) ?_
   refine Run.on rfl rfl rfl h3 ?_
   refine Run.val (lt rfl) (Y.load rfl Audit2_ts9 (Kn.at 0 rfl) rfl) ?_
   refine Run.on rfl rfl rfl h3 ?_
   refine Run.val (lt rfl) (Y.move rfl) ?_
   refine Run.on rfl rfl rfl h3 ?_
   refine Run.val (lt rfl) (Y.eqStr rfl rfl) ?_
   refine Run.val (lt rfl) (Y.pick_t rfl h3 rfl) ?_
   refine Run.val (lt rfl) (Y.move rfl) ?_
   rcases Bool.eq_false_or_eq_true (((l.getD i1 Pr.dflt).client).toList == cl.toList) with h4 | h4
   ·have g4 := h4
    try simp only [kb] at g4
    refine Run.on rfl rfl rfl h4 ?_
    refine Run.val (lt rfl) (Y.loadAgg rfl Audit2_ag47 (Kn.at 0 rfl) rfl) ?_
    refine Run.on rfl rfl rfl h4 ?_
    refine Run.call0 (l := [.tmp 30]) rfl rfl rfl (lt rfl) (right_c_h rfl) ?_
    refine Run.val (lt rfl) (Y.pick_t rfl h4 rfl) ?_
    refine Run.val (lt rfl) (Y.assign rfl) ?_
    refine Run.to_end ?_
    refine Ex.go ?_
    refine Tr.seq ?_
    refine Tr.seq ?_
    refine Tr.region ?_
    refine Run.val (lt rfl) (Y.move rfl) ?_
    refine Run.val (lt rfl) (Y.move rfl) ?_
    rcases Bool.eq_false_or_eq_true (Pr.right (l.getD i1 Pr.dflt)) with h5 | h5
    ·have g5 := h5
     try simp only [kb] at g5
     refine Run.on rfl rfl rfl h5 ?_
     refine Run.val (lt rfl) (Y.fieldAddr rfl Audit2_fo47_3) ?_
     refine Run.on rfl rfl rfl h5 ?_
     refine Run.val (lt rfl) (Y.load rfl Audit2_ts3 (Kn.at 0 rfl) rfl) ?_
     refine Run.on rfl rfl rfl h5 ?_
     refine Run.val (lt rfl) (Y.move rfl) ?_
     refine Run.on rfl rfl rfl h5 ?_
     refine Run.val (lt rfl) (Y.int rfl rfl rfl) ?_
     refine Run.val (lt rfl) (Y.pick_t rfl h5 rfl) ?_
     refine Run.to_end ?_
     refine Ex.go ?_
     rcases Bool.eq_false_or_eq_true (decide (((l.getD i1 Pr.dflt).from_) > now)) with h6 | h6
     ·have g6 := h6
      try simp only [kb] at g6
      refine Tr.cond_t rfl h6 ?_
      refine Tr.to_exit ?_
      refine Ex.exit_then ?_
      refine Ex.exit_in ?_
      refine Ex.go ?_
      refine Tr.region ?_
      refine Run.val (lt rfl) (Y.add rfl rfl (by omega)) ?_
      refine Run.val (lt rfl) (Y.move rfl) ?_
      refine Run.to_end ?_
      refine Ex.keep [1] ?_
      have er : Pr.endd a cl now (l.take (i1 + 1)) = _ := (Pr.endd_take (by omega)).trans (congrArg (fun z => Pr.endd a cl now (l.take i1) ++ z) (Pr.e1_skip (show Pr.ec a cl (l.getD i1 Pr.dflt) = true by unfold Pr.ec; simp_all) (by omega)))
      exact Ex.round (⟨i1 + 1, p1, n1, k1, q1⟩ : Nat × Option Addr × Nat × Nat × Sg) ⟨by rw [er, List.append_nil]; exact how, by rw [er, List.append_nil]; exact hn, by omega⟩ (by dsimp only; omega) rfl rfl (subB_cons (by first | rfl | exact congrArg (fun z => some (Value.int _ z)) (by omega)) (subB_cons (by first | rfl | exact congrArg (fun z => some (Value.int _ z)) (by omega)) (subB_cons (by first | rfl | exact congrArg (fun z => some (Value.int _ z)) (by omega)) (subB_cons (by first | rfl | exact congrArg (fun z => some (Value.int _ z)) (by omega)) (subB_cons (by first | rfl | exact congrArg (fun z => some (Value.int _ z)) (by omega)) (subB_cons (by first | rfl | exact congrArg (fun z => some (Value.int _ z)) (by omega)) (subB_cons (by first | rfl | exact congrArg (fun z => some (Value.int _ z)) (by omega)) (subB_cons (by first | rfl | exact congrArg (fun z => some (Value.int _ z)) (by omega)) (subB_nil _)))))))))
     ·have g6 := h6
      try simp only [kb] at g6
      refine Tr.cond_f rfl h6 ?_
      refine Tr.to_end ?_
      refine Ex.go ?_
      refine Tr.seq ?_
      refine Tr.seq ?_
      refine Tr.region ?_
      refine Run.val (lt rfl) (Y.move rfl) ?_
      refine Run.to_end ?_
      refine Ex.go ?_
      refine Tr.cond_t rfl h5 ?_
      refine Tr.region ?_
      refine Run.val (lt rfl) (Y.fieldAddr rfl Audit2_fo47_4) ?_
      refine Run.val (lt rfl) (Y.load rfl Audit2_ts3 (Kn.at 0 rfl) rfl) ?_
      refine Run.val (lt rfl) (Y.move rfl) ?_
      refine Run.val (lt rfl) (Y.min2 rfl rfl) ?_
      refine Run.val (lt rfl) (Y.fieldAddr rfl Audit2_fo47_4) ?_
      refine Run.store (s := [(b2, .cells #[.int .i64 ((l.getD i1 Pr.dflt).srv), .int .u32 ((l.getD i1 Pr.dflt).addr), .string ((l.getD i1 Pr.dflt).client), .int .i64 ((l.getD i1 Pr.dflt).from_), .int .i64 (min ((l.getD i1 Pr.dflt).till) now)] 47 (0, 0))]) rfl rfl Audit2_sz3 (i := 0) rfl rfl (le rfl) rfl rfl ?_
      refine Run.to_end ?_
      refine Ex.go ?_
      refine Tr.region ?_
      refine Run.val (lt rfl) (Y.move rfl) ?_
      refine Run.val (lt rfl) (Y.loadAgg rfl Audit2_ag47 (Kn.at 0 rfl) rfl) ?_
      refine Run.buildSlice (l := [(0, .tmp 47)]) (r := [.int .i64 ((l.getD i1 Pr.dflt).srv), .int .u32 ((l.getD i1 Pr.dflt).addr), .string ((l.getD i1 Pr.dflt).client), .int .i64 ((l.getD i1 Pr.dflt).from_), .int .i64 (min ((l.getD i1 Pr.dflt).till) now)]) Audit2_es40 Audit2_zo47 rfl (by decide) rfl rfl (by decide) (lt rfl) (fun b7 => ?_)
      refine Run.append (n := n1) (m := 1) (xs := (Pr.endd a cl now (l.take i1)).flatMap Pr.cells) (ys := [.int .i64 ((l.getD i1 Pr.dflt).srv), .int .u32 ((l.getD i1 Pr.dflt).addr), .string ((l.getD i1 Pr.dflt).client), .int .i64 ((l.getD i1 Pr.dflt).from_), .int .i64 (min ((l.getD i1 Pr.dflt).till) now)]) rfl rfl Audit2_es40 Audit2_zi47 (by decide) (j := 2) rfl how (Src.of_rd Audit2_es40 (Rd.one (Kn.at 0 rfl) rfl)) (by omega) (by omega) rfl (lt rfl) (fun v8 s9 ho10 hf => ?_)
      obtain ⟨p8, c8, rfl⟩ := hf
      replace ho10 := Ow.app1 (f := Pr.cells) (l := Pr.endd a cl now (l.take i1)) (x := (⟨(l.getD i1 Pr.dflt).srv, (l.getD i1 Pr.dflt).addr, (l.getD i1 Pr.dflt).client, (l.getD i1 Pr.dflt).from_, min ((l.getD i1 Pr.dflt).till) now⟩ : Pr)) ho10
      refine Run.val (lt rfl) (Y.assign rfl) ?_
      refine Run.to_end ?_
      refine Ex.end_block ?_
      refine Ex.go ?_
      refine Tr.region ?_
      refine Run.val (lt rfl) (Y.add rfl rfl (by omega)) ?_
      refine Run.val (lt rfl) (Y.move rfl) ?_
      refine Run.to_end ?_
      refine Ex.keep [2] ?_
      have er : Pr.endd a cl now (l.take (i1 + 1)) = _ := (Pr.endd_take (by omega)).trans (congrArg (fun z => Pr.endd a cl now (l.take i1) ++ z) (Pr.e1_cut (show Pr.ec a cl (l.getD i1 Pr.dflt) = true by unfold Pr.ec; simp_all) (by omega)))
      exact Ex.round (⟨i1 + 1, p8, (n1 + 1), c8, s9⟩ : Nat × Option Addr × Nat × Nat × Sg) ⟨by rw [er]; exact ho10, by rw [er, List.length_append, List.length_singleton]; dsimp only; omega, by omega⟩ (by dsimp only; omega) rfl rfl (subB_cons (by first | rfl | exact congrArg (fun z => some (Value.int _ z)) (by omega)) (subB_cons (by first | rfl | exact congrArg (fun z => some (Value.int _ z)) (by omega)) (subB_cons (by first | rfl | exact congrArg (fun z => some (Value.int _ z)) (by omega)) (subB_cons (by first | rfl | exact congrArg (fun z => some (Value.int _ z)) (by omega)) (subB_cons (by first | rfl | exact congrArg (fun z => some (Value.int _ z)) (by omega)) (subB_cons (by first | rfl | exact congrArg (fun z => some (Value.int _ z)) (by omega)) (subB_cons (by first | rfl | exact congrArg (fun z => some (Value.int _ z)) (by omega)) (subB_cons (by first | rfl | exact congrArg (fun z => some (Value.int _ z)) (by omega)) (subB_nil _)))))))))
    ·have g5 := h5
     try simp only [kb] at g5
     refine Run.off rfl rfl rfl h5 rfl (lt rfl) ?_
     refine Run.off rfl rfl rfl h5 rfl (lt rfl) ?_
     refine Run.off rfl rfl rfl h5 rfl (lt rfl) ?_
     refine Run.off rfl rfl rfl h5 rfl (lt rfl) ?_
     refine Run.val (lt rfl) (Y.pick_f rfl h5 rfl) ?_
     refine Run.to_end ?_
     refine Ex.go ?_
     refine Tr.cond_f rfl rfl ?_
     refine Tr.to_end ?_
     refine Ex.go ?_
     refine Tr.seq ?_
     refine Tr.seq ?_
     refine Tr.region ?_
     refine Run.val (lt rfl) (Y.move rfl) ?_
     refine Run.to_end ?_
     refine Ex.go ?_
     refine Tr.cond_f rfl h5 ?_
     refine Tr.to_end ?_
     refine Ex.go ?_
     refine Tr.region ?_
     refine Run.val (lt rfl) (Y.move rfl) ?_
     refine Run.val (lt rfl) (Y.loadAgg rfl Audit2_ag47 (Kn.at 0 rfl) rfl) ?_
     refine Run.buildSlice (l := [(0, .tmp 47)]) (r := [.int .i64 ((l.getD i1 Pr.dflt).srv), .int .u32 ((l.getD i1 Pr.dflt).addr), .string ((l.getD i1 Pr.dflt).client), .int .i64 ((l.getD i1 Pr.dflt).from_), .int .i64 ((l.getD i1 Pr.dflt).till)]) Audit2_es40 Audit2_zo47 rfl (by decide) rfl rfl (by decide) (lt rfl) (fun b11 => ?_)
     refine Run.append (n := n1) (m := 1) (xs := (Pr.endd a cl now (l.take i1)).flatMap Pr.cells) (ys := [.int .i64 ((l.getD i1 Pr.dflt).srv), .int .u32 ((l.getD i1 Pr.dflt).addr), .string ((l.getD i1 Pr.dflt).client), .int .i64 ((l.getD i1 Pr.dflt).from_), .int .i64 ((l.getD i1 Pr.dflt).till)]) rfl rfl Audit2_es40 Audit2_zi47 (by decide) (j := 2) rfl how (Src.of_rd Audit2_es40 (Rd.one (Kn.at 0 rfl) rfl)) (by omega) (by omega) rfl (lt rfl) (fun v12 s13 ho14 hf => ?_)
     obtain ⟨p12, c12, rfl⟩ := hf
     replace ho14 := Ow.app1 (f := Pr.cells) (l := Pr.endd a cl now (l.take i1)) (x := (⟨(l.getD i1 Pr.dflt).srv, (l.getD i1 Pr.dflt).addr, (l.getD i1 Pr.dflt).client, (l.getD i1 Pr.dflt).from_, (l.getD i1 Pr.dflt).till⟩ : Pr)) ho14
     refine Run.val (lt rfl) (Y.assign rfl) ?_
     refine Run.to_end ?_
     refine Ex.end_block ?_
     refine Ex.go ?_
     refine Tr.region ?_
     refine Run.val (lt rfl) (Y.add rfl rfl (by omega)) ?_
     refine Run.val (lt rfl) (Y.move rfl) ?_
     refine Run.to_end ?_
     refine Ex.keep [2] ?_
     have er : Pr.endd a cl now (l.take (i1 + 1)) = _ := (Pr.endd_take (by omega)).trans (congrArg (fun z => Pr.endd a cl now (l.take i1) ++ z) (Pr.e1_keep (show Pr.ec a cl (l.getD i1 Pr.dflt) = false by unfold Pr.ec; simp_all)))
     exact Ex.round (⟨i1 + 1, p12, (n1 + 1), c12, s13⟩ : Nat × Option Addr × Nat × Nat × Sg) ⟨by rw [er]; exact ho14, by rw [er, List.length_append, List.length_singleton]; dsimp only; omega, by omega⟩ (by dsimp only; omega) rfl rfl (subB_cons (by first | rfl | exact congrArg (fun z => some (Value.int _ z)) (by omega)) (subB_cons (by first | rfl | exact congrArg (fun z => some (Value.int _ z)) (by omega)) (subB_cons (by first | rfl | exact congrArg (fun z => some (Value.int _ z)) (by omega)) (subB_cons (by first | rfl | exact congrArg (fun z => some (Value.int _ z)) (by omega)) (subB_cons (by first | rfl | exact congrArg (fun z => some (Value.int _ z)) (by omega)) (subB_cons (by first | rfl | exact congrArg (fun z => some (Value.int _ z)) (by omega)) (subB_cons (by first | rfl | exact congrArg (fun z => some (Value.int _ z)) (by omega)) (subB_cons (by first | rfl | exact congrArg (fun z => some (Value.int _ z)) (by omega)) (subB_nil _)))))))))
   ·have g4 := h4
    try simp only [kb] at g4
    refine Run.off rfl rfl rfl h4 rfl (lt rfl) ?_
    refine Run.off rfl rfl rfl h4 rfl (lt rfl) ?_
    refine Run.val (lt rfl) (Y.pick_f rfl h4 rfl) ?_
    refine Run.val (lt rfl) (Y.assign rfl) ?_
    refine Run.to_end ?_
    refine Ex.go ?_
    refine Tr.seq ?_
    refine Tr.seq ?_
    refine Tr.region ?_
    refine Run.val (lt rfl) (Y.move rfl) ?_
    refine Run.val (lt rfl) (Y.move rfl) ?_
    refine Run.off rfl rfl rfl rfl rfl (lt rfl) ?_
    refine Run.off rfl rfl rfl rfl rfl (lt rfl) ?_
    refine Run.off rfl rfl rfl rfl rfl (lt rfl) ?_
    refine Run.off rfl rfl rfl rfl rfl (lt rfl) ?_
    refine Run.val (lt rfl) (Y.pick_f rfl rfl rfl) ?_
    refine Run.to_end ?_
    refine Ex.go ?_
    refine Tr.cond_f rfl rfl ?_
    refine Tr.to_end ?_
    refine Ex.go ?_
    refine Tr.seq ?_
    refine Tr.seq ?_
    refine Tr.region ?_
    refine Run.val (lt rfl) (Y.move rfl) ?_
    refine Run.to_end ?_
    refine Ex.go ?_
    refine Tr.cond_f rfl rfl ?_
    refine Tr.to_end ?_
    refine Ex.go ?_
    refine Tr.region ?_
    refine Run.val (lt rfl) (Y.move rfl) ?_
    refine Run.val (lt rfl) (Y.loadAgg rfl Audit2_ag47 (Kn.at 0 rfl) rfl) ?_
    refine Run.buildSlice (l := [(0, .tmp 47)]) (r := [.int .i64 ((l.getD i1 Pr.dflt).srv), .int .u32 ((l.getD i1 Pr.dflt).addr), .string ((l.getD i1 Pr.dflt).client), .int .i64 ((l.getD i1 Pr.dflt).from_), .int .i64 ((l.getD i1 Pr.dflt).till)]) Audit2_es40 Audit2_zo47 rfl (by decide) rfl rfl (by decide) (lt rfl) (fun b15 => ?_)
    refine Run.append (n := n1) (m := 1) (xs := (Pr.endd a cl now (l.take i1)).flatMap Pr.cells) (ys := [.int .i64 ((l.getD i1 Pr.dflt).srv), .int .u32 ((l.getD i1 Pr.dflt).addr), .string ((l.getD i1 Pr.dflt).client), .int .i64 ((l.getD i1 Pr.dflt).from_), .int .i64 ((l.getD i1 Pr.dflt).till)]) rfl rfl Audit2_es40 Audit2_zi47 (by decide) (j := 2) rfl how (Src.of_rd Audit2_es40 (Rd.one (Kn.at 0 rfl) rfl)) (by omega) (by omega) rfl (lt rfl) (fun v16 s17 ho18 hf => ?_)
    obtain ⟨p16, c16, rfl⟩ := hf
    replace ho18 := Ow.app1 (f := Pr.cells) (l := Pr.endd a cl now (l.take i1)) (x := (⟨(l.getD i1 Pr.dflt).srv, (l.getD i1 Pr.dflt).addr, (l.getD i1 Pr.dflt).client, (l.getD i1 Pr.dflt).from_, (l.getD i1 Pr.dflt).till⟩ : Pr)) ho18
    refine Run.val (lt rfl) (Y.assign rfl) ?_
    refine Run.to_end ?_
    refine Ex.end_block ?_
    refine Ex.go ?_
    refine Tr.region ?_
    refine Run.val (lt rfl) (Y.add rfl rfl (by omega)) ?_
    refine Run.val (lt rfl) (Y.move rfl) ?_
    refine Run.to_end ?_
    refine Ex.keep [2] ?_
    have er : Pr.endd a cl now (l.take (i1 + 1)) = _ := (Pr.endd_take (by omega)).trans (congrArg (fun z => Pr.endd a cl now (l.take i1) ++ z) (Pr.e1_keep (show Pr.ec a cl (l.getD i1 Pr.dflt) = false by unfold Pr.ec; simp_all)))
    exact Ex.round (⟨i1 + 1, p16, (n1 + 1), c16, s17⟩ : Nat × Option Addr × Nat × Nat × Sg) ⟨by rw [er]; exact ho18, by rw [er, List.length_append, List.length_singleton]; dsimp only; omega, by omega⟩ (by dsimp only; omega) rfl rfl (subB_cons (by first | rfl | exact congrArg (fun z => some (Value.int _ z)) (by omega)) (subB_cons (by first | rfl | exact congrArg (fun z => some (Value.int _ z)) (by omega)) (subB_cons (by first | rfl | exact congrArg (fun z => some (Value.int _ z)) (by omega)) (subB_cons (by first | rfl | exact congrArg (fun z => some (Value.int _ z)) (by omega)) (subB_cons (by first | rfl | exact congrArg (fun z => some (Value.int _ z)) (by omega)) (subB_cons (by first | rfl | exact congrArg (fun z => some (Value.int _ z)) (by omega)) (subB_cons (by first | rfl | exact congrArg (fun z => some (Value.int _ z)) (by omega)) (subB_cons (by first | rfl | exact congrArg (fun z => some (Value.int _ z)) (by omega)) (subB_nil _)))))))))
  ·have g3 := h3
   try simp only [kb] at g3
   refine Run.off rfl rfl rfl h3 rfl (lt rfl) ?_
   refine Run.off rfl rfl rfl h3 rfl (lt rfl) ?_
   refine Run.off rfl rfl rfl h3 rfl (lt rfl) ?_
   refine Run.off rfl rfl rfl h3 rfl (lt rfl) ?_
   refine Run.val (lt rfl) (Y.pick_f rfl h3 rfl) ?_
   refine Run.val (lt rfl) (Y.move rfl) ?_
   refine Run.off rfl rfl rfl rfl rfl (lt rfl) ?_
   refine Run.off rfl rfl rfl rfl rfl (lt rfl) ?_
   refine Run.val (lt rfl) (Y.pick_f rfl rfl rfl) ?_
   refine Run.val (lt rfl) (Y.assign rfl) ?_
   refine Run.to_end ?_
   refine Ex.go ?_
   refine Tr.seq ?_
   refine Tr.seq ?_
   refine Tr.region ?_
   refine Run.val (lt rfl) (Y.move rfl) ?_
   refine Run.val (lt rfl) (Y.move rfl) ?_
   refine Run.off rfl rfl rfl rfl rfl (lt rfl) ?_
   refine Run.off rfl rfl rfl rfl rfl (lt rfl) ?_
   refine Run.off rfl rfl rfl rfl rfl (lt rfl) ?_
   refine Run.off rfl rfl rfl rfl rfl (lt rfl) ?_
   refine Run.val (lt rfl) (Y.pick_f rfl rfl rfl) ?_
   refine Run.to_end ?_
   refine Ex.go ?_
   refine Tr.cond_f rfl rfl ?_
   refine Tr.to_end ?_
   refine Ex.go ?_
   refine Tr.seq ?_
   refine Tr.seq ?_
   refine Tr.region ?_
   refine Run.val (lt rfl) (Y.move rfl) ?_
   refine Run.to_end ?_
   refine Ex.go ?_
   refine Tr.cond_f rfl rfl ?_
   refine Tr.to_end ?_
   refine Ex.go ?_
   refine Tr.region ?_
   refine Run.val (lt rfl) (Y.move rfl) ?_
   refine Run.val (lt rfl) (Y.loadAgg rfl Audit2_ag47 (Kn.at 0 rfl) rfl) ?_
   refine Run.buildSlice (l := [(0, .tmp 47)]) (r := [.int .i64 ((l.getD i1 Pr.dflt).srv), .int .u32 ((l.getD i1 Pr.dflt).addr), .string ((l.getD i1 Pr.dflt).client), .int .i64 ((l.getD i1 Pr.dflt).from_), .int .i64 ((l.getD i1 Pr.dflt).till)]) Audit2_es40 Audit2_zo47 rfl (by decide) rfl rfl (by decide) (lt rfl) (fun b19 => ?_)
   refine Run.append (n := n1) (m := 1) (xs := (Pr.endd a cl now (l.take i1)).flatMap Pr.cells) (ys := [.int .i64 ((l.getD i1 Pr.dflt).srv), .int .u32 ((l.getD i1 Pr.dflt).addr), .string ((l.getD i1 Pr.dflt).client), .int .i64 ((l.getD i1 Pr.dflt).from_), .int .i64 ((l.getD i1 Pr.dflt).till)]) rfl rfl Audit2_es40 Audit2_zi47 (by decide) (j := 2) rfl how (Src.of_rd Audit2_es40 (Rd.one (Kn.at 0 rfl) rfl)) (by omega) (by omega) rfl (lt rfl) (fun v20 s21 ho22 hf => ?_)
   obtain ⟨p20, c20, rfl⟩ := hf
   replace ho22 := Ow.app1 (f := Pr.cells) (l := Pr.endd a cl now (l.take i1)) (x := (⟨(l.getD i1 Pr.dflt).srv, (l.getD i1 Pr.dflt).addr, (l.getD i1 Pr.dflt).client, (l.getD i1 Pr.dflt).from_, (l.getD i1 Pr.dflt).till⟩ : Pr)) ho22
   refine Run.val (lt rfl) (Y.assign rfl) ?_
   refine Run.to_end ?_
   refine Ex.end_block ?_
   refine Ex.go ?_
   refine Tr.region ?_
   refine Run.val (lt rfl) (Y.add rfl rfl (by omega)) ?_
   refine Run.val (lt rfl) (Y.move rfl) ?_
   refine Run.to_end ?_
   refine Ex.keep [2] ?_
   have er : Pr.endd a cl now (l.take (i1 + 1)) = _ := (Pr.endd_take (by omega)).trans (congrArg (fun z => Pr.endd a cl now (l.take i1) ++ z) (Pr.e1_keep (show Pr.ec a cl (l.getD i1 Pr.dflt) = false by unfold Pr.ec; simp_all)))
   exact Ex.round (⟨i1 + 1, p20, (n1 + 1), c20, s21⟩ : Nat × Option Addr × Nat × Nat × Sg) ⟨by rw [er]; exact ho22, by rw [er, List.length_append, List.length_singleton]; dsimp only; omega, by omega⟩ (by dsimp only; omega) rfl rfl (subB_cons (by first | rfl | exact congrArg (fun z => some (Value.int _ z)) (by omega)) (subB_cons (by first | rfl | exact congrArg (fun z => some (Value.int _ z)) (by omega)) (subB_cons (by first | rfl | exact congrArg (fun z => some (Value.int _ z)) (by omega)) (subB_cons (by first | rfl | exact congrArg (fun z => some (Value.int _ z)) (by omega)) (subB_cons (by first | rfl | exact congrArg (fun z => some (Value.int _ z)) (by omega)) (subB_cons (by first | rfl | exact congrArg (fun z => some (Value.int _ z)) (by omega)) (subB_cons (by first | rfl | exact congrArg (fun z => some (Value.int _ z)) (by omega)) (subB_cons (by first | rfl | exact congrArg (fun z => some (Value.int _ z)) (by omega)) (subB_nil _)))))))))
 ·have g1 := h1
  try simp only [kb] at g1
  refine Tr.cond_f rfl h1 ?_
  refine Tr.to_exit ?_
  refine Ex.exit_then ?_
  refine Ex.exit_then ?_
  refine Ex.exit_in ?_
  refine Ex.go ?_
  refine Tr.seq ?_
  refine Tr.region ?_
  refine Run.val (lt rfl) (Y.move rfl) ?_
  refine Run.val (lt rfl) (Y.assign rfl) ?_
  refine Run.to_end ?_
  refine Ex.go ?_
  refine Tr.to_ret ?_
  refine Ex.keep [0] ?_
  obtain rfl : i1 = l.length := by omega
  rw [List.take_length] at how hn
  subst hn
  exact Ex.ret1 rfl rfl  ⟨rfl, q1, how, rfl⟩

theorem rend_c {V : Vw} {l : List Pr} {p : Option Addr} {c : Nat} (hv : Rd V [] 5 (.slice p l.length c) l.length (l.flatMap Pr.cells)) (hl : l.length ≤ 60) {a now : Int} {cl : ByteArray}  : Does Try.prog 31 [.slice p l.length c, .int .u32 a, .string cl, .int .i64 now] V [] (fun v V' H' => V' = V ∧ ∃ q, Ow 47 5 v (Pr.endd a cl now l).length ((Pr.endd a cl now l).flatMap Pr.cells) q ∧ H' = [q]) := by
 refine Does.intro Try.func31 rfl rfl (le rfl) (fun B => ?_)
 refine Tr.seq ?_
 refine Tr.region ?_
 refine Run.val (lt rfl) (Y.assign rfl) ?_
 refine Run.to_end ?_
 refine Ex.go ?_
 refine Tr.seq ?_
 refine Tr.region ?_
 refine Run.nilseg ?_
 refine Run.val (lt rfl) (Y.assign rfl) ?_
 refine Run.to_end ?_
 refine Ex.go ?_
 refine Tr.seq ?_
 refine Tr.seq ?_
 refine Tr.region ?_
 refine Run.val (lt rfl) (Y.assign rfl) ?_
 refine Run.to_end ?_
 refine Ex.go ?_
 refine Tr.block ?_
 refine Tr.loop (X := Nat × Option Addr × Nat × Nat × Sg) (fun z0 => V) (fun z0 => [z0.2.2.2.2]) (fun z0 => [(0, .slice p l.length c), (1, .int .u32 a), (2, .string cl), (3, .int .i64 now), (9, .slice z0.2.1 z0.2.2.1 z0.2.2.2.1), (10, .int .i64 (z0.1 : Int))]) (fun z0 => Ow 47 5 (.slice z0.2.1 z0.2.2.1 z0.2.2.2.1) z0.2.2.1 ((Pr.endd a cl now (l.take z0.1)).flatMap Pr.cells) z0.2.2.2.2 ∧ z0.2.2.1 = (Pr.endd a cl now (l.take z0.1)).length ∧ z0.1 ≤ l.length) (fun z0 => l.length - z0.1) (⟨0, none, 0, 0, []⟩ : Nat × Option Addr × Nat × Nat × Sg) ⟨Ow.nil _ _, rfl, Nat.zero_le _⟩ (fun a w i => ⟨i.1.sub (subB_cons (by first | rfl | exact congrArg (fun z => some (Value.int _ z)) (by omega)) (subB_cons (by first | rfl | exact congrArg (fun z => some (Value.int _ z)) (by omega)) (subB_cons (by first | rfl | exact congrArg (fun z => some (Value.int _ z)) (by omega)) (subB_cons (by first | rfl | exact congrArg (fun z => some (Value.int _ z)) (by omega)) (subB_cons (by first | rfl | exact congrArg (fun z => some (Value.int _ z)) (by omega)) (subB_cons (by first | rfl | exact congrArg (fun z => some (Value.int _ z)) (by omega)) (subB_nil _))))))), i.2⟩) ?_
 rintro ⟨i1, p1, n1, k1, q1⟩ ⟨how, hn, hi⟩
 try dsimp only at how hn hi ⊢
 have hsl := Pr.endd_len a cl now (l.take i1)
 rw [List.length_take] at hsl
 refine Tr.seq ?_
 refine Tr.seq ?_
 refine Tr.region ?_
 refine Run.val (lt rfl) (Y.move rfl) ?_
 refine Run.val (lt rfl) (Y.move rfl) ?_
 refine Run.val (lt rfl) (Y.lenSl rfl Audit2_es40) ?_
 refine Run.val (lt rfl) (Y.int rfl rfl rfl) ?_
 refine Run.to_end ?_
 refine Ex.go ?_
 rcases Bool.eq_false_or_eq_true (decide ((i1 : Int) < ((l.length : Nat) : Int))) with h1 | h1
 ·have g1 := h1
  try simp only [kb] at g1
  refine Tr.cond_t rfl h1 ?_
  refine Tr.to_end ?_
  refine Ex.go ?_
  refine Tr.seq ?_
  refine Tr.block ?_
  refine Tr.seq ?_
  refine Tr.region ?_
  refine Run.val (lt rfl) (Y.move rfl) ?_
  refine Run.val (lt rfl) (Y.move rfl) ?_
  refine Run.val (lt rfl) (Y.idxR i1 rfl rfl Audit2_es40 hv.of_nil (by omega) (by omega)) ?_
  refine Run.val (lt rfl) (Y.ldRA (vs := [.int .i64 ((l.getD i1 Pr.dflt).srv), .int .u32 ((l.getD i1 Pr.dflt).addr), .string ((l.getD i1 Pr.dflt).client), .int .i64 ((l.getD i1 Pr.dflt).from_), .int .i64 ((l.getD i1 Pr.dflt).till)]) rfl Audit2_ag47 hv.of_nil rfl (by decide) (fun o ho => flatm_atA Pr.len (by omega) Pr.dflt o ho)) ?_
  refine Run.alloc Audit2_zo47 (lt rfl) (fun b2 => ?_)
  refine Run.store (s := [(b2, .cells #[.int .i64 ((l.getD i1 Pr.dflt).srv), .int .u32 ((l.getD i1 Pr.dflt).addr), .string ((l.getD i1 Pr.dflt).client), .int .i64 ((l.getD i1 Pr.dflt).from_), .int .i64 ((l.getD i1 Pr.dflt).till)] 47 (0, 0))]) rfl rfl Audit2_sz47 (i := 0) rfl rfl (le rfl) rfl rfl ?_
  refine Run.to_end ?_
  refine Ex.go ?_
  refine Tr.seq ?_
  refine Tr.seq ?_
  refine Tr.region ?_
  refine Run.val (lt rfl) (Y.fieldAddr rfl Audit2_fo47_1) ?_
  refine Run.val (lt rfl) (Y.load rfl Audit2_ts37 (Kn.at 0 rfl) rfl) ?_
  refine Run.val (lt rfl) (Y.move rfl) ?_
  refine Run.val (lt rfl) (Y.int rfl rfl rfl) ?_
  refine Run.val (lt rfl) (Y.move rfl) ?_
  rcases Bool.eq_false_or_eq_true (((l.getD i1 Pr.dflt).addr) != a) with h3 | h3
  ·have g3 := h3
   try simp only [kb] at g3
   refine Run.off rfl rfl rfl h3 rfl (lt rfl) ?_
   refine Run.off rfl rfl rfl h3 rfl (lt rfl) ?_
   refine Run.off rfl rfl rfl h3 rfl (lt rfl) ?_
   refine Run.off rfl rfl rfl h3 rfl (lt rfl) ?_
   refine Run.val (lt rfl) (Y.pick_t rfl h3 rfl) ?_
   refine Run.val (lt rfl) (Y.move rfl) ?_
   refine Run.off rfl rfl rfl rfl rfl (lt rfl) ?_
   refine Run.off rfl rfl rfl rfl rfl (lt rfl) ?_
   refine Run.off rfl rfl rfl rfl rfl (lt rfl) ?_
   refine Run.val (lt rfl) (Y.pick_t rfl rfl rfl) ?_
   refine Run.to_end ?_
   refine Ex.go ?_
   refine Tr.cond_t rfl rfl ?_
   refine Tr.seq ?_
   refine Tr.region ?_
   refine Run.val (lt rfl) (Y.move rfl) ?_
   refine Run.val (lt rfl) (Y.loadAgg rfl Audit2_ag47 (Kn.at 0 rfl) rfl) ?_
   refine Run.buildSlice (l := [(0, .tmp 38)]) (r := [.int .i64 ((l.getD i1 Pr.dflt).srv), .int .u32 ((l.getD i1 Pr.dflt).addr), .string ((l.getD i1 Pr.dflt).client), .int .i64 ((l.getD i1 Pr.dflt).from_), .int .i64 ((l.getD i1 Pr.dflt).till)]) Audit2_es40 Audit2_zo47 rfl (by decide) rfl rfl (by decide) (lt rfl) (fun b4 => ?_)
   refine Run.append (n := n1) (m := 1) (xs := (Pr.endd a cl now (l.take i1)).flatMap Pr.cells) (ys := [.int .i64 ((l.getD i1 Pr.dflt).srv), .int .u32 ((l.getD i1 Pr.dflt).addr), .string ((l.getD i1 Pr.dflt).client), .int .i64 ((l.getD i1 Pr.dflt).from_), .int .i64 ((l.getD i1 Pr.dflt).till)]) rfl rfl Audit2_es40 Audit2_zi47 (by decide) (j := 2) rfl how (Src.of_rd Audit2_es40 (Rd.one (Kn.at 0 rfl) rfl)) (by omega) (by omega) rfl (lt rfl) (fun v5 s6 ho7 hf => ?_)
   obtain ⟨p5, c5, rfl⟩ := hf
   replace ho7 := Ow.app1 (f := Pr.cells) (l := Pr.endd a cl now (l.take i1)) (x := (⟨(l.getD i1 Pr.dflt).srv, (l.getD i1 Pr.dflt).addr, (l.getD i1 Pr.dflt).client, (l.getD i1 Pr.dflt).from_, (l.getD i1 Pr.dflt).till⟩ : Pr)) ho7
   refine Run.val (lt rfl) (Y.assign rfl) ?_
   refine Run.to_end ?_
   refine Ex.go ?_
   refine Tr.to_exit ?_
   refine Ex.exit_then ?_
   refine Ex.exit_in ?_
   refine Ex.go ?_
   refine Tr.region ?_
   refine Run.val (lt rfl) (Y.move rfl) ?_
   refine Run.val (lt rfl) (Y.add rfl rfl (by omega)) ?_
   refine Run.val (lt rfl) (Y.assign rfl) ?_
   refine Run.to_end ?_
   refine Ex.keep [2] ?_
   have er : Pr.endd a cl now (l.take (i1 + 1)) = _ := (Pr.endd_take (by omega)).trans (congrArg (fun z => Pr.endd a cl now (l.take i1) ++ z) (Pr.e1_keep (show Pr.ec a cl (l.getD i1 Pr.dflt) = false by unfold Pr.ec; simp_all)))
   exact Ex.round (⟨i1 + 1, p5, (n1 + 1), c5, s6⟩ : Nat × Option Addr × Nat × Nat × Sg) ⟨by rw [er]; exact ho7, by rw [er, List.length_append, List.length_singleton]; dsimp only; omega, by omega⟩ (by dsimp only; omega) rfl rfl (subB_cons (by first | rfl | exact congrArg (fun z => some (Value.int _ z)) (by omega)) (subB_cons (by first | rfl | exact congrArg (fun z => some (Value.int _ z)) (by omega)) (subB_cons (by first | rfl | exact congrArg (fun z => some (Value.int _ z)) (by omega)) (subB_cons (by first | rfl | exact congrArg (fun z => some (Value.int _ z)) (by omega)) (subB_cons (by first | rfl | exact congrArg (fun z => some (Value.int _ z)) (by omega)) (subB_cons (by first | rfl | exact congrArg (fun z => some (Value.int _ z)) (by omega)) (subB_nil _)))))))
  ·have g3 := h3
   try simp only [kb] at g3
   refine Run.on rfl rfl rfl h3 ?_
   refine Run.val (lt rfl) (Y.fieldAddr rfl Audit2_fo47_2) ?_
   refine Run.on rfl rfl rfl h3 ?_
   refine Run.val (lt rfl) (Y.load rfl Audit2_ts9 (Kn.at 0 rfl) rfl) ?_
   refine Run.on rfl rfl rfl h3 ?_
   refine Run.val (lt rfl) (Y.move rfl) ?_
   refine Run.on rfl rfl rfl h3 ?_
   refine Run.val (lt rfl) (Y.neStr rfl rfl) ?_
   refine Run.val (lt rfl) (Y.pick_f rfl h3 rfl) ?_
   refine Run.val (lt rfl) (Y.move rfl) ?_
   rcases Bool.eq_false_or_eq_true (((l.getD i1 Pr.dflt).client).toList == cl.toList) with h8 | h8
   ·have g8 := h8
    try simp only [kb] at g8
    refine Run.on rfl rfl rfl (congrArg Bool.not h8) ?_
    refine Run.val (lt rfl) (Y.loadAgg rfl Audit2_ag47 (Kn.at 0 rfl) rfl) ?_
    refine Run.on rfl rfl rfl (congrArg Bool.not h8) ?_
    refine Run.call0 (l := [.tmp 33]) rfl rfl rfl (lt rfl) (rright_c_h rfl) ?_
    refine Run.on rfl rfl rfl (congrArg Bool.not h8) ?_
    refine Run.val (lt rfl) (Y.not rfl) ?_
    refine Run.val (lt rfl) (Y.pick_f rfl (congrArg Bool.not h8) rfl) ?_
    refine Run.to_end ?_
    refine Ex.go ?_
    rcases Bool.eq_false_or_eq_true (Pr.right (l.getD i1 Pr.dflt)) with h9 | h9
    ·have g9 := h9
     try simp only [kb] at g9
     refine Tr.cond_f rfl (congrArg Bool.not h9) ?_
     refine Tr.to_end ?_
     refine Ex.go ?_
     refine Tr.seq ?_
     refine Tr.seq ?_
     refine Tr.region ?_
     refine Run.val (lt rfl) (Y.fieldAddr rfl Audit2_fo47_3) ?_
     refine Run.val (lt rfl) (Y.load rfl Audit2_ts3 (Kn.at 0 rfl) rfl) ?_
     refine Run.val (lt rfl) (Y.move rfl) ?_
     refine Run.val (lt rfl) (Y.int rfl rfl rfl) ?_
     refine Run.to_end ?_
     refine Ex.go ?_
     rcases Bool.eq_false_or_eq_true (decide (((l.getD i1 Pr.dflt).from_) > now)) with h10 | h10
     ·have g10 := h10
      try simp only [kb] at g10
      refine Tr.cond_t rfl h10 ?_
      refine Tr.to_exit ?_
      refine Ex.exit_then ?_
      refine Ex.exit_in ?_
      refine Ex.go ?_
      refine Tr.region ?_
      refine Run.val (lt rfl) (Y.move rfl) ?_
      refine Run.val (lt rfl) (Y.add rfl rfl (by omega)) ?_
      refine Run.val (lt rfl) (Y.assign rfl) ?_
      refine Run.to_end ?_
      refine Ex.keep [1] ?_
      have er : Pr.endd a cl now (l.take (i1 + 1)) = _ := (Pr.endd_take (by omega)).trans (congrArg (fun z => Pr.endd a cl now (l.take i1) ++ z) (Pr.e1_skip (show Pr.ec a cl (l.getD i1 Pr.dflt) = true by unfold Pr.ec; simp_all) (by omega)))
      exact Ex.round (⟨i1 + 1, p1, n1, k1, q1⟩ : Nat × Option Addr × Nat × Nat × Sg) ⟨by rw [er, List.append_nil]; exact how, by rw [er, List.append_nil]; exact hn, by omega⟩ (by dsimp only; omega) rfl rfl (subB_cons (by first | rfl | exact congrArg (fun z => some (Value.int _ z)) (by omega)) (subB_cons (by first | rfl | exact congrArg (fun z => some (Value.int _ z)) (by omega)) (subB_cons (by first | rfl | exact congrArg (fun z => some (Value.int _ z)) (by omega)) (subB_cons (by first | rfl | exact congrArg (fun z => some (Value.int _ z)) (by omega)) (subB_cons (by first | rfl | exact congrArg (fun z => some (Value.int _ z)) (by omega)) (subB_cons (by first | rfl | exact congrArg (fun z => some (Value.int _ z)) (by omega)) (subB_nil _)))))))
     ·have g10 := h10
      try simp only [kb] at g10
      refine Tr.cond_f rfl h10 ?_
      refine Tr.to_end ?_
      refine Ex.go ?_
      refine Tr.seq ?_
      refine Tr.region ?_
      refine Run.val (lt rfl) (Y.fieldAddr rfl Audit2_fo47_4) ?_
      refine Run.val (lt rfl) (Y.load rfl Audit2_ts3 (Kn.at 0 rfl) rfl) ?_
      refine Run.val (lt rfl) (Y.move rfl) ?_
      refine Run.val (lt rfl) (Y.min2 rfl rfl) ?_
      refine Run.val (lt rfl) (Y.fieldAddr rfl Audit2_fo47_4) ?_
      refine Run.store (s := [(b2, .cells #[.int .i64 ((l.getD i1 Pr.dflt).srv), .int .u32 ((l.getD i1 Pr.dflt).addr), .string ((l.getD i1 Pr.dflt).client), .int .i64 ((l.getD i1 Pr.dflt).from_), .int .i64 (min ((l.getD i1 Pr.dflt).till) now)] 47 (0, 0))]) rfl rfl Audit2_sz3 (i := 0) rfl rfl (le rfl) rfl rfl ?_
      refine Run.to_end ?_
      refine Ex.go ?_
      refine Tr.region ?_
      refine Run.val (lt rfl) (Y.move rfl) ?_
      refine Run.val (lt rfl) (Y.loadAgg rfl Audit2_ag47 (Kn.at 0 rfl) rfl) ?_
      refine Run.buildSlice (l := [(0, .tmp 51)]) (r := [.int .i64 ((l.getD i1 Pr.dflt).srv), .int .u32 ((l.getD i1 Pr.dflt).addr), .string ((l.getD i1 Pr.dflt).client), .int .i64 ((l.getD i1 Pr.dflt).from_), .int .i64 (min ((l.getD i1 Pr.dflt).till) now)]) Audit2_es40 Audit2_zo47 rfl (by decide) rfl rfl (by decide) (lt rfl) (fun b11 => ?_)
      refine Run.append (n := n1) (m := 1) (xs := (Pr.endd a cl now (l.take i1)).flatMap Pr.cells) (ys := [.int .i64 ((l.getD i1 Pr.dflt).srv), .int .u32 ((l.getD i1 Pr.dflt).addr), .string ((l.getD i1 Pr.dflt).client), .int .i64 ((l.getD i1 Pr.dflt).from_), .int .i64 (min ((l.getD i1 Pr.dflt).till) now)]) rfl rfl Audit2_es40 Audit2_zi47 (by decide) (j := 2) rfl how (Src.of_rd Audit2_es40 (Rd.one (Kn.at 0 rfl) rfl)) (by omega) (by omega) rfl (lt rfl) (fun v12 s13 ho14 hf => ?_)
      obtain ⟨p12, c12, rfl⟩ := hf
      replace ho14 := Ow.app1 (f := Pr.cells) (l := Pr.endd a cl now (l.take i1)) (x := (⟨(l.getD i1 Pr.dflt).srv, (l.getD i1 Pr.dflt).addr, (l.getD i1 Pr.dflt).client, (l.getD i1 Pr.dflt).from_, min ((l.getD i1 Pr.dflt).till) now⟩ : Pr)) ho14
      refine Run.val (lt rfl) (Y.assign rfl) ?_
      refine Run.to_end ?_
      refine Ex.end_block ?_
      refine Ex.go ?_
      refine Tr.region ?_
      refine Run.val (lt rfl) (Y.move rfl) ?_
      refine Run.val (lt rfl) (Y.add rfl rfl (by omega)) ?_
      refine Run.val (lt rfl) (Y.assign rfl) ?_
      refine Run.to_end ?_
      refine Ex.keep [2] ?_
      have er : Pr.endd a cl now (l.take (i1 + 1)) = _ := (Pr.endd_take (by omega)).trans (congrArg (fun z => Pr.endd a cl now (l.take i1) ++ z) (Pr.e1_cut (show Pr.ec a cl (l.getD i1 Pr.dflt) = true by unfold Pr.ec; simp_all) (by omega)))
      exact Ex.round (⟨i1 + 1, p12, (n1 + 1), c12, s13⟩ : Nat × Option Addr × Nat × Nat × Sg) ⟨by rw [er]; exact ho14, by rw [er, List.length_append, List.length_singleton]; dsimp only; omega, by omega⟩ (by dsimp only; omega) rfl rfl (subB_cons (by first | rfl | exact congrArg (fun z => some (Value.int _ z)) (by omega)) (subB_cons (by first | rfl | exact congrArg (fun z => some (Value.int _ z)) (by omega)) (subB_cons (by first | rfl | exact congrArg (fun z => some (Value.int _ z)) (by omega)) (subB_cons (by first | rfl | exact congrArg (fun z => some (Value.int _ z)) (by omega)) (subB_cons (by first | rfl | exact congrArg (fun z => some (Value.int _ z)) (by omega)) (subB_cons (by first | rfl | exact congrArg (fun z => some (Value.int _ z)) (by omega)) (subB_nil _)))))))
    ·have g9 := h9
     try simp only [kb] at g9
     refine Tr.cond_t rfl (congrArg Bool.not h9) ?_
     refine Tr.seq ?_
     refine Tr.region ?_
     refine Run.val (lt rfl) (Y.move rfl) ?_
     refine Run.val (lt rfl) (Y.loadAgg rfl Audit2_ag47 (Kn.at 0 rfl) rfl) ?_
     refine Run.buildSlice (l := [(0, .tmp 38)]) (r := [.int .i64 ((l.getD i1 Pr.dflt).srv), .int .u32 ((l.getD i1 Pr.dflt).addr), .string ((l.getD i1 Pr.dflt).client), .int .i64 ((l.getD i1 Pr.dflt).from_), .int .i64 ((l.getD i1 Pr.dflt).till)]) Audit2_es40 Audit2_zo47 rfl (by decide) rfl rfl (by decide) (lt rfl) (fun b15 => ?_)
     refine Run.append (n := n1) (m := 1) (xs := (Pr.endd a cl now (l.take i1)).flatMap Pr.cells) (ys := [.int .i64 ((l.getD i1 Pr.dflt).srv), .int .u32 ((l.getD i1 Pr.dflt).addr), .string ((l.getD i1 Pr.dflt).client), .int .i64 ((l.getD i1 Pr.dflt).from_), .int .i64 ((l.getD i1 Pr.dflt).till)]) rfl rfl Audit2_es40 Audit2_zi47 (by decide) (j := 2) rfl how (Src.of_rd Audit2_es40 (Rd.one (Kn.at 0 rfl) rfl)) (by omega) (by omega) rfl (lt rfl) (fun v16 s17 ho18 hf => ?_)
     obtain ⟨p16, c16, rfl⟩ := hf
     replace ho18 := Ow.app1 (f := Pr.cells) (l := Pr.endd a cl now (l.take i1)) (x := (⟨(l.getD i1 Pr.dflt).srv, (l.getD i1 Pr.dflt).addr, (l.getD i1 Pr.dflt).client, (l.getD i1 Pr.dflt).from_, (l.getD i1 Pr.dflt).till⟩ : Pr)) ho18
     refine Run.val (lt rfl) (Y.assign rfl) ?_
     refine Run.to_end ?_
     refine Ex.go ?_
     refine Tr.to_exit ?_
     refine Ex.exit_then ?_
     refine Ex.exit_in ?_
     refine Ex.go ?_
     refine Tr.region ?_
     refine Run.val (lt rfl) (Y.move rfl) ?_
     refine Run.val (lt rfl) (Y.add rfl rfl (by omega)) ?_
     refine Run.val (lt rfl) (Y.assign rfl) ?_
     refine Run.to_end ?_
     refine Ex.keep [2] ?_
     have er : Pr.endd a cl now (l.take (i1 + 1)) = _ := (Pr.endd_take (by omega)).trans (congrArg (fun z => Pr.endd a cl now (l.take i1) ++ z) (Pr.e1_keep (show Pr.ec a cl (l.getD i1 Pr.dflt) = false by unfold Pr.ec; simp_all)))
     exact Ex.round (⟨i1 + 1, p16, (n1 + 1), c16, s17⟩ : Nat × Option Addr × Nat × Nat × Sg) ⟨by rw [er]; exact ho18, by rw [er, List.length_append, List.length_singleton]; dsimp only; omega, by omega⟩ (by dsimp only; omega) rfl rfl (subB_cons (by first | rfl | exact congrArg (fun z => some (Value.int _ z)) (by omega)) (subB_cons (by first | rfl | exact congrArg (fun z => some (Value.int _ z)) (by omega)) (subB_cons (by first | rfl | exact congrArg (fun z => some (Value.int _ z)) (by omega)) (subB_cons (by first | rfl | exact congrArg (fun z => some (Value.int _ z)) (by omega)) (subB_cons (by first | rfl | exact congrArg (fun z => some (Value.int _ z)) (by omega)) (subB_cons (by first | rfl | exact congrArg (fun z => some (Value.int _ z)) (by omega)) (subB_nil _)))))))
   ·have g8 := h8
    try simp only [kb] at g8
    refine Run.off rfl rfl rfl (congrArg Bool.not h8) rfl (lt rfl) ?_
    refine Run.off rfl rfl rfl (congrArg Bool.not h8) rfl (lt rfl) ?_
    refine Run.off rfl rfl rfl (congrArg Bool.not h8) rfl (lt rfl) ?_
    refine Run.val (lt rfl) (Y.pick_t rfl (congrArg Bool.not h8) rfl) ?_
    refine Run.to_end ?_
    refine Ex.go ?_
    refine Tr.cond_t rfl rfl ?_
    refine Tr.seq ?_
    refine Tr.region ?_
    refine Run.val (lt rfl) (Y.move rfl) ?_
    refine Run.val (lt rfl) (Y.loadAgg rfl Audit2_ag47 (Kn.at 0 rfl) rfl) ?_
    refine Run.buildSlice (l := [(0, .tmp 38)]) (r := [.int .i64 ((l.getD i1 Pr.dflt).srv), .int .u32 ((l.getD i1 Pr.dflt).addr), .string ((l.getD i1 Pr.dflt).client), .int .i64 ((l.getD i1 Pr.dflt).from_), .int .i64 ((l.getD i1 Pr.dflt).till)]) Audit2_es40 Audit2_zo47 rfl (by decide) rfl rfl (by decide) (lt rfl) (fun b19 => ?_)
    refine Run.append (n := n1) (m := 1) (xs := (Pr.endd a cl now (l.take i1)).flatMap Pr.cells) (ys := [.int .i64 ((l.getD i1 Pr.dflt).srv), .int .u32 ((l.getD i1 Pr.dflt).addr), .string ((l.getD i1 Pr.dflt).client), .int .i64 ((l.getD i1 Pr.dflt).from_), .int .i64 ((l.getD i1 Pr.dflt).till)]) rfl rfl Audit2_es40 Audit2_zi47 (by decide) (j := 2) rfl how (Src.of_rd Audit2_es40 (Rd.one (Kn.at 0 rfl) rfl)) (by omega) (by omega) rfl (lt rfl) (fun v20 s21 ho22 hf => ?_)
    obtain ⟨p20, c20, rfl⟩ := hf
    replace ho22 := Ow.app1 (f := Pr.cells) (l := Pr.endd a cl now (l.take i1)) (x := (⟨(l.getD i1 Pr.dflt).srv, (l.getD i1 Pr.dflt).addr, (l.getD i1 Pr.dflt).client, (l.getD i1 Pr.dflt).from_, (l.getD i1 Pr.dflt).till⟩ : Pr)) ho22
    refine Run.val (lt rfl) (Y.assign rfl) ?_
    refine Run.to_end ?_
    refine Ex.go ?_
    refine Tr.to_exit ?_
    refine Ex.exit_then ?_
    refine Ex.exit_in ?_
    refine Ex.go ?_
    refine Tr.region ?_
    refine Run.val (lt rfl) (Y.move rfl) ?_
    refine Run.val (lt rfl) (Y.add rfl rfl (by omega)) ?_
    refine Run.val (lt rfl) (Y.assign rfl) ?_
    refine Run.to_end ?_
    refine Ex.keep [2] ?_
    have er : Pr.endd a cl now (l.take (i1 + 1)) = _ := (Pr.endd_take (by omega)).trans (congrArg (fun z => Pr.endd a cl now (l.take i1) ++ z) (Pr.e1_keep (show Pr.ec a cl (l.getD i1 Pr.dflt) = false by unfold Pr.ec; simp_all)))
    exact Ex.round (⟨i1 + 1, p20, (n1 + 1), c20, s21⟩ : Nat × Option Addr × Nat × Nat × Sg) ⟨by rw [er]; exact ho22, by rw [er, List.length_append, List.length_singleton]; dsimp only; omega, by omega⟩ (by dsimp only; omega) rfl rfl (subB_cons (by first | rfl | exact congrArg (fun z => some (Value.int _ z)) (by omega)) (subB_cons (by first | rfl | exact congrArg (fun z => some (Value.int _ z)) (by omega)) (subB_cons (by first | rfl | exact congrArg (fun z => some (Value.int _ z)) (by omega)) (subB_cons (by first | rfl | exact congrArg (fun z => some (Value.int _ z)) (by omega)) (subB_cons (by first | rfl | exact congrArg (fun z => some (Value.int _ z)) (by omega)) (subB_cons (by first | rfl | exact congrArg (fun z => some (Value.int _ z)) (by omega)) (subB_nil _)))))))
 ·have g1 := h1
  try simp only [kb] at g1
  refine Tr.cond_f rfl h1 ?_
  refine Tr.to_exit ?_
  refine Ex.exit_then ?_
  refine Ex.exit_then ?_
  refine Ex.exit_in ?_
  refine Ex.go ?_
  refine Tr.seq ?_
  refine Tr.region ?_
  refine Run.val (lt rfl) (Y.move rfl) ?_
  refine Run.val (lt rfl) (Y.assign rfl) ?_
  refine Run.to_end ?_
  refine Ex.go ?_
  refine Tr.to_ret ?_
  refine Ex.keep [0] ?_
  obtain rfl : i1 = l.length := by omega
  rw [List.take_length] at how hn
  subst hn
  exact Ex.ret1 rfl rfl  ⟨rfl, q1, how, rfl⟩

theorem same27_c {V : Vw} {H : Hp} {l : List Pr} {p p2 : Option Addr} {c c2 : Nat} (hv : Rd V H 5 (.slice p l.length c) l.length (l.flatMap Pr.cells)) (hw : Rd V H 5 (.slice p2 l.length c2) l.length (l.flatMap Pr.cells)) (hlm : l.length ≤ 1000000000)  : Does Try.prog 29 [.slice p l.length c, .slice p2 l.length c2] V H (Pv (.bool true) V H) := by
 refine Does.intro Try.func29 rfl rfl (le rfl) (fun B => ?_)
 refine Tr.seq ?_
 refine Tr.region ?_
 refine Run.val (lt rfl) (Y.assign rfl) ?_
 refine Run.to_end ?_
 refine Ex.go ?_
 refine Tr.seq ?_
 refine Tr.seq ?_
 refine Tr.region ?_
 refine Run.val (lt rfl) (Y.move rfl) ?_
 refine Run.val (lt rfl) (Y.lenSl rfl Audit2_es40) ?_
 refine Run.val (lt rfl) (Y.move rfl) ?_
 refine Run.val (lt rfl) (Y.lenSl rfl Audit2_es40) ?_
 refine Run.val (lt rfl) (Y.neI_f rfl rfl) ?_
 refine Run.to_end ?_
 refine Ex.go ?_
 refine Tr.cond_f rfl rfl ?_
 refine Tr.to_end ?_
 refine Ex.go ?_
 refine Tr.seq ?_
 refine Tr.seq ?_
 refine Tr.region ?_
 refine Run.val (lt rfl) (Y.assign rfl) ?_
 refine Run.to_end ?_
 refine Ex.go ?_
 refine Tr.block ?_
 refine Tr.loop (X := Nat) (fun z0 => V) (fun z0 => H) (fun z0 => [(0, .slice p l.length c), (1, .slice p2 l.length c2), (5, .int .i64 (z0 : Int))]) (fun z0 => z0 ≤ l.length) (fun z0 => l.length - z0) (0 : Nat) (Nat.zero_le _) (fun a w i => ⟨i.1.sub (subB_cons (by first | rfl | exact congrArg (fun z => some (Value.int _ z)) (by omega)) (subB_cons (by first | rfl | exact congrArg (fun z => some (Value.int _ z)) (by omega)) (subB_cons (by first | rfl | exact congrArg (fun z => some (Value.int _ z)) (by omega)) (subB_nil _)))), i.2⟩) ?_
 rintro i1 hi
 refine Tr.seq ?_
 refine Tr.seq ?_
 refine Tr.region ?_
 refine Run.val (lt rfl) (Y.move rfl) ?_
 refine Run.val (lt rfl) (Y.move rfl) ?_
 refine Run.val (lt rfl) (Y.lenSl rfl Audit2_es40) ?_
 refine Run.val (lt rfl) (Y.int rfl rfl rfl) ?_
 refine Run.to_end ?_
 refine Ex.go ?_
 rcases Bool.eq_false_or_eq_true (decide ((i1 : Int) < ((l.length : Nat) : Int))) with h1 | h1
 ·have g1 := h1
  try simp only [kb] at g1
  refine Tr.cond_t rfl h1 ?_
  refine Tr.to_end ?_
  refine Ex.go ?_
  refine Tr.seq ?_
  refine Tr.block ?_
  refine Tr.seq ?_
  refine Tr.quiet Audit2_mo (by kernel_rfl) ?_
  refine RunQ.val (lt rfl) (Y.move rfl) ?_
  refine RunQ.val (lt rfl) (Y.move rfl) ?_
  refine RunQ.val (lt rfl) (Y.idxR i1 rfl rfl Audit2_es40 hv (by omega) (by omega)) ?_
  refine RunQ.val (lt rfl) (Y.ldRA (vs := [.int .i64 ((l.getD i1 Pr.dflt).srv), .int .u32 ((l.getD i1 Pr.dflt).addr), .string ((l.getD i1 Pr.dflt).client), .int .i64 ((l.getD i1 Pr.dflt).from_), .int .i64 ((l.getD i1 Pr.dflt).till)]) rfl Audit2_ag47 hv rfl (by decide) (fun o ho => flatm_atA Pr.len (by omega) Pr.dflt o ho)) ?_
  refine RunQ.val (lt rfl) (Y.move rfl) ?_
  refine RunQ.val (lt rfl) (Y.move rfl) ?_
  refine RunQ.val (lt rfl) (Y.idxR i1 rfl rfl Audit2_es40 hw (by omega) (by omega)) ?_
  refine RunQ.val (lt rfl) (Y.ldRA (vs := [.int .i64 ((l.getD i1 Pr.dflt).srv), .int .u32 ((l.getD i1 Pr.dflt).addr), .string ((l.getD i1 Pr.dflt).client), .int .i64 ((l.getD i1 Pr.dflt).from_), .int .i64 ((l.getD i1 Pr.dflt).till)]) rfl Audit2_ag47 hw rfl (by decide) (fun o ho => flatm_atA Pr.len (by omega) Pr.dflt o ho)) ?_
  refine RunQ.val (lt rfl) (Y.neS_self rfl rfl Audit2_tgs47 rfl) ?_
  refine RunQ.to_end ?_
  refine Ex.go ?_
  refine Tr.cond_f rfl rfl ?_
  refine Tr.to_end ?_
  refine Ex.end_block ?_
  refine Ex.go ?_
  refine Tr.region ?_
  refine Run.val (lt rfl) (Y.move rfl) ?_
  refine Run.val (lt rfl) (Y.add rfl rfl (by omega)) ?_
  refine Run.val (lt rfl) (Y.assign rfl) ?_
  refine Run.to_end ?_
  exact Ex.round (i1 + 1 : Nat) (by omega) (by omega) rfl rfl (subB_cons (by first | rfl | exact congrArg (fun z => some (Value.int _ z)) (by omega)) (subB_cons (by first | rfl | exact congrArg (fun z => some (Value.int _ z)) (by omega)) (subB_cons (by first | rfl | exact congrArg (fun z => some (Value.int _ z)) (by omega)) (subB_nil _))))
 ·have g1 := h1
  try simp only [kb] at g1
  refine Tr.cond_f rfl h1 ?_
  refine Tr.to_exit ?_
  refine Ex.exit_then ?_
  refine Ex.exit_then ?_
  refine Ex.exit_in ?_
  refine Ex.go ?_
  refine Tr.seq ?_
  refine Tr.region ?_
  refine Run.val (lt rfl) (Y.assign rfl) ?_
  refine Run.to_end ?_
  refine Ex.go ?_
  refine Tr.to_ret ?_
  exact Ex.ret1 rfl rfl  ⟨rfl, rfl, rfl⟩

theorem same27_h {V : Vw} {H : Hp} {l : List Pr} {v w : Value} (hv : Rd V H 5 v l.length (l.flatMap Pr.cells)) (hw : Rd V H 5 w l.length (l.flatMap Pr.cells)) (hlm : l.length ≤ 1000000000) : Does Try.prog 29 [v, w] V H (Pv (.bool true) V H) := by
  obtain ⟨p, c, rfl, _⟩ := hv.form
  obtain ⟨p2, c2, rfl, _⟩ := hw.form
  exact same27_c hv hw hlm

theorem few_c {V : Vw} {l : List Pr} {p : Option Addr} {c : Nat} (hv : Rd V [] 5 (.slice p l.length c) l.length (l.flatMap Pr.cells)) (hl : l.length ≤ 9223372036854775807)  : Does Try.prog 21 [.slice p l.length c] V [] (fun v V' H' => V' = V ∧ H' = [] ∧ ∃ b, v = .bool b ∧ (b = true → l.length ≤ 60)) := by
 refine Does.intro Try.func21 rfl rfl (le rfl) (fun B => ?_)
 refine Tr.seq ?_
 refine Tr.region ?_
 refine Run.val (lt rfl) (Y.assign rfl) ?_
 refine Run.to_end ?_
 refine Ex.go ?_
 refine Tr.seq ?_
 refine Tr.seq ?_
 refine Tr.region ?_
 refine Run.val (lt rfl) (Y.assign rfl) ?_
 refine Run.to_end ?_
 refine Ex.go ?_
 refine Tr.block ?_
 refine Tr.loop (X := Nat) (fun z0 => V) (fun z0 => []) (fun z0 => [(0, .slice p l.length c), (3, .int .i64 (z0 : Int))]) (fun z0 => z0 ≤ l.length) (fun z0 => l.length - z0) (0 : Nat) (Nat.zero_le _) (fun a w i => ⟨i.1.sub (subB_cons (by first | rfl | exact congrArg (fun z => some (Value.int _ z)) (by omega)) (subB_cons (by first | rfl | exact congrArg (fun z => some (Value.int _ z)) (by omega)) (subB_nil _))), i.2⟩) ?_
 rintro i1 hi
 refine Tr.seq ?_
 refine Tr.seq ?_
 refine Tr.region ?_
 refine Run.val (lt rfl) (Y.move rfl) ?_
 refine Run.val (lt rfl) (Y.move rfl) ?_
 refine Run.val (lt rfl) (Y.lenSl rfl Audit2_es40) ?_
 refine Run.val (lt rfl) (Y.int rfl rfl rfl) ?_
 refine Run.to_end ?_
 refine Ex.go ?_
 rcases Bool.eq_false_or_eq_true (decide ((i1 : Int) < ((l.length : Nat) : Int))) with h1 | h1
 ·have g1 := h1
  try simp only [kb] at g1
  refine Tr.cond_t rfl h1 ?_
  refine Tr.to_end ?_
  refine Ex.go ?_
  refine Tr.seq ?_
  refine Tr.block ?_
  refine Tr.seq ?_
  refine Tr.region ?_
  refine Run.val (lt rfl) (Y.move rfl) ?_
  refine Run.val (lt rfl) (Y.move rfl) ?_
  refine Run.val (lt rfl) (Y.idxR i1 rfl rfl Audit2_es40 hv.of_nil (by omega) (by omega)) ?_
  refine Run.val (lt rfl) (Y.fieldR rfl Audit2_fo47_2 hv.of_nil (by omega)) ?_
  refine Run.val (lt rfl) (Y.ldR rfl Audit2_ts9 hv.of_nil (flatm_at Pr.len (by omega) Pr.dflt (by decide) rfl)) ?_
  refine Run.val (lt rfl) (Y.lenStr rfl Audit2_st9) ?_
  refine Run.val (lt rfl) (Y.int rfl rfl rfl) ?_
  refine Run.to_end ?_
  refine Ex.go ?_
  rcases Bool.eq_false_or_eq_true (decide ((((l.getD i1 Pr.dflt).client).size : Int) > 100)) with h2 | h2
  ·have g2 := h2
   try simp only [kb] at g2
   refine Tr.cond_t rfl h2 ?_
   refine Tr.seq ?_
   refine Tr.region ?_
   refine Run.val (lt rfl) (Y.assign rfl) ?_
   refine Run.to_end ?_
   refine Ex.go ?_
   refine Tr.to_ret ?_
   refine Ex.ret_block ?_
   refine Ex.ret_then ?_
   refine Ex.ret_then ?_
   refine Ex.ret_block ?_
   refine Ex.ret_then ?_
   refine Ex.keep [] ?_
   exact Ex.ret1 rfl rfl  ⟨rfl, rfl, false, rfl, fun h => by cases h⟩
  ·have g2 := h2
   try simp only [kb] at g2
   refine Tr.cond_f rfl h2 ?_
   refine Tr.to_end ?_
   refine Ex.end_block ?_
   refine Ex.go ?_
   refine Tr.region ?_
   refine Run.val (lt rfl) (Y.move rfl) ?_
   refine Run.val (lt rfl) (Y.add rfl rfl (by omega)) ?_
   refine Run.val (lt rfl) (Y.assign rfl) ?_
   refine Run.to_end ?_
   exact Ex.round (i1 + 1 : Nat) (by omega) (by omega) rfl rfl (subB_cons (by first | rfl | exact congrArg (fun z => some (Value.int _ z)) (by omega)) (subB_cons (by first | rfl | exact congrArg (fun z => some (Value.int _ z)) (by omega)) (subB_nil _)))
 ·have g1 := h1
  try simp only [kb] at g1
  refine Tr.cond_f rfl h1 ?_
  refine Tr.to_exit ?_
  refine Ex.exit_then ?_
  refine Ex.exit_then ?_
  refine Ex.exit_in ?_
  refine Ex.go ?_
  refine Tr.seq ?_
  refine Tr.region ?_
  refine Run.val (lt rfl) (Y.move rfl) ?_
  refine Run.val (lt rfl) (Y.lenSl rfl Audit2_es40) ?_
  refine Run.val (lt rfl) (Y.int rfl rfl rfl) ?_
  refine Run.val (lt rfl) (Y.assign rfl) ?_
  refine Run.to_end ?_
  refine Ex.go ?_
  refine Tr.to_ret ?_
  refine Ex.keep [] ?_
  exact Ex.ret1 rfl rfl  ⟨rfl, rfl, _, rfl, fun h => by have := of_decide_eq_true h; omega⟩
end Go.Proofs.Ytjfacdepgkdoeaa
