/- The reference's pools of addresses, walked.
Conditions: as each theorem names them. -/
import Derived.Test.YtjfacdepgkdoeaaProg
import Derived.Test.YtjfacdepgkdoeaaRC
import Derived.Test.YtjfacdepgkdoeaaLaw01
set_option linter.unusedSimpArgs false
set_option linter.unusedVariables false
set_option maxRecDepth 4000
namespace Go.Proofs.Ytjfacdepgkdoeaa
open Go Go.K
attribute [local irreducible] Code.wp wpList Calls wpQuiet
theorem Addr4_es51 : elemS Try.prog 51 = some (53, 2) := by kernel_rfl
theorem Addr4_mo : Try.prog.follows .mixedOrders = true := by kernel_rfl
theorem Addr4_fo53_1 : fieldOff Try.prog 53 1 = some 1 := by kernel_rfl
theorem Addr4_ts37 : scal Try.prog 37 = true := by kernel_rfl
theorem Addr4_it37_3 : intT Try.prog 37 3 = some .i64 := by kernel_rfl
theorem Addr4_fo53_0 : fieldOff Try.prog 53 0 = some 0 := by kernel_rfl
theorem Addr4_it3_37 : intT Try.prog 3 37 = some .u32 := by kernel_rfl
theorem Addr4_zo53 : zeroOf Try.prog 53 = some (.agg #[.int .u32 0, .int .u32 0]) := by kernel_rfl
theorem Addr4_pl53 : placesS Try.prog 53 = some [(0, 1), (1, 1)] := by kernel_rfl
theorem Addr4_zi53 : zeroInfo Try.prog 53 = some (2, 8, .agg #[.int .u32 0, .int .u32 0]) := by kernel_rfl

theorem rcount_c {V : Vw} {H : Hp} {l : List Rg} {p : Option Addr} {c : Nat} (hv : Rd V H 2 (.slice p l.length c) l.length (l.flatMap Rg.cells)) (hlm : l.length ≤ 1000) (hok : Rg.Oks l)  : Does Try.prog 39 [.slice p l.length c] V H (Pv (.int .i64 (Rg.cnt l)) V H) := by
 refine Does.intro Try.func39 rfl rfl (le rfl) (fun B => ?_)
 refine Tr.seq ?_
 refine Tr.region ?_
 refine Run.val (lt rfl) (Y.assign rfl) ?_
 refine Run.to_end ?_
 refine Ex.go ?_
 refine Tr.seq ?_
 refine Tr.region ?_
 refine Run.val (lt rfl) (Y.assign rfl) ?_
 refine Run.to_end ?_
 refine Ex.go ?_
 refine Tr.seq ?_
 refine Tr.seq ?_
 refine Tr.region ?_
 refine Run.val (lt rfl) (Y.assign rfl) ?_
 refine Run.to_end ?_
 refine Ex.go ?_
 refine Tr.block ?_
 refine Tr.loop (X := Nat) (fun z0 => V) (fun z0 => H) (fun z0 => [(0, .slice p l.length c), (3, .int .i64 (Rg.cnt (l.take z0))), (4, .int .i64 (z0 : Int))]) (fun z0 => z0 ≤ l.length) (fun z0 => l.length - z0) (0 : Nat) (Nat.zero_le _) (fun a w i => ⟨i.1.sub (subB_cons (by first | rfl | exact congrArg (fun z => some (Value.int _ z)) (by omega)) (subB_cons (by first | rfl | exact congrArg (fun z => some (Value.int _ z)) (by omega)) (subB_cons (by first | rfl | exact congrArg (fun z => some (Value.int _ z)) (by omega)) (subB_nil _)))), i.2⟩) ?_
 rintro i1 hi
 have hcb := Rg.cnt_bd (hok.take i1)
 rw [List.length_take] at hcb
 have hbd := hok.bd i1
 have hsd : Rg.size (l.getD i1 Rg.dflt) = (l.getD i1 Rg.dflt).high - (l.getD i1 Rg.dflt).low + 1 := rfl
 refine Tr.seq ?_
 refine Tr.seq ?_
 refine Tr.region ?_
 refine Run.val (lt rfl) (Y.move rfl) ?_
 refine Run.val (lt rfl) (Y.move rfl) ?_
 refine Run.val (lt rfl) (Y.lenSl rfl Addr4_es51) ?_
 refine Run.val (lt rfl) (Y.int rfl rfl rfl) ?_
 refine Run.to_end ?_
 refine Ex.go ?_
 rcases Bool.eq_false_or_eq_true (decide ((i1 : Int) < ((l.length : Nat) : Int))) with h1 | h1
 ·have g1 := h1
  try simp only [kb] at g1
  refine Tr.cond_t rfl h1 ?_
  refine Tr.to_end ?_
  refine Ex.go ?_
  refine Tr.seq ?_
  refine Tr.block ?_
  refine Tr.quiet Addr4_mo (by kernel_rfl) ?_
  refine RunQ.val (lt rfl) (Y.move rfl) ?_
  refine RunQ.val (lt rfl) (Y.move rfl) ?_
  refine RunQ.val (lt rfl) (Y.move rfl) ?_
  refine RunQ.val (lt rfl) (Y.idxR i1 rfl rfl Addr4_es51 hv (by omega) (by omega)) ?_
  refine RunQ.val (lt rfl) (Y.fieldR rfl Addr4_fo53_1 hv (by omega)) ?_
  refine RunQ.val (lt rfl) (Y.ldR rfl Addr4_ts37 hv (flatm_at Rg.len (by omega) Rg.dflt (by decide) rfl)) ?_
  refine RunQ.val (lt rfl) (Y.conv ((l.getD i1 Rg.dflt).high) rfl Addr4_it37_3 (wrap_i64 (by omega))) ?_
  refine RunQ.val (lt rfl) (Y.add rfl rfl (by omega)) ?_
  refine RunQ.val (lt rfl) (Y.move rfl) ?_
  refine RunQ.val (lt rfl) (Y.move rfl) ?_
  refine RunQ.val (lt rfl) (Y.idxR i1 rfl rfl Addr4_es51 hv (by omega) (by omega)) ?_
  refine RunQ.val (lt rfl) (Y.fieldR rfl Addr4_fo53_0 hv (by omega)) ?_
  refine RunQ.val (lt rfl) (Y.ldR rfl Addr4_ts37 hv (flatm_at Rg.len (by omega) Rg.dflt (by decide) rfl)) ?_
  refine RunQ.val (lt rfl) (Y.conv ((l.getD i1 Rg.dflt).low) rfl Addr4_it37_3 (wrap_i64 (by omega))) ?_
  refine RunQ.val (lt rfl) (Y.sub rfl rfl (by omega)) ?_
  refine RunQ.val (lt rfl) (Y.add rfl rfl (by omega)) ?_
  refine RunQ.val (lt rfl) (Y.assign rfl) ?_
  refine RunQ.to_end ?_
  refine Ex.end_block ?_
  refine Ex.go ?_
  refine Tr.region ?_
  refine Run.val (lt rfl) (Y.move rfl) ?_
  refine Run.val (lt rfl) (Y.add rfl rfl (by omega)) ?_
  refine Run.val (lt rfl) (Y.assign rfl) ?_
  refine Run.to_end ?_
  have er := Rg.cnt_take (l := l) (i := i1) (by omega)
  exact Ex.round (i1 + 1 : Nat) (by omega) (by omega) rfl rfl (subB_cons (by first | rfl | exact congrArg (fun z => some (Value.int _ z)) (by omega) | exact congrArg (fun z => some (Value.int _ z)) (by omega)) (subB_cons (by first | rfl | exact congrArg (fun z => some (Value.int _ z)) (by omega) | exact congrArg (fun z => some (Value.int _ z)) (by omega)) (subB_cons (by first | rfl | exact congrArg (fun z => some (Value.int _ z)) (by omega) | exact congrArg (fun z => some (Value.int _ z)) (by omega)) (subB_nil _))))
 ·have g1 := h1
  try simp only [kb] at g1
  refine Tr.cond_f rfl h1 ?_
  refine Tr.to_exit ?_
  refine Ex.exit_then ?_
  refine Ex.exit_then ?_
  refine Ex.exit_in ?_
  refine Ex.go ?_
  refine Tr.seq ?_
  refine Tr.region ?_
  refine Run.val (lt rfl) (Y.move rfl) ?_
  refine Run.val (lt rfl) (Y.assign rfl) ?_
  refine Run.to_end ?_
  refine Ex.go ?_
  refine Tr.to_ret ?_
  exact Ex.ret1 rfl rfl  ⟨congrArg (Value.int _) (by rw [List.take_of_length_le (by omega)]), rfl, rfl⟩

theorem rat_c {V : Vw} {H : Hp} {l : List Rg} {p : Option Addr} {c : Nat} (hv : Rd V H 2 (.slice p l.length c) l.length (l.flatMap Rg.cells)) (hlm : l.length ≤ 1000) (hok : Rg.Oks l) (hlh : ∀ r, r ∈ l → r.low ≤ r.high) {n : Int} (hn : -9223372036854775808 ≤ n ∧ n ≤ 9223372036854775807)  : Does Try.prog 37 [.slice p l.length c, .int .i64 n] V H (Pv (.tuple #[.int .u32 ((Rg.at_ (Rg.adr l) n).1), .int .i64 ((Rg.at_ (Rg.adr l) n).2)]) V H) := by
 refine Does.intro Try.func37 rfl rfl (le rfl) (fun B => ?_)
 refine Tr.seq ?_
 refine Tr.region ?_
 refine Run.val (lt rfl) (Y.assign rfl) ?_
 refine Run.val (lt rfl) (Y.assign rfl) ?_
 refine Run.to_end ?_
 refine Ex.go ?_
 refine Tr.seq ?_
 refine Tr.seq ?_
 refine Tr.region ?_
 refine Run.val (lt rfl) (Y.assign rfl) ?_
 refine Run.to_end ?_
 refine Ex.go ?_
 refine Tr.block ?_
 refine Tr.loop (X := Nat) (fun z0 => V) (fun z0 => H) (fun z0 => [(0, .slice p l.length c), (1, .int .i64 (n - (((Rg.adr (l.take z0)).length : Nat) : Int))), (6, .int .i64 (z0 : Int))]) (fun z0 => z0 ≤ l.length ∧ (z0 = 0 ∨ 0 ≤ n - (((Rg.adr (l.take z0)).length : Nat) : Int))) (fun z0 => l.length - z0) (0 : Nat) ⟨Nat.zero_le _, .inl rfl⟩ (fun a w i => ⟨i.1.sub (subB_cons (by first | rfl | exact congrArg (fun z => some (Value.int _ z)) (by omega) | exact congrArg (fun z => some (Value.int _ z)) (Int.sub_zero n).symm) (subB_cons (by first | rfl | exact congrArg (fun z => some (Value.int _ z)) (by omega) | exact congrArg (fun z => some (Value.int _ z)) (Int.sub_zero n).symm) (subB_cons (by first | rfl | exact congrArg (fun z => some (Value.int _ z)) (by omega) | exact congrArg (fun z => some (Value.int _ z)) (Int.sub_zero n).symm) (subB_nil _)))), i.2⟩) ?_
 rintro i1 ⟨hi, hz⟩
 have hal := Rg.adr_len_le (hok.take i1)
 rw [List.length_take] at hal
 have ha0 : i1 = 0 → (Rg.adr (l.take i1)).length = 0 := fun h => by subst h; rfl
 have hbd := hok.bd i1
 have hsd : Rg.size (l.getD i1 Rg.dflt) = (l.getD i1 Rg.dflt).high - (l.getD i1 Rg.dflt).low + 1 := rfl
 refine Tr.seq ?_
 refine Tr.seq ?_
 refine Tr.region ?_
 refine Run.val (lt rfl) (Y.move rfl) ?_
 refine Run.val (lt rfl) (Y.move rfl) ?_
 refine Run.val (lt rfl) (Y.lenSl rfl Addr4_es51) ?_
 refine Run.val (lt rfl) (Y.int rfl rfl rfl) ?_
 refine Run.val (lt rfl) (Y.move rfl) ?_
 rcases Bool.eq_false_or_eq_true (decide ((i1 : Int) < ((l.length : Nat) : Int))) with h1 | h1
 ·have g1 := h1
  try simp only [kb] at g1
  refine Run.on rfl rfl rfl h1 ?_
  refine Run.val (lt rfl) (Y.move rfl) ?_
  refine Run.on rfl rfl rfl h1 ?_
  refine Run.val (lt rfl) (Y.int rfl rfl rfl) ?_
  refine Run.val (lt rfl) (Y.pick_t rfl h1 rfl) ?_
  refine Run.to_end ?_
  refine Ex.go ?_
  rcases Bool.eq_false_or_eq_true (decide ((n - (((Rg.adr (l.take i1)).length : Nat) : Int)) ≥ 0)) with h2 | h2
  ·have g2 := h2
   try simp only [kb] at g2
   refine Tr.cond_t rfl h2 ?_
   refine Tr.to_end ?_
   refine Ex.go ?_
   refine Tr.seq ?_
   refine Tr.block ?_
   refine Tr.seq ?_
   refine Tr.quiet Addr4_mo (by kernel_rfl) ?_
   have hlo := hlh (l.getD i1 Rg.dflt) (getD_mem' (by omega) _)
   refine RunQ.val (lt rfl) (Y.move rfl) ?_
   refine RunQ.val (lt rfl) (Y.move rfl) ?_
   refine RunQ.val (lt rfl) (Y.idxR i1 rfl rfl Addr4_es51 hv (by omega) (by omega)) ?_
   refine RunQ.val (lt rfl) (Y.fieldR rfl Addr4_fo53_1 hv (by omega)) ?_
   refine RunQ.val (lt rfl) (Y.ldR rfl Addr4_ts37 hv (flatm_at Rg.len (by omega) Rg.dflt (by decide) rfl)) ?_
   refine RunQ.val (lt rfl) (Y.conv ((l.getD i1 Rg.dflt).high) rfl Addr4_it37_3 (wrap_i64 (by omega))) ?_
   refine RunQ.val (lt rfl) (Y.move rfl) ?_
   refine RunQ.val (lt rfl) (Y.move rfl) ?_
   refine RunQ.val (lt rfl) (Y.idxR i1 rfl rfl Addr4_es51 hv (by omega) (by omega)) ?_
   refine RunQ.val (lt rfl) (Y.fieldR rfl Addr4_fo53_0 hv (by omega)) ?_
   refine RunQ.val (lt rfl) (Y.ldR rfl Addr4_ts37 hv (flatm_at Rg.len (by omega) Rg.dflt (by decide) rfl)) ?_
   refine RunQ.val (lt rfl) (Y.conv ((l.getD i1 Rg.dflt).low) rfl Addr4_it37_3 (wrap_i64 (by omega))) ?_
   refine RunQ.val (lt rfl) (Y.sub rfl rfl (by omega)) ?_
   refine RunQ.val (lt rfl) (Y.add rfl rfl (by omega)) ?_
   refine RunQ.val (lt rfl) (Y.assign rfl) ?_
   refine RunQ.to_end ?_
   refine Ex.go ?_
   refine Tr.seq ?_
   refine Tr.seq ?_
   refine Tr.region ?_
   refine Run.val (lt rfl) (Y.move rfl) ?_
   refine Run.val (lt rfl) (Y.move rfl) ?_
   refine Run.val (lt rfl) (Y.int rfl rfl rfl) ?_
   refine Run.to_end ?_
   refine Ex.go ?_
   rcases Bool.eq_false_or_eq_true (decide ((n - (((Rg.adr (l.take i1)).length : Nat) : Int)) < ((((l.getD i1 Rg.dflt).high) - ((l.getD i1 Rg.dflt).low)) + 1))) with h3 | h3
   ·have g3 := h3
    try simp only [kb] at g3
    refine Tr.cond_t rfl h3 ?_
    refine Tr.seq ?_
    refine Tr.region ?_
    refine Run.val (lt rfl) (Y.move rfl) ?_
    refine Run.val (lt rfl) (Y.move rfl) ?_
    refine Run.val (lt rfl) (Y.idxR i1 rfl rfl Addr4_es51 hv (by omega) (by omega)) ?_
    refine Run.val (lt rfl) (Y.fieldR rfl Addr4_fo53_0 hv (by omega)) ?_
    refine Run.val (lt rfl) (Y.ldR rfl Addr4_ts37 hv (flatm_at Rg.len (by omega) Rg.dflt (by decide) rfl)) ?_
    refine Run.val (lt rfl) (Y.move rfl) ?_
    refine Run.val (lt rfl) (Y.conv (n - (((Rg.adr (l.take i1)).length : Nat) : Int)) rfl Addr4_it3_37 (wrap_u32 (by omega))) ?_
    refine Run.val (lt rfl) (Y.int (r := .int .u32 ((l.getD i1 Rg.dflt).low + (n - (((Rg.adr (l.take i1)).length : Nat) : Int)))) rfl rfl (by simp only [intRes]; rw [wrap_u32 (by omega)])) ?_
    refine Run.val (lt rfl) (Y.assign rfl) ?_
    refine Run.val (lt rfl) (Y.assign rfl) ?_
    refine Run.to_end ?_
    refine Ex.go ?_
    refine Tr.to_ret ?_
    refine Ex.ret_then ?_
    refine Ex.ret_block ?_
    refine Ex.ret_then ?_
    refine Ex.ret_then ?_
    refine Ex.ret_block ?_
    refine Ex.ret_then ?_
    exact Ex.ret2 rfl rfl rfl  ⟨by rw [Rg.at_at2 (l := l) (i := i1) (n := n) (by omega) (by omega) (by omega)], rfl, rfl⟩
   ·have g3 := h3
    try simp only [kb] at g3
    refine Tr.cond_f rfl h3 ?_
    refine Tr.to_end ?_
    refine Ex.go ?_
    refine Tr.region ?_
    refine Run.val (lt rfl) (Y.move rfl) ?_
    refine Run.val (lt rfl) (Y.move rfl) ?_
    refine Run.val (lt rfl) (Y.sub rfl rfl (by omega)) ?_
    refine Run.val (lt rfl) (Y.assign rfl) ?_
    refine Run.to_end ?_
    refine Ex.end_block ?_
    refine Ex.go ?_
    refine Tr.region ?_
    refine Run.val (lt rfl) (Y.move rfl) ?_
    refine Run.val (lt rfl) (Y.add rfl rfl (by omega)) ?_
    refine Run.val (lt rfl) (Y.assign rfl) ?_
    refine Run.to_end ?_
    have el := Rg.adr_len_take (l := l) (i := i1) (by omega)
    exact Ex.round (i1 + 1 : Nat) ⟨by omega, .inr (by omega)⟩ (by omega) rfl rfl (subB_cons (by first | rfl | exact congrArg (fun z => some (Value.int _ z)) (by omega) | exact congrArg (fun z => some (Value.int _ z)) (by (try dsimp only); omega)) (subB_cons (by first | rfl | exact congrArg (fun z => some (Value.int _ z)) (by omega) | exact congrArg (fun z => some (Value.int _ z)) (by (try dsimp only); omega)) (subB_cons (by first | rfl | exact congrArg (fun z => some (Value.int _ z)) (by omega) | exact congrArg (fun z => some (Value.int _ z)) (by (try dsimp only); omega)) (subB_nil _))))
  ·have g2 := h2
   try simp only [kb] at g2
   refine Tr.cond_f rfl h2 ?_
   refine Tr.to_exit ?_
   refine Ex.exit_then ?_
   refine Ex.exit_then ?_
   refine Ex.exit_in ?_
   refine Ex.go ?_
   refine Tr.seq ?_
   refine Tr.region ?_
   refine Run.val (lt rfl) (Y.assign rfl) ?_
   refine Run.val (lt rfl) (Y.assign rfl) ?_
   refine Run.to_end ?_
   refine Ex.go ?_
   refine Tr.to_ret ?_
   have hfl : i1 = l.length → (Rg.adr (l.take i1)).length = (Rg.adr l).length := fun h => by rw [h, List.take_length]
   exact Ex.ret2 rfl rfl rfl  ⟨by rw [Rg.at_out (n := n) (by by_cases hq : n < 0; (left; exact hq); (right; have := hfl (by omega); omega))], rfl, rfl⟩
 ·have g1 := h1
  try simp only [kb] at g1
  refine Run.off rfl rfl rfl h1 rfl (lt rfl) ?_
  refine Run.off rfl rfl rfl h1 rfl (lt rfl) ?_
  refine Run.val (lt rfl) (Y.pick_f rfl h1 rfl) ?_
  refine Run.to_end ?_
  refine Ex.go ?_
  refine Tr.cond_f rfl rfl ?_
  refine Tr.to_exit ?_
  refine Ex.exit_then ?_
  refine Ex.exit_then ?_
  refine Ex.exit_in ?_
  refine Ex.go ?_
  refine Tr.seq ?_
  refine Tr.region ?_
  refine Run.val (lt rfl) (Y.assign rfl) ?_
  refine Run.val (lt rfl) (Y.assign rfl) ?_
  refine Run.to_end ?_
  refine Ex.go ?_
  refine Tr.to_ret ?_
  have hfl : i1 = l.length → (Rg.adr (l.take i1)).length = (Rg.adr l).length := fun h => by rw [h, List.take_length]
  exact Ex.ret2 rfl rfl rfl  ⟨by rw [Rg.at_out (n := n) (by by_cases hq : n < 0; (left; exact hq); (right; have := hfl (by omega); omega))], rfl, rfl⟩

theorem rindex_c {V : Vw} {H : Hp} {l : List Rg} {p : Option Addr} {c : Nat} (hv : Rd V H 2 (.slice p l.length c) l.length (l.flatMap Rg.cells)) (hlm : l.length ≤ 1000) (hok : Rg.Oks l) (hlh : ∀ r, r ∈ l → r.low ≤ r.high) {a : Int} (ha : 0 ≤ a ∧ a ≤ 4294967295)  : Does Try.prog 41 [.slice p l.length c, .int .u32 a] V H (Pv (.int .i64 (Rg.idx (Rg.adr l) a)) V H) := by
 refine Does.intro Try.func41 rfl rfl (le rfl) (fun B => ?_)
 refine Tr.seq ?_
 refine Tr.region ?_
 refine Run.val (lt rfl) (Y.assign rfl) ?_
 refine Run.to_end ?_
 refine Ex.go ?_
 refine Tr.seq ?_
 refine Tr.region ?_
 refine Run.val (lt rfl) (Y.assign rfl) ?_
 refine Run.to_end ?_
 refine Ex.go ?_
 refine Tr.seq ?_
 refine Tr.seq ?_
 refine Tr.region ?_
 refine Run.val (lt rfl) (Y.assign rfl) ?_
 refine Run.to_end ?_
 refine Ex.go ?_
 refine Tr.block ?_
 refine Tr.loop (X := Nat) (fun z0 => V) (fun z0 => H) (fun z0 => [(0, .slice p l.length c), (1, .int .u32 a), (5, .int .i64 (((Rg.adr (l.take z0)).length : Nat) : Int)), (6, .int .i64 (z0 : Int))]) (fun z0 => z0 ≤ l.length ∧ ∀ j, j < z0 → ¬ ((l.getD j Rg.dflt).low ≤ a ∧ a ≤ (l.getD j Rg.dflt).high)) (fun z0 => l.length - z0) (0 : Nat) ⟨Nat.zero_le _, fun j hj => absurd hj (Nat.not_lt_zero j)⟩ (fun a w i => ⟨i.1.sub (subB_cons (by first | rfl | exact congrArg (fun z => some (Value.int _ z)) (by omega)) (subB_cons (by first | rfl | exact congrArg (fun z => some (Value.int _ z)) (by omega)) (subB_cons (by first | rfl | exact congrArg (fun z => some (Value.int _ z)) (by omega)) (subB_cons (by first | rfl | exact congrArg (fun z => some (Value.int _ z)) (by omega)) (subB_nil _))))), i.2⟩) ?_
 rintro i1 ⟨hi, hno⟩
 have hal := Rg.adr_len_le (hok.take i1)
 rw [List.length_take] at hal
 have hbd := hok.bd i1
 have hsd : Rg.size (l.getD i1 Rg.dflt) = (l.getD i1 Rg.dflt).high - (l.getD i1 Rg.dflt).low + 1 := rfl
 refine Tr.seq ?_
 refine Tr.seq ?_
 refine Tr.region ?_
 refine Run.val (lt rfl) (Y.move rfl) ?_
 refine Run.val (lt rfl) (Y.move rfl) ?_
 refine Run.val (lt rfl) (Y.lenSl rfl Addr4_es51) ?_
 refine Run.val (lt rfl) (Y.int rfl rfl rfl) ?_
 refine Run.to_end ?_
 refine Ex.go ?_
 rcases Bool.eq_false_or_eq_true (decide ((i1 : Int) < ((l.length : Nat) : Int))) with h1 | h1
 ·have g1 := h1
  try simp only [kb] at g1
  refine Tr.cond_t rfl h1 ?_
  refine Tr.to_end ?_
  refine Ex.go ?_
  refine Tr.seq ?_
  refine Tr.block ?_
  refine Tr.seq ?_
  refine Tr.seq ?_
  refine Tr.region ?_
  have hlo := hlh (l.getD i1 Rg.dflt) (getD_mem' (by omega) _)
  refine Run.val (lt rfl) (Y.move rfl) ?_
  refine Run.val (lt rfl) (Y.move rfl) ?_
  refine Run.val (lt rfl) (Y.move rfl) ?_
  refine Run.val (lt rfl) (Y.idxR i1 rfl rfl Addr4_es51 hv (by omega) (by omega)) ?_
  refine Run.val (lt rfl) (Y.fieldR rfl Addr4_fo53_0 hv (by omega)) ?_
  refine Run.val (lt rfl) (Y.ldR rfl Addr4_ts37 hv (flatm_at Rg.len (by omega) Rg.dflt (by decide) rfl)) ?_
  refine Run.val (lt rfl) (Y.int rfl rfl rfl) ?_
  refine Run.val (lt rfl) (Y.move rfl) ?_
  rcases Bool.eq_false_or_eq_true (decide (a ≥ ((l.getD i1 Rg.dflt).low))) with h2 | h2
  ·have g2 := h2
   try simp only [kb] at g2
   refine Run.on rfl rfl rfl h2 ?_
   refine Run.val (lt rfl) (Y.move rfl) ?_
   refine Run.on rfl rfl rfl h2 ?_
   refine Run.val (lt rfl) (Y.move rfl) ?_
   refine Run.on rfl rfl rfl h2 ?_
   refine Run.val (lt rfl) (Y.move rfl) ?_
   refine Run.on rfl rfl rfl h2 ?_
   refine Run.val (lt rfl) (Y.idxR i1 rfl rfl Addr4_es51 hv (by omega) (by omega)) ?_
   refine Run.on rfl rfl rfl h2 ?_
   refine Run.val (lt rfl) (Y.fieldR rfl Addr4_fo53_1 hv (by omega)) ?_
   refine Run.on rfl rfl rfl h2 ?_
   refine Run.val (lt rfl) (Y.ldR rfl Addr4_ts37 hv (flatm_at Rg.len (by omega) Rg.dflt (by decide) rfl)) ?_
   refine Run.on rfl rfl rfl h2 ?_
   refine Run.val (lt rfl) (Y.int rfl rfl rfl) ?_
   refine Run.val (lt rfl) (Y.pick_t rfl h2 rfl) ?_
   refine Run.to_end ?_
   refine Ex.go ?_
   rcases Bool.eq_false_or_eq_true (decide (a ≤ ((l.getD i1 Rg.dflt).high))) with h3 | h3
   ·have g3 := h3
    try simp only [kb] at g3
    refine Tr.cond_t rfl h3 ?_
    refine Tr.seq ?_
    refine Tr.region ?_
    refine Run.val (lt rfl) (Y.move rfl) ?_
    refine Run.val (lt rfl) (Y.move rfl) ?_
    refine Run.val (lt rfl) (Y.conv (a) rfl Addr4_it37_3 (wrap_i64 (by omega))) ?_
    refine Run.val (lt rfl) (Y.add rfl rfl (by omega)) ?_
    refine Run.val (lt rfl) (Y.move rfl) ?_
    refine Run.val (lt rfl) (Y.move rfl) ?_
    refine Run.val (lt rfl) (Y.idxR i1 rfl rfl Addr4_es51 hv (by omega) (by omega)) ?_
    refine Run.val (lt rfl) (Y.fieldR rfl Addr4_fo53_0 hv (by omega)) ?_
    refine Run.val (lt rfl) (Y.ldR rfl Addr4_ts37 hv (flatm_at Rg.len (by omega) Rg.dflt (by decide) rfl)) ?_
    refine Run.val (lt rfl) (Y.conv ((l.getD i1 Rg.dflt).low) rfl Addr4_it37_3 (wrap_i64 (by omega))) ?_
    refine Run.val (lt rfl) (Y.sub rfl rfl (by omega)) ?_
    refine Run.val (lt rfl) (Y.assign rfl) ?_
    refine Run.to_end ?_
    refine Ex.go ?_
    refine Tr.to_ret ?_
    refine Ex.ret_then ?_
    refine Ex.ret_block ?_
    refine Ex.ret_then ?_
    refine Ex.ret_then ?_
    refine Ex.ret_block ?_
    refine Ex.ret_then ?_
    exact Ex.ret1 rfl rfl  ⟨congrArg (Value.int _) (Rg.idx_at (l := l) (i := i1) (by omega) (by omega) (by omega) hno).symm, rfl, rfl⟩
   ·have g3 := h3
    try simp only [kb] at g3
    refine Tr.cond_f rfl h3 ?_
    refine Tr.to_end ?_
    refine Ex.go ?_
    refine Tr.quiet Addr4_mo (by kernel_rfl) ?_
    refine RunQ.val (lt rfl) (Y.move rfl) ?_
    refine RunQ.val (lt rfl) (Y.move rfl) ?_
    refine RunQ.val (lt rfl) (Y.move rfl) ?_
    refine RunQ.val (lt rfl) (Y.idxR i1 rfl rfl Addr4_es51 hv (by omega) (by omega)) ?_
    refine RunQ.val (lt rfl) (Y.fieldR rfl Addr4_fo53_1 hv (by omega)) ?_
    refine RunQ.val (lt rfl) (Y.ldR rfl Addr4_ts37 hv (flatm_at Rg.len (by omega) Rg.dflt (by decide) rfl)) ?_
    refine RunQ.val (lt rfl) (Y.conv ((l.getD i1 Rg.dflt).high) rfl Addr4_it37_3 (wrap_i64 (by omega))) ?_
    refine RunQ.val (lt rfl) (Y.add rfl rfl (by omega)) ?_
    refine RunQ.val (lt rfl) (Y.move rfl) ?_
    refine RunQ.val (lt rfl) (Y.move rfl) ?_
    refine RunQ.val (lt rfl) (Y.idxR i1 rfl rfl Addr4_es51 hv (by omega) (by omega)) ?_
    refine RunQ.val (lt rfl) (Y.fieldR rfl Addr4_fo53_0 hv (by omega)) ?_
    refine RunQ.val (lt rfl) (Y.ldR rfl Addr4_ts37 hv (flatm_at Rg.len (by omega) Rg.dflt (by decide) rfl)) ?_
    refine RunQ.val (lt rfl) (Y.conv ((l.getD i1 Rg.dflt).low) rfl Addr4_it37_3 (wrap_i64 (by omega))) ?_
    refine RunQ.val (lt rfl) (Y.sub rfl rfl (by omega)) ?_
    refine RunQ.val (lt rfl) (Y.add rfl rfl (by omega)) ?_
    refine RunQ.val (lt rfl) (Y.assign rfl) ?_
    refine RunQ.to_end ?_
    refine Ex.end_block ?_
    refine Ex.go ?_
    refine Tr.region ?_
    refine Run.val (lt rfl) (Y.move rfl) ?_
    refine Run.val (lt rfl) (Y.add rfl rfl (by omega)) ?_
    refine Run.val (lt rfl) (Y.assign rfl) ?_
    refine Run.to_end ?_
    have el := Rg.adr_len_take (l := l) (i := i1) (by omega)
    exact Ex.round (i1 + 1 : Nat) ⟨by omega, upto_succ hno (by omega)⟩ (by omega) rfl rfl (subB_cons (by first | rfl | exact congrArg (fun z => some (Value.int _ z)) (by omega) | exact congrArg (fun z => some (Value.int _ z)) (by (try dsimp only); omega)) (subB_cons (by first | rfl | exact congrArg (fun z => some (Value.int _ z)) (by omega) | exact congrArg (fun z => some (Value.int _ z)) (by (try dsimp only); omega)) (subB_cons (by first | rfl | exact congrArg (fun z => some (Value.int _ z)) (by omega) | exact congrArg (fun z => some (Value.int _ z)) (by (try dsimp only); omega)) (subB_cons (by first | rfl | exact congrArg (fun z => some (Value.int _ z)) (by omega) | exact congrArg (fun z => some (Value.int _ z)) (by (try dsimp only); omega)) (subB_nil _)))))
  ·have g2 := h2
   try simp only [kb] at g2
   refine Run.off rfl rfl rfl h2 rfl (lt rfl) ?_
   refine Run.off rfl rfl rfl h2 rfl (lt rfl) ?_
   refine Run.off rfl rfl rfl h2 rfl (lt rfl) ?_
   refine Run.off rfl rfl rfl h2 rfl (lt rfl) ?_
   refine Run.off rfl rfl rfl h2 rfl (lt rfl) ?_
   refine Run.off rfl rfl rfl h2 rfl (lt rfl) ?_
   refine Run.off rfl rfl rfl h2 rfl (lt rfl) ?_
   refine Run.val (lt rfl) (Y.pick_f rfl h2 rfl) ?_
   refine Run.to_end ?_
   refine Ex.go ?_
   refine Tr.cond_f rfl rfl ?_
   refine Tr.to_end ?_
   refine Ex.go ?_
   refine Tr.quiet Addr4_mo (by kernel_rfl) ?_
   refine RunQ.val (lt rfl) (Y.move rfl) ?_
   refine RunQ.val (lt rfl) (Y.move rfl) ?_
   refine RunQ.val (lt rfl) (Y.move rfl) ?_
   refine RunQ.val (lt rfl) (Y.idxR i1 rfl rfl Addr4_es51 hv (by omega) (by omega)) ?_
   refine RunQ.val (lt rfl) (Y.fieldR rfl Addr4_fo53_1 hv (by omega)) ?_
   refine RunQ.val (lt rfl) (Y.ldR rfl Addr4_ts37 hv (flatm_at Rg.len (by omega) Rg.dflt (by decide) rfl)) ?_
   refine RunQ.val (lt rfl) (Y.conv ((l.getD i1 Rg.dflt).high) rfl Addr4_it37_3 (wrap_i64 (by omega))) ?_
   refine RunQ.val (lt rfl) (Y.add rfl rfl (by omega)) ?_
   refine RunQ.val (lt rfl) (Y.move rfl) ?_
   refine RunQ.val (lt rfl) (Y.move rfl) ?_
   refine RunQ.val (lt rfl) (Y.idxR i1 rfl rfl Addr4_es51 hv (by omega) (by omega)) ?_
   refine RunQ.val (lt rfl) (Y.fieldR rfl Addr4_fo53_0 hv (by omega)) ?_
   refine RunQ.val (lt rfl) (Y.ldR rfl Addr4_ts37 hv (flatm_at Rg.len (by omega) Rg.dflt (by decide) rfl)) ?_
   refine RunQ.val (lt rfl) (Y.conv ((l.getD i1 Rg.dflt).low) rfl Addr4_it37_3 (wrap_i64 (by omega))) ?_
   refine RunQ.val (lt rfl) (Y.sub rfl rfl (by omega)) ?_
   refine RunQ.val (lt rfl) (Y.add rfl rfl (by omega)) ?_
   refine RunQ.val (lt rfl) (Y.assign rfl) ?_
   refine RunQ.to_end ?_
   refine Ex.end_block ?_
   refine Ex.go ?_
   refine Tr.region ?_
   refine Run.val (lt rfl) (Y.move rfl) ?_
   refine Run.val (lt rfl) (Y.add rfl rfl (by omega)) ?_
   refine Run.val (lt rfl) (Y.assign rfl) ?_
   refine Run.to_end ?_
   have el := Rg.adr_len_take (l := l) (i := i1) (by omega)
   exact Ex.round (i1 + 1 : Nat) ⟨by omega, upto_succ hno (by omega)⟩ (by omega) rfl rfl (subB_cons (by first | rfl | exact congrArg (fun z => some (Value.int _ z)) (by omega) | exact congrArg (fun z => some (Value.int _ z)) (by (try dsimp only); omega)) (subB_cons (by first | rfl | exact congrArg (fun z => some (Value.int _ z)) (by omega) | exact congrArg (fun z => some (Value.int _ z)) (by (try dsimp only); omega)) (subB_cons (by first | rfl | exact congrArg (fun z => some (Value.int _ z)) (by omega) | exact congrArg (fun z => some (Value.int _ z)) (by (try dsimp only); omega)) (subB_cons (by first | rfl | exact congrArg (fun z => some (Value.int _ z)) (by omega) | exact congrArg (fun z => some (Value.int _ z)) (by (try dsimp only); omega)) (subB_nil _)))))
 ·have g1 := h1
  try simp only [kb] at g1
  refine Tr.cond_f rfl h1 ?_
  refine Tr.to_exit ?_
  refine Ex.exit_then ?_
  refine Ex.exit_then ?_
  refine Ex.exit_in ?_
  refine Ex.go ?_
  refine Tr.seq ?_
  refine Tr.region ?_
  refine Run.val (lt rfl) (Y.assign rfl) ?_
  refine Run.to_end ?_
  refine Ex.go ?_
  refine Tr.to_ret ?_
  exact Ex.ret1 rfl rfl  ⟨congrArg (Value.int _) (Rg.idx_no fun j hj => hno j (by omega)).symm, rfl, rfl⟩

theorem rnext_c {V : Vw} {H : Hp} {l : List Rg} {p : Option Addr} {c : Nat} (hv : Rd V H 2 (.slice p l.length c) l.length (l.flatMap Rg.cells)) (hlm : l.length ≤ 1000) (hok : Rg.Oks l) {a : Int} (ha : 0 ≤ a ∧ a ≤ 4294967296)  : Does Try.prog 81 [.slice p l.length c, .int .i64 a] V H (Pv (.int .i64 (Rg.nx l a)) V H) := by
 refine Does.intro Try.func81 rfl rfl (le rfl) (fun B => ?_)
 refine Tr.seq ?_
 refine Tr.region ?_
 refine Run.val (lt rfl) (Y.assign rfl) ?_
 refine Run.to_end ?_
 refine Ex.go ?_
 refine Tr.seq ?_
 refine Tr.region ?_
 refine Run.val (lt rfl) (Y.assign rfl) ?_
 refine Run.to_end ?_
 refine Ex.go ?_
 refine Tr.seq ?_
 refine Tr.seq ?_
 refine Tr.region ?_
 refine Run.val (lt rfl) (Y.assign rfl) ?_
 refine Run.to_end ?_
 refine Ex.go ?_
 refine Tr.block ?_
 refine Tr.loop (X := Nat) (fun z0 => V) (fun z0 => H) (fun z0 => [(0, .slice p l.length c), (1, .int .i64 a), (5, .int .i64 (Rg.nx (l.take z0) a)), (6, .int .i64 (z0 : Int))]) (fun z0 => z0 ≤ l.length) (fun z0 => l.length - z0) (0 : Nat) (Nat.zero_le _) (fun a w i => ⟨i.1.sub (subB_cons (by first | rfl | exact congrArg (fun z => some (Value.int _ z)) (by omega)) (subB_cons (by first | rfl | exact congrArg (fun z => some (Value.int _ z)) (by omega)) (subB_cons (by first | rfl | exact congrArg (fun z => some (Value.int _ z)) (by omega)) (subB_cons (by first | rfl | exact congrArg (fun z => some (Value.int _ z)) (by omega)) (subB_nil _))))), i.2⟩) ?_
 rintro i1 hi
 have hbd := hok.bd i1
 have hsd : Rg.size (l.getD i1 Rg.dflt) = (l.getD i1 Rg.dflt).high - (l.getD i1 Rg.dflt).low + 1 := rfl
 refine Tr.seq ?_
 refine Tr.seq ?_
 refine Tr.region ?_
 refine Run.val (lt rfl) (Y.move rfl) ?_
 refine Run.val (lt rfl) (Y.move rfl) ?_
 refine Run.val (lt rfl) (Y.lenSl rfl Addr4_es51) ?_
 refine Run.val (lt rfl) (Y.int rfl rfl rfl) ?_
 refine Run.to_end ?_
 refine Ex.go ?_
 rcases Bool.eq_false_or_eq_true (decide ((i1 : Int) < ((l.length : Nat) : Int))) with h1 | h1
 ·have g1 := h1
  try simp only [kb] at g1
  refine Tr.cond_t rfl h1 ?_
  refine Tr.to_end ?_
  refine Ex.go ?_
  refine Tr.seq ?_
  refine Tr.block ?_
  refine Tr.seq ?_
  refine Tr.region ?_
  refine Run.val (lt rfl) (Y.move rfl) ?_
  refine Run.val (lt rfl) (Y.move rfl) ?_
  refine Run.val (lt rfl) (Y.idxR i1 rfl rfl Addr4_es51 hv (by omega) (by omega)) ?_
  refine Run.val (lt rfl) (Y.fieldR rfl Addr4_fo53_0 hv (by omega)) ?_
  refine Run.val (lt rfl) (Y.ldR rfl Addr4_ts37 hv (flatm_at Rg.len (by omega) Rg.dflt (by decide) rfl)) ?_
  refine Run.val (lt rfl) (Y.conv ((l.getD i1 Rg.dflt).low) rfl Addr4_it37_3 (wrap_i64 (by omega))) ?_
  refine Run.val (lt rfl) (Y.move rfl) ?_
  refine Run.val (lt rfl) (Y.max2 rfl rfl) ?_
  refine Run.val (lt rfl) (Y.assign rfl) ?_
  refine Run.to_end ?_
  refine Ex.go ?_
  refine Tr.seq ?_
  refine Tr.region ?_
  refine Run.val (lt rfl) (Y.move rfl) ?_
  refine Run.val (lt rfl) (Y.move rfl) ?_
  refine Run.val (lt rfl) (Y.move rfl) ?_
  refine Run.val (lt rfl) (Y.idxR i1 rfl rfl Addr4_es51 hv (by omega) (by omega)) ?_
  refine Run.val (lt rfl) (Y.fieldR rfl Addr4_fo53_1 hv (by omega)) ?_
  refine Run.val (lt rfl) (Y.ldR rfl Addr4_ts37 hv (flatm_at Rg.len (by omega) Rg.dflt (by decide) rfl)) ?_
  refine Run.val (lt rfl) (Y.conv ((l.getD i1 Rg.dflt).high) rfl Addr4_it37_3 (wrap_i64 (by omega))) ?_
  refine Run.val (lt rfl) (Y.int rfl rfl rfl) ?_
  refine Run.val (lt rfl) (Y.move rfl) ?_
  rcases Bool.eq_false_or_eq_true (decide ((max ((l.getD i1 Rg.dflt).low) a) ≤ ((l.getD i1 Rg.dflt).high))) with h2 | h2
  ·have g2 := h2
   try simp only [kb] at g2
   refine Run.on rfl rfl rfl h2 ?_
   refine Run.val (lt rfl) (Y.move rfl) ?_
   refine Run.on rfl rfl rfl h2 ?_
   refine Run.val (lt rfl) (Y.int rfl rfl rfl) ?_
   refine Run.on rfl rfl rfl h2 ?_
   refine Run.val (lt rfl) (Y.move rfl) ?_
   rcases Bool.eq_false_or_eq_true (decide ((Rg.nx (l.take i1) a) < 0)) with h3 | h3
   ·have g3 := h3
    try simp only [kb] at g3
    refine Run.off rfl rfl rfl h3 rfl (lt rfl) ?_
    refine Run.off rfl rfl rfl h3 rfl (lt rfl) ?_
    refine Run.off rfl rfl rfl h3 rfl (lt rfl) ?_
    refine Run.on rfl rfl rfl h2 ?_
    refine Run.val (lt rfl) (Y.pick_t rfl h3 rfl) ?_
    refine Run.val (lt rfl) (Y.pick_t rfl h2 rfl) ?_
    refine Run.to_end ?_
    refine Ex.go ?_
    refine Tr.cond_t rfl rfl ?_
    refine Tr.region ?_
    refine Run.val (lt rfl) (Y.move rfl) ?_
    refine Run.val (lt rfl) (Y.assign rfl) ?_
    refine Run.to_end ?_
    refine Ex.end_block ?_
    refine Ex.go ?_
    refine Tr.region ?_
    refine Run.val (lt rfl) (Y.move rfl) ?_
    refine Run.val (lt rfl) (Y.add rfl rfl (by omega)) ?_
    refine Run.val (lt rfl) (Y.assign rfl) ?_
    refine Run.to_end ?_
    have en := Rg.nx_take (l := l) (i := i1) (a := a) (by omega)
    rw [Rg.nx_yes (by omega) (by omega)] at en
    exact Ex.round (i1 + 1 : Nat) (by omega) (by omega) rfl rfl (subB_cons (by first | rfl | exact congrArg (fun z => some (Value.int _ z)) (by omega) | exact congrArg (fun z => some (Value.int _ z)) (by (try dsimp only); omega)) (subB_cons (by first | rfl | exact congrArg (fun z => some (Value.int _ z)) (by omega) | exact congrArg (fun z => some (Value.int _ z)) (by (try dsimp only); omega)) (subB_cons (by first | rfl | exact congrArg (fun z => some (Value.int _ z)) (by omega) | exact congrArg (fun z => some (Value.int _ z)) (by (try dsimp only); omega)) (subB_cons (by first | rfl | exact congrArg (fun z => some (Value.int _ z)) (by omega) | exact congrArg (fun z => some (Value.int _ z)) (by (try dsimp only); omega)) (subB_nil _)))))
   ·have g3 := h3
    try simp only [kb] at g3
    refine Run.on rfl rfl rfl h3 ?_
    refine Run.val (lt rfl) (Y.move rfl) ?_
    refine Run.on rfl rfl rfl h3 ?_
    refine Run.val (lt rfl) (Y.move rfl) ?_
    refine Run.on rfl rfl rfl h3 ?_
    refine Run.val (lt rfl) (Y.int rfl rfl rfl) ?_
    refine Run.on rfl rfl rfl h2 ?_
    refine Run.val (lt rfl) (Y.pick_f rfl h3 rfl) ?_
    refine Run.val (lt rfl) (Y.pick_t rfl h2 rfl) ?_
    refine Run.to_end ?_
    refine Ex.go ?_
    rcases Bool.eq_false_or_eq_true (decide ((max ((l.getD i1 Rg.dflt).low) a) < (Rg.nx (l.take i1) a))) with h4 | h4
    ·have g4 := h4
     try simp only [kb] at g4
     refine Tr.cond_t rfl h4 ?_
     refine Tr.region ?_
     refine Run.val (lt rfl) (Y.move rfl) ?_
     refine Run.val (lt rfl) (Y.assign rfl) ?_
     refine Run.to_end ?_
     refine Ex.end_block ?_
     refine Ex.go ?_
     refine Tr.region ?_
     refine Run.val (lt rfl) (Y.move rfl) ?_
     refine Run.val (lt rfl) (Y.add rfl rfl (by omega)) ?_
     refine Run.val (lt rfl) (Y.assign rfl) ?_
     refine Run.to_end ?_
     have en := Rg.nx_take (l := l) (i := i1) (a := a) (by omega)
     rw [Rg.nx_yes (by omega) (by omega)] at en
     exact Ex.round (i1 + 1 : Nat) (by omega) (by omega) rfl rfl (subB_cons (by first | rfl | exact congrArg (fun z => some (Value.int _ z)) (by omega) | exact congrArg (fun z => some (Value.int _ z)) (by (try dsimp only); omega)) (subB_cons (by first | rfl | exact congrArg (fun z => some (Value.int _ z)) (by omega) | exact congrArg (fun z => some (Value.int _ z)) (by (try dsimp only); omega)) (subB_cons (by first | rfl | exact congrArg (fun z => some (Value.int _ z)) (by omega) | exact congrArg (fun z => some (Value.int _ z)) (by (try dsimp only); omega)) (subB_cons (by first | rfl | exact congrArg (fun z => some (Value.int _ z)) (by omega) | exact congrArg (fun z => some (Value.int _ z)) (by (try dsimp only); omega)) (subB_nil _)))))
    ·have g4 := h4
     try simp only [kb] at g4
     refine Tr.cond_f rfl h4 ?_
     refine Tr.to_end ?_
     refine Ex.end_block ?_
     refine Ex.go ?_
     refine Tr.region ?_
     refine Run.val (lt rfl) (Y.move rfl) ?_
     refine Run.val (lt rfl) (Y.add rfl rfl (by omega)) ?_
     refine Run.val (lt rfl) (Y.assign rfl) ?_
     refine Run.to_end ?_
     have en := Rg.nx_take (l := l) (i := i1) (a := a) (by omega)
     rw [Rg.nx_no (by first | (left; omega) | (right; omega))] at en
     exact Ex.round (i1 + 1 : Nat) (by omega) (by omega) rfl rfl (subB_cons (by first | rfl | exact congrArg (fun z => some (Value.int _ z)) (by omega) | exact congrArg (fun z => some (Value.int _ z)) (by (try dsimp only); omega)) (subB_cons (by first | rfl | exact congrArg (fun z => some (Value.int _ z)) (by omega) | exact congrArg (fun z => some (Value.int _ z)) (by (try dsimp only); omega)) (subB_cons (by first | rfl | exact congrArg (fun z => some (Value.int _ z)) (by omega) | exact congrArg (fun z => some (Value.int _ z)) (by (try dsimp only); omega)) (subB_cons (by first | rfl | exact congrArg (fun z => some (Value.int _ z)) (by omega) | exact congrArg (fun z => some (Value.int _ z)) (by (try dsimp only); omega)) (subB_nil _)))))
  ·have g2 := h2
   try simp only [kb] at g2
   refine Run.off rfl rfl rfl h2 rfl (lt rfl) ?_
   refine Run.off rfl rfl rfl h2 rfl (lt rfl) ?_
   refine Run.off rfl rfl rfl h2 rfl (lt rfl) ?_
   refine Run.off_u rfl rfl rfl rfl (lt rfl) ?_
   refine Run.off_u rfl rfl rfl rfl (lt rfl) ?_
   refine Run.off_u rfl rfl rfl rfl (lt rfl) ?_
   refine Run.off rfl rfl rfl h2 rfl (lt rfl) ?_
   refine Run.val (lt rfl) (Y.pick_f rfl h2 rfl) ?_
   refine Run.to_end ?_
   refine Ex.go ?_
   refine Tr.cond_f rfl rfl ?_
   refine Tr.to_end ?_
   refine Ex.end_block ?_
   refine Ex.go ?_
   refine Tr.region ?_
   refine Run.val (lt rfl) (Y.move rfl) ?_
   refine Run.val (lt rfl) (Y.add rfl rfl (by omega)) ?_
   refine Run.val (lt rfl) (Y.assign rfl) ?_
   refine Run.to_end ?_
   have en := Rg.nx_take (l := l) (i := i1) (a := a) (by omega)
   rw [Rg.nx_no (by first | (left; omega) | (right; omega))] at en
   exact Ex.round (i1 + 1 : Nat) (by omega) (by omega) rfl rfl (subB_cons (by first | rfl | exact congrArg (fun z => some (Value.int _ z)) (by omega) | exact congrArg (fun z => some (Value.int _ z)) (by (try dsimp only); omega)) (subB_cons (by first | rfl | exact congrArg (fun z => some (Value.int _ z)) (by omega) | exact congrArg (fun z => some (Value.int _ z)) (by (try dsimp only); omega)) (subB_cons (by first | rfl | exact congrArg (fun z => some (Value.int _ z)) (by omega) | exact congrArg (fun z => some (Value.int _ z)) (by (try dsimp only); omega)) (subB_cons (by first | rfl | exact congrArg (fun z => some (Value.int _ z)) (by omega) | exact congrArg (fun z => some (Value.int _ z)) (by (try dsimp only); omega)) (subB_nil _)))))
 ·have g1 := h1
  try simp only [kb] at g1
  refine Tr.cond_f rfl h1 ?_
  refine Tr.to_exit ?_
  refine Ex.exit_then ?_
  refine Ex.exit_then ?_
  refine Ex.exit_in ?_
  refine Ex.go ?_
  refine Tr.seq ?_
  refine Tr.region ?_
  refine Run.val (lt rfl) (Y.move rfl) ?_
  refine Run.val (lt rfl) (Y.assign rfl) ?_
  refine Run.to_end ?_
  refine Ex.go ?_
  refine Tr.to_ret ?_
  exact Ex.ret1 rfl rfl  ⟨congrArg (Value.int _) (by rw [List.take_of_length_le (by omega)]), rfl, rfl⟩

theorem rhas_c {V : Vw} {H : Hp} {l : List Rg} {p : Option Addr} {c : Nat} (hv : Rd V H 2 (.slice p l.length c) l.length (l.flatMap Rg.cells)) (hlm : l.length ≤ 1000) (hok : Rg.Oks l) {a : Int} (ha : 0 ≤ a ∧ a ≤ 4294967296)  : Does Try.prog 82 [.slice p l.length c, .int .i64 a] V H (Pv (.bool (Rg.hasB l a)) V H) := by
 refine Does.intro Try.func82 rfl rfl (le rfl) (fun B => ?_)
 refine Tr.seq ?_
 refine Tr.region ?_
 refine Run.val (lt rfl) (Y.assign rfl) ?_
 refine Run.to_end ?_
 refine Ex.go ?_
 refine Tr.seq ?_
 refine Tr.seq ?_
 refine Tr.region ?_
 refine Run.val (lt rfl) (Y.assign rfl) ?_
 refine Run.to_end ?_
 refine Ex.go ?_
 refine Tr.block ?_
 refine Tr.loop (X := Nat) (fun z0 => V) (fun z0 => H) (fun z0 => [(0, .slice p l.length c), (1, .int .i64 a), (5, .int .i64 (z0 : Int))]) (fun z0 => z0 ≤ l.length ∧ ∀ j, j < z0 → ¬ ((l.getD j Rg.dflt).low ≤ a ∧ a ≤ (l.getD j Rg.dflt).high)) (fun z0 => l.length - z0) (0 : Nat) ⟨Nat.zero_le _, fun j hj => absurd hj (Nat.not_lt_zero j)⟩ (fun a w i => ⟨i.1.sub (subB_cons (by first | rfl | exact congrArg (fun z => some (Value.int _ z)) (by omega)) (subB_cons (by first | rfl | exact congrArg (fun z => some (Value.int _ z)) (by omega)) (subB_cons (by first | rfl | exact congrArg (fun z => some (Value.int _ z)) (by omega)) (subB_nil _)))), i.2⟩) ?_
 rintro i1 ⟨hi, hno⟩
 have hbd := hok.bd i1
 have hsd : Rg.size (l.getD i1 Rg.dflt) = (l.getD i1 Rg.dflt).high - (l.getD i1 Rg.dflt).low + 1 := rfl
 refine Tr.seq ?_
 refine Tr.seq ?_
 refine Tr.region ?_
 refine Run.val (lt rfl) (Y.move rfl) ?_
 refine Run.val (lt rfl) (Y.move rfl) ?_
 refine Run.val (lt rfl) (Y.lenSl rfl Addr4_es51) ?_
 refine Run.val (lt rfl) (Y.int rfl rfl rfl) ?_
 refine Run.to_end ?_
 refine Ex.go ?_
 rcases Bool.eq_false_or_eq_true (decide ((i1 : Int) < ((l.length : Nat) : Int))) with h1 | h1
 ·have g1 := h1
  try simp only [kb] at g1
  refine Tr.cond_t rfl h1 ?_
  refine Tr.to_end ?_
  refine Ex.go ?_
  refine Tr.seq ?_
  refine Tr.block ?_
  refine Tr.seq ?_
  refine Tr.region ?_
  refine Run.val (lt rfl) (Y.move rfl) ?_
  refine Run.val (lt rfl) (Y.move rfl) ?_
  refine Run.val (lt rfl) (Y.move rfl) ?_
  refine Run.val (lt rfl) (Y.idxR i1 rfl rfl Addr4_es51 hv (by omega) (by omega)) ?_
  refine Run.val (lt rfl) (Y.fieldR rfl Addr4_fo53_0 hv (by omega)) ?_
  refine Run.val (lt rfl) (Y.ldR rfl Addr4_ts37 hv (flatm_at Rg.len (by omega) Rg.dflt (by decide) rfl)) ?_
  refine Run.val (lt rfl) (Y.conv ((l.getD i1 Rg.dflt).low) rfl Addr4_it37_3 (wrap_i64 (by omega))) ?_
  refine Run.val (lt rfl) (Y.int rfl rfl rfl) ?_
  refine Run.val (lt rfl) (Y.move rfl) ?_
  rcases Bool.eq_false_or_eq_true (decide (a ≥ ((l.getD i1 Rg.dflt).low))) with h2 | h2
  ·have g2 := h2
   try simp only [kb] at g2
   refine Run.on rfl rfl rfl h2 ?_
   refine Run.val (lt rfl) (Y.move rfl) ?_
   refine Run.on rfl rfl rfl h2 ?_
   refine Run.val (lt rfl) (Y.move rfl) ?_
   refine Run.on rfl rfl rfl h2 ?_
   refine Run.val (lt rfl) (Y.move rfl) ?_
   refine Run.on rfl rfl rfl h2 ?_
   refine Run.val (lt rfl) (Y.idxR i1 rfl rfl Addr4_es51 hv (by omega) (by omega)) ?_
   refine Run.on rfl rfl rfl h2 ?_
   refine Run.val (lt rfl) (Y.fieldR rfl Addr4_fo53_1 hv (by omega)) ?_
   refine Run.on rfl rfl rfl h2 ?_
   refine Run.val (lt rfl) (Y.ldR rfl Addr4_ts37 hv (flatm_at Rg.len (by omega) Rg.dflt (by decide) rfl)) ?_
   refine Run.on rfl rfl rfl h2 ?_
   refine Run.val (lt rfl) (Y.conv ((l.getD i1 Rg.dflt).high) rfl Addr4_it37_3 (wrap_i64 (by omega))) ?_
   refine Run.on rfl rfl rfl h2 ?_
   refine Run.val (lt rfl) (Y.int rfl rfl rfl) ?_
   refine Run.val (lt rfl) (Y.pick_t rfl h2 rfl) ?_
   refine Run.to_end ?_
   refine Ex.go ?_
   rcases Bool.eq_false_or_eq_true (decide (a ≤ ((l.getD i1 Rg.dflt).high))) with h3 | h3
   ·have g3 := h3
    try simp only [kb] at g3
    refine Tr.cond_t rfl h3 ?_
    refine Tr.seq ?_
    refine Tr.region ?_
    refine Run.val (lt rfl) (Y.assign rfl) ?_
    refine Run.to_end ?_
    refine Ex.go ?_
    refine Tr.to_ret ?_
    refine Ex.ret_block ?_
    refine Ex.ret_then ?_
    refine Ex.ret_then ?_
    refine Ex.ret_block ?_
    refine Ex.ret_then ?_
    exact Ex.ret1 rfl rfl  ⟨congrArg Value.bool (Rg.hasB_yes (j := i1) (by omega) (by omega) (by omega)).symm, rfl, rfl⟩
   ·have g3 := h3
    try simp only [kb] at g3
    refine Tr.cond_f rfl h3 ?_
    refine Tr.to_end ?_
    refine Ex.end_block ?_
    refine Ex.go ?_
    refine Tr.region ?_
    refine Run.val (lt rfl) (Y.move rfl) ?_
    refine Run.val (lt rfl) (Y.add rfl rfl (by omega)) ?_
    refine Run.val (lt rfl) (Y.assign rfl) ?_
    refine Run.to_end ?_
    exact Ex.round (i1 + 1 : Nat) ⟨by omega, upto_succ hno (by omega)⟩ (by omega) rfl rfl (subB_cons (by first | rfl | exact congrArg (fun z => some (Value.int _ z)) (by omega)) (subB_cons (by first | rfl | exact congrArg (fun z => some (Value.int _ z)) (by omega)) (subB_cons (by first | rfl | exact congrArg (fun z => some (Value.int _ z)) (by omega)) (subB_nil _))))
  ·have g2 := h2
   try simp only [kb] at g2
   refine Run.off rfl rfl rfl h2 rfl (lt rfl) ?_
   refine Run.off rfl rfl rfl h2 rfl (lt rfl) ?_
   refine Run.off rfl rfl rfl h2 rfl (lt rfl) ?_
   refine Run.off rfl rfl rfl h2 rfl (lt rfl) ?_
   refine Run.off rfl rfl rfl h2 rfl (lt rfl) ?_
   refine Run.off rfl rfl rfl h2 rfl (lt rfl) ?_
   refine Run.off rfl rfl rfl h2 rfl (lt rfl) ?_
   refine Run.off rfl rfl rfl h2 rfl (lt rfl) ?_
   refine Run.val (lt rfl) (Y.pick_f rfl h2 rfl) ?_
   refine Run.to_end ?_
   refine Ex.go ?_
   refine Tr.cond_f rfl rfl ?_
   refine Tr.to_end ?_
   refine Ex.end_block ?_
   refine Ex.go ?_
   refine Tr.region ?_
   refine Run.val (lt rfl) (Y.move rfl) ?_
   refine Run.val (lt rfl) (Y.add rfl rfl (by omega)) ?_
   refine Run.val (lt rfl) (Y.assign rfl) ?_
   refine Run.to_end ?_
   exact Ex.round (i1 + 1 : Nat) ⟨by omega, upto_succ hno (by omega)⟩ (by omega) rfl rfl (subB_cons (by first | rfl | exact congrArg (fun z => some (Value.int _ z)) (by omega)) (subB_cons (by first | rfl | exact congrArg (fun z => some (Value.int _ z)) (by omega)) (subB_cons (by first | rfl | exact congrArg (fun z => some (Value.int _ z)) (by omega)) (subB_nil _))))
 ·have g1 := h1
  try simp only [kb] at g1
  refine Tr.cond_f rfl h1 ?_
  refine Tr.to_exit ?_
  refine Ex.exit_then ?_
  refine Ex.exit_then ?_
  refine Ex.exit_in ?_
  refine Ex.go ?_
  refine Tr.seq ?_
  refine Tr.region ?_
  refine Run.val (lt rfl) (Y.assign rfl) ?_
  refine Run.to_end ?_
  refine Ex.go ?_
  refine Tr.to_ret ?_
  exact Ex.ret1 rfl rfl  ⟨congrArg Value.bool (Rg.hasB_no fun j hj => hno j (by omega)).symm, rfl, rfl⟩

theorem rcount_h {V : Vw} {H : Hp} {l : List Rg} {v : Value}  (hv : Rd V H 2 v l.length (l.flatMap Rg.cells)) (hlm : l.length ≤ 1000) (hok : Rg.Oks l) : Does Try.prog 39 [v] V H (Pv (.int .i64 (Rg.cnt l)) V H) := by
  obtain ⟨p, c, rfl, _⟩ := hv.form
  exact rcount_c hv hlm hok 

theorem rat_h {V : Vw} {H : Hp} {l : List Rg} {v : Value} {n : Int} (hn : -9223372036854775808 ≤ n ∧ n ≤ 9223372036854775807) (hlh : ∀ r, r ∈ l → r.low ≤ r.high) (hv : Rd V H 2 v l.length (l.flatMap Rg.cells)) (hlm : l.length ≤ 1000) (hok : Rg.Oks l) : Does Try.prog 37 [v, .int .i64 n] V H (Pv (.tuple #[.int .u32 ((Rg.at_ (Rg.adr l) n).1), .int .i64 ((Rg.at_ (Rg.adr l) n).2)]) V H) := by
  obtain ⟨p, c, rfl, _⟩ := hv.form
  exact rat_c hv hlm hok hlh hn

theorem rindex_h {V : Vw} {H : Hp} {l : List Rg} {v : Value} {a : Int} (ha : 0 ≤ a ∧ a ≤ 4294967295) (hlh : ∀ r, r ∈ l → r.low ≤ r.high) (hv : Rd V H 2 v l.length (l.flatMap Rg.cells)) (hlm : l.length ≤ 1000) (hok : Rg.Oks l) : Does Try.prog 41 [v, .int .u32 a] V H (Pv (.int .i64 (Rg.idx (Rg.adr l) a)) V H) := by
  obtain ⟨p, c, rfl, _⟩ := hv.form
  exact rindex_c hv hlm hok hlh ha

theorem rnext_h {V : Vw} {H : Hp} {l : List Rg} {v : Value} {a : Int} (ha : 0 ≤ a ∧ a ≤ 4294967296) (hv : Rd V H 2 v l.length (l.flatMap Rg.cells)) (hlm : l.length ≤ 1000) (hok : Rg.Oks l) : Does Try.prog 81 [v, .int .i64 a] V H (Pv (.int .i64 (Rg.nx l a)) V H) := by
  obtain ⟨p, c, rfl, _⟩ := hv.form
  exact rnext_c hv hlm hok ha

theorem rhas_h {V : Vw} {H : Hp} {l : List Rg} {v : Value} {a : Int} (ha : 0 ≤ a ∧ a ≤ 4294967296) (hv : Rd V H 2 v l.length (l.flatMap Rg.cells)) (hlm : l.length ≤ 1000) (hok : Rg.Oks l) : Does Try.prog 82 [v, .int .i64 a] V H (Pv (.bool (Rg.hasB l a)) V H) := by
  obtain ⟨p, c, rfl, _⟩ := hv.form
  exact rhas_c hv hlm hok ha

theorem rpool_c {V : Vw} {l : List Rg} {p : Option Addr} {c : Nat} (hv : Rd V [] 2 (.slice p l.length c) l.length (l.flatMap Rg.cells)) (hlm : l.length ≤ 1000) (hok : Rg.Oks l)  : Does Try.prog 35 [.slice p l.length c] V [] (fun v V' H' => V.le V' ∧ H' = [] ∧ ∃ w, v = .tuple #[w, .int .i64 (Rg.pool l).2] ∧ Rd V' [] 2 w (Rg.pool l).1.length ((Rg.pool l).1.flatMap Rg.cells)) := by
 refine Does.intro Try.func35 rfl rfl (le rfl) (fun B => ?_)
 refine Tr.seq ?_
 refine Tr.region ?_
 refine Run.val (lt rfl) (Y.assign rfl) ?_
 refine Run.val (lt rfl) (Y.assign rfl) ?_
 refine Run.to_end ?_
 refine Ex.go ?_
 refine Tr.seq ?_
 refine Tr.seq ?_
 refine Tr.region ?_
 refine Run.val (lt rfl) (Y.assign rfl) ?_
 refine Run.to_end ?_
 refine Ex.go ?_
 refine Tr.block ?_
 refine Tr.loop (X := Nat) (fun z0 => V) (fun z0 => []) (fun z0 => [(0, .slice p l.length c), (4, .int .i64 (z0 : Int))]) (fun z0 => z0 ≤ l.length ∧ ∀ j, j < z0 → ¬ (l.getD j Rg.dflt).high < (l.getD j Rg.dflt).low) (fun z0 => l.length - z0) (0 : Nat) ⟨Nat.zero_le _, fun j hj => absurd hj (Nat.not_lt_zero j)⟩ (fun a w i => ⟨i.1.sub (subB_cons (by first | rfl | exact congrArg (fun z => some (Value.int _ z)) (by omega)) (subB_cons (by first | rfl | exact congrArg (fun z => some (Value.int _ z)) (by omega)) (subB_nil _))), i.2⟩) ?_
 rintro i1 ⟨hi, hno⟩
 have hbd := hok.bd i1
 have hsd : Rg.size (l.getD i1 Rg.dflt) = (l.getD i1 Rg.dflt).high - (l.getD i1 Rg.dflt).low + 1 := rfl
 refine Tr.seq ?_
 refine Tr.seq ?_
 refine Tr.region ?_
 refine Run.val (lt rfl) (Y.move rfl) ?_
 refine Run.val (lt rfl) (Y.move rfl) ?_
 refine Run.val (lt rfl) (Y.lenSl rfl Addr4_es51) ?_
 refine Run.val (lt rfl) (Y.int rfl rfl rfl) ?_
 refine Run.to_end ?_
 refine Ex.go ?_
 rcases Bool.eq_false_or_eq_true (decide ((i1 : Int) < ((l.length : Nat) : Int))) with h1 | h1
 ·have g1 := h1
  try simp only [kb] at g1
  refine Tr.cond_t rfl h1 ?_
  refine Tr.to_end ?_
  refine Ex.go ?_
  refine Tr.seq ?_
  refine Tr.block ?_
  refine Tr.seq ?_
  refine Tr.quiet Addr4_mo (by kernel_rfl) ?_
  refine RunQ.val (lt rfl) (Y.move rfl) ?_
  refine RunQ.val (lt rfl) (Y.move rfl) ?_
  refine RunQ.val (lt rfl) (Y.idxR i1 rfl rfl Addr4_es51 hv.of_nil (by omega) (by omega)) ?_
  refine RunQ.val (lt rfl) (Y.fieldR rfl Addr4_fo53_1 hv.of_nil (by omega)) ?_
  refine RunQ.val (lt rfl) (Y.ldR rfl Addr4_ts37 hv.of_nil (flatm_at Rg.len (by omega) Rg.dflt (by decide) rfl)) ?_
  refine RunQ.val (lt rfl) (Y.move rfl) ?_
  refine RunQ.val (lt rfl) (Y.move rfl) ?_
  refine RunQ.val (lt rfl) (Y.idxR i1 rfl rfl Addr4_es51 hv.of_nil (by omega) (by omega)) ?_
  refine RunQ.val (lt rfl) (Y.fieldR rfl Addr4_fo53_0 hv.of_nil (by omega)) ?_
  refine RunQ.val (lt rfl) (Y.ldR rfl Addr4_ts37 hv.of_nil (flatm_at Rg.len (by omega) Rg.dflt (by decide) rfl)) ?_
  refine RunQ.val (lt rfl) (Y.int rfl rfl rfl) ?_
  refine RunQ.to_end ?_
  refine Ex.go ?_
  rcases Bool.eq_false_or_eq_true (decide (((l.getD i1 Rg.dflt).high) < ((l.getD i1 Rg.dflt).low))) with h2 | h2
  ·have g2 := h2
   try simp only [kb] at g2
   refine Tr.cond_t rfl h2 ?_
   refine Tr.seq ?_
   refine Tr.region ?_
   refine Run.val (lt rfl) (Y.assign rfl) ?_
   refine Run.val (lt rfl) (Y.assign rfl) ?_
   refine Run.to_end ?_
   refine Ex.go ?_
   refine Tr.to_ret ?_
   refine Ex.ret_block ?_
   refine Ex.ret_then ?_
   refine Ex.ret_then ?_
   refine Ex.ret_block ?_
   refine Ex.ret_then ?_
   refine Ex.keep [] ?_
   exact Ex.ret2 rfl rfl rfl  ⟨Vw.le_refl _, rfl, _, by rw [Rg.pool_odd (Rg.odd_at (l := l) (i := i1) (by omega) (by omega))], by rw [Rg.pool_odd (Rg.odd_at (l := l) (i := i1) (by omega) (by omega))]; exact Rd.nil _ _ _⟩
  ·have g2 := h2
   try simp only [kb] at g2
   refine Tr.cond_f rfl h2 ?_
   refine Tr.to_end ?_
   refine Ex.end_block ?_
   refine Ex.go ?_
   refine Tr.region ?_
   refine Run.val (lt rfl) (Y.move rfl) ?_
   refine Run.val (lt rfl) (Y.add rfl rfl (by omega)) ?_
   refine Run.val (lt rfl) (Y.assign rfl) ?_
   refine Run.to_end ?_
   exact Ex.round (i1 + 1 : Nat) ⟨by omega, upto_succ hno (by omega)⟩ (by omega) rfl rfl (subB_cons (by first | rfl | exact congrArg (fun z => some (Value.int _ z)) (by omega)) (subB_cons (by first | rfl | exact congrArg (fun z => some (Value.int _ z)) (by omega)) (subB_nil _)))
 ·have g1 := h1
  try simp only [kb] at g1
  refine Tr.cond_f rfl h1 ?_
  refine Tr.to_exit ?_
  refine Ex.exit_then ?_
  refine Ex.exit_then ?_
  refine Ex.exit_in ?_
  refine Ex.go ?_
  refine Tr.seq ?_
  refine Tr.region ?_
  have hod := Rg.odd_none (l := l) fun j hj => hno j (by omega)
  have hsp := Rg.can_spec (Rg.odd_all hod)
  have hco := Rg.can_ok hok
  have hcl := Rg.can_len l
  refine Run.nilseg ?_
  refine Run.val (lt rfl) (Y.assign rfl) ?_
  refine Run.to_end ?_
  refine Ex.go ?_
  refine Tr.seq ?_
  refine Tr.region ?_
  refine Run.val (lt rfl) (Y.assign rfl) ?_
  refine Run.to_end ?_
  refine Ex.go ?_
  refine Tr.seq ?_
  refine Tr.region ?_
  refine Run.val (lt rfl) (Y.move rfl) ?_
  have hnx : Rg.nx l (0) = Rg.lowk (Rg.can l) 0 := Rg.nx_first hsp.1 hsp.2 hco
  refine Run.call0 (l := [.tmp 26, .const (.int .i64 0)]) rfl rfl rfl (lt rfl) (show Does Try.prog 81 [_, .int .i64 (0)] _ _ (Pv (.int .i64 (Rg.lowk (Rg.can l) 0)) _ _) from by have h := rnext_h (H := [[]]) (a := 0) (by omega) hv.of_nil (by omega) hok; rw [hnx] at h; exact h) ?_
  refine Run.heapTo (H' := [[]]) rfl ?_
  refine Run.val (lt rfl) (Y.assign rfl) ?_
  refine Run.to_end ?_
  refine Ex.go ?_
  refine Tr.seq ?_
  refine Tr.block ?_
  refine Tr.loop (X := Nat × Option Addr × Nat × Nat × Sg) (fun z0 => V) (fun z0 => [z0.2.2.2.2]) (fun z0 => [(0, .slice p l.length c), (5, .slice z0.2.1 z0.2.2.1 z0.2.2.2.1), (6, .int .i64 (Rg.cnt ((Rg.can l).take z0.1))), (7, .int .i64 (Rg.lowk (Rg.can l) z0.1))]) (fun z0 => Ow 53 2 (.slice z0.2.1 z0.2.2.1 z0.2.2.2.1) z0.2.2.1 (((Rg.can l).take z0.1).flatMap Rg.cells) z0.2.2.2.2 ∧ z0.2.2.1 = ((Rg.can l).take z0.1).length ∧ z0.1 ≤ (Rg.can l).length ∧ Rg.cnt ((Rg.can l).take z0.1) ≤ 256) (fun z0 => (Rg.can l).length - z0.1) (⟨0, none, 0, 0, []⟩ : Nat × Option Addr × Nat × Nat × Sg) ⟨Ow.nil _ _, rfl, Nat.zero_le _, (show (0 : Int) ≤ 256 by decide)⟩ (fun a w i => ⟨i.1.sub (subB_cons (by first | rfl | exact congrArg (fun z => some (Value.int _ z)) (by omega)) (subB_cons (by first | rfl | exact congrArg (fun z => some (Value.int _ z)) (by omega)) (subB_cons (by first | rfl | exact congrArg (fun z => some (Value.int _ z)) (by omega)) (subB_cons (by first | rfl | exact congrArg (fun z => some (Value.int _ z)) (by omega)) (subB_nil _))))), i.2⟩) ?_
  rintro ⟨k1, p1, n1, c1, q1⟩ ⟨how, hn, hk, hc⟩
  try dsimp only at how hn hk hc ⊢
  have hlw := Rg.lowk_nn hco k1
  have hcn := Rg.cnt_nn hsp.1 k1
  have hbk := hco.bd k1
  have hn9 : n1 ≤ k1 := by rw [hn, List.length_take]; omega
  refine Tr.seq ?_
  refine Tr.seq ?_
  refine Tr.region ?_
  refine Run.val (lt rfl) (Y.move rfl) ?_
  refine Run.val (lt rfl) (Y.int rfl rfl rfl) ?_
  refine Run.to_end ?_
  refine Ex.go ?_
  rcases Bool.eq_false_or_eq_true (decide ((Rg.lowk (Rg.can l) k1) ≥ 0)) with h3 | h3
  ·have g3 := h3
   try simp only [kb] at g3
   refine Tr.cond_t rfl h3 ?_
   refine Tr.to_end ?_
   refine Ex.go ?_
   refine Tr.block ?_
   refine Tr.seq ?_
   refine Tr.region ?_
   obtain ⟨_, hkl, hlk⟩ : Rg.lowk (Rg.can l) k1 ≥ 0 ∧ k1 < (Rg.can l).length ∧ Rg.lowk (Rg.can l) k1 = ((Rg.can l).getD k1 Rg.dflt).low := by omega
   have hlh := Rg.can_lh hsp.1 hkl
   refine Run.val (lt rfl) (Y.move rfl) ?_
   refine Run.val (lt rfl) (Y.assign rfl) ?_
   refine Run.to_end ?_
   refine Ex.go ?_
   refine Tr.seq ?_
   refine Tr.region ?_
   refine Run.val (lt rfl) (Y.move rfl) ?_
   refine Run.val (lt rfl) (Y.add rfl rfl (by omega)) ?_
   refine Run.val (lt rfl) (Y.assign rfl) ?_
   refine Run.to_end ?_
   refine Ex.go ?_
   refine Tr.seq ?_
   refine Tr.block ?_
   refine Tr.loop (X := Int) (fun z0 => V) (fun z0 => [q1]) (fun z0 => [(0, .slice p l.length c), (5, .slice p1 n1 c1), (6, .int .i64 (Rg.cnt ((Rg.can l).take k1) + (z0 - Rg.lowk (Rg.can l) k1 + 1))), (7, .int .i64 (Rg.lowk (Rg.can l) k1)), (8, .int .i64 z0)]) (fun z0 => ((Rg.can l).getD k1 Rg.dflt).low ≤ z0 ∧ z0 ≤ ((Rg.can l).getD k1 Rg.dflt).high ∧ Rg.cnt ((Rg.can l).take k1) + (z0 - Rg.lowk (Rg.can l) k1 + 1) ≤ 257) (fun z0 => (((Rg.can l).getD k1 Rg.dflt).high - z0).toNat) (Rg.lowk (Rg.can l) k1 : Int) ⟨by omega, by omega, by omega⟩ (fun a w i => ⟨i.1.sub (subB_cons (by first | rfl | exact congrArg (fun z => some (Value.int _ z)) (by omega)) (subB_cons (by first | rfl | exact congrArg (fun z => some (Value.int _ z)) (by omega)) (subB_cons (by first | rfl | exact congrArg (fun z => some (Value.int _ z)) (by omega)) (subB_cons (by first | rfl | exact congrArg (fun z => some (Value.int _ z)) (by omega)) (subB_cons (by first | rfl | exact congrArg (fun z => some (Value.int _ z)) (by omega)) (subB_nil _)))))), i.2⟩) ?_
   rintro h1 ⟨hh1, hh2, hh3⟩
   refine Tr.seq ?_
   refine Tr.seq ?_
   refine Tr.region ?_
   refine Run.val (lt rfl) (Y.move rfl) ?_
   refine Run.val (lt rfl) (Y.move rfl) ?_
   refine Run.val (lt rfl) (Y.add rfl rfl (by omega)) ?_
   refine Run.call0 (l := [.tmp 33, .tmp 35]) rfl rfl rfl (lt rfl) (rhas_h (a := h1 + 1) (by omega) hv.of_nil (by omega) hok) ?_
   refine Run.val (lt rfl) (Y.move rfl) ?_
   rcases Bool.eq_false_or_eq_true (Rg.hasB l (h1 + 1)) with h4 | h4
   ·have g4 := h4
    try simp only [kb] at g4
    refine Run.on rfl rfl rfl h4 ?_
    refine Run.val (lt rfl) (Y.move rfl) ?_
    refine Run.on rfl rfl rfl h4 ?_
    refine Run.val (lt rfl) (Y.int rfl rfl rfl) ?_
    refine Run.val (lt rfl) (Y.pick_t rfl h4 rfl) ?_
    refine Run.to_end ?_
    refine Ex.go ?_
    rcases Bool.eq_false_or_eq_true (decide ((Rg.cnt ((Rg.can l).take k1) + (h1 - Rg.lowk (Rg.can l) k1 + 1)) ≤ 256)) with h5 | h5
    ·have g5 := h5
     try simp only [kb] at g5
     refine Tr.cond_t rfl h5 ?_
     refine Tr.to_end ?_
     refine Ex.go ?_
     refine Tr.block ?_
     refine Tr.seq ?_
     refine Tr.region ?_
     refine Run.val (lt rfl) (Y.move rfl) ?_
     refine Run.val (lt rfl) (Y.add rfl rfl (by omega)) ?_
     refine Run.val (lt rfl) (Y.assign rfl) ?_
     refine Run.to_end ?_
     refine Ex.go ?_
     refine Tr.region ?_
     refine Run.val (lt rfl) (Y.move rfl) ?_
     refine Run.val (lt rfl) (Y.add rfl rfl (by omega)) ?_
     refine Run.val (lt rfl) (Y.assign rfl) ?_
     refine Run.to_end ?_
     refine Ex.end_block ?_
     have hne : h1 ≠ ((Rg.can l).getD k1 Rg.dflt).high := fun he => by have := Rg.has_behind hsp.1 hsp.2 hkl; rw [← he, h4] at this; cases this
     exact Ex.round (h1 + 1 : Int) ⟨by omega, by omega, by omega⟩ (by omega) rfl rfl (subB_cons (by first | rfl | exact congrArg (fun z => some (Value.int _ z)) (by omega) | exact congrArg (fun z => some (Value.int _ z)) (by (try dsimp only); omega)) (subB_cons (by first | rfl | exact congrArg (fun z => some (Value.int _ z)) (by omega) | exact congrArg (fun z => some (Value.int _ z)) (by (try dsimp only); omega)) (subB_cons (by first | rfl | exact congrArg (fun z => some (Value.int _ z)) (by omega) | exact congrArg (fun z => some (Value.int _ z)) (by (try dsimp only); omega)) (subB_cons (by first | rfl | exact congrArg (fun z => some (Value.int _ z)) (by omega) | exact congrArg (fun z => some (Value.int _ z)) (by (try dsimp only); omega)) (subB_cons (by first | rfl | exact congrArg (fun z => some (Value.int _ z)) (by omega) | exact congrArg (fun z => some (Value.int _ z)) (by (try dsimp only); omega)) (subB_nil _))))))
    ·have g5 := h5
     try simp only [kb] at g5
     refine Tr.cond_f rfl h5 ?_
     refine Tr.to_exit ?_
     refine Ex.exit_then ?_
     refine Ex.exit_then ?_
     refine Ex.exit_in ?_
     refine Ex.go ?_
     refine Tr.seq ?_
     refine Tr.seq ?_
     refine Tr.region ?_
     refine Run.val (lt rfl) (Y.move rfl) ?_
     refine Run.val (lt rfl) (Y.int rfl rfl rfl) ?_
     refine Run.to_end ?_
     refine Ex.go ?_
     rcases Bool.eq_false_or_eq_true (decide ((Rg.cnt ((Rg.can l).take k1) + (h1 - Rg.lowk (Rg.can l) k1 + 1)) > 256)) with h6 | h6
     ·have g6 := h6
      try simp only [kb] at g6
      refine Tr.cond_t rfl h6 ?_
      refine Tr.seq ?_
      refine Tr.region ?_
      refine Run.val (lt rfl) (Y.assign rfl) ?_
      refine Run.val (lt rfl) (Y.assign rfl) ?_
      refine Run.to_end ?_
      refine Ex.go ?_
      refine Tr.to_ret ?_
      refine Ex.ret_then ?_
      refine Ex.ret_block ?_
      refine Ex.ret_then ?_
      refine Ex.ret_block ?_
      refine Ex.ret_then ?_
      refine Ex.keep [] ?_
      have hge := Rg.cnt_ge hsp.1 (k1 + 1)
      have ec := Rg.cnt_take (l := (Rg.can l)) (i := k1) (by omega)
      have hsz : Rg.size ((Rg.can l).getD k1 Rg.dflt) = ((Rg.can l).getD k1 Rg.dflt).high - ((Rg.can l).getD k1 Rg.dflt).low + 1 := rfl
      exact Ex.ret2 rfl rfl rfl  ⟨Vw.le_refl _, rfl, _, by rw [Rg.pool_full hod (by omega)], by rw [Rg.pool_full hod (by omega)]; exact Rd.nil _ _ _⟩
     ·have g6 := h6
      try simp only [kb] at g6
      refine Tr.cond_f rfl h6 ?_
      refine Tr.to_end ?_
      refine Ex.go ?_
      refine Tr.seq ?_
      refine Tr.region ?_
      have heq : h1 = ((Rg.can l).getD k1 Rg.dflt).high := Int.le_antisymm hh2 (Int.not_lt.1 fun hcq => by have := Rg.has_inside hsp.2 hkl hh1 hcq; omega)
      refine Run.val (lt rfl) (Y.move rfl) ?_
      refine Run.val (lt rfl) (Y.move rfl) ?_
      refine Run.val (lt rfl) (Y.conv (Rg.lowk (Rg.can l) k1) rfl Addr4_it3_37 (wrap_u32 (by omega))) ?_
      refine Run.val (lt rfl) (Y.move rfl) ?_
      refine Run.val (lt rfl) (Y.conv (h1) rfl Addr4_it3_37 (wrap_u32 (by omega))) ?_
      refine Run.val (lt rfl) (Y.buildS (l := [(0, .tmp 49), (1, .tmp 51)]) Addr4_zo53 Addr4_pl53 rfl rfl) ?_
      refine Run.buildSlice (l := [(0, .tmp 52)]) Addr4_es51 Addr4_zo53 rfl (by decide) rfl rfl (by decide) (lt rfl) (fun b7 => ?_)
      refine Run.append (n := n1) (m := 1) (xs := ((Rg.can l).take k1).flatMap Rg.cells) (ys := [.int .u32 (Rg.lowk (Rg.can l) k1), .int .u32 h1]) rfl rfl Addr4_es51 Addr4_zi53 (by decide) (j := 1) rfl how (Src.of_rd Addr4_es51 (Rd.one (Kn.at 0 rfl) rfl)) (by omega) (by omega) rfl (lt rfl) (fun v8 s9 ho10 hf => ?_)
      obtain ⟨p8, c8, rfl⟩ := hf
      replace ho10 := Ow.app1 (f := Rg.cells) (l := (Rg.can l).take k1) (x := (⟨Rg.lowk (Rg.can l) k1, h1⟩ : Rg)) ho10
      refine Run.val (lt rfl) (Y.assign rfl) ?_
      refine Run.to_end ?_
      refine Ex.go ?_
      refine Tr.region ?_
      refine Run.val (lt rfl) (Y.move rfl) ?_
      refine Run.val (lt rfl) (Y.move rfl) ?_
      refine Run.val (lt rfl) (Y.add rfl rfl (by omega)) ?_
      have hnx : Rg.nx l (h1 + 1) = Rg.lowk (Rg.can l) (k1 + 1) := by rw [heq]; exact Rg.nx_next hsp.1 hsp.2 hco (by omega)
      refine Run.call0 (l := [.tmp 55, .tmp 57]) rfl rfl rfl (lt rfl) (show Does Try.prog 81 [_, .int .i64 (h1 + 1)] _ _ (Pv (.int .i64 (Rg.lowk (Rg.can l) (k1 + 1))) _ _) from by have h := rnext_h (H := [[(b7, .cells #[.int .u32 (Rg.lowk (Rg.can l) k1), .int .u32 h1] 53 (0, 0))], s9]) (a := h1 + 1) (by omega) hv.of_nil (by omega) hok; rw [hnx] at h; exact h) ?_
      refine Run.heapTo (H' := [[(b7, .cells #[.int .u32 (Rg.lowk (Rg.can l) k1), .int .u32 h1] 53 (0, 0))], s9]) rfl ?_
      refine Run.val (lt rfl) (Y.assign rfl) ?_
      refine Run.to_end ?_
      refine Ex.end_block ?_
      refine Ex.keep [1] ?_
      have ec := Rg.cnt_take (l := (Rg.can l)) (i := k1) (by omega)
      have et := take_succ_getD (Rg.can l) k1 Rg.dflt (by omega)
      have hsz : Rg.size ((Rg.can l).getD k1 Rg.dflt) = ((Rg.can l).getD k1 Rg.dflt).high - ((Rg.can l).getD k1 Rg.dflt).low + 1 := rfl
      have hoz := ho10
      rw [heq, hlk] at hoz
      exact Ex.round (⟨k1 + 1, p8, (n1 + 1), c8, s9⟩ : Nat × Option Addr × Nat × Nat × Sg) ⟨by rw [et]; exact hoz, by (try dsimp only); rw [et, List.length_append, List.length_singleton]; omega, by omega, by dsimp only; omega⟩ (by dsimp only; omega) rfl rfl (subB_cons (by first | rfl | exact congrArg (fun z => some (Value.int _ z)) (by omega) | exact congrArg (fun z => some (Value.int _ z)) (by (try dsimp only); omega)) (subB_cons (by first | rfl | exact congrArg (fun z => some (Value.int _ z)) (by omega) | exact congrArg (fun z => some (Value.int _ z)) (by (try dsimp only); omega)) (subB_cons (by first | rfl | exact congrArg (fun z => some (Value.int _ z)) (by omega) | exact congrArg (fun z => some (Value.int _ z)) (by (try dsimp only); omega)) (subB_cons (by first | rfl | exact congrArg (fun z => some (Value.int _ z)) (by omega) | exact congrArg (fun z => some (Value.int _ z)) (by (try dsimp only); omega)) (subB_nil _)))))
   ·have g4 := h4
    try simp only [kb] at g4
    refine Run.off rfl rfl rfl h4 rfl (lt rfl) ?_
    refine Run.off rfl rfl rfl h4 rfl (lt rfl) ?_
    refine Run.val (lt rfl) (Y.pick_f rfl h4 rfl) ?_
    refine Run.to_end ?_
    refine Ex.go ?_
    refine Tr.cond_f rfl rfl ?_
    refine Tr.to_exit ?_
    refine Ex.exit_then ?_
    refine Ex.exit_then ?_
    refine Ex.exit_in ?_
    refine Ex.go ?_
    refine Tr.seq ?_
    refine Tr.seq ?_
    refine Tr.region ?_
    refine Run.val (lt rfl) (Y.move rfl) ?_
    refine Run.val (lt rfl) (Y.int rfl rfl rfl) ?_
    refine Run.to_end ?_
    refine Ex.go ?_
    rcases Bool.eq_false_or_eq_true (decide ((Rg.cnt ((Rg.can l).take k1) + (h1 - Rg.lowk (Rg.can l) k1 + 1)) > 256)) with h11 | h11
    ·have g11 := h11
     try simp only [kb] at g11
     refine Tr.cond_t rfl h11 ?_
     refine Tr.seq ?_
     refine Tr.region ?_
     refine Run.val (lt rfl) (Y.assign rfl) ?_
     refine Run.val (lt rfl) (Y.assign rfl) ?_
     refine Run.to_end ?_
     refine Ex.go ?_
     refine Tr.to_ret ?_
     refine Ex.ret_then ?_
     refine Ex.ret_block ?_
     refine Ex.ret_then ?_
     refine Ex.ret_block ?_
     refine Ex.ret_then ?_
     refine Ex.keep [] ?_
     have hge := Rg.cnt_ge hsp.1 (k1 + 1)
     have ec := Rg.cnt_take (l := (Rg.can l)) (i := k1) (by omega)
     have hsz : Rg.size ((Rg.can l).getD k1 Rg.dflt) = ((Rg.can l).getD k1 Rg.dflt).high - ((Rg.can l).getD k1 Rg.dflt).low + 1 := rfl
     exact Ex.ret2 rfl rfl rfl  ⟨Vw.le_refl _, rfl, _, by rw [Rg.pool_full hod (by omega)], by rw [Rg.pool_full hod (by omega)]; exact Rd.nil _ _ _⟩
    ·have g11 := h11
     try simp only [kb] at g11
     refine Tr.cond_f rfl h11 ?_
     refine Tr.to_end ?_
     refine Ex.go ?_
     refine Tr.seq ?_
     refine Tr.region ?_
     have heq : h1 = ((Rg.can l).getD k1 Rg.dflt).high := Int.le_antisymm hh2 (Int.not_lt.1 fun hcq => by have := Rg.has_inside hsp.2 hkl hh1 hcq; rw [h4] at this; cases this)
     refine Run.val (lt rfl) (Y.move rfl) ?_
     refine Run.val (lt rfl) (Y.move rfl) ?_
     refine Run.val (lt rfl) (Y.conv (Rg.lowk (Rg.can l) k1) rfl Addr4_it3_37 (wrap_u32 (by omega))) ?_
     refine Run.val (lt rfl) (Y.move rfl) ?_
     refine Run.val (lt rfl) (Y.conv (h1) rfl Addr4_it3_37 (wrap_u32 (by omega))) ?_
     refine Run.val (lt rfl) (Y.buildS (l := [(0, .tmp 49), (1, .tmp 51)]) Addr4_zo53 Addr4_pl53 rfl rfl) ?_
     refine Run.buildSlice (l := [(0, .tmp 52)]) Addr4_es51 Addr4_zo53 rfl (by decide) rfl rfl (by decide) (lt rfl) (fun b12 => ?_)
     refine Run.append (n := n1) (m := 1) (xs := ((Rg.can l).take k1).flatMap Rg.cells) (ys := [.int .u32 (Rg.lowk (Rg.can l) k1), .int .u32 h1]) rfl rfl Addr4_es51 Addr4_zi53 (by decide) (j := 1) rfl how (Src.of_rd Addr4_es51 (Rd.one (Kn.at 0 rfl) rfl)) (by omega) (by omega) rfl (lt rfl) (fun v13 s14 ho15 hf => ?_)
     obtain ⟨p13, c13, rfl⟩ := hf
     replace ho15 := Ow.app1 (f := Rg.cells) (l := (Rg.can l).take k1) (x := (⟨Rg.lowk (Rg.can l) k1, h1⟩ : Rg)) ho15
     refine Run.val (lt rfl) (Y.assign rfl) ?_
     refine Run.to_end ?_
     refine Ex.go ?_
     refine Tr.region ?_
     refine Run.val (lt rfl) (Y.move rfl) ?_
     refine Run.val (lt rfl) (Y.move rfl) ?_
     refine Run.val (lt rfl) (Y.add rfl rfl (by omega)) ?_
     have hnx : Rg.nx l (h1 + 1) = Rg.lowk (Rg.can l) (k1 + 1) := by rw [heq]; exact Rg.nx_next hsp.1 hsp.2 hco (by omega)
     refine Run.call0 (l := [.tmp 55, .tmp 57]) rfl rfl rfl (lt rfl) (show Does Try.prog 81 [_, .int .i64 (h1 + 1)] _ _ (Pv (.int .i64 (Rg.lowk (Rg.can l) (k1 + 1))) _ _) from by have h := rnext_h (H := [[(b12, .cells #[.int .u32 (Rg.lowk (Rg.can l) k1), .int .u32 h1] 53 (0, 0))], s14]) (a := h1 + 1) (by omega) hv.of_nil (by omega) hok; rw [hnx] at h; exact h) ?_
     refine Run.heapTo (H' := [[(b12, .cells #[.int .u32 (Rg.lowk (Rg.can l) k1), .int .u32 h1] 53 (0, 0))], s14]) rfl ?_
     refine Run.val (lt rfl) (Y.assign rfl) ?_
     refine Run.to_end ?_
     refine Ex.end_block ?_
     refine Ex.keep [1] ?_
     have ec := Rg.cnt_take (l := (Rg.can l)) (i := k1) (by omega)
     have et := take_succ_getD (Rg.can l) k1 Rg.dflt (by omega)
     have hsz : Rg.size ((Rg.can l).getD k1 Rg.dflt) = ((Rg.can l).getD k1 Rg.dflt).high - ((Rg.can l).getD k1 Rg.dflt).low + 1 := rfl
     have hoz := ho15
     rw [heq, hlk] at hoz
     exact Ex.round (⟨k1 + 1, p13, (n1 + 1), c13, s14⟩ : Nat × Option Addr × Nat × Nat × Sg) ⟨by rw [et]; exact hoz, by (try dsimp only); rw [et, List.length_append, List.length_singleton]; omega, by omega, by dsimp only; omega⟩ (by dsimp only; omega) rfl rfl (subB_cons (by first | rfl | exact congrArg (fun z => some (Value.int _ z)) (by omega) | exact congrArg (fun z => some (Value.int _ z)) (by (try dsimp only); omega)) (subB_cons (by first | rfl | exact congrArg (fun z => some (Value.int _ z)) (by omega) | exact congrArg (fun z => some (Value.int _ z)) (by (try dsimp only); omega)) (subB_cons (by first | rfl | exact congrArg (fun z => some (Value.int _ z)) (by omega) | exact congrArg (fun z => some (Value.int _ z)) (by (try dsimp only); omega)) (subB_cons (by first | rfl | exact congrArg (fun z => some (Value.int _ z)) (by omega) | exact congrArg (fun z => some (Value.int _ z)) (by (try dsimp only); omega)) (subB_nil _)))))
  ·have g3 := h3
   try simp only [kb] at g3
   refine Tr.cond_f rfl h3 ?_
   refine Tr.to_exit ?_
   refine Ex.exit_then ?_
   refine Ex.exit_then ?_
   refine Ex.exit_in ?_
   refine Ex.go ?_
   refine Tr.seq ?_
   refine Tr.region ?_
   refine Run.val (lt rfl) (Y.move rfl) ?_
   refine Run.val (lt rfl) (Y.assign rfl) ?_
   refine Run.val (lt rfl) (Y.assign rfl) ?_
   refine Run.to_end ?_
   refine Ex.go ?_
   refine Tr.to_ret ?_
   have ek : k1 = (Rg.can l).length := by omega
   rw [ek, List.take_length] at how hn hc; subst hn
   refine Ex.show (fun V2 hle2 hsh2 => ?_)
   exact Ex.ret2 rfl rfl rfl  ⟨hle2, rfl, _, by rw [Rg.pool_ok hod (by omega)], by rw [Rg.pool_ok hod (by omega)]; exact how.show hsh2⟩

theorem rpool_h {V : Vw} {l : List Rg} {v : Value} (hv : Rd V [] 2 v l.length (l.flatMap Rg.cells)) (hlm : l.length ≤ 1000) (hok : Rg.Oks l) : Does Try.prog 35 [v] V [] (fun v V' H' => V.le V' ∧ H' = [] ∧ ∃ w, v = .tuple #[w, .int .i64 (Rg.pool l).2] ∧ Rd V' [] 2 w (Rg.pool l).1.length ((Rg.pool l).1.flatMap Rg.cells)) := by
  obtain ⟨p, c, rfl, _⟩ := hv.form
  exact rpool_c hv hlm hok
end Go.Proofs.Ytjfacdepgkdoeaa
