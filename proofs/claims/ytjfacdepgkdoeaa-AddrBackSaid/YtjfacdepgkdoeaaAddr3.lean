/- Texts of addresses, walked; the statement's own awake.
Conditions: as each theorem names them. -/
import Derived.Test.YtjfacdepgkdoeaaProg
import Derived.Test.YtjfacdepgkdoeaaRB
import Derived.Test.YtjfacdepgkdoeaaAddr2
set_option linter.unusedSimpArgs false
set_option linter.unusedVariables false
set_option maxRecDepth 4000
namespace Go.Proofs.Ytjfacdepgkdoeaa
open Go Go.K
attribute [local irreducible] Code.wp wpList Calls wpQuiet
theorem Addr3_st9 : strT Try.prog 9 = true := by kernel_rfl
theorem Addr3_it37_3 : intT Try.prog 37 3 = some .i64 := by kernel_rfl

theorem dig1_c {V : Vw} {n : Nat} (hn : n ≤ 255) (ih : ∀ k, k < n → Does Try.prog 88 [.int .i64 (k : Int)] V [] (Pv (.string (Rg.fgS k)) V []))  : Does Try.prog 88 [.int .i64 ((n : Nat) : Int)] V [] (Pv (.string (Rg.fgS n)) V []) := by
 refine Does.intro Try.func88 rfl rfl (le rfl) (fun B => ?_)
 refine Tr.seq ?_
 refine Tr.region ?_
 refine Run.val (lt rfl) (Y.assign rfl) ?_
 refine Run.to_end ?_
 refine Ex.go ?_
 refine Tr.seq ?_
 refine Tr.seq ?_
 refine Tr.region ?_
 refine Run.val (lt rfl) (Y.move rfl) ?_
 refine Run.val (lt rfl) (Y.int rfl rfl rfl) ?_
 refine Run.to_end ?_
 refine Ex.go ?_
 rcases Bool.eq_false_or_eq_true (decide (((n : Nat) : Int) < 10)) with h1 | h1
 ·have g1 := h1
  try simp only [kb] at g1
  refine Tr.cond_t rfl h1 ?_
  refine Tr.seq ?_
  refine Tr.region ?_
  refine Run.val (lt rfl) (Y.move rfl) ?_
  refine Run.val (lt rfl) (Y.move rfl) ?_
  refine Run.val (lt rfl) (Y.addN ((n + 1 : Nat) : Int) rfl rfl (by omega) (by omega)) ?_
  refine Run.val (lt rfl) (Y.sliceStr (s := Rg.ten) (l := n) (m := n + 1) rfl rfl rfl Addr3_st9 (by omega) (show n + 1 ≤ 10 by omega)) ?_
  refine Run.val (lt rfl) (Y.assign rfl) ?_
  refine Run.to_end ?_
  refine Ex.go ?_
  refine Tr.to_ret ?_
  refine Ex.ret_then ?_
  refine Ex.keep [] ?_
  exact Ex.ret1 rfl rfl  ⟨congrArg Value.string (Rg.ten_at (by omega)), rfl, rfl⟩
 ·have g1 := h1
  try simp only [kb] at g1
  refine Tr.cond_f rfl h1 ?_
  refine Tr.to_end ?_
  refine Ex.go ?_
  refine Tr.seq ?_
  refine Tr.region ?_
  refine Run.val (lt rfl) (Y.move rfl) ?_
  refine Run.val (lt rfl) (Y.quoN (m := n) (n := 10) rfl rfl (by omega) (by omega)) ?_
  refine Run.call0 (l := [.tmp 10]) rfl rfl rfl (lt rfl) (ih (n / 10) (by omega)) ?_
  refine Run.val (lt rfl) (Y.move rfl) ?_
  refine Run.val (lt rfl) (Y.rem (((n % 10 : Nat) : Int)) rfl rfl (by decide) rfl) ?_
  refine Run.call0 (l := [.tmp 13]) rfl rfl rfl (lt rfl) (ih (n % 10) (by omega)) ?_
  refine Run.val (lt rfl) (Y.catStr rfl rfl (by have h1 := Rg.fgS_size (n := n / 10) (by omega); have h2 := Rg.fgS_size (n := n % 10) (by omega); omega)) ?_
  refine Run.val (lt rfl) (Y.assign rfl) ?_
  refine Run.to_end ?_
  refine Ex.go ?_
  refine Tr.to_ret ?_
  refine Ex.keep [] ?_
  exact Ex.ret1 rfl rfl  ⟨congrArg Value.string (Rg.fgS_ge (by omega)), rfl, rfl⟩

theorem dig_h {n : Nat} (hn : n ≤ 255) {V : Vw} {H : Hp} : Does Try.prog 88 [.int .i64 ((n : Nat) : Int)] V H (Pv (.string (Rg.fgS n)) V H) := by
  have : ∀ k : Nat, k ≤ 255 → Does Try.prog 88 [.int .i64 (k : Int)] V [] (Pv (.string (Rg.fgS k)) V []) := fun k => by
    induction k using Nat.strongRecOn with
    | _ k ih => exact fun h => dig1_c h (fun j hj => ih j hj (by omega))
  exact (this n hn).frame

theorem text_c {m : Nat} (hm : m ≤ 4294967295) {V : Vw} : Does Try.prog 58 [.int .u32 ((m : Nat) : Int)] V [] (Pv (.string (Rg.txt m)) V []) := by
 refine Does.intro Try.func58 rfl rfl (le rfl) (fun B => ?_)
 refine Tr.seq ?_
 refine Tr.region ?_
 refine Run.val (lt rfl) (Y.assign rfl) ?_
 refine Run.to_end ?_
 refine Ex.go ?_
 refine Tr.seq ?_
 refine Tr.region ?_
 refine Run.val (lt rfl) (Y.assign rfl) ?_
 refine Run.to_end ?_
 refine Ex.go ?_
 refine Tr.seq ?_
 refine Tr.seq ?_
 refine Tr.region ?_
 refine Run.val (lt rfl) (Y.move rfl) ?_
 refine Run.to_end ?_
 refine Ex.go ?_
 refine Tr.block ?_
 refine Tr.loop (X := Nat) (fun z0 => V) (fun z0 => []) (fun z0 => [(0, .int .u32 ((m : Nat) : Int)), (3, .string (Rg.txtU m z0)), (5, .int .i64 (z0 : Int))]) (fun z0 => z0 ≤ 4) (fun z0 => 4 - z0) (0 : Nat) (Nat.zero_le _) (fun a w i => ⟨i.1.sub (subB_cons (by first | rfl | exact congrArg (fun z => some (Value.int _ z)) (by omega)) (subB_cons (by first | rfl | exact congrArg (fun z => some (Value.int _ z)) (by omega)) (subB_cons (by first | rfl | exact congrArg (fun z => some (Value.int _ z)) (by omega)) (subB_nil _)))), i.2⟩) ?_
 rintro i1 hi
 refine Tr.seq ?_
 refine Tr.region ?_
 refine Run.val (lt rfl) (Y.int rfl rfl rfl) ?_
 refine Run.to_end ?_
 refine Ex.go ?_
 refine Tr.seq ?_
 rcases Bool.eq_false_or_eq_true (decide ((i1 : Int) < 4)) with h1 | h1
 ·have g1 := h1
  try simp only [kb] at g1
  refine Tr.cond_t rfl h1 ?_
  refine Tr.to_end ?_
  refine Ex.go ?_
  refine Tr.seq ?_
  refine Tr.block ?_
  refine Tr.seq ?_
  refine Tr.region ?_
  refine Run.val (lt rfl) (Y.move rfl) ?_
  refine Run.val (lt rfl) (Y.assign rfl) ?_
  refine Run.to_end ?_
  refine Ex.go ?_
  refine Tr.seq ?_
  refine Tr.seq ?_
  refine Tr.region ?_
  refine Run.val (lt rfl) (Y.move rfl) ?_
  refine Run.val (lt rfl) (Y.int rfl rfl rfl) ?_
  refine Run.to_end ?_
  refine Ex.go ?_
  rcases Bool.eq_false_or_eq_true (decide ((i1 : Int) > 0)) with h2 | h2
  ·have g2 := h2
   try simp only [kb] at g2
   refine Tr.cond_t rfl h2 ?_
   refine Tr.region ?_
   refine Run.val (lt rfl) (Y.move rfl) ?_
   refine Run.val (lt rfl) (Y.catStr (b := Rg.dot) rfl rfl (by have h1 := Rg.txtU_size m i1; have h2 := Rg.fgS_size (Rg.prt_le m i1); have h3 := Rg.dot_size; (try simp only [ByteArray.size_append]); omega)) ?_
   refine Run.val (lt rfl) (Y.assign rfl) ?_
   refine Run.to_end ?_
   refine Ex.go ?_
   refine Tr.region ?_
   refine Run.val (lt rfl) (Y.move rfl) ?_
   refine Run.val (lt rfl) (Y.move rfl) ?_
   refine Run.val (lt rfl) (Y.move rfl) ?_
   refine Run.val (lt rfl) (Y.mul rfl rfl (by omega)) ?_
   refine Run.val (lt rfl) (Y.sub rfl rfl (by omega)) ?_
   refine Run.val (lt rfl) (Y.shrN (m := m) (q := 2 ^ (24 - 8 * i1)) rfl rfl (by omega) (Rg.shr_part (by omega))) ?_
   have hpb := Rg.part_bd hm i1
   refine Run.val (lt rfl) (Y.conv (((m / 2 ^ (24 - 8 * i1) : Nat) : Int)) rfl Addr3_it37_3 (wrap_i64 (by generalize m / 2 ^ (24 - 8 * i1) = q at hpb ⊢; omega))) ?_
   refine Run.val (lt rfl) (Y.int (r := .int .i64 ((Rg.prt m i1 : Nat) : Int)) rfl rfl (Rg.and_part m i1)) ?_
   refine Run.call0 (l := [.tmp 19]) rfl rfl rfl (lt rfl) (dig_h (n := Rg.prt m i1) (Rg.prt_le m i1)) ?_
   refine Run.val (lt rfl) (Y.catStr rfl rfl (by have h1 := Rg.txtU_size m i1; have h2 := Rg.fgS_size (Rg.prt_le m i1); have h3 := Rg.dot_size; (try simp only [ByteArray.size_append]); omega)) ?_
   refine Run.val (lt rfl) (Y.assign rfl) ?_
   refine Run.to_end ?_
   refine Ex.end_block ?_
   refine Ex.go ?_
   refine Tr.region ?_
   refine Run.val (lt rfl) (Y.add rfl rfl (by omega)) ?_
   refine Run.val (lt rfl) (Y.move rfl) ?_
   refine Run.to_end ?_
   have er : ((Rg.txtU m i1) ++ Rg.dot) ++ (Rg.fgS (Rg.prt m i1)) = Rg.txtU m (i1 + 1) := (Rg.txtU_dot (by omega)).symm
   exact Ex.round (i1 + 1 : Nat) (by omega) (by omega) rfl rfl (subB_cons (by first | rfl | exact congrArg (fun z => some (Value.int _ z)) (by omega) | exact congrArg (fun z => some (Value.string z)) er) (subB_cons (by first | rfl | exact congrArg (fun z => some (Value.int _ z)) (by omega) | exact congrArg (fun z => some (Value.string z)) er) (subB_cons (by first | rfl | exact congrArg (fun z => some (Value.int _ z)) (by omega) | exact congrArg (fun z => some (Value.string z)) er) (subB_nil _))))
  ·have g2 := h2
   try simp only [kb] at g2
   refine Tr.cond_f rfl h2 ?_
   refine Tr.to_end ?_
   refine Ex.go ?_
   refine Tr.region ?_
   refine Run.val (lt rfl) (Y.move rfl) ?_
   refine Run.val (lt rfl) (Y.move rfl) ?_
   refine Run.val (lt rfl) (Y.move rfl) ?_
   refine Run.val (lt rfl) (Y.mul rfl rfl (by omega)) ?_
   refine Run.val (lt rfl) (Y.sub rfl rfl (by omega)) ?_
   refine Run.val (lt rfl) (Y.shrN (m := m) (q := 2 ^ (24 - 8 * i1)) rfl rfl (by omega) (Rg.shr_part (by omega))) ?_
   have hpb := Rg.part_bd hm i1
   refine Run.val (lt rfl) (Y.conv (((m / 2 ^ (24 - 8 * i1) : Nat) : Int)) rfl Addr3_it37_3 (wrap_i64 (by generalize m / 2 ^ (24 - 8 * i1) = q at hpb ⊢; omega))) ?_
   refine Run.val (lt rfl) (Y.int (r := .int .i64 ((Rg.prt m i1 : Nat) : Int)) rfl rfl (Rg.and_part m i1)) ?_
   refine Run.call0 (l := [.tmp 19]) rfl rfl rfl (lt rfl) (dig_h (n := Rg.prt m i1) (Rg.prt_le m i1)) ?_
   refine Run.val (lt rfl) (Y.catStr rfl rfl (by have h1 := Rg.txtU_size m i1; have h2 := Rg.fgS_size (Rg.prt_le m i1); have h3 := Rg.dot_size; (try simp only [ByteArray.size_append]); omega)) ?_
   refine Run.val (lt rfl) (Y.assign rfl) ?_
   refine Run.to_end ?_
   refine Ex.end_block ?_
   refine Ex.go ?_
   refine Tr.region ?_
   refine Run.val (lt rfl) (Y.add rfl rfl (by omega)) ?_
   refine Run.val (lt rfl) (Y.move rfl) ?_
   refine Run.to_end ?_
   have er : (Rg.txtU m i1) ++ (Rg.fgS (Rg.prt m i1)) = Rg.txtU m (i1 + 1) := by obtain rfl : i1 = 0 := (by omega); exact Rg.txtU_no.symm
   exact Ex.round (i1 + 1 : Nat) (by omega) (by omega) rfl rfl (subB_cons (by first | rfl | exact congrArg (fun z => some (Value.int _ z)) (by omega) | exact congrArg (fun z => some (Value.string z)) er) (subB_cons (by first | rfl | exact congrArg (fun z => some (Value.int _ z)) (by omega) | exact congrArg (fun z => some (Value.string z)) er) (subB_cons (by first | rfl | exact congrArg (fun z => some (Value.int _ z)) (by omega) | exact congrArg (fun z => some (Value.string z)) er) (subB_nil _))))
 ·have g1 := h1
  try simp only [kb] at g1
  refine Tr.cond_f rfl h1 ?_
  refine Tr.to_exit ?_
  refine Ex.exit_then ?_
  refine Ex.exit_then ?_
  refine Ex.exit_in ?_
  refine Ex.go ?_
  refine Tr.seq ?_
  refine Tr.region ?_
  refine Run.val (lt rfl) (Y.move rfl) ?_
  refine Run.val (lt rfl) (Y.assign rfl) ?_
  refine Run.to_end ?_
  refine Ex.go ?_
  refine Tr.to_ret ?_
  refine Ex.keep [] ?_
  exact Ex.ret1 rfl rfl  ⟨by obtain rfl : i1 = 4 := (by omega); rfl, rfl, rfl⟩

theorem text_h {m : Nat} (hm : m ≤ 4294967295) {V : Vw} {H : Hp} : Does Try.prog 58 [.int .u32 ((m : Nat) : Int)] V H (Pv (.string (Rg.txt m)) V H) := (text_c hm).frame
theorem txt0 : (Rg.txt 3232235777).toList == (⟨#[49, 57, 50, 46, 49, 54, 56, 46, 49, 46, 49]⟩ : ByteArray).toList := by
  have f192 : Rg.fgS 192 = ⟨#[49, 57, 50]⟩ := by unfold Rg.fgS; rw [Rg.fg_ge (by decide), Rg.fg_ge (n := 192 / 10) (by decide), Rg.fg_lt (n := 192 / 10 / 10) (by decide), Rg.fg_lt (n := 192 / 10 % 10) (by decide), Rg.fg_lt (n := 192 % 10) (by decide)]; rfl
  have f168 : Rg.fgS 168 = ⟨#[49, 54, 56]⟩ := by unfold Rg.fgS; rw [Rg.fg_ge (by decide), Rg.fg_ge (n := 168 / 10) (by decide), Rg.fg_lt (n := 168 / 10 / 10) (by decide), Rg.fg_lt (n := 168 / 10 % 10) (by decide), Rg.fg_lt (n := 168 % 10) (by decide)]; rfl
  have f1 : Rg.fgS 1 = ⟨#[49]⟩ := by unfold Rg.fgS; rw [Rg.fg_lt (by decide)]; rfl
  have e : Rg.txt 3232235777 = ⟨#[49, 57, 50, 46, 49, 54, 56, 46, 49, 46, 49]⟩ := by
    unfold Rg.txt
    rw [Rg.txtU_dot (i := 3) (by decide), Rg.txtU_dot (i := 2) (by decide), Rg.txtU_dot (i := 1) (by decide), Rg.txtU_no, show Rg.prt 3232235777 0 = 192 from by decide, show Rg.prt 3232235777 1 = 168 from by decide, show Rg.prt 3232235777 2 = 1 from by decide, show Rg.prt 3232235777 3 = 1 from by decide, f192, f168, f1]
    decide +kernel
  rw [e]; exact beq_self_eq_true _
end Go.Proofs.Ytjfacdepgkdoeaa
