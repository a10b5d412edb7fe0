/- The addresses of a pool one by one, walked: At, Index.
Conditions: as each theorem names them. -/
import Derived.Test.YtjfacdepgkdoeaaProg
import Derived.Test.YtjfacdepgkdoeaaKD
import Derived.Test.YtjfacdepgkdoeaaRB
import Derived.Test.YtjfacdepgkdoeaaAddr
set_option linter.unusedSimpArgs false
set_option linter.unusedVariables false
set_option maxRecDepth 4000
namespace Go.Proofs.Ytjfacdepgkdoeaa
open Go Go.K
attribute [local irreducible] Code.wp wpList Calls wpQuiet
theorem Addr2_ts51 : scal Try.prog 51 = true := by kernel_rfl
theorem Addr2_es51 : elemS Try.prog 51 = some (53, 2) := by kernel_rfl
theorem Addr2_ag53 : aggsz Try.prog 53 = some 2 := by kernel_rfl
theorem Addr2_zo53 : zeroOf Try.prog 53 = some (.agg #[.int .u32 0, .int .u32 0]) := by kernel_rfl
theorem Addr2_sz53 : sizeT Try.prog 53 = some 2 := by kernel_rfl
theorem Addr2_fo53_0 : fieldOff Try.prog 53 0 = some 0 := by kernel_rfl
theorem Addr2_ts37 : scal Try.prog 37 = true := by kernel_rfl
theorem Addr2_it3_37 : intT Try.prog 3 37 = some .u32 := by kernel_rfl
theorem Addr2_zo37 : zeroOf Try.prog 37 = some (.int .u32 0) := by kernel_rfl
theorem Addr2_zo54 : zeroOf Try.prog 54 = some (.int .i64 0) := by kernel_rfl
theorem Addr2_ts3 : scal Try.prog 3 = true := by kernel_rfl
theorem Addr2_sz37 : sizeT Try.prog 37 = some 1 := by kernel_rfl
theorem Addr2_sz54 : sizeT Try.prog 54 = some 1 := by kernel_rfl
theorem Addr2_ts54 : scal Try.prog 54 = true := by kernel_rfl
theorem Addr2_zo3 : zeroOf Try.prog 3 = some (.int .i64 0) := by kernel_rfl
theorem Addr2_sz3 : sizeT Try.prog 3 = some 1 := by kernel_rfl

theorem all1_c {V : Vw} {l : List Rg} {p : Option Addr} {c b N : Nat} (hv : Rd V [] 2 (.slice p l.length c) l.length (l.flatMap Rg.cells)) (hlm : l.length ≤ 1000) (hok : Rg.Oks l) (hNl : (Rg.adr l).length ≤ N) {lp : Nat} {J Jx : List (Int × Int) → Hp → Prop} {Hy : Hp} (hy : ∀ xs x H, J xs H → xs.length < N → YDoes Try.prog lp (Rg.iv x) V H (fun u V' H' => V' = V ∧ (u = .bool true ∧ J (xs ++ [x]) H' ∨ u = .bool false ∧ Jx (xs ++ [x]) H'))) (h0 : J [] Hy)  : Does Try.prog 107 [yv lp, .pointer (some ⟨b, 0, none⟩)] V ([[(b, .cells #[.slice p l.length c] 51 (0, 0))]] ++ Hy) (fun _ V' H' => V' = V ∧ ∃ xs Hy', H' = [[(b, .cells #[.slice p l.length c] 51 (0, 0))]] ++ Hy' ∧ (xs = Rg.ix (Rg.adr l) ∧ J xs Hy' ∨ (∃ k, k < (Rg.adr l).length ∧ xs = (Rg.ix (Rg.adr l)).take (k + 1)) ∧ Jx xs Hy')) := by
 refine Does.intro Try.func107 rfl rfl (le rfl) (fun B => ?_)
 refine Tr.seq ?_
 refine Tr.region ?_
 refine Run.val (lt rfl) (Y.assign rfl) ?_
 refine Run.to_end ?_
 refine Ex.go ?_
 refine Tr.seq ?_
 refine Tr.region ?_
 refine Run.val (lt rfl) (Y.load rfl Addr2_ts51 (Kn.at 0 rfl) rfl) ?_
 refine Run.val (lt rfl) (Y.lenSl rfl Addr2_es51) ?_
 refine Run.val (lt rfl) (Y.move rfl) ?_
 refine Run.to_end ?_
 refine Ex.go ?_
 refine Tr.block ?_
 refine Tr.loop (X := Nat × Hp) (fun z0 => V) (fun z0 => [(b, .cells #[.slice p l.length c] 51 (0, 0))] :: z0.2) (fun z0 => [(0, yv lp), (3, .int .i64 (((Rg.adr (l.take z0.1)).length : Nat) : Int)), (7, .slice p l.length c), (8, .int .i64 ((l.length : Nat) : Int)), (9, .int .i64 (z0.1 : Int))]) (fun z0 => z0.1 ≤ l.length ∧ J ((Rg.ix (Rg.adr l)).take ((Rg.adr (l.take z0.1)).length)) z0.2) (fun z0 => l.length - z0.1) (⟨0, Hy⟩ : Nat × Hp) ⟨Nat.zero_le _, h0⟩ (fun a w i => ⟨i.1.sub (subB_cons (by first | rfl | exact congrArg (fun z => some (Value.int _ z)) (by omega)) (subB_cons (by first | rfl | exact congrArg (fun z => some (Value.int _ z)) (by omega)) (subB_cons (by first | rfl | exact congrArg (fun z => some (Value.int _ z)) (by omega)) (subB_cons (by first | rfl | exact congrArg (fun z => some (Value.int _ z)) (by omega)) (subB_cons (by first | rfl | exact congrArg (fun z => some (Value.int _ z)) (by omega)) (subB_nil _)))))), i.2⟩) ?_
 rintro ⟨i1, Hy1⟩ ⟨hi, hJ⟩
 try dsimp only at hi hJ ⊢
 have hbd := hok.bd i1
 have hsd : Rg.size (l.getD i1 Rg.dflt) = (l.getD i1 Rg.dflt).high - (l.getD i1 Rg.dflt).low + 1 := rfl
 have hal := Rg.adr_len_le (hok.take i1)
 rw [List.length_take] at hal
 refine Tr.seq ?_
 refine Tr.region ?_
 refine Run.val (lt rfl) (Y.int rfl rfl rfl) ?_
 refine Run.to_end ?_
 refine Ex.go ?_
 refine Tr.seq ?_
 rcases Bool.eq_false_or_eq_true (decide ((i1 : Int) < ((l.length : Nat) : Int))) with h1 | h1
 ·have g1 := h1
  try simp only [kb] at g1
  refine Tr.cond_t rfl h1 ?_
  refine Tr.to_end ?_
  refine Ex.go ?_
  refine Tr.seq ?_
  refine Tr.block ?_
  refine Tr.seq ?_
  refine Tr.region ?_
  refine Run.val (lt rfl) (Y.idxR i1 rfl rfl Addr2_es51 hv.of_nil (by omega) (by omega)) ?_
  refine Run.val (lt rfl) (Y.ldRA (vs := [.int .u32 ((l.getD i1 Rg.dflt).low), .int .u32 ((l.getD i1 Rg.dflt).high)]) rfl Addr2_ag53 hv.of_nil rfl (by decide) (fun o ho => flatm_atA Rg.len (by omega) Rg.dflt o ho)) ?_
  refine Run.alloc Addr2_zo53 (lt rfl) (fun b2 => ?_)
  refine Run.store (s := [(b2, .cells #[.int .u32 ((l.getD i1 Rg.dflt).low), .int .u32 ((l.getD i1 Rg.dflt).high)] 53 (0, 0))]) rfl rfl Addr2_sz53 (i := 0) rfl rfl (le rfl) rfl rfl ?_
  refine Run.to_end ?_
  refine Ex.go ?_
  refine Tr.seq ?_
  refine Tr.region ?_
  refine Run.val (lt rfl) (Y.loadAgg rfl Addr2_ag53 (Kn.at 0 rfl) rfl) ?_
  refine Run.call0 (l := [.tmp 13]) rfl rfl rfl (lt rfl) (size_h (hok.at i1)) ?_
  refine Run.val (lt rfl) (Y.move rfl) ?_
  refine Run.to_end ?_
  refine Ex.go ?_
  refine Tr.block ?_
  refine Tr.loop (X := Nat × Hp) (fun z0 => V) (fun z0 => [(b2, .cells #[.int .u32 ((l.getD i1 Rg.dflt).low), .int .u32 ((l.getD i1 Rg.dflt).high)] 53 (0, 0))] :: [(b, .cells #[.slice p l.length c] 51 (0, 0))] :: z0.2) (fun z0 => [(0, yv lp), (3, .int .i64 (((Rg.adr (l.take i1)).length + z0.1 : Nat) : Int)), (7, .slice p l.length c), (8, .int .i64 ((l.length : Nat) : Int)), (9, .int .i64 (i1 : Int)), (5, .pointer (some ⟨b2, 0, none⟩)), (14, .int .i64 (Rg.size (l.getD i1 Rg.dflt))), (15, .int .i64 (z0.1 : Int))]) (fun z0 => z0.1 ≤ (Rg.size (l.getD i1 Rg.dflt)).toNat ∧ J ((Rg.ix (Rg.adr l)).take ((Rg.adr (l.take i1)).length + z0.1)) z0.2) (fun z0 => (Rg.size (l.getD i1 Rg.dflt)).toNat - z0.1) (⟨0, Hy1⟩ : Nat × Hp) ⟨Nat.zero_le _, hJ⟩ (fun a w i => ⟨i.1.sub (subB_cons (by first | rfl | exact congrArg (fun z => some (Value.int _ z)) (by omega)) (subB_cons (by first | rfl | exact congrArg (fun z => some (Value.int _ z)) (by omega)) (subB_cons (by first | rfl | exact congrArg (fun z => some (Value.int _ z)) (by omega)) (subB_cons (by first | rfl | exact congrArg (fun z => some (Value.int _ z)) (by omega)) (subB_cons (by first | rfl | exact congrArg (fun z => some (Value.int _ z)) (by omega)) (subB_cons (by first | rfl | exact congrArg (fun z => some (Value.int _ z)) (by omega)) (subB_cons (by first | rfl | exact congrArg (fun z => some (Value.int _ z)) (by omega)) (subB_cons (by first | rfl | exact congrArg (fun z => some (Value.int _ z)) (by omega)) (subB_nil _))))))))), i.2⟩) ?_
  rintro ⟨j1, Hy3⟩ ⟨hj, hJ3⟩
  try dsimp only at hj hJ3 ⊢
  refine Tr.seq ?_
  refine Tr.region ?_
  refine Run.val (lt rfl) (Y.int rfl rfl rfl) ?_
  refine Run.to_end ?_
  refine Ex.go ?_
  refine Tr.seq ?_
  rcases Bool.eq_false_or_eq_true (decide ((j1 : Int) < (Rg.size (l.getD i1 Rg.dflt)))) with h3 | h3
  ·have g3 := h3
   try simp only [kb] at g3
   refine Tr.cond_t rfl h3 ?_
   refine Tr.to_end ?_
   refine Ex.go ?_
   refine Tr.seq ?_
   refine Tr.block ?_
   refine Tr.seq ?_
   refine Tr.region ?_
   refine Run.val (lt rfl) (Y.move rfl) ?_
   refine Run.val (lt rfl) (Y.assign rfl) ?_
   refine Run.to_end ?_
   refine Ex.go ?_
   refine Tr.seq ?_
   refine Tr.seq ?_
   refine Tr.regionI ?_
   refine RunI.op rfl ?_
   refine Run.val (lt rfl) (Y.move rfl) ?_
   refine Run.to_end ?_
   refine Ex.goI ?_
   refine RunI.op rfl ?_
   refine Run.val (lt rfl) (Y.move rfl) ?_
   refine Run.to_end ?_
   refine Ex.goI ?_
   refine RunI.op rfl ?_
   refine Run.val (lt rfl) (Y.fieldAddr rfl Addr2_fo53_0) ?_
   refine Run.to_end ?_
   refine Ex.goI ?_
   refine RunI.op rfl ?_
   refine Run.val (lt rfl) (Y.load rfl Addr2_ts37 (Kn.at 0 rfl) rfl) ?_
   refine Run.to_end ?_
   refine Ex.goI ?_
   refine RunI.op rfl ?_
   refine Run.val (lt rfl) (Y.move rfl) ?_
   refine Run.to_end ?_
   refine Ex.goI ?_
   refine RunI.op rfl ?_
   refine Run.val (lt rfl) (Y.conv ((j1 : Int)) rfl Addr2_it3_37 (wrap_u32 (by omega))) ?_
   refine Run.to_end ?_
   refine Ex.goI ?_
   refine RunI.op rfl ?_
   refine Run.val (lt rfl) (Y.int (r := .int .u32 ((l.getD i1 Rg.dflt).low + (j1 : Int))) rfl rfl (by simp only [intRes]; rw [wrap_u32 (by omega)])) ?_
   refine Run.to_end ?_
   refine Ex.goI ?_
   have ea := Rg.adr_at (l := l) (i := i1) (j := j1) (by omega) (by omega)
   refine RunI.callY [[(b2, .cells #[.int .u32 ((l.getD i1 Rg.dflt).low), .int .u32 ((l.getD i1 Rg.dflt).high)] 53 (0, 0))], [(b, .cells #[.slice p l.length c] 51 (0, 0))]] Hy3 rfl rfl rfl (lt rfl) (hy ((Rg.ix (Rg.adr l)).take ((Rg.adr (l.take i1)).length + j1)) ((((Rg.adr (l.take i1)).length + j1 : Nat) : Int), (l.getD i1 Rg.dflt).low + (j1 : Int)) _ hJ3 (by rw [List.length_take, Rg.ix_len]; omega)) (fun u V2 Hy4 hle hR => ?_)
   rw [← ea.2, ← Rg.ix_take ea.1] at hR
   obtain ⟨hV, ⟨rfl, hJ4⟩ | ⟨rfl, hJ4⟩⟩ := hR <;> (replace hV := hV.symm; subst hV)
   ·refine RunI.op rfl ?_
    refine Run.val (lt rfl) (Y.not rfl) ?_
    refine Run.to_end ?_
    refine Ex.goI ?_
    refine RunI.nil ?_
    refine Ex.go ?_
    refine Tr.cond_f rfl rfl ?_
    refine Tr.to_end ?_
    refine Ex.go ?_
    refine Tr.region ?_
    refine Run.val (lt rfl) (Y.move rfl) ?_
    refine Run.val (lt rfl) (Y.add rfl rfl (by omega)) ?_
    refine Run.val (lt rfl) (Y.assign rfl) ?_
    refine Run.to_end ?_
    refine Ex.end_block ?_
    refine Ex.go ?_
    refine Tr.region ?_
    refine Run.val (lt rfl) (Y.add rfl rfl (by omega)) ?_
    refine Run.val (lt rfl) (Y.move rfl) ?_
    refine Run.to_end ?_
    exact Ex.round (⟨j1 + 1, Hy4⟩ : Nat × Hp) ⟨by omega, hJ4⟩ (by dsimp only; omega) rfl rfl (subB_cons (by first | rfl | exact congrArg (fun z => some (Value.int _ z)) (by omega) | exact congrArg (fun z => some (Value.int _ z)) (by omega)) (subB_cons (by first | rfl | exact congrArg (fun z => some (Value.int _ z)) (by omega) | exact congrArg (fun z => some (Value.int _ z)) (by omega)) (subB_cons (by first | rfl | exact congrArg (fun z => some (Value.int _ z)) (by omega) | exact congrArg (fun z => some (Value.int _ z)) (by omega)) (subB_cons (by first | rfl | exact congrArg (fun z => some (Value.int _ z)) (by omega) | exact congrArg (fun z => some (Value.int _ z)) (by omega)) (subB_cons (by first | rfl | exact congrArg (fun z => some (Value.int _ z)) (by omega) | exact congrArg (fun z => some (Value.int _ z)) (by omega)) (subB_cons (by first | rfl | exact congrArg (fun z => some (Value.int _ z)) (by omega) | exact congrArg (fun z => some (Value.int _ z)) (by omega)) (subB_cons (by first | rfl | exact congrArg (fun z => some (Value.int _ z)) (by omega) | exact congrArg (fun z => some (Value.int _ z)) (by omega)) (subB_cons (by first | rfl | exact congrArg (fun z => some (Value.int _ z)) (by omega) | exact congrArg (fun z => some (Value.int _ z)) (by omega)) (subB_nil _)))))))))
   ·refine RunI.op rfl ?_
    refine Run.val (lt rfl) (Y.not rfl) ?_
    refine Run.to_end ?_
    refine Ex.goI ?_
    refine RunI.nil ?_
    refine Ex.go ?_
    refine Tr.cond_t rfl rfl ?_
    refine Tr.to_ret ?_
    refine Ex.ret_then ?_
    refine Ex.ret_block ?_
    refine Ex.ret_then ?_
    refine Ex.ret_then ?_
    refine Ex.ret_block ?_
    refine Ex.ret_block ?_
    refine Ex.ret_then ?_
    refine Ex.ret_then ?_
    refine Ex.ret_block ?_
    refine Ex.drop ?_
    exact Ex.ret0 rfl ⟨rfl, _, Hy4, rfl, .inr ⟨⟨_, ea.1, rfl⟩, hJ4⟩⟩
  ·have g3 := h3
   try simp only [kb] at g3
   refine Tr.cond_f rfl h3 ?_
   refine Tr.to_exit ?_
   refine Ex.exit_then ?_
   refine Ex.exit_then ?_
   refine Ex.exit_in ?_
   refine Ex.end_block ?_
   refine Ex.go ?_
   refine Tr.region ?_
   refine Run.val (lt rfl) (Y.add rfl rfl (by omega)) ?_
   refine Run.val (lt rfl) (Y.move rfl) ?_
   refine Run.to_end ?_
   refine Ex.drop ?_
   have el := Rg.adr_len_take (l := l) (i := i1) (by omega)
   have ej : (Rg.adr (l.take i1)).length + j1 = (Rg.adr (l.take (i1 + 1))).length := by omega
   exact Ex.round (⟨i1 + 1, Hy3⟩ : Nat × Hp) ⟨by omega, by rw [← ej]; exact hJ3⟩ (by dsimp only; omega) rfl rfl (subB_cons (by first | rfl | exact congrArg (fun z => some (Value.int _ z)) (by omega) | exact congrArg (fun z => some (Value.int _ z)) (by dsimp only; omega)) (subB_cons (by first | rfl | exact congrArg (fun z => some (Value.int _ z)) (by omega) | exact congrArg (fun z => some (Value.int _ z)) (by dsimp only; omega)) (subB_cons (by first | rfl | exact congrArg (fun z => some (Value.int _ z)) (by omega) | exact congrArg (fun z => some (Value.int _ z)) (by dsimp only; omega)) (subB_cons (by first | rfl | exact congrArg (fun z => some (Value.int _ z)) (by omega) | exact congrArg (fun z => some (Value.int _ z)) (by dsimp only; omega)) (subB_cons (by first | rfl | exact congrArg (fun z => some (Value.int _ z)) (by omega) | exact congrArg (fun z => some (Value.int _ z)) (by dsimp only; omega)) (subB_nil _))))))
 ·have g1 := h1
  try simp only [kb] at g1
  refine Tr.cond_f rfl h1 ?_
  refine Tr.to_exit ?_
  refine Ex.exit_then ?_
  refine Ex.exit_then ?_
  refine Ex.exit_in ?_
  obtain rfl : i1 = l.length := by omega
  rw [List.take_length, Rg.ix_full] at hJ
  exact Ex.end0 rfl ⟨rfl, _, Hy1, rfl, .inl ⟨rfl, hJ⟩⟩

theorem all_it {V : Vw} {l : List Rg} {p : Option Addr} {c b : Nat} (hv : Rd V [] 2 (.slice p l.length c) l.length (l.flatMap Rg.cells)) (hlm : l.length ≤ 1000) (hok : Rg.Oks l) : Iterates Try.prog 107 [.pointer (some ⟨b, 0, none⟩)] V [[(b, .cells #[.slice p l.length c] 51 (0, 0))]] Rg.iv (fun xs => xs = Rg.ix (Rg.adr l)) (fun xs => ∃ k, k < (Rg.adr l).length ∧ xs = (Rg.ix (Rg.adr l)).take (k + 1)) (Rg.adr l).length := fun lp J Jx hy Hy h0 => all1_c hv hlm hok (Nat.le_refl _) hy h0

theorem all_top {V : Vw} {l : List Rg} {p : Option Addr} {c : Nat}  : Does Try.prog 83 [.slice p l.length c] V [] (fun v V' H' => V' = V ∧ ∃ b, v = .func (.func 107) #[] [.pointer (some ⟨b, 0, none⟩)].toArray ∧ H' = [[(b, .cells #[.slice p l.length c] 51 (0, 0))]]) := by
 refine Does.intro Try.func83 rfl rfl (le rfl) (fun B => ?_)
 refine Tr.seq ?_
 refine Tr.region ?_
 refine Run.box rfl (lt rfl) (fun b1 => ?_)
 refine Run.val (lt rfl) (Y.assign rfl) ?_
 refine Run.to_end ?_
 refine Ex.go ?_
 refine Tr.seq ?_
 refine Tr.region ?_
 refine Run.val (lt rfl) (Y.makeFunc (l := []) (l' := [.tmp 1]) rfl rfl) ?_
 refine Run.val (lt rfl) (Y.assign rfl) ?_
 refine Run.to_end ?_
 refine Ex.go ?_
 refine Tr.to_ret ?_
 refine Ex.keep [0] ?_
 exact Ex.ret1 rfl rfl  ⟨rfl, b1, rfl, rfl⟩

theorem at_a {V : Vw} {l : List Rg} {p : Option Addr} {c : Nat} (hv : Rd V [] 2 (.slice p l.length c) l.length (l.flatMap Rg.cells)) (hlm : l.length ≤ 1000) (hok : Rg.Oks l) {n : Int}  : Does Try.prog 36 [.slice p l.length c, .int .i64 n] V [] (Pv (.tuple #[.int .u32 ((Rg.at_ (Rg.adr l) n).1), .int .i64 ((Rg.at_ (Rg.adr l) n).2)]) V []) := by
 refine Does.introM Try.func36 rfl rfl (le rfl) (fun B => ?_)
 refine Tr.seq ?_
 refine Tr.region ?_
 refine Run.box rfl (lt rfl) (fun b1 => ?_)
 refine Run.alloc Addr2_zo37 (lt rfl) (fun b2 => ?_)
 refine Run.alloc Addr2_zo54 (lt rfl) (fun b3 => ?_)
 refine Run.to_end ?_
 refine Ex.go ?_
 refine Tr.seq ?_
 refine Tr.seq ?_
 refine Tr.region ?_
 refine Run.val (lt rfl) (Y.move rfl) ?_
 refine Run.call [] (l := [.tmp 8]) rfl rfl rfl (lt rfl) (all_top (l := l) (p := p) (c := c)) (fun v4 V2 H2 hle hR => ?_)
 obtain ⟨hV, bk, rfl, rfl⟩ := hR; replace hV := hV.symm; subst hV
 refine Run.heapTo (H' := [[(b3, .cells #[.int .i64 0] 54 (0, 0))], [(b2, .cells #[.int .u32 0] 37 (0, 0))], [(b1, .cells #[.int .i64 n] 3 (0, 0))], [(bk, .cells #[.slice p l.length c] 51 (0, 0))]]) rfl ?_
 refine Run.to_end ?_
 refine Ex.go ?_
 refine Tr.block ?_
 refine Tr.range1 [] [[(bk, .cells #[.slice p l.length c] 51 (0, 0))]] [[(b3, .cells #[.int .i64 0] 54 (0, 0))], [(b2, .cells #[.int .u32 0] 37 (0, 0))], [(b1, .cells #[.int .i64 n] 3 (0, 0))]] ((pull_perm [3, 0, 0, 0] [[(b3, .cells #[.int .i64 0] 54 (0, 0))], [(b2, .cells #[.int .u32 0] 37 (0, 0))], [(b1, .cells #[.int .i64 n] 3 (0, 0))], [(bk, .cells #[.slice p l.length c] 51 (0, 0))]]).symm) rfl (all_it hv hlm hok) (fun xs (H : Hp) => H = [[(b3, .cells #[.int .i64 0] 54 (0, 0))], [(b2, .cells #[.int .u32 0] 37 (0, 0))], [(b1, .cells #[.int .i64 n] 3 (0, 0))]] ∧ ∀ q ∈ xs, q.1 ≠ n) (fun c xs (H : Hp) => c = .ret ∧ ∃ ys q, xs = ys ++ [q] ∧ (q.1 = n) ∧ H = [[(b3, .cells #[.int .i64 0] 54 (0, 0))], [(b2, .cells #[.int .u32 q.2] 37 (0, 0))], [(b1, .cells #[.int .i64 n] 3 (0, 0))]]) ⟨rfl, fun q h => by cases h⟩ (fun lp5 rr6 xs7 x8 H hLI hf hJ hN => ?_) (fun D4 xs7 H hS hJ => ?_) (fun D4 c xs7 H hS hJ => ?_)
 ·obtain ⟨rfl, hn⟩ := hJ
  refine YDoes.intro hLI rfl (env_par2 (lt rfl) (lt rfl)) (fun Blp5 => ?_)
  refine TrR.seq ?_
  refine TrR.region rfl ?_
  refine Run.val (lt rfl) (Y.assign rfl) ?_
  refine Run.to_end ?_
  refine Ex.goR ?_
  refine TrR.region rfl ?_
  refine Run.val (lt rfl) (Y.assign rfl) ?_
  refine Run.to_end ?_
  refine Ex.begin hf.1 ?_
  refine TrR.block ?_
  refine TrR.seq ?_
  refine TrR.region rfl ?_
  refine Run.val (lt rfl) (Y.move rfl) ?_
  refine Run.val (lt rfl) (Y.load rfl Addr2_ts3 (Kn.at 3 rfl) rfl) ?_
  refine Run.val (lt rfl) (Y.int rfl rfl rfl) ?_
  refine Run.to_end ?_
  refine Ex.goR ?_
  rcases Bool.eq_false_or_eq_true (x8.1 == n) with h9 | h9
  ·have g9 := h9
   try simp only [kb] at g9
   refine TrR.cond_t rfl h9 ?_
   refine TrR.seq ?_
   refine TrR.region rfl ?_
   refine Run.val (lt rfl) (Y.move rfl) ?_
   refine Run.store (s := [(b2, .cells #[.int .u32 x8.2] 37 (0, 0))]) rfl rfl Addr2_sz37 (i := 2) rfl rfl (le rfl) rfl rfl ?_
   refine Run.store (s := [(b3, .cells #[.int .i64 0] 54 (0, 0))]) rfl rfl Addr2_sz54 (i := 1) rfl rfl (le rfl) rfl rfl ?_
   refine Run.to_end ?_
   refine Ex.goR ?_
   refine TrR.to_ret ?_
   refine Ex.ret_block ?_
   exact Ex.stopRet ⟨rfl, .inr ⟨rfl, _, _, _, rfl, rfl, rfl, ⟨rfl, xs7, x8, rfl, by omega, rfl⟩⟩⟩
  ·have g9 := h9
   try simp only [kb] at g9
   refine TrR.cond_f rfl h9 ?_
   refine TrR.to_end ?_
   refine Ex.end_block ?_
   exact Ex.next ⟨rfl, .inl ⟨rfl, _, _, hLI.with _ _, ⟨rfl, rfl⟩, rfl, ⟨rfl, Rg.snoc_all hn (by omega)⟩⟩⟩
 ·obtain ⟨rfl, hn⟩ := hJ
  refine Ex.end_block ?_
  refine Ex.go ?_
  refine Tr.seq ?_
  refine Tr.region ?_
  refine Run.store (s := [(b2, .cells #[.int .u32 0] 37 (0, 0))]) rfl rfl Addr2_sz37 (i := 3) rfl rfl (le rfl) rfl rfl ?_
  refine Run.store (s := [(b3, .cells #[.int .i64 4] 54 (0, 0))]) rfl rfl Addr2_sz54 (i := 2) rfl rfl (le rfl) rfl rfl ?_
  refine Run.to_end ?_
  refine Ex.go ?_
  refine Tr.to_ret ?_
  refine Ex.unmark (.inl rfl) ?_
  refine Ex.bodyM (.inl rfl) ?_
  exact Ex.retS2 [] rfl rfl rfl Addr2_ts37 Addr2_ts54 (Kn.at 2 rfl) (Kn.at 1 rfl) rfl rfl ⟨by rw [Rg.at_none (by rw [← hS]; exact hn)]; rfl, rfl, rfl⟩
 ·obtain ⟨rfl, ys, qz, hxs, hqz, rfl⟩ := hJ
  refine Ex.ret_block ?_
  refine Ex.ret_then ?_
  refine Ex.unmark (.inl rfl) ?_
  refine Ex.bodyM (.inl rfl) ?_
  exact Ex.retS2 [] rfl rfl rfl Addr2_ts37 Addr2_ts54 (Kn.at 2 rfl) (Kn.at 1 rfl) rfl rfl ⟨by rw [Rg.at_some hS hxs hqz]; rfl, rfl, rfl⟩

theorem index_a {V : Vw} {l : List Rg} {p : Option Addr} {c : Nat} (hv : Rd V [] 2 (.slice p l.length c) l.length (l.flatMap Rg.cells)) (hlm : l.length ≤ 1000) (hok : Rg.Oks l) {a : Int}  : Does Try.prog 40 [.slice p l.length c, .int .u32 a] V [] (Pv (.int .i64 (Rg.idx (Rg.adr l) a)) V []) := by
 refine Does.introM Try.func40 rfl rfl (le rfl) (fun B => ?_)
 refine Tr.seq ?_
 refine Tr.region ?_
 refine Run.box rfl (lt rfl) (fun b1 => ?_)
 refine Run.alloc Addr2_zo3 (lt rfl) (fun b2 => ?_)
 refine Run.to_end ?_
 refine Ex.go ?_
 refine Tr.seq ?_
 refine Tr.seq ?_
 refine Tr.region ?_
 refine Run.val (lt rfl) (Y.move rfl) ?_
 refine Run.call [] (l := [.tmp 7]) rfl rfl rfl (lt rfl) (all_top (l := l) (p := p) (c := c)) (fun v4 V2 H2 hle hR => ?_)
 obtain ⟨hV, bk, rfl, rfl⟩ := hR; replace hV := hV.symm; subst hV
 refine Run.heapTo (H' := [[(b2, .cells #[.int .i64 0] 3 (0, 0))], [(b1, .cells #[.int .u32 a] 37 (0, 0))], [(bk, .cells #[.slice p l.length c] 51 (0, 0))]]) rfl ?_
 refine Run.to_end ?_
 refine Ex.go ?_
 refine Tr.block ?_
 refine Tr.range1 [] [[(bk, .cells #[.slice p l.length c] 51 (0, 0))]] [[(b2, .cells #[.int .i64 0] 3 (0, 0))], [(b1, .cells #[.int .u32 a] 37 (0, 0))]] ((pull_perm [2, 0, 0] [[(b2, .cells #[.int .i64 0] 3 (0, 0))], [(b1, .cells #[.int .u32 a] 37 (0, 0))], [(bk, .cells #[.slice p l.length c] 51 (0, 0))]]).symm) rfl (all_it hv hlm hok) (fun xs (H : Hp) => H = [[(b2, .cells #[.int .i64 0] 3 (0, 0))], [(b1, .cells #[.int .u32 a] 37 (0, 0))]] ∧ ∀ q ∈ xs, q.2 ≠ a) (fun c xs (H : Hp) => c = .ret ∧ ∃ ys q, xs = ys ++ [q] ∧ ((∀ r ∈ ys, r.2 ≠ a) ∧ q.2 = a) ∧ H = [[(b2, .cells #[.int .i64 q.1] 3 (0, 0))], [(b1, .cells #[.int .u32 a] 37 (0, 0))]]) ⟨rfl, fun q h => by cases h⟩ (fun lp4 rr5 xs6 x7 H hLI hf hJ hN => ?_) (fun D3 xs6 H hS hJ => ?_) (fun D3 c xs6 H hS hJ => ?_)
 ·obtain ⟨rfl, hn⟩ := hJ
  refine YDoes.intro hLI rfl (env_par2 (lt rfl) (lt rfl)) (fun Blp4 => ?_)
  refine TrR.seq ?_
  refine TrR.region rfl ?_
  refine Run.val (lt rfl) (Y.assign rfl) ?_
  refine Run.to_end ?_
  refine Ex.goR ?_
  refine TrR.region rfl ?_
  refine Run.val (lt rfl) (Y.assign rfl) ?_
  refine Run.to_end ?_
  refine Ex.begin hf.1 ?_
  refine TrR.block ?_
  refine TrR.seq ?_
  refine TrR.region rfl ?_
  refine Run.val (lt rfl) (Y.load rfl Addr2_ts37 (Kn.at 2 rfl) rfl) ?_
  refine Run.val (lt rfl) (Y.move rfl) ?_
  refine Run.val (lt rfl) (Y.int rfl rfl rfl) ?_
  refine Run.to_end ?_
  refine Ex.goR ?_
  rcases Bool.eq_false_or_eq_true (a == x7.2) with h8 | h8
  ·have g8 := h8
   try simp only [kb] at g8
   refine TrR.cond_t rfl h8 ?_
   refine TrR.seq ?_
   refine TrR.region rfl ?_
   refine Run.val (lt rfl) (Y.move rfl) ?_
   refine Run.store (s := [(b2, .cells #[.int .i64 x7.1] 3 (0, 0))]) rfl rfl Addr2_sz3 (i := 1) rfl rfl (le rfl) rfl rfl ?_
   refine Run.to_end ?_
   refine Ex.goR ?_
   refine TrR.to_ret ?_
   refine Ex.ret_block ?_
   exact Ex.stopRet ⟨rfl, .inr ⟨rfl, _, _, _, rfl, rfl, rfl, ⟨rfl, xs6, x7, rfl, ⟨hn, by omega⟩, rfl⟩⟩⟩
  ·have g8 := h8
   try simp only [kb] at g8
   refine TrR.cond_f rfl h8 ?_
   refine TrR.to_end ?_
   refine Ex.end_block ?_
   exact Ex.next ⟨rfl, .inl ⟨rfl, _, _, hLI.with _ _, ⟨rfl, rfl⟩, rfl, ⟨rfl, Rg.snoc_all hn (by omega)⟩⟩⟩
 ·obtain ⟨rfl, hn⟩ := hJ
  refine Ex.end_block ?_
  refine Ex.go ?_
  refine Tr.seq ?_
  refine Tr.region ?_
  refine Run.store (s := [(b2, .cells #[.int .i64 (-1)] 3 (0, 0))]) rfl rfl Addr2_sz3 (i := 2) rfl rfl (le rfl) rfl rfl ?_
  refine Run.to_end ?_
  refine Ex.go ?_
  refine Tr.to_ret ?_
  refine Ex.unmark (.inl rfl) ?_
  refine Ex.bodyM (.inl rfl) ?_
  exact Ex.retS [] rfl rfl Addr2_ts3 (Kn.at 1 rfl) rfl ⟨by rw [Rg.idx_none (by rw [← hS]; exact hn)]; rfl, rfl, rfl⟩
 ·obtain ⟨rfl, ys, qz, hxs, hqz, rfl⟩ := hJ
  refine Ex.ret_block ?_
  refine Ex.ret_then ?_
  refine Ex.unmark (.inl rfl) ?_
  refine Ex.bodyM (.inl rfl) ?_
  exact Ex.retS [] rfl rfl Addr2_ts3 (Kn.at 1 rfl) rfl ⟨by rw [Rg.idx_some hS hxs hqz.1 hqz.2]; rfl, rfl, rfl⟩

theorem at_h {V : Vw} {l : List Rg} {v : Value} {n : Int} (hv : Rd V [] 2 v l.length (l.flatMap Rg.cells)) (hlm : l.length ≤ 1000) (hok : Rg.Oks l) {H : Hp} : Does Try.prog 36 [v, .int .i64 n] V H (Pv (.tuple #[.int .u32 ((Rg.at_ (Rg.adr l) n).1), .int .i64 ((Rg.at_ (Rg.adr l) n).2)]) V H) := by
  obtain ⟨p, c, rfl, _⟩ := hv.form
  exact (at_a hv hlm hok).frame
theorem index_h {V : Vw} {l : List Rg} {v : Value} {a : Int} (hv : Rd V [] 2 v l.length (l.flatMap Rg.cells)) (hlm : l.length ≤ 1000) (hok : Rg.Oks l) {H : Hp} : Does Try.prog 40 [v, .int .u32 a] V H (Pv (.int .i64 (Rg.idx (Rg.adr l) a)) V H) := by
  obtain ⟨p, c, rfl, _⟩ := hv.form
  exact (index_a hv hlm hok).frame
end Go.Proofs.Ytjfacdepgkdoeaa
