/- Which addresses are given, walked.
Conditions: as each theorem names them. -/
import Derived.Test.YtjfacdepgkdoeaaProg
import Derived.Test.YtjfacdepgkdoeaaL2
import Derived.Test.YtjfacdepgkdoeaaPool
import Derived.Test.YtjfacdepgkdoeaaLaw17
import Derived.Test.YtjfacdepgkdoeaaSortu3
set_option linter.unusedSimpArgs false
set_option linter.unusedVariables false
set_option maxRecDepth 4000
namespace Go.Proofs.Ytjfacdepgkdoeaa
open Go Go.K
attribute [local irreducible] Code.wp wpList Calls wpQuiet
theorem Chosen_ts24 : scal Try.prog 24 = true := by kernel_rfl
theorem Chosen_es24 : elemS Try.prog 24 = some (39, 8) := by kernel_rfl
theorem Chosen_ag39 : aggsz Try.prog 39 = some 8 := by kernel_rfl
theorem Chosen_zo39 : zeroOf Try.prog 39 = some (.agg #[.int .u32 0, .int .i64 0, .string ⟨#[]⟩, .int .i64 0, .int .i64 0, .int .i64 0, .int .i64 0, .int .i64 0]) := by kernel_rfl
theorem Chosen_sz39 : sizeT Try.prog 39 = some 8 := by kernel_rfl
theorem Chosen_fo39_1 : fieldOff Try.prog 39 1 = some 1 := by kernel_rfl
theorem Chosen_ts3 : scal Try.prog 3 = true := by kernel_rfl
theorem Chosen_fo39_0 : fieldOff Try.prog 39 0 = some 0 := by kernel_rfl
theorem Chosen_ts37 : scal Try.prog 37 = true := by kernel_rfl
theorem Chosen_es32 : elemS Try.prog 32 = some (37, 1) := by kernel_rfl
theorem Chosen_zo37 : zeroOf Try.prog 37 = some (.int .u32 0) := by kernel_rfl
theorem Chosen_zi37 : zeroInfo Try.prog 37 = some (1, 4, .int .u32 0) := by kernel_rfl
theorem Chosen_ag27 : aggsz Try.prog 27 = some 2 := by kernel_rfl
theorem Chosen_mo : Try.prog.follows .mixedOrders = true := by kernel_rfl
theorem Chosen_ag28 : aggsz Try.prog 28 = some 2 := by kernel_rfl
theorem Chosen_ag23 : aggsz Try.prog 23 = some 2 := by kernel_rfl
theorem Chosen_zo27 : zeroOf Try.prog 27 = some (.agg #[.float .f64 0, .float .f64 0]) := by kernel_rfl
theorem Chosen_zo28 : zeroOf Try.prog 28 = some (.agg #[.float .f64 0, .float .f64 0]) := by kernel_rfl
theorem Chosen_sz27 : sizeT Try.prog 27 = some 2 := by kernel_rfl
theorem Chosen_sz28 : sizeT Try.prog 28 = some 2 := by kernel_rfl

theorem bound_c {V : Vw} {l : List Le} {p : Option Addr} {c : Nat} (hv : Rd V [] 8 (.slice p l.length c) l.length (l.map Le.cells).flatten) (hl : l.length ≤ 300) {a : Int} {b : Nat}  : Does Try.prog 61 [.int .i64 a, .pointer (some ⟨b, 0, none⟩)] V [[(b, .cells #[.slice p l.length c] 24 (0, 0))]] (fun v V' H' => V' = V ∧ ∃ q, Ow 37 1 v (Le.sel a l).length ((isort (Le.sel a l)).flatMap nU) q ∧ H' = [q, [(b, .cells #[.slice p l.length c] 24 (0, 0))]]) := by
 refine Does.intro Try.func61 rfl rfl (le rfl) (fun B => ?_)
 refine Tr.seq ?_
 refine Tr.region ?_
 refine Run.val (lt rfl) (Y.assign rfl) ?_
 refine Run.to_end ?_
 refine Ex.go ?_
 refine Tr.seq ?_
 refine Tr.region ?_
 refine Run.nilseg ?_
 refine Run.val (lt rfl) (Y.assign rfl) ?_
 refine Run.to_end ?_
 refine Ex.go ?_
 refine Tr.seq ?_
 refine Tr.seq ?_
 refine Tr.region ?_
 refine Run.val (lt rfl) (Y.load rfl Chosen_ts24 (Kn.at 1 rfl) rfl) ?_
 refine Run.val (lt rfl) (Y.lenSl rfl Chosen_es24) ?_
 refine Run.val (lt rfl) (Y.move rfl) ?_
 refine Run.to_end ?_
 refine Ex.go ?_
 refine Tr.block ?_
 refine Tr.loop (X := Nat × Option Addr × Nat × Nat × Sg) (fun z0 => V) (fun z0 => [z0.2.2.2.2, [(b, .cells #[.slice p l.length c] 24 (0, 0))]]) (fun z0 => [(0, .int .i64 a), (1, .pointer (some ⟨b, 0, none⟩)), (4, .slice z0.2.1 z0.2.2.1 z0.2.2.2.1), (7, .slice p l.length c), (8, .int .i64 ((l.length : Nat) : Int)), (9, .int .i64 (z0.1 : Int))]) (fun z0 => Ow 37 1 (.slice z0.2.1 z0.2.2.1 z0.2.2.2.1) z0.2.2.1 ((Le.sel a (l.take z0.1)).flatMap nU) z0.2.2.2.2 ∧ z0.2.2.1 = (Le.sel a (l.take z0.1)).length ∧ z0.1 ≤ l.length) (fun z0 => l.length - z0.1) (⟨0, none, 0, 0, []⟩ : Nat × Option Addr × Nat × Nat × Sg) ⟨Ow.nil _ _, rfl, Nat.zero_le _⟩ (fun a w i => ⟨i.1.sub (subB_cons (by first | rfl | exact congrArg (fun z => some (Value.int _ z)) (by omega)) (subB_cons (by first | rfl | exact congrArg (fun z => some (Value.int _ z)) (by omega)) (subB_cons (by first | rfl | exact congrArg (fun z => some (Value.int _ z)) (by omega)) (subB_cons (by first | rfl | exact congrArg (fun z => some (Value.int _ z)) (by omega)) (subB_cons (by first | rfl | exact congrArg (fun z => some (Value.int _ z)) (by omega)) (subB_cons (by first | rfl | exact congrArg (fun z => some (Value.int _ z)) (by omega)) (subB_nil _))))))), i.2⟩) ?_
 rintro ⟨i1, p1, n1, k1, q1⟩ ⟨how, hn, hi⟩
 try dsimp only at how hn hi ⊢
 have hsl := Le.sel_le a (l.take i1)
 rw [List.length_take] at hsl
 refine Tr.seq ?_
 refine Tr.region ?_
 refine Run.val (lt rfl) (Y.int rfl rfl rfl) ?_
 refine Run.to_end ?_
 refine Ex.go ?_
 refine Tr.seq ?_
 rcases Bool.eq_false_or_eq_true (decide ((i1 : Int) < ((l.length : Nat) : Int))) with h1 | h1
 ·have g1 := h1
  try simp only [kb] at g1
  refine Tr.cond_t rfl h1 ?_
  refine Tr.to_end ?_
  refine Ex.go ?_
  refine Tr.seq ?_
  refine Tr.block ?_
  refine Tr.seq ?_
  refine Tr.region ?_
  refine Run.val (lt rfl) (Y.idxR i1 rfl rfl Chosen_es24 hv.of_nil (by omega) (by omega)) ?_
  refine Run.val (lt rfl) (Y.ldRA (vs := [.int .u32 ((l.getD i1 Le.dflt).addr), .int .i64 ((l.getD i1 Le.dflt).bind), .string ((l.getD i1 Le.dflt).client), .int .i64 ((l.getD i1 Le.dflt).till), .int .i64 ((l.getD i1 Le.dflt).acked), .int .i64 ((l.getD i1 Le.dflt).told), .int .i64 ((l.getD i1 Le.dflt).at_), .int .i64 ((l.getD i1 Le.dflt).ver)]) rfl Chosen_ag39 hv.of_nil rfl (by decide) (fun o ho => rows_atA Le.len (by omega) Le.dflt ho)) ?_
  refine Run.alloc Chosen_zo39 (lt rfl) (fun b2 => ?_)
  refine Run.store (s := [(b2, .cells #[.int .u32 ((l.getD i1 Le.dflt).addr), .int .i64 ((l.getD i1 Le.dflt).bind), .string ((l.getD i1 Le.dflt).client), .int .i64 ((l.getD i1 Le.dflt).till), .int .i64 ((l.getD i1 Le.dflt).acked), .int .i64 ((l.getD i1 Le.dflt).told), .int .i64 ((l.getD i1 Le.dflt).at_), .int .i64 ((l.getD i1 Le.dflt).ver)] 39 (0, 0))]) rfl rfl Chosen_sz39 (i := 0) rfl rfl (le rfl) rfl rfl ?_
  refine Run.to_end ?_
  refine Ex.go ?_
  refine Tr.seq ?_
  refine Tr.region ?_
  refine Run.val (lt rfl) (Y.fieldAddr rfl Chosen_fo39_1) ?_
  refine Run.val (lt rfl) (Y.load rfl Chosen_ts3 (Kn.at 0 rfl) rfl) ?_
  refine Run.val (lt rfl) (Y.move rfl) ?_
  refine Run.val (lt rfl) (Y.int rfl rfl rfl) ?_
  refine Run.to_end ?_
  refine Ex.go ?_
  rcases Bool.eq_false_or_eq_true (((l.getD i1 Le.dflt).bind) == a) with h3 | h3
  ·have g3 := h3
   try simp only [kb] at g3
   refine Tr.cond_t rfl h3 ?_
   refine Tr.region ?_
   refine Run.val (lt rfl) (Y.move rfl) ?_
   refine Run.val (lt rfl) (Y.fieldAddr rfl Chosen_fo39_0) ?_
   refine Run.val (lt rfl) (Y.load rfl Chosen_ts37 (Kn.at 0 rfl) rfl) ?_
   refine Run.buildSlice (l := [(0, .tmp 19)]) Chosen_es32 Chosen_zo37 rfl (by decide) rfl rfl (by decide) (lt rfl) (fun b4 => ?_)
   refine Run.append (n := n1) (m := 1) (xs := (Le.sel a (l.take i1)).flatMap nU) (ys := [.int .u32 ((l.getD i1 Le.dflt).addr)]) rfl rfl Chosen_es32 Chosen_zi37 (by decide) (j := 2) rfl how (Src.of_rd Chosen_es32 (Rd.one (Kn.at 0 rfl) rfl)) (by omega) (by omega) rfl (lt rfl) (fun v5 s6 ho7 hf => ?_)
   obtain ⟨p5, c5, rfl⟩ := hf
   replace ho7 := Ow.app1 (f := nU) (l := Le.sel a (l.take i1)) (x := (l.getD i1 Le.dflt).addr) ho7
   refine Run.val (lt rfl) (Y.assign rfl) ?_
   refine Run.to_end ?_
   refine Ex.end_block ?_
   refine Ex.go ?_
   refine Tr.region ?_
   refine Run.val (lt rfl) (Y.add rfl rfl (by omega)) ?_
   refine Run.val (lt rfl) (Y.move rfl) ?_
   refine Run.to_end ?_
   refine Ex.keep [2, 2] ?_
   exact Ex.round (⟨i1 + 1, p5, (n1 + 1), c5, s6⟩ : Nat × Option Addr × Nat × Nat × Sg) ⟨by rw [Le.sel_take (by omega) h3]; exact ho7, by rw [Le.sel_take (by omega) h3]; simp; omega, by omega⟩ (by dsimp only; omega) rfl rfl (subB_cons (by first | rfl | exact congrArg (fun z => some (Value.int _ z)) (by omega)) (subB_cons (by first | rfl | exact congrArg (fun z => some (Value.int _ z)) (by omega)) (subB_cons (by first | rfl | exact congrArg (fun z => some (Value.int _ z)) (by omega)) (subB_cons (by first | rfl | exact congrArg (fun z => some (Value.int _ z)) (by omega)) (subB_cons (by first | rfl | exact congrArg (fun z => some (Value.int _ z)) (by omega)) (subB_cons (by first | rfl | exact congrArg (fun z => some (Value.int _ z)) (by omega)) (subB_nil _)))))))
  ·have g3 := h3
   try simp only [kb] at g3
   refine Tr.cond_f rfl h3 ?_
   refine Tr.to_end ?_
   refine Ex.end_block ?_
   refine Ex.go ?_
   refine Tr.region ?_
   refine Run.val (lt rfl) (Y.add rfl rfl (by omega)) ?_
   refine Run.val (lt rfl) (Y.move rfl) ?_
   refine Run.to_end ?_
   refine Ex.keep [1, 1] ?_
   exact Ex.round (⟨i1 + 1, p1, n1, k1, q1⟩ : Nat × Option Addr × Nat × Nat × Sg) ⟨by rw [Le.sel_take0 (by omega) h3]; exact how, by rw [Le.sel_take0 (by omega) h3]; simp; omega, by omega⟩ (by dsimp only; omega) rfl rfl (subB_cons (by first | rfl | exact congrArg (fun z => some (Value.int _ z)) (by omega)) (subB_cons (by first | rfl | exact congrArg (fun z => some (Value.int _ z)) (by omega)) (subB_cons (by first | rfl | exact congrArg (fun z => some (Value.int _ z)) (by omega)) (subB_cons (by first | rfl | exact congrArg (fun z => some (Value.int _ z)) (by omega)) (subB_cons (by first | rfl | exact congrArg (fun z => some (Value.int _ z)) (by omega)) (subB_cons (by first | rfl | exact congrArg (fun z => some (Value.int _ z)) (by omega)) (subB_nil _)))))))
 ·have g1 := h1
  try simp only [kb] at g1
  refine Tr.cond_f rfl h1 ?_
  refine Tr.to_exit ?_
  refine Ex.exit_then ?_
  refine Ex.exit_then ?_
  refine Ex.exit_in ?_
  refine Ex.go ?_
  refine Tr.seq ?_
  refine Tr.region ?_
  refine Run.val (lt rfl) (Y.move rfl) ?_
  obtain rfl : i1 = l.length := by omega
  rw [List.take_length] at how hn hsl
  subst hn
  refine Run.call [0] (l := [.tmp 23]) rfl rfl rfl (lt rfl) (sort_u how (by omega)) (fun v3 V2 H2 hle hR => ?_)
  obtain ⟨hV, rfl, l2, q2, hp2, hs2, ho2, rfl⟩ := hR; replace hV := hV.symm; subst hV
  obtain rfl := up_isort (srt_up hs2) hp2
  rw [isort_length] at ho2
  refine Run.to_end ?_
  refine Ex.go ?_
  refine Tr.seq ?_
  refine Tr.region ?_
  refine Run.val (lt rfl) (Y.move rfl) ?_
  refine Run.val (lt rfl) (Y.assign rfl) ?_
  refine Run.to_end ?_
  refine Ex.go ?_
  refine Tr.to_ret ?_
  refine Ex.keep [1, 0] ?_
  exact Ex.ret1 rfl rfl  ⟨rfl, q2, ho2, rfl⟩

theorem chosen_c {V : Vw} {l : List Le} {p : Option Addr} {c : Nat} (hv : Rd V [] 8 (.slice p l.length c) l.length (l.map Le.cells).flatten) (hl : l.length ≤ 300) {id : Int} {y s : Nat}  : Does Try.prog 18 [.agg #[.float .f64 y, .float .f64 s], .int .i64 id, .slice p l.length c] V [] (fun v V' H' => V.le V' ∧ H' = [] ∧ Rd V' [] 1 v (Le.chosen id l y s).length ((Le.chosen id l y s).flatMap nU)) := by
 have hg := Le.gives_le id l y s hl
 have hs0 := Le.sel_le 0 l
 have hs1 := Le.sel_le 1 l
 refine Does.intro Try.func18 rfl rfl (le rfl) (fun B => ?_)
 refine Tr.seq ?_
 refine Tr.region ?_
 refine Run.box rfl (lt rfl) (fun b1 => ?_)
 refine Run.box rfl (lt rfl) (fun b2 => ?_)
 refine Run.val (lt rfl) (Y.assign rfl) ?_
 refine Run.to_end ?_
 refine Ex.go ?_
 refine Tr.seq ?_
 refine Tr.region ?_
 refine Run.val (lt rfl) (Y.makeFunc (l := []) (l' := [.tmp 5]) rfl rfl) ?_
 refine Run.val (lt rfl) (Y.assign rfl) ?_
 refine Run.to_end ?_
 refine Ex.go ?_
 refine Tr.seq ?_
 refine Tr.region ?_
 refine Run.val (lt rfl) (Y.move rfl) ?_
 refine Run.call [0] (l := [.const (.int .i64 0)]) rfl rfl rfl (lt rfl) (bound_c (a := 0) hv hl) (fun v3 V2 H2 hle hR => ?_)
 obtain ⟨hV, q4, ho5, rfl⟩ := hR; replace hV := hV.symm; subst hV; obtain ⟨p6, k7, rfl⟩ := ho5.form; have hck7 := ho5.cap
 refine Run.heapTo (H' := [[(b1, .cells #[.float .f64 y, .float .f64 s] 27 (0, 0))], q4, [(b2, .cells #[.slice p l.length c] 24 (0, 0))]]) rfl ?_
 refine Run.val (lt rfl) (Y.move rfl) ?_
 refine Run.call [2] (l := [.const (.int .i64 1)]) rfl rfl rfl (lt rfl) (bound_c (a := 1) hv hl) (fun v8 V2 H2 hle hR => ?_)
 obtain ⟨hV, q9, ho10, rfl⟩ := hR; replace hV := hV.symm; subst hV; obtain ⟨p11, k12, rfl⟩ := ho10.form; have hck12 := ho10.cap
 refine Run.heapTo (H' := [[(b1, .cells #[.float .f64 y, .float .f64 s] 27 (0, 0))], q4, q9, [(b2, .cells #[.slice p l.length c] 24 (0, 0))]]) rfl ?_
 refine Run.val (lt rfl) (Y.assign rfl) ?_
 refine Run.val (lt rfl) (Y.assign rfl) ?_
 refine Run.to_end ?_
 refine Ex.go ?_
 refine Tr.seq ?_
 refine Tr.region ?_
 refine Run.val (lt rfl) (Y.loadAgg rfl Chosen_ag27 (Kn.at 0 rfl) rfl) ?_
 refine Run.val (lt rfl) (Y.move rfl) ?_
 refine Run.val (lt rfl) (Y.move rfl) ?_
 refine Run.val (lt rfl) (Y.lenSl rfl Chosen_es32) ?_
 refine Run.val (lt rfl) (Y.move rfl) ?_
 refine Run.val (lt rfl) (Y.lenSl rfl Chosen_es32) ?_
 refine Run.call0 (l := [.tmp 16, .tmp 17, .tmp 19, .tmp 21]) rfl rfl rfl (lt rfl) gives_h ?_
 refine Run.val (lt rfl) (Y.assign rfl) ?_
 refine Run.to_end ?_
 refine Ex.go ?_
 refine Tr.seq ?_
 refine Tr.seq ?_
 refine Tr.region ?_
 refine Run.val (lt rfl) (Y.move rfl) ?_
 refine Run.val (lt rfl) (Y.int rfl rfl rfl) ?_
 refine Run.to_end ?_
 refine Ex.go ?_
 rcases Bool.eq_false_or_eq_true (id == 0) with h13 | h13
 ·have g13 := h13
  try simp only [kb] at g13
  refine Tr.cond_t rfl h13 ?_
  refine Tr.seq ?_
  refine Tr.region ?_
  refine Run.val (lt rfl) (Y.move rfl) ?_
  refine Run.val (lt rfl) (Y.move rfl) ?_
  refine Run.val (lt rfl) (Y.lenSl rfl Chosen_es32) ?_
  refine Run.val (lt rfl) (Y.move rfl) ?_
  refine Run.val (lt rfl) (Y.subN (((Le.sel 0 l).length - (Fl.gives id (((Le.sel 0 l).length : Nat) : Int) (((Le.sel 1 l).length : Nat) : Int) y s).toNat : Nat) : Int) rfl rfl (by omega) (by omega)) ?_
  refine Run.val (lt rfl) (Y.slice (l := (Le.sel 0 l).length - (Fl.gives id (((Le.sel 0 l).length : Nat) : Int) (((Le.sel 1 l).length : Nat) : Int) y s).toNat) (m := (Le.sel 0 l).length) rfl Chosen_es32 rfl rfl (by omega) (by omega)) ?_
  refine Run.val (lt rfl) (Y.assign rfl) ?_
  refine Run.to_end ?_
  refine Ex.go ?_
  refine Tr.to_ret ?_
  refine Ex.ret_then ?_
  refine Ex.keepTo (H' := [q4]) [1] rfl ?_
  refine Ex.show (fun V2 hle2 hsh2 => ?_)
  exact Ex.ret1 rfl rfl  ⟨hle2, rfl, Le.chosen_rd (b := 0) (by simp only [if_pos g13]) (Rd.cut nU_enc.len (ho5.show hsh2) _ _ (by omega) (Nat.le_refl _)) rfl hl⟩
 ·have g13 := h13
  try simp only [kb] at g13
  refine Tr.cond_f rfl h13 ?_
  refine Tr.to_end ?_
  refine Ex.go ?_
  refine Tr.seq ?_
  refine Tr.region ?_
  refine Run.val (lt rfl) (Y.move rfl) ?_
  refine Run.val (lt rfl) (Y.move rfl) ?_
  refine Run.val (lt rfl) (Y.lenSl rfl Chosen_es32) ?_
  refine Run.val (lt rfl) (Y.move rfl) ?_
  refine Run.val (lt rfl) (Y.subN (((Le.sel 1 l).length - (Fl.gives id (((Le.sel 0 l).length : Nat) : Int) (((Le.sel 1 l).length : Nat) : Int) y s).toNat : Nat) : Int) rfl rfl (by omega) (by omega)) ?_
  refine Run.val (lt rfl) (Y.slice (l := (Le.sel 1 l).length - (Fl.gives id (((Le.sel 0 l).length : Nat) : Int) (((Le.sel 1 l).length : Nat) : Int) y s).toNat) (m := (Le.sel 1 l).length) rfl Chosen_es32 rfl rfl (by omega) (by omega)) ?_
  refine Run.val (lt rfl) (Y.assign rfl) ?_
  refine Run.to_end ?_
  refine Ex.go ?_
  refine Tr.to_ret ?_
  refine Ex.keepTo (H' := [q9]) [2] rfl ?_
  refine Ex.show (fun V2 hle2 hsh2 => ?_)
  exact Ex.ret1 rfl rfl  ⟨hle2, rfl, Le.chosen_rd (b := 1) (by simp only [if_neg g13]) (Rd.cut nU_enc.len (ho10.show hsh2) _ _ (by omega) (Nat.le_refl _)) rfl hl⟩

set_option maxHeartbeats 1000000 in
theorem rchosen_c {V : Vw} {l : List Le} {p : Option Addr} {c : Nat} (hv : Rd V [] 8 (.slice p l.length c) l.length (l.map Le.cells).flatten) (hl : l.length ≤ 300) {id : Int} {y s : Nat}  : Does Try.prog 19 [.agg #[.float .f64 y, .float .f64 s], .int .i64 id, .slice p l.length c] V [] (fun v V' H' => V.le V' ∧ H' = [] ∧ Rd V' [] 1 v (Le.chosen id l y s).length ((Le.chosen id l y s).flatMap nU)) := by
 have hg := Le.gives_le id l y s hl
 have hs0 := Le.sel_le 0 l
 have hs1 := Le.sel_le 1 l
 refine Does.intro Try.func19 rfl rfl (le rfl) (fun B => ?_)
 refine Tr.seq ?_
 refine Tr.region ?_
 refine Run.box rfl (lt rfl) (fun b1 => ?_)
 refine Run.val (lt rfl) (Y.assign rfl) ?_
 refine Run.to_end ?_
 refine Ex.go ?_
 refine Tr.seq ?_
 refine Tr.region ?_
 refine Run.val (lt rfl) (Y.assign rfl) ?_
 refine Run.to_end ?_
 refine Ex.go ?_
 refine Tr.seq ?_
 refine Tr.region ?_
 refine Run.val (lt rfl) (Y.assign rfl) ?_
 refine Run.to_end ?_
 refine Ex.go ?_
 refine Tr.seq ?_
 refine Tr.region ?_
 refine Run.nilseg ?_
 refine Run.val (lt rfl) (Y.assign rfl) ?_
 refine Run.to_end ?_
 refine Ex.go ?_
 refine Tr.seq ?_
 refine Tr.seq ?_
 refine Tr.region ?_
 refine Run.val (lt rfl) (Y.assign rfl) ?_
 refine Run.to_end ?_
 refine Ex.go ?_
 refine Tr.block ?_
 refine Tr.loop (X := Nat × Option Addr × Nat × Nat × Sg) (fun z0 => V) (fun z0 => [z0.2.2.2.2, [(b1, .cells #[.float .f64 y, .float .f64 s] 28 (0, 0))]]) (fun z0 => [(0, .agg #[.float .f64 y, .float .f64 s]), (1, .int .i64 id), (2, .slice p l.length c), (7, .int .i64 (((Le.sel 0 (l.take z0.1)).length : Nat) : Int)), (8, .int .i64 (((Le.sel 1 (l.take z0.1)).length : Nat) : Int)), (9, .slice z0.2.1 z0.2.2.1 z0.2.2.2.1), (10, .int .i64 (z0.1 : Int)), (3, .pointer (some ⟨b1, 0, none⟩))]) (fun z0 => Ow 37 1 (.slice z0.2.1 z0.2.2.1 z0.2.2.2.1) z0.2.2.1 ((isort (Le.rsel id (l.take z0.1))).flatMap nU) z0.2.2.2.2 ∧ z0.2.2.1 = (Le.rsel id (l.take z0.1)).length ∧ z0.1 ≤ l.length) (fun z0 => l.length - z0.1) (⟨0, none, 0, 0, []⟩ : Nat × Option Addr × Nat × Nat × Sg) ⟨by simp [Le.rsel, Le.sel, isort]; exact Ow.nil _ _, by simp [Le.rsel, Le.sel], Nat.zero_le _⟩ (fun a w i => ⟨i.1.sub (subB_cons (by first | rfl | exact congrArg (fun z => some (Value.int _ z)) (by omega)) (subB_cons (by first | rfl | exact congrArg (fun z => some (Value.int _ z)) (by omega)) (subB_cons (by first | rfl | exact congrArg (fun z => some (Value.int _ z)) (by omega)) (subB_cons (by first | rfl | exact congrArg (fun z => some (Value.int _ z)) (by omega)) (subB_cons (by first | rfl | exact congrArg (fun z => some (Value.int _ z)) (by omega)) (subB_cons (by first | rfl | exact congrArg (fun z => some (Value.int _ z)) (by omega)) (subB_cons (by first | rfl | exact congrArg (fun z => some (Value.int _ z)) (by omega)) (subB_cons (by first | rfl | exact congrArg (fun z => some (Value.int _ z)) (by omega)) (subB_nil _))))))))), i.2⟩) ?_
 rintro ⟨i1, p1, n1, k1, q1⟩ ⟨how, hn, hi⟩
 try dsimp only at how hn hi ⊢
 have hsl := Le.rsel_le id (l.take i1)
 rw [List.length_take] at hsl
 have hcp := how.cap
 have h0l := Le.sel_le 0 (l.take i1)
 have h1l := Le.sel_le 1 (l.take i1)
 rw [List.length_take] at h0l h1l
 refine Tr.seq ?_
 refine Tr.seq ?_
 refine Tr.region ?_
 refine Run.val (lt rfl) (Y.move rfl) ?_
 refine Run.val (lt rfl) (Y.move rfl) ?_
 refine Run.val (lt rfl) (Y.lenSl rfl Chosen_es24) ?_
 refine Run.val (lt rfl) (Y.int rfl rfl rfl) ?_
 refine Run.to_end ?_
 refine Ex.go ?_
 rcases Bool.eq_false_or_eq_true (decide ((i1 : Int) < ((l.length : Nat) : Int))) with h2 | h2
 ·have g2 := h2
  try simp only [kb] at g2
  refine Tr.cond_t rfl h2 ?_
  refine Tr.to_end ?_
  refine Ex.go ?_
  refine Tr.seq ?_
  refine Tr.block ?_
  refine Tr.seq ?_
  refine Tr.seq ?_
  refine Tr.region ?_
  refine Run.val (lt rfl) (Y.move rfl) ?_
  refine Run.val (lt rfl) (Y.move rfl) ?_
  refine Run.val (lt rfl) (Y.idxR i1 rfl rfl Chosen_es24 hv.of_nil (by omega) (by omega)) ?_
  refine Run.val (lt rfl) (Y.fieldR rfl Chosen_fo39_1 hv.of_nil (by omega)) ?_
  refine Run.val (lt rfl) (Y.ldR rfl Chosen_ts3 hv.of_nil (rows_at Le.len (by omega) Le.dflt (by decide) rfl)) ?_
  refine Run.val (lt rfl) (Y.int rfl rfl rfl) ?_
  refine Run.to_end ?_
  refine Ex.go ?_
  rcases Bool.eq_false_or_eq_true (((l.getD i1 Le.dflt).bind) == 0) with h3 | h3
  ·have g3 := h3
   try simp only [kb] at g3
   refine Tr.cond_t rfl h3 ?_
   refine Tr.region ?_
   refine Run.val (lt rfl) (Y.move rfl) ?_
   refine Run.val (lt rfl) (Y.add rfl rfl (by omega)) ?_
   refine Run.val (lt rfl) (Y.assign rfl) ?_
   refine Run.to_end ?_
   refine Ex.go ?_
   refine Tr.seq ?_
   refine Tr.seq ?_
   refine Tr.region ?_
   refine Run.val (lt rfl) (Y.move rfl) ?_
   refine Run.val (lt rfl) (Y.move rfl) ?_
   refine Run.val (lt rfl) (Y.idxR i1 rfl rfl Chosen_es24 hv.of_nil (by omega) (by omega)) ?_
   refine Run.val (lt rfl) (Y.fieldR rfl Chosen_fo39_1 hv.of_nil (by omega)) ?_
   refine Run.val (lt rfl) (Y.ldR rfl Chosen_ts3 hv.of_nil (rows_at Le.len (by omega) Le.dflt (by decide) rfl)) ?_
   refine Run.val (lt rfl) (Y.int rfl rfl rfl) ?_
   refine Run.to_end ?_
   refine Ex.go ?_
   rcases Bool.eq_false_or_eq_true (((l.getD i1 Le.dflt).bind) == 1) with h4 | h4
   ·have g4 := h4
    try simp only [kb] at g4
    refine Tr.cond_t rfl h4 ?_
    refine Tr.region ?_
    refine Run.val (lt rfl) (Y.move rfl) ?_
    refine Run.val (lt rfl) (Y.add rfl rfl (by omega)) ?_
    refine Run.val (lt rfl) (Y.assign rfl) ?_
    refine Run.to_end ?_
    refine Ex.go ?_
    refine Tr.seq ?_
    refine Tr.region ?_
    refine Run.val (lt rfl) (Y.move rfl) ?_
    refine Run.val (lt rfl) (Y.int rfl rfl rfl) ?_
    refine Run.val (lt rfl) (Y.move rfl) ?_
    rcases Bool.eq_false_or_eq_true (id == 0) with h5 | h5
    ·have g5 := h5
     try simp only [kb] at g5
     refine Run.on rfl rfl rfl h5 ?_
     refine Run.val (lt rfl) (Y.move rfl) ?_
     refine Run.on rfl rfl rfl h5 ?_
     refine Run.val (lt rfl) (Y.move rfl) ?_
     refine Run.on rfl rfl rfl h5 ?_
     refine Run.val (lt rfl) (Y.idxR i1 rfl rfl Chosen_es24 hv.of_nil (by omega) (by omega)) ?_
     refine Run.on rfl rfl rfl h5 ?_
     refine Run.val (lt rfl) (Y.fieldR rfl Chosen_fo39_1 hv.of_nil (by omega)) ?_
     refine Run.on rfl rfl rfl h5 ?_
     refine Run.val (lt rfl) (Y.ldR rfl Chosen_ts3 hv.of_nil (rows_at Le.len (by omega) Le.dflt (by decide) rfl)) ?_
     refine Run.on rfl rfl rfl h5 ?_
     refine Run.val (lt rfl) (Y.int rfl rfl rfl) ?_
     refine Run.val (lt rfl) (Y.pick_t rfl h5 rfl) ?_
     refine Run.val (lt rfl) (Y.move rfl) ?_
     refine Run.off rfl rfl rfl h3 rfl (lt rfl) ?_
     refine Run.off rfl rfl rfl h3 rfl (lt rfl) ?_
     refine Run.off rfl rfl rfl h3 rfl (lt rfl) ?_
     refine Run.off_u rfl rfl rfl rfl (lt rfl) ?_
     refine Run.off_u rfl rfl rfl rfl (lt rfl) ?_
     refine Run.off_u rfl rfl rfl rfl (lt rfl) ?_
     refine Run.off_u rfl rfl rfl rfl (lt rfl) ?_
     refine Run.off_u rfl rfl rfl rfl (lt rfl) ?_
     refine Run.off_u rfl rfl rfl rfl (lt rfl) ?_
     refine Run.off rfl rfl rfl h3 rfl (lt rfl) ?_
     refine Run.val (lt rfl) (Y.pick_t rfl h3 rfl) ?_
     refine Run.to_end ?_
     refine Ex.go ?_
     refine Tr.cond_t rfl rfl ?_
     refine Tr.seq ?_
     refine Tr.region ?_
     refine Run.val (lt rfl) (Y.assign rfl) ?_
     refine Run.to_end ?_
     refine Ex.go ?_
     refine Tr.seq ?_
     refine Tr.block ?_
     refine Tr.loop (X := Nat) (fun z0 => V) (fun z0 => [q1, [(b1, .cells #[.float .f64 y, .float .f64 s] 28 (0, 0))]]) (fun z0 => [(0, .agg #[.float .f64 y, .float .f64 s]), (1, .int .i64 id), (2, .slice p l.length c), (7, .int .i64 ((((Le.sel 0 (l.take i1)).length : Nat) : Int) + 1)), (8, .int .i64 ((((Le.sel 1 (l.take i1)).length : Nat) : Int) + 1)), (9, .slice p1 n1 k1), (10, .int .i64 (i1 : Int)), (3, .pointer (some ⟨b1, 0, none⟩)), (11, .int .i64 (z0 : Int))]) (fun z0 => z0 ≤ n1 ∧ ∀ j, j < z0 → (isort (Le.rsel id (l.take i1))).getD j 0 < (l.getD i1 Le.dflt).addr) (fun z0 => n1 - z0) (0 : Nat) ⟨Nat.zero_le _, fun j hj => absurd hj (Nat.not_lt_zero j)⟩ (fun a w i => ⟨i.1.sub (subB_cons (by first | rfl | exact congrArg (fun z => some (Value.int _ z)) (by omega)) (subB_cons (by first | rfl | exact congrArg (fun z => some (Value.int _ z)) (by omega)) (subB_cons (by first | rfl | exact congrArg (fun z => some (Value.int _ z)) (by omega)) (subB_cons (by first | rfl | exact congrArg (fun z => some (Value.int _ z)) (by omega)) (subB_cons (by first | rfl | exact congrArg (fun z => some (Value.int _ z)) (by omega)) (subB_cons (by first | rfl | exact congrArg (fun z => some (Value.int _ z)) (by omega)) (subB_cons (by first | rfl | exact congrArg (fun z => some (Value.int _ z)) (by omega)) (subB_cons (by first | rfl | exact congrArg (fun z => some (Value.int _ z)) (by omega)) (subB_cons (by first | rfl | exact congrArg (fun z => some (Value.int _ z)) (by omega)) (subB_nil _)))))))))), i.2⟩) ?_
     rintro a1 ⟨hal, ha⟩
     have hrl0 : (isort (Le.rsel id (l.take i1))).length = n1 := by rw [isort_length]; exact hn.symm
     refine Tr.seq ?_
     refine Tr.seq ?_
     refine Tr.quiet Chosen_mo (by kernel_rfl) ?_
     refine RunQ.val (lt rfl) (Y.move rfl) ?_
     refine RunQ.val (lt rfl) (Y.move rfl) ?_
     refine RunQ.val (lt rfl) (Y.lenSl rfl Chosen_es32) ?_
     refine RunQ.val (lt rfl) (Y.int rfl rfl rfl) ?_
     refine RunQ.val (lt rfl) (Y.move rfl) ?_
     rcases Bool.eq_false_or_eq_true (decide ((a1 : Int) < ((n1 : Nat) : Int))) with h6 | h6
     ·have g6 := h6
      try simp only [kb] at g6
      refine RunQ.on rfl rfl rfl h6 ?_
      refine RunQ.val (lt rfl) (Y.move rfl) ?_
      refine RunQ.on rfl rfl rfl h6 ?_
      refine RunQ.val (lt rfl) (Y.move rfl) ?_
      refine RunQ.on rfl rfl rfl h6 ?_
      refine RunQ.val (lt rfl) (Y.idxR a1 rfl rfl Chosen_es32 (how.rd 0 rfl) (by omega) (by omega)) ?_
      refine RunQ.on rfl rfl rfl h6 ?_
      refine RunQ.val (lt rfl) (Y.ldR rfl Chosen_ts37 (how.rd 0 rfl) (flatm_at0 nU_enc.len (by omega) 0 (by decide) rfl)) ?_
      refine RunQ.on rfl rfl rfl h6 ?_
      refine RunQ.val (lt rfl) (Y.move rfl) ?_
      refine RunQ.on rfl rfl rfl h6 ?_
      refine RunQ.val (lt rfl) (Y.move rfl) ?_
      refine RunQ.on rfl rfl rfl h6 ?_
      refine RunQ.val (lt rfl) (Y.idxR i1 rfl rfl Chosen_es24 hv.of_nil (by omega) (by omega)) ?_
      refine RunQ.on rfl rfl rfl h6 ?_
      refine RunQ.val (lt rfl) (Y.fieldR rfl Chosen_fo39_0 hv.of_nil (by omega)) ?_
      refine RunQ.on rfl rfl rfl h6 ?_
      refine RunQ.val (lt rfl) (Y.ldR rfl Chosen_ts37 hv.of_nil (rows_at Le.len (by omega) Le.dflt (by decide) rfl)) ?_
      refine RunQ.on rfl rfl rfl h6 ?_
      refine RunQ.val (lt rfl) (Y.int rfl rfl rfl) ?_
      refine RunQ.val (lt rfl) (Y.pick_t rfl h6 rfl) ?_
      refine RunQ.to_end ?_
      refine Ex.go ?_
      rcases Bool.eq_false_or_eq_true (decide (((isort (Le.rsel id (l.take i1))).getD a1 0) < ((l.getD i1 Le.dflt).addr))) with h7 | h7
      ·have g7 := h7
       try simp only [kb] at g7
       refine Tr.cond_t rfl h7 ?_
       refine Tr.to_end ?_
       refine Ex.go ?_
       refine Tr.block ?_
       refine Tr.region ?_
       refine Run.val (lt rfl) (Y.move rfl) ?_
       refine Run.val (lt rfl) (Y.add rfl rfl (by omega)) ?_
       refine Run.val (lt rfl) (Y.assign rfl) ?_
       refine Run.to_end ?_
       refine Ex.end_block ?_
       exact Ex.round (a1 + 1 : Nat) ⟨by omega, upto_succ ha (by omega)⟩ (by omega) rfl rfl (subB_cons (by first | rfl | exact congrArg (fun z => some (Value.int _ z)) (by omega)) (subB_cons (by first | rfl | exact congrArg (fun z => some (Value.int _ z)) (by omega)) (subB_cons (by first | rfl | exact congrArg (fun z => some (Value.int _ z)) (by omega)) (subB_cons (by first | rfl | exact congrArg (fun z => some (Value.int _ z)) (by omega)) (subB_cons (by first | rfl | exact congrArg (fun z => some (Value.int _ z)) (by omega)) (subB_cons (by first | rfl | exact congrArg (fun z => some (Value.int _ z)) (by omega)) (subB_cons (by first | rfl | exact congrArg (fun z => some (Value.int _ z)) (by omega)) (subB_cons (by first | rfl | exact congrArg (fun z => some (Value.int _ z)) (by omega)) (subB_cons (by first | rfl | exact congrArg (fun z => some (Value.int _ z)) (by omega)) (subB_nil _))))))))))
      ·have g7 := h7
       try simp only [kb] at g7
       refine Tr.cond_f rfl h7 ?_
       refine Tr.to_exit ?_
       refine Ex.exit_then ?_
       refine Ex.exit_then ?_
       refine Ex.exit_in ?_
       refine Ex.go ?_
       refine Tr.seq ?_
       refine Tr.region ?_
       refine Run.buildSlice0 Chosen_es32 (lt rfl) (fun b8 => ?_)
       refine Run.val (lt rfl) (Y.move rfl) ?_
       refine Run.val (lt rfl) (Y.move rfl) ?_
       refine Run.val (lt rfl) (Y.slice (l := 0) (m := a1) rfl Chosen_es32 rfl rfl (by omega) (by omega)) ?_
       refine Run.append (n := 0) (m := (a1 - 0)) (xs := []) (ys := (((isort (Le.rsel id (l.take i1))).drop 0).take (a1 - 0)).flatMap nU) rfl rfl Chosen_es32 Chosen_zi37 (by decide) (j := 0) rfl (Ow.lit (cur := #[]) rfl (by decide)) (Src.of_rd Chosen_es32 (Rd.cut nU_enc.len (how.rd 1 rfl) 0 a1 (by omega) (by omega))) (by omega) (by omega) (all_one_flat nU_enc _) (lt rfl) (fun v9 s10 ho11 hf => ?_)
       obtain ⟨p9, c9, rfl⟩ := hf
       replace ho11 := Ow.app (f := nU) (l := []) (m := ((isort (Le.rsel id (l.take i1))).drop 0).take (a1 - 0)) ho11
       refine Run.val (lt rfl) (Y.assign rfl) ?_
       refine Run.to_end ?_
       refine Ex.go ?_
       refine Tr.seq ?_
       refine Tr.region ?_
       refine Run.val (lt rfl) (Y.move rfl) ?_
       refine Run.val (lt rfl) (Y.move rfl) ?_
       refine Run.val (lt rfl) (Y.move rfl) ?_
       refine Run.val (lt rfl) (Y.idxR i1 rfl rfl Chosen_es24 hv.of_nil (by omega) (by omega)) ?_
       refine Run.val (lt rfl) (Y.fieldR rfl Chosen_fo39_0 hv.of_nil (by omega)) ?_
       refine Run.val (lt rfl) (Y.ldR rfl Chosen_ts37 hv.of_nil (rows_at Le.len (by omega) Le.dflt (by decide) rfl)) ?_
       refine Run.buildSlice (l := [(0, .tmp 86)]) Chosen_es32 Chosen_zo37 rfl (by decide) rfl rfl (by decide) (lt rfl) (fun b12 => ?_)
       refine Run.append (n := 0 + (a1 - 0)) (m := 1) (xs := ([] ++ (((isort (Le.rsel id (l.take i1))).drop 0).take (a1 - 0))).flatMap nU) (ys := [.int .u32 ((l.getD i1 Le.dflt).addr)]) rfl rfl Chosen_es32 Chosen_zi37 (by decide) (j := 1) rfl ho11 (Src.of_rd Chosen_es32 (Rd.one (Kn.at 0 rfl) rfl)) (by omega) (by omega) rfl (lt rfl) (fun v13 s14 ho15 hf => ?_)
       obtain ⟨p13, c13, rfl⟩ := hf
       replace ho15 := Ow.app1 (f := nU) (l := [] ++ (((isort (Le.rsel id (l.take i1))).drop 0).take (a1 - 0))) (x := (l.getD i1 Le.dflt).addr) ho15
       refine Run.val (lt rfl) (Y.assign rfl) ?_
       refine Run.to_end ?_
       refine Ex.go ?_
       refine Tr.region ?_
       refine Run.val (lt rfl) (Y.move rfl) ?_
       refine Run.val (lt rfl) (Y.move rfl) ?_
       refine Run.val (lt rfl) (Y.move rfl) ?_
       refine Run.val (lt rfl) (Y.slice (l := a1) (m := n1) rfl Chosen_es32 rfl rfl (by omega) (by omega)) ?_
       refine Run.append (n := 0 + (a1 - 0) + 1) (m := (n1 - a1)) (xs := (([] ++ (((isort (Le.rsel id (l.take i1))).drop 0).take (a1 - 0))) ++ [(l.getD i1 Le.dflt).addr]).flatMap nU) (ys := (((isort (Le.rsel id (l.take i1))).drop a1).take (n1 - a1)).flatMap nU) rfl rfl Chosen_es32 Chosen_zi37 (by decide) (j := 1) rfl ho15 (Src.of_rd Chosen_es32 (Rd.cut nU_enc.len (how.rd 2 rfl) a1 n1 (by omega) (by omega))) (by omega) (by omega) (all_one_flat nU_enc _) (lt rfl) (fun v16 s17 ho18 hf => ?_)
       obtain ⟨p16, c16, rfl⟩ := hf
       replace ho18 := Ow.app (f := nU) (l := ([] ++ (((isort (Le.rsel id (l.take i1))).drop 0).take (a1 - 0))) ++ [(l.getD i1 Le.dflt).addr]) (m := ((isort (Le.rsel id (l.take i1))).drop a1).take (n1 - a1)) ho18
       refine Run.val (lt rfl) (Y.assign rfl) ?_
       refine Run.to_end ?_
       refine Ex.end_block ?_
       refine Ex.go ?_
       refine Tr.region ?_
       refine Run.val (lt rfl) (Y.move rfl) ?_
       refine Run.val (lt rfl) (Y.add rfl rfl (by omega)) ?_
       refine Run.val (lt rfl) (Y.assign rfl) ?_
       refine Run.to_end ?_
       refine Ex.keep [1, 2] ?_
       have qq0 := Le.sel_takeL (l := l) (i := i1) (b := 0) (by omega) h3
       have qq1 := Le.sel_takeL (l := l) (i := i1) (b := 1) (by omega) h4
       have er : Le.rsel id (l.take (i1 + 1)) = Le.rsel id (l.take i1) ++ [(l.getD i1 Le.dflt).addr] := by first | exact Le.rsel_yes 0 (by omega) (by omega) h3 | exact Le.rsel_yes 1 (by omega) (by omega) h4
       have hrl : (isort (Le.rsel id (l.take i1))).length = n1 := by rw [isort_length]; exact hn.symm
       have hsp : spot (l.getD i1 Le.dflt).addr (isort (Le.rsel id (l.take i1))) = a1 := spot_at (by omega) ha (by first | (left; omega) | (right; omega))
       have ho9 := ho18
       rw [Le.ins_cat hrl hsp, ← isort_snoc, ← er] at ho9
       exact Ex.round (⟨i1 + 1, p16, (0 + (a1 - 0) + 1 + (n1 - a1)), c16, s17⟩ : Nat × Option Addr × Nat × Nat × Sg) ⟨ho9, by rw [er]; rw [List.length_append]; simp only [List.length_singleton]; omega, by omega⟩ (by dsimp only; omega) rfl rfl (subB_cons (by first | rfl | exact congrArg (fun z => some (Value.int _ z)) (by omega) | exact congrArg (fun z => some (Value.int _ z)) (by dsimp only; omega)) (subB_cons (by first | rfl | exact congrArg (fun z => some (Value.int _ z)) (by omega) | exact congrArg (fun z => some (Value.int _ z)) (by dsimp only; omega)) (subB_cons (by first | rfl | exact congrArg (fun z => some (Value.int _ z)) (by omega) | exact congrArg (fun z => some (Value.int _ z)) (by dsimp only; omega)) (subB_cons (by first | rfl | exact congrArg (fun z => some (Value.int _ z)) (by omega) | exact congrArg (fun z => some (Value.int _ z)) (by dsimp only; omega)) (subB_cons (by first | rfl | exact congrArg (fun z => some (Value.int _ z)) (by omega) | exact congrArg (fun z => some (Value.int _ z)) (by dsimp only; omega)) (subB_cons (by first | rfl | exact congrArg (fun z => some (Value.int _ z)) (by omega) | exact congrArg (fun z => some (Value.int _ z)) (by dsimp only; omega)) (subB_cons (by first | rfl | exact congrArg (fun z => some (Value.int _ z)) (by omega) | exact congrArg (fun z => some (Value.int _ z)) (by dsimp only; omega)) (subB_cons (by first | rfl | exact congrArg (fun z => some (Value.int _ z)) (by omega) | exact congrArg (fun z => some (Value.int _ z)) (by dsimp only; omega)) (subB_nil _)))))))))
     ·have g6 := h6
      try simp only [kb] at g6
      refine RunQ.off rfl rfl rfl h6 rfl (lt rfl) ?_
      refine RunQ.off rfl rfl rfl h6 rfl (lt rfl) ?_
      refine RunQ.off rfl rfl rfl h6 rfl (lt rfl) ?_
      refine RunQ.off rfl rfl rfl h6 rfl (lt rfl) ?_
      refine RunQ.off rfl rfl rfl h6 rfl (lt rfl) ?_
      refine RunQ.off rfl rfl rfl h6 rfl (lt rfl) ?_
      refine RunQ.off rfl rfl rfl h6 rfl (lt rfl) ?_
      refine RunQ.off rfl rfl rfl h6 rfl (lt rfl) ?_
      refine RunQ.off rfl rfl rfl h6 rfl (lt rfl) ?_
      refine RunQ.off rfl rfl rfl h6 rfl (lt rfl) ?_
      refine RunQ.val (lt rfl) (Y.pick_f rfl h6 rfl) ?_
      refine RunQ.to_end ?_
      refine Ex.go ?_
      refine Tr.cond_f rfl rfl ?_
      refine Tr.to_exit ?_
      refine Ex.exit_then ?_
      refine Ex.exit_then ?_
      refine Ex.exit_in ?_
      refine Ex.go ?_
      refine Tr.seq ?_
      refine Tr.region ?_
      refine Run.buildSlice0 Chosen_es32 (lt rfl) (fun b19 => ?_)
      refine Run.val (lt rfl) (Y.move rfl) ?_
      refine Run.val (lt rfl) (Y.move rfl) ?_
      refine Run.val (lt rfl) (Y.slice (l := 0) (m := a1) rfl Chosen_es32 rfl rfl (by omega) (by omega)) ?_
      refine Run.append (n := 0) (m := (a1 - 0)) (xs := []) (ys := (((isort (Le.rsel id (l.take i1))).drop 0).take (a1 - 0)).flatMap nU) rfl rfl Chosen_es32 Chosen_zi37 (by decide) (j := 0) rfl (Ow.lit (cur := #[]) rfl (by decide)) (Src.of_rd Chosen_es32 (Rd.cut nU_enc.len (how.rd 1 rfl) 0 a1 (by omega) (by omega))) (by omega) (by omega) (all_one_flat nU_enc _) (lt rfl) (fun v20 s21 ho22 hf => ?_)
      obtain ⟨p20, c20, rfl⟩ := hf
      replace ho22 := Ow.app (f := nU) (l := []) (m := ((isort (Le.rsel id (l.take i1))).drop 0).take (a1 - 0)) ho22
      refine Run.val (lt rfl) (Y.assign rfl) ?_
      refine Run.to_end ?_
      refine Ex.go ?_
      refine Tr.seq ?_
      refine Tr.region ?_
      refine Run.val (lt rfl) (Y.move rfl) ?_
      refine Run.val (lt rfl) (Y.move rfl) ?_
      refine Run.val (lt rfl) (Y.move rfl) ?_
      refine Run.val (lt rfl) (Y.idxR i1 rfl rfl Chosen_es24 hv.of_nil (by omega) (by omega)) ?_
      refine Run.val (lt rfl) (Y.fieldR rfl Chosen_fo39_0 hv.of_nil (by omega)) ?_
      refine Run.val (lt rfl) (Y.ldR rfl Chosen_ts37 hv.of_nil (rows_at Le.len (by omega) Le.dflt (by decide) rfl)) ?_
      refine Run.buildSlice (l := [(0, .tmp 86)]) Chosen_es32 Chosen_zo37 rfl (by decide) rfl rfl (by decide) (lt rfl) (fun b23 => ?_)
      refine Run.append (n := 0 + (a1 - 0)) (m := 1) (xs := ([] ++ (((isort (Le.rsel id (l.take i1))).drop 0).take (a1 - 0))).flatMap nU) (ys := [.int .u32 ((l.getD i1 Le.dflt).addr)]) rfl rfl Chosen_es32 Chosen_zi37 (by decide) (j := 1) rfl ho22 (Src.of_rd Chosen_es32 (Rd.one (Kn.at 0 rfl) rfl)) (by omega) (by omega) rfl (lt rfl) (fun v24 s25 ho26 hf => ?_)
      obtain ⟨p24, c24, rfl⟩ := hf
      replace ho26 := Ow.app1 (f := nU) (l := [] ++ (((isort (Le.rsel id (l.take i1))).drop 0).take (a1 - 0))) (x := (l.getD i1 Le.dflt).addr) ho26
      refine Run.val (lt rfl) (Y.assign rfl) ?_
      refine Run.to_end ?_
      refine Ex.go ?_
      refine Tr.region ?_
      refine Run.val (lt rfl) (Y.move rfl) ?_
      refine Run.val (lt rfl) (Y.move rfl) ?_
      refine Run.val (lt rfl) (Y.move rfl) ?_
      refine Run.val (lt rfl) (Y.slice (l := a1) (m := n1) rfl Chosen_es32 rfl rfl (by omega) (by omega)) ?_
      refine Run.append (n := 0 + (a1 - 0) + 1) (m := (n1 - a1)) (xs := (([] ++ (((isort (Le.rsel id (l.take i1))).drop 0).take (a1 - 0))) ++ [(l.getD i1 Le.dflt).addr]).flatMap nU) (ys := (((isort (Le.rsel id (l.take i1))).drop a1).take (n1 - a1)).flatMap nU) rfl rfl Chosen_es32 Chosen_zi37 (by decide) (j := 1) rfl ho26 (Src.of_rd Chosen_es32 (Rd.cut nU_enc.len (how.rd 2 rfl) a1 n1 (by omega) (by omega))) (by omega) (by omega) (all_one_flat nU_enc _) (lt rfl) (fun v27 s28 ho29 hf => ?_)
      obtain ⟨p27, c27, rfl⟩ := hf
      replace ho29 := Ow.app (f := nU) (l := ([] ++ (((isort (Le.rsel id (l.take i1))).drop 0).take (a1 - 0))) ++ [(l.getD i1 Le.dflt).addr]) (m := ((isort (Le.rsel id (l.take i1))).drop a1).take (n1 - a1)) ho29
      refine Run.val (lt rfl) (Y.assign rfl) ?_
      refine Run.to_end ?_
      refine Ex.end_block ?_
      refine Ex.go ?_
      refine Tr.region ?_
      refine Run.val (lt rfl) (Y.move rfl) ?_
      refine Run.val (lt rfl) (Y.add rfl rfl (by omega)) ?_
      refine Run.val (lt rfl) (Y.assign rfl) ?_
      refine Run.to_end ?_
      refine Ex.keep [1, 2] ?_
      have qq0 := Le.sel_takeL (l := l) (i := i1) (b := 0) (by omega) h3
      have qq1 := Le.sel_takeL (l := l) (i := i1) (b := 1) (by omega) h4
      have er : Le.rsel id (l.take (i1 + 1)) = Le.rsel id (l.take i1) ++ [(l.getD i1 Le.dflt).addr] := by first | exact Le.rsel_yes 0 (by omega) (by omega) h3 | exact Le.rsel_yes 1 (by omega) (by omega) h4
      have hrl : (isort (Le.rsel id (l.take i1))).length = n1 := by rw [isort_length]; exact hn.symm
      have hsp : spot (l.getD i1 Le.dflt).addr (isort (Le.rsel id (l.take i1))) = a1 := spot_at (by omega) ha (by first | (left; omega) | (right; omega))
      have ho9 := ho29
      rw [Le.ins_cat hrl hsp, ← isort_snoc, ← er] at ho9
      exact Ex.round (⟨i1 + 1, p27, (0 + (a1 - 0) + 1 + (n1 - a1)), c27, s28⟩ : Nat × Option Addr × Nat × Nat × Sg) ⟨ho9, by rw [er]; rw [List.length_append]; simp only [List.length_singleton]; omega, by omega⟩ (by dsimp only; omega) rfl rfl (subB_cons (by first | rfl | exact congrArg (fun z => some (Value.int _ z)) (by omega) | exact congrArg (fun z => some (Value.int _ z)) (by dsimp only; omega)) (subB_cons (by first | rfl | exact congrArg (fun z => some (Value.int _ z)) (by omega) | exact congrArg (fun z => some (Value.int _ z)) (by dsimp only; omega)) (subB_cons (by first | rfl | exact congrArg (fun z => some (Value.int _ z)) (by omega) | exact congrArg (fun z => some (Value.int _ z)) (by dsimp only; omega)) (subB_cons (by first | rfl | exact congrArg (fun z => some (Value.int _ z)) (by omega) | exact congrArg (fun z => some (Value.int _ z)) (by dsimp only; omega)) (subB_cons (by first | rfl | exact congrArg (fun z => some (Value.int _ z)) (by omega) | exact congrArg (fun z => some (Value.int _ z)) (by dsimp only; omega)) (subB_cons (by first | rfl | exact congrArg (fun z => some (Value.int _ z)) (by omega) | exact congrArg (fun z => some (Value.int _ z)) (by dsimp only; omega)) (subB_cons (by first | rfl | exact congrArg (fun z => some (Value.int _ z)) (by omega) | exact congrArg (fun z => some (Value.int _ z)) (by dsimp only; omega)) (subB_cons (by first | rfl | exact congrArg (fun z => some (Value.int _ z)) (by omega) | exact congrArg (fun z => some (Value.int _ z)) (by dsimp only; omega)) (subB_nil _)))))))))
    ·have g5 := h5
     try simp only [kb] at g5
     refine Run.off rfl rfl rfl h5 rfl (lt rfl) ?_
     refine Run.off rfl rfl rfl h5 rfl (lt rfl) ?_
     refine Run.off rfl rfl rfl h5 rfl (lt rfl) ?_
     refine Run.off rfl rfl rfl h5 rfl (lt rfl) ?_
     refine Run.off rfl rfl rfl h5 rfl (lt rfl) ?_
     refine Run.off rfl rfl rfl h5 rfl (lt rfl) ?_
     refine Run.val (lt rfl) (Y.pick_f rfl h5 rfl) ?_
     refine Run.val (lt rfl) (Y.move rfl) ?_
     refine Run.on rfl rfl rfl rfl ?_
     refine Run.val (lt rfl) (Y.move rfl) ?_
     refine Run.on rfl rfl rfl rfl ?_
     refine Run.val (lt rfl) (Y.int rfl rfl rfl) ?_
     refine Run.on rfl rfl rfl rfl ?_
     refine Run.val (lt rfl) (Y.move rfl) ?_
     rcases Bool.eq_false_or_eq_true (id == 1) with h30 | h30
     ·have g30 := h30
      try simp only [kb] at g30
      refine Run.on rfl rfl rfl h30 ?_
      refine Run.val (lt rfl) (Y.move rfl) ?_
      refine Run.on rfl rfl rfl h30 ?_
      refine Run.val (lt rfl) (Y.move rfl) ?_
      refine Run.on rfl rfl rfl h30 ?_
      refine Run.val (lt rfl) (Y.idxR i1 rfl rfl Chosen_es24 hv.of_nil (by omega) (by omega)) ?_
      refine Run.on rfl rfl rfl h30 ?_
      refine Run.val (lt rfl) (Y.fieldR rfl Chosen_fo39_1 hv.of_nil (by omega)) ?_
      refine Run.on rfl rfl rfl h30 ?_
      refine Run.val (lt rfl) (Y.ldR rfl Chosen_ts3 hv.of_nil (rows_at Le.len (by omega) Le.dflt (by decide) rfl)) ?_
      refine Run.on rfl rfl rfl h30 ?_
      refine Run.val (lt rfl) (Y.int rfl rfl rfl) ?_
      refine Run.on rfl rfl rfl rfl ?_
      refine Run.val (lt rfl) (Y.pick_t rfl h30 rfl) ?_
      refine Run.val (lt rfl) (Y.pick_f rfl rfl rfl) ?_
      refine Run.to_end ?_
      refine Ex.go ?_
      refine Tr.cond_t rfl h4 ?_
      refine Tr.seq ?_
      refine Tr.region ?_
      refine Run.val (lt rfl) (Y.assign rfl) ?_
      refine Run.to_end ?_
      refine Ex.go ?_
      refine Tr.seq ?_
      refine Tr.block ?_
      refine Tr.loop (X := Nat) (fun z0 => V) (fun z0 => [q1, [(b1, .cells #[.float .f64 y, .float .f64 s] 28 (0, 0))]]) (fun z0 => [(0, .agg #[.float .f64 y, .float .f64 s]), (1, .int .i64 id), (2, .slice p l.length c), (7, .int .i64 ((((Le.sel 0 (l.take i1)).length : Nat) : Int) + 1)), (8, .int .i64 ((((Le.sel 1 (l.take i1)).length : Nat) : Int) + 1)), (9, .slice p1 n1 k1), (10, .int .i64 (i1 : Int)), (3, .pointer (some ⟨b1, 0, none⟩)), (11, .int .i64 (z0 : Int))]) (fun z0 => z0 ≤ n1 ∧ ∀ j, j < z0 → (isort (Le.rsel id (l.take i1))).getD j 0 < (l.getD i1 Le.dflt).addr) (fun z0 => n1 - z0) (0 : Nat) ⟨Nat.zero_le _, fun j hj => absurd hj (Nat.not_lt_zero j)⟩ (fun a w i => ⟨i.1.sub (subB_cons (by first | rfl | exact congrArg (fun z => some (Value.int _ z)) (by omega) | exact congrArg (fun z => some (Value.int _ z)) (by dsimp only; omega)) (subB_cons (by first | rfl | exact congrArg (fun z => some (Value.int _ z)) (by omega) | exact congrArg (fun z => some (Value.int _ z)) (by dsimp only; omega)) (subB_cons (by first | rfl | exact congrArg (fun z => some (Value.int _ z)) (by omega) | exact congrArg (fun z => some (Value.int _ z)) (by dsimp only; omega)) (subB_cons (by first | rfl | exact congrArg (fun z => some (Value.int _ z)) (by omega) | exact congrArg (fun z => some (Value.int _ z)) (by dsimp only; omega)) (subB_cons (by first | rfl | exact congrArg (fun z => some (Value.int _ z)) (by omega) | exact congrArg (fun z => some (Value.int _ z)) (by dsimp only; omega)) (subB_cons (by first | rfl | exact congrArg (fun z => some (Value.int _ z)) (by omega) | exact congrArg (fun z => some (Value.int _ z)) (by dsimp only; omega)) (subB_cons (by first | rfl | exact congrArg (fun z => some (Value.int _ z)) (by omega) | exact congrArg (fun z => some (Value.int _ z)) (by dsimp only; omega)) (subB_cons (by first | rfl | exact congrArg (fun z => some (Value.int _ z)) (by omega) | exact congrArg (fun z => some (Value.int _ z)) (by dsimp only; omega)) (subB_cons (by first | rfl | exact congrArg (fun z => some (Value.int _ z)) (by omega) | exact congrArg (fun z => some (Value.int _ z)) (by dsimp only; omega)) (subB_nil _)))))))))), i.2⟩) ?_
      rintro a1 ⟨hal, ha⟩
      have hrl0 : (isort (Le.rsel id (l.take i1))).length = n1 := by rw [isort_length]; exact hn.symm
      refine Tr.seq ?_
      refine Tr.seq ?_
      refine Tr.quiet Chosen_mo (by kernel_rfl) ?_
      refine RunQ.val (lt rfl) (Y.move rfl) ?_
      refine RunQ.val (lt rfl) (Y.move rfl) ?_
      refine RunQ.val (lt rfl) (Y.lenSl rfl Chosen_es32) ?_
      refine RunQ.val (lt rfl) (Y.int rfl rfl rfl) ?_
      refine RunQ.val (lt rfl) (Y.move rfl) ?_
      rcases Bool.eq_false_or_eq_true (decide ((a1 : Int) < ((n1 : Nat) : Int))) with h31 | h31
      ·have g31 := h31
       try simp only [kb] at g31
       refine RunQ.on rfl rfl rfl h31 ?_
       refine RunQ.val (lt rfl) (Y.move rfl) ?_
       refine RunQ.on rfl rfl rfl h31 ?_
       refine RunQ.val (lt rfl) (Y.move rfl) ?_
       refine RunQ.on rfl rfl rfl h31 ?_
       refine RunQ.val (lt rfl) (Y.idxR a1 rfl rfl Chosen_es32 (how.rd 0 rfl) (by omega) (by omega)) ?_
       refine RunQ.on rfl rfl rfl h31 ?_
       refine RunQ.val (lt rfl) (Y.ldR rfl Chosen_ts37 (how.rd 0 rfl) (flatm_at0 nU_enc.len (by omega) 0 (by decide) rfl)) ?_
       refine RunQ.on rfl rfl rfl h31 ?_
       refine RunQ.val (lt rfl) (Y.move rfl) ?_
       refine RunQ.on rfl rfl rfl h31 ?_
       refine RunQ.val (lt rfl) (Y.move rfl) ?_
       refine RunQ.on rfl rfl rfl h31 ?_
       refine RunQ.val (lt rfl) (Y.idxR i1 rfl rfl Chosen_es24 hv.of_nil (by omega) (by omega)) ?_
       refine RunQ.on rfl rfl rfl h31 ?_
       refine RunQ.val (lt rfl) (Y.fieldR rfl Chosen_fo39_0 hv.of_nil (by omega)) ?_
       refine RunQ.on rfl rfl rfl h31 ?_
       refine RunQ.val (lt rfl) (Y.ldR rfl Chosen_ts37 hv.of_nil (rows_at Le.len (by omega) Le.dflt (by decide) rfl)) ?_
       refine RunQ.on rfl rfl rfl h31 ?_
       refine RunQ.val (lt rfl) (Y.int rfl rfl rfl) ?_
       refine RunQ.val (lt rfl) (Y.pick_t rfl h31 rfl) ?_
       refine RunQ.to_end ?_
       refine Ex.go ?_
       rcases Bool.eq_false_or_eq_true (decide (((isort (Le.rsel id (l.take i1))).getD a1 0) < ((l.getD i1 Le.dflt).addr))) with h32 | h32
       ·have g32 := h32
        try simp only [kb] at g32
        refine Tr.cond_t rfl h32 ?_
        refine Tr.to_end ?_
        refine Ex.go ?_
        refine Tr.block ?_
        refine Tr.region ?_
        refine Run.val (lt rfl) (Y.move rfl) ?_
        refine Run.val (lt rfl) (Y.add rfl rfl (by omega)) ?_
        refine Run.val (lt rfl) (Y.assign rfl) ?_
        refine Run.to_end ?_
        refine Ex.end_block ?_
        exact Ex.round (a1 + 1 : Nat) ⟨by omega, upto_succ ha (by omega)⟩ (by omega) rfl rfl (subB_cons (by first | rfl | exact congrArg (fun z => some (Value.int _ z)) (by omega) | exact congrArg (fun z => some (Value.int _ z)) (by dsimp only; omega)) (subB_cons (by first | rfl | exact congrArg (fun z => some (Value.int _ z)) (by omega) | exact congrArg (fun z => some (Value.int _ z)) (by dsimp only; omega)) (subB_cons (by first | rfl | exact congrArg (fun z => some (Value.int _ z)) (by omega) | exact congrArg (fun z => some (Value.int _ z)) (by dsimp only; omega)) (subB_cons (by first | rfl | exact congrArg (fun z => some (Value.int _ z)) (by omega) | exact congrArg (fun z => some (Value.int _ z)) (by dsimp only; omega)) (subB_cons (by first | rfl | exact congrArg (fun z => some (Value.int _ z)) (by omega) | exact congrArg (fun z => some (Value.int _ z)) (by dsimp only; omega)) (subB_cons (by first | rfl | exact congrArg (fun z => some (Value.int _ z)) (by omega) | exact congrArg (fun z => some (Value.int _ z)) (by dsimp only; omega)) (subB_cons (by first | rfl | exact congrArg (fun z => some (Value.int _ z)) (by omega) | exact congrArg (fun z => some (Value.int _ z)) (by dsimp only; omega)) (subB_cons (by first | rfl | exact congrArg (fun z => some (Value.int _ z)) (by omega) | exact congrArg (fun z => some (Value.int _ z)) (by dsimp only; omega)) (subB_cons (by first | rfl | exact congrArg (fun z => some (Value.int _ z)) (by omega) | exact congrArg (fun z => some (Value.int _ z)) (by dsimp only; omega)) (subB_nil _))))))))))
       ·have g32 := h32
        try simp only [kb] at g32
        refine Tr.cond_f rfl h32 ?_
        refine Tr.to_exit ?_
        refine Ex.exit_then ?_
        refine Ex.exit_then ?_
        refine Ex.exit_in ?_
        refine Ex.go ?_
        refine Tr.seq ?_
        refine Tr.region ?_
        refine Run.buildSlice0 Chosen_es32 (lt rfl) (fun b33 => ?_)
        refine Run.val (lt rfl) (Y.move rfl) ?_
        refine Run.val (lt rfl) (Y.move rfl) ?_
        refine Run.val (lt rfl) (Y.slice (l := 0) (m := a1) rfl Chosen_es32 rfl rfl (by omega) (by omega)) ?_
        refine Run.append (n := 0) (m := (a1 - 0)) (xs := []) (ys := (((isort (Le.rsel id (l.take i1))).drop 0).take (a1 - 0)).flatMap nU) rfl rfl Chosen_es32 Chosen_zi37 (by decide) (j := 0) rfl (Ow.lit (cur := #[]) rfl (by decide)) (Src.of_rd Chosen_es32 (Rd.cut nU_enc.len (how.rd 1 rfl) 0 a1 (by omega) (by omega))) (by omega) (by omega) (all_one_flat nU_enc _) (lt rfl) (fun v34 s35 ho36 hf => ?_)
        obtain ⟨p34, c34, rfl⟩ := hf
        replace ho36 := Ow.app (f := nU) (l := []) (m := ((isort (Le.rsel id (l.take i1))).drop 0).take (a1 - 0)) ho36
        refine Run.val (lt rfl) (Y.assign rfl) ?_
        refine Run.to_end ?_
        refine Ex.go ?_
        refine Tr.seq ?_
        refine Tr.region ?_
        refine Run.val (lt rfl) (Y.move rfl) ?_
        refine Run.val (lt rfl) (Y.move rfl) ?_
        refine Run.val (lt rfl) (Y.move rfl) ?_
        refine Run.val (lt rfl) (Y.idxR i1 rfl rfl Chosen_es24 hv.of_nil (by omega) (by omega)) ?_
        refine Run.val (lt rfl) (Y.fieldR rfl Chosen_fo39_0 hv.of_nil (by omega)) ?_
        refine Run.val (lt rfl) (Y.ldR rfl Chosen_ts37 hv.of_nil (rows_at Le.len (by omega) Le.dflt (by decide) rfl)) ?_
        refine Run.buildSlice (l := [(0, .tmp 86)]) Chosen_es32 Chosen_zo37 rfl (by decide) rfl rfl (by decide) (lt rfl) (fun b37 => ?_)
        refine Run.append (n := 0 + (a1 - 0)) (m := 1) (xs := ([] ++ (((isort (Le.rsel id (l.take i1))).drop 0).take (a1 - 0))).flatMap nU) (ys := [.int .u32 ((l.getD i1 Le.dflt).addr)]) rfl rfl Chosen_es32 Chosen_zi37 (by decide) (j := 1) rfl ho36 (Src.of_rd Chosen_es32 (Rd.one (Kn.at 0 rfl) rfl)) (by omega) (by omega) rfl (lt rfl) (fun v38 s39 ho40 hf => ?_)
        obtain ⟨p38, c38, rfl⟩ := hf
        replace ho40 := Ow.app1 (f := nU) (l := [] ++ (((isort (Le.rsel id (l.take i1))).drop 0).take (a1 - 0))) (x := (l.getD i1 Le.dflt).addr) ho40
        refine Run.val (lt rfl) (Y.assign rfl) ?_
        refine Run.to_end ?_
        refine Ex.go ?_
        refine Tr.region ?_
        refine Run.val (lt rfl) (Y.move rfl) ?_
        refine Run.val (lt rfl) (Y.move rfl) ?_
        refine Run.val (lt rfl) (Y.move rfl) ?_
        refine Run.val (lt rfl) (Y.slice (l := a1) (m := n1) rfl Chosen_es32 rfl rfl (by omega) (by omega)) ?_
        refine Run.append (n := 0 + (a1 - 0) + 1) (m := (n1 - a1)) (xs := (([] ++ (((isort (Le.rsel id (l.take i1))).drop 0).take (a1 - 0))) ++ [(l.getD i1 Le.dflt).addr]).flatMap nU) (ys := (((isort (Le.rsel id (l.take i1))).drop a1).take (n1 - a1)).flatMap nU) rfl rfl Chosen_es32 Chosen_zi37 (by decide) (j := 1) rfl ho40 (Src.of_rd Chosen_es32 (Rd.cut nU_enc.len (how.rd 2 rfl) a1 n1 (by omega) (by omega))) (by omega) (by omega) (all_one_flat nU_enc _) (lt rfl) (fun v41 s42 ho43 hf => ?_)
        obtain ⟨p41, c41, rfl⟩ := hf
        replace ho43 := Ow.app (f := nU) (l := ([] ++ (((isort (Le.rsel id (l.take i1))).drop 0).take (a1 - 0))) ++ [(l.getD i1 Le.dflt).addr]) (m := ((isort (Le.rsel id (l.take i1))).drop a1).take (n1 - a1)) ho43
        refine Run.val (lt rfl) (Y.assign rfl) ?_
        refine Run.to_end ?_
        refine Ex.end_block ?_
        refine Ex.go ?_
        refine Tr.region ?_
        refine Run.val (lt rfl) (Y.move rfl) ?_
        refine Run.val (lt rfl) (Y.add rfl rfl (by omega)) ?_
        refine Run.val (lt rfl) (Y.assign rfl) ?_
        refine Run.to_end ?_
        refine Ex.keep [1, 2] ?_
        have qq0 := Le.sel_takeL (l := l) (i := i1) (b := 0) (by omega) h3
        have qq1 := Le.sel_takeL (l := l) (i := i1) (b := 1) (by omega) h4
        have er : Le.rsel id (l.take (i1 + 1)) = Le.rsel id (l.take i1) ++ [(l.getD i1 Le.dflt).addr] := by first | exact Le.rsel_yes 0 (by omega) (by omega) h3 | exact Le.rsel_yes 1 (by omega) (by omega) h4
        have hrl : (isort (Le.rsel id (l.take i1))).length = n1 := by rw [isort_length]; exact hn.symm
        have hsp : spot (l.getD i1 Le.dflt).addr (isort (Le.rsel id (l.take i1))) = a1 := spot_at (by omega) ha (by first | (left; omega) | (right; omega))
        have ho9 := ho43
        rw [Le.ins_cat hrl hsp, ← isort_snoc, ← er] at ho9
        exact Ex.round (⟨i1 + 1, p41, (0 + (a1 - 0) + 1 + (n1 - a1)), c41, s42⟩ : Nat × Option Addr × Nat × Nat × Sg) ⟨ho9, by rw [er]; rw [List.length_append]; simp only [List.length_singleton]; omega, by omega⟩ (by dsimp only; omega) rfl rfl (subB_cons (by first | rfl | exact congrArg (fun z => some (Value.int _ z)) (by omega) | exact congrArg (fun z => some (Value.int _ z)) (by dsimp only; omega)) (subB_cons (by first | rfl | exact congrArg (fun z => some (Value.int _ z)) (by omega) | exact congrArg (fun z => some (Value.int _ z)) (by dsimp only; omega)) (subB_cons (by first | rfl | exact congrArg (fun z => some (Value.int _ z)) (by omega) | exact congrArg (fun z => some (Value.int _ z)) (by dsimp only; omega)) (subB_cons (by first | rfl | exact congrArg (fun z => some (Value.int _ z)) (by omega) | exact congrArg (fun z => some (Value.int _ z)) (by dsimp only; omega)) (subB_cons (by first | rfl | exact congrArg (fun z => some (Value.int _ z)) (by omega) | exact congrArg (fun z => some (Value.int _ z)) (by dsimp only; omega)) (subB_cons (by first | rfl | exact congrArg (fun z => some (Value.int _ z)) (by omega) | exact congrArg (fun z => some (Value.int _ z)) (by dsimp only; omega)) (subB_cons (by first | rfl | exact congrArg (fun z => some (Value.int _ z)) (by omega) | exact congrArg (fun z => some (Value.int _ z)) (by dsimp only; omega)) (subB_cons (by first | rfl | exact congrArg (fun z => some (Value.int _ z)) (by omega) | exact congrArg (fun z => some (Value.int _ z)) (by dsimp only; omega)) (subB_nil _)))))))))
      ·have g31 := h31
       try simp only [kb] at g31
       refine RunQ.off rfl rfl rfl h31 rfl (lt rfl) ?_
       refine RunQ.off rfl rfl rfl h31 rfl (lt rfl) ?_
       refine RunQ.off rfl rfl rfl h31 rfl (lt rfl) ?_
       refine RunQ.off rfl rfl rfl h31 rfl (lt rfl) ?_
       refine RunQ.off rfl rfl rfl h31 rfl (lt rfl) ?_
       refine RunQ.off rfl rfl rfl h31 rfl (lt rfl) ?_
       refine RunQ.off rfl rfl rfl h31 rfl (lt rfl) ?_
       refine RunQ.off rfl rfl rfl h31 rfl (lt rfl) ?_
       refine RunQ.off rfl rfl rfl h31 rfl (lt rfl) ?_
       refine RunQ.off rfl rfl rfl h31 rfl (lt rfl) ?_
       refine RunQ.val (lt rfl) (Y.pick_f rfl h31 rfl) ?_
       refine RunQ.to_end ?_
       refine Ex.go ?_
       refine Tr.cond_f rfl rfl ?_
       refine Tr.to_exit ?_
       refine Ex.exit_then ?_
       refine Ex.exit_then ?_
       refine Ex.exit_in ?_
       refine Ex.go ?_
       refine Tr.seq ?_
       refine Tr.region ?_
       refine Run.buildSlice0 Chosen_es32 (lt rfl) (fun b44 => ?_)
       refine Run.val (lt rfl) (Y.move rfl) ?_
       refine Run.val (lt rfl) (Y.move rfl) ?_
       refine Run.val (lt rfl) (Y.slice (l := 0) (m := a1) rfl Chosen_es32 rfl rfl (by omega) (by omega)) ?_
       refine Run.append (n := 0) (m := (a1 - 0)) (xs := []) (ys := (((isort (Le.rsel id (l.take i1))).drop 0).take (a1 - 0)).flatMap nU) rfl rfl Chosen_es32 Chosen_zi37 (by decide) (j := 0) rfl (Ow.lit (cur := #[]) rfl (by decide)) (Src.of_rd Chosen_es32 (Rd.cut nU_enc.len (how.rd 1 rfl) 0 a1 (by omega) (by omega))) (by omega) (by omega) (all_one_flat nU_enc _) (lt rfl) (fun v45 s46 ho47 hf => ?_)
       obtain ⟨p45, c45, rfl⟩ := hf
       replace ho47 := Ow.app (f := nU) (l := []) (m := ((isort (Le.rsel id (l.take i1))).drop 0).take (a1 - 0)) ho47
       refine Run.val (lt rfl) (Y.assign rfl) ?_
       refine Run.to_end ?_
       refine Ex.go ?_
       refine Tr.seq ?_
       refine Tr.region ?_
       refine Run.val (lt rfl) (Y.move rfl) ?_
       refine Run.val (lt rfl) (Y.move rfl) ?_
       refine Run.val (lt rfl) (Y.move rfl) ?_
       refine Run.val (lt rfl) (Y.idxR i1 rfl rfl Chosen_es24 hv.of_nil (by omega) (by omega)) ?_
       refine Run.val (lt rfl) (Y.fieldR rfl Chosen_fo39_0 hv.of_nil (by omega)) ?_
       refine Run.val (lt rfl) (Y.ldR rfl Chosen_ts37 hv.of_nil (rows_at Le.len (by omega) Le.dflt (by decide) rfl)) ?_
       refine Run.buildSlice (l := [(0, .tmp 86)]) Chosen_es32 Chosen_zo37 rfl (by decide) rfl rfl (by decide) (lt rfl) (fun b48 => ?_)
       refine Run.append (n := 0 + (a1 - 0)) (m := 1) (xs := ([] ++ (((isort (Le.rsel id (l.take i1))).drop 0).take (a1 - 0))).flatMap nU) (ys := [.int .u32 ((l.getD i1 Le.dflt).addr)]) rfl rfl Chosen_es32 Chosen_zi37 (by decide) (j := 1) rfl ho47 (Src.of_rd Chosen_es32 (Rd.one (Kn.at 0 rfl) rfl)) (by omega) (by omega) rfl (lt rfl) (fun v49 s50 ho51 hf => ?_)
       obtain ⟨p49, c49, rfl⟩ := hf
       replace ho51 := Ow.app1 (f := nU) (l := [] ++ (((isort (Le.rsel id (l.take i1))).drop 0).take (a1 - 0))) (x := (l.getD i1 Le.dflt).addr) ho51
       refine Run.val (lt rfl) (Y.assign rfl) ?_
       refine Run.to_end ?_
       refine Ex.go ?_
       refine Tr.region ?_
       refine Run.val (lt rfl) (Y.move rfl) ?_
       refine Run.val (lt rfl) (Y.move rfl) ?_
       refine Run.val (lt rfl) (Y.move rfl) ?_
       refine Run.val (lt rfl) (Y.slice (l := a1) (m := n1) rfl Chosen_es32 rfl rfl (by omega) (by omega)) ?_
       refine Run.append (n := 0 + (a1 - 0) + 1) (m := (n1 - a1)) (xs := (([] ++ (((isort (Le.rsel id (l.take i1))).drop 0).take (a1 - 0))) ++ [(l.getD i1 Le.dflt).addr]).flatMap nU) (ys := (((isort (Le.rsel id (l.take i1))).drop a1).take (n1 - a1)).flatMap nU) rfl rfl Chosen_es32 Chosen_zi37 (by decide) (j := 1) rfl ho51 (Src.of_rd Chosen_es32 (Rd.cut nU_enc.len (how.rd 2 rfl) a1 n1 (by omega) (by omega))) (by omega) (by omega) (all_one_flat nU_enc _) (lt rfl) (fun v52 s53 ho54 hf => ?_)
       obtain ⟨p52, c52, rfl⟩ := hf
       replace ho54 := Ow.app (f := nU) (l := ([] ++ (((isort (Le.rsel id (l.take i1))).drop 0).take (a1 - 0))) ++ [(l.getD i1 Le.dflt).addr]) (m := ((isort (Le.rsel id (l.take i1))).drop a1).take (n1 - a1)) ho54
       refine Run.val (lt rfl) (Y.assign rfl) ?_
       refine Run.to_end ?_
       refine Ex.end_block ?_
       refine Ex.go ?_
       refine Tr.region ?_
       refine Run.val (lt rfl) (Y.move rfl) ?_
       refine Run.val (lt rfl) (Y.add rfl rfl (by omega)) ?_
       refine Run.val (lt rfl) (Y.assign rfl) ?_
       refine Run.to_end ?_
       refine Ex.keep [1, 2] ?_
       have qq0 := Le.sel_takeL (l := l) (i := i1) (b := 0) (by omega) h3
       have qq1 := Le.sel_takeL (l := l) (i := i1) (b := 1) (by omega) h4
       have er : Le.rsel id (l.take (i1 + 1)) = Le.rsel id (l.take i1) ++ [(l.getD i1 Le.dflt).addr] := by first | exact Le.rsel_yes 0 (by omega) (by omega) h3 | exact Le.rsel_yes 1 (by omega) (by omega) h4
       have hrl : (isort (Le.rsel id (l.take i1))).length = n1 := by rw [isort_length]; exact hn.symm
       have hsp : spot (l.getD i1 Le.dflt).addr (isort (Le.rsel id (l.take i1))) = a1 := spot_at (by omega) ha (by first | (left; omega) | (right; omega))
       have ho9 := ho54
       rw [Le.ins_cat hrl hsp, ← isort_snoc, ← er] at ho9
       exact Ex.round (⟨i1 + 1, p52, (0 + (a1 - 0) + 1 + (n1 - a1)), c52, s53⟩ : Nat × Option Addr × Nat × Nat × Sg) ⟨ho9, by rw [er]; rw [List.length_append]; simp only [List.length_singleton]; omega, by omega⟩ (by dsimp only; omega) rfl rfl (subB_cons (by first | rfl | exact congrArg (fun z => some (Value.int _ z)) (by omega) | exact congrArg (fun z => some (Value.int _ z)) (by dsimp only; omega)) (subB_cons (by first | rfl | exact congrArg (fun z => some (Value.int _ z)) (by omega) | exact congrArg (fun z => some (Value.int _ z)) (by dsimp only; omega)) (subB_cons (by first | rfl | exact congrArg (fun z => some (Value.int _ z)) (by omega) | exact congrArg (fun z => some (Value.int _ z)) (by dsimp only; omega)) (subB_cons (by first | rfl | exact congrArg (fun z => some (Value.int _ z)) (by omega) | exact congrArg (fun z => some (Value.int _ z)) (by dsimp only; omega)) (subB_cons (by first | rfl | exact congrArg (fun z => some (Value.int _ z)) (by omega) | exact congrArg (fun z => some (Value.int _ z)) (by dsimp only; omega)) (subB_cons (by first | rfl | exact congrArg (fun z => some (Value.int _ z)) (by omega) | exact congrArg (fun z => some (Value.int _ z)) (by dsimp only; omega)) (subB_cons (by first | rfl | exact congrArg (fun z => some (Value.int _ z)) (by omega) | exact congrArg (fun z => some (Value.int _ z)) (by dsimp only; omega)) (subB_cons (by first | rfl | exact congrArg (fun z => some (Value.int _ z)) (by omega) | exact congrArg (fun z => some (Value.int _ z)) (by dsimp only; omega)) (subB_nil _)))))))))
     ·have g30 := h30
      try simp only [kb] at g30
      refine Run.off rfl rfl rfl h30 rfl (lt rfl) ?_
      refine Run.off rfl rfl rfl h30 rfl (lt rfl) ?_
      refine Run.off rfl rfl rfl h30 rfl (lt rfl) ?_
      refine Run.off rfl rfl rfl h30 rfl (lt rfl) ?_
      refine Run.off rfl rfl rfl h30 rfl (lt rfl) ?_
      refine Run.off rfl rfl rfl h30 rfl (lt rfl) ?_
      refine Run.on rfl rfl rfl rfl ?_
      refine Run.val (lt rfl) (Y.pick_f rfl h30 rfl) ?_
      refine Run.val (lt rfl) (Y.pick_f rfl rfl rfl) ?_
      refine Run.to_end ?_
      refine Ex.go ?_
      refine Tr.cond_f rfl rfl ?_
      refine Tr.to_end ?_
      refine Ex.end_block ?_
      refine Ex.go ?_
      refine Tr.region ?_
      refine Run.val (lt rfl) (Y.move rfl) ?_
      refine Run.val (lt rfl) (Y.add rfl rfl (by omega)) ?_
      refine Run.val (lt rfl) (Y.assign rfl) ?_
      refine Run.to_end ?_
      refine Ex.keep [0, 0] ?_
      have qq0 := Le.sel_takeL (l := l) (i := i1) (b := 0) (by omega) h3
      have qq1 := Le.sel_takeL (l := l) (i := i1) (b := 1) (by omega) h4
      have er : Le.rsel id (l.take (i1 + 1)) = Le.rsel id (l.take i1) := Le.rsel_no (by omega) (fun e => by first | exact h3 | exact absurd e (by omega)) (fun e => by first | exact h4 | exact absurd e (by omega))
      exact Ex.round (⟨i1 + 1, p1, n1, k1, q1⟩ : Nat × Option Addr × Nat × Nat × Sg) ⟨by rw [er]; exact how, by rw [er]; exact hn, by omega⟩ (by dsimp only; omega) rfl rfl (subB_cons (by first | rfl | exact congrArg (fun z => some (Value.int _ z)) (by omega) | exact congrArg (fun z => some (Value.int _ z)) (by dsimp only; omega)) (subB_cons (by first | rfl | exact congrArg (fun z => some (Value.int _ z)) (by omega) | exact congrArg (fun z => some (Value.int _ z)) (by dsimp only; omega)) (subB_cons (by first | rfl | exact congrArg (fun z => some (Value.int _ z)) (by omega) | exact congrArg (fun z => some (Value.int _ z)) (by dsimp only; omega)) (subB_cons (by first | rfl | exact congrArg (fun z => some (Value.int _ z)) (by omega) | exact congrArg (fun z => some (Value.int _ z)) (by dsimp only; omega)) (subB_cons (by first | rfl | exact congrArg (fun z => some (Value.int _ z)) (by omega) | exact congrArg (fun z => some (Value.int _ z)) (by dsimp only; omega)) (subB_cons (by first | rfl | exact congrArg (fun z => some (Value.int _ z)) (by omega) | exact congrArg (fun z => some (Value.int _ z)) (by dsimp only; omega)) (subB_cons (by first | rfl | exact congrArg (fun z => some (Value.int _ z)) (by omega) | exact congrArg (fun z => some (Value.int _ z)) (by dsimp only; omega)) (subB_cons (by first | rfl | exact congrArg (fun z => some (Value.int _ z)) (by omega) | exact congrArg (fun z => some (Value.int _ z)) (by dsimp only; omega)) (subB_nil _)))))))))
   ·have g4 := h4
    try simp only [kb] at g4
    refine Tr.cond_f rfl h4 ?_
    refine Tr.to_end ?_
    refine Ex.go ?_
    refine Tr.seq ?_
    refine Tr.region ?_
    refine Run.val (lt rfl) (Y.move rfl) ?_
    refine Run.val (lt rfl) (Y.int rfl rfl rfl) ?_
    refine Run.val (lt rfl) (Y.move rfl) ?_
    rcases Bool.eq_false_or_eq_true (id == 0) with h55 | h55
    ·have g55 := h55
     try simp only [kb] at g55
     refine Run.on rfl rfl rfl h55 ?_
     refine Run.val (lt rfl) (Y.move rfl) ?_
     refine Run.on rfl rfl rfl h55 ?_
     refine Run.val (lt rfl) (Y.move rfl) ?_
     refine Run.on rfl rfl rfl h55 ?_
     refine Run.val (lt rfl) (Y.idxR i1 rfl rfl Chosen_es24 hv.of_nil (by omega) (by omega)) ?_
     refine Run.on rfl rfl rfl h55 ?_
     refine Run.val (lt rfl) (Y.fieldR rfl Chosen_fo39_1 hv.of_nil (by omega)) ?_
     refine Run.on rfl rfl rfl h55 ?_
     refine Run.val (lt rfl) (Y.ldR rfl Chosen_ts3 hv.of_nil (rows_at Le.len (by omega) Le.dflt (by decide) rfl)) ?_
     refine Run.on rfl rfl rfl h55 ?_
     refine Run.val (lt rfl) (Y.int rfl rfl rfl) ?_
     refine Run.val (lt rfl) (Y.pick_t rfl h55 rfl) ?_
     refine Run.val (lt rfl) (Y.move rfl) ?_
     refine Run.off rfl rfl rfl h3 rfl (lt rfl) ?_
     refine Run.off rfl rfl rfl h3 rfl (lt rfl) ?_
     refine Run.off rfl rfl rfl h3 rfl (lt rfl) ?_
     refine Run.off_u rfl rfl rfl rfl (lt rfl) ?_
     refine Run.off_u rfl rfl rfl rfl (lt rfl) ?_
     refine Run.off_u rfl rfl rfl rfl (lt rfl) ?_
     refine Run.off_u rfl rfl rfl rfl (lt rfl) ?_
     refine Run.off_u rfl rfl rfl rfl (lt rfl) ?_
     refine Run.off_u rfl rfl rfl rfl (lt rfl) ?_
     refine Run.off rfl rfl rfl h3 rfl (lt rfl) ?_
     refine Run.val (lt rfl) (Y.pick_t rfl h3 rfl) ?_
     refine Run.to_end ?_
     refine Ex.go ?_
     refine Tr.cond_t rfl rfl ?_
     refine Tr.seq ?_
     refine Tr.region ?_
     refine Run.val (lt rfl) (Y.assign rfl) ?_
     refine Run.to_end ?_
     refine Ex.go ?_
     refine Tr.seq ?_
     refine Tr.block ?_
     refine Tr.loop (X := Nat) (fun z0 => V) (fun z0 => [q1, [(b1, .cells #[.float .f64 y, .float .f64 s] 28 (0, 0))]]) (fun z0 => [(0, .agg #[.float .f64 y, .float .f64 s]), (1, .int .i64 id), (2, .slice p l.length c), (7, .int .i64 ((((Le.sel 0 (l.take i1)).length : Nat) : Int) + 1)), (8, .int .i64 (((Le.sel 1 (l.take i1)).length : Nat) : Int)), (9, .slice p1 n1 k1), (10, .int .i64 (i1 : Int)), (3, .pointer (some ⟨b1, 0, none⟩)), (11, .int .i64 (z0 : Int))]) (fun z0 => z0 ≤ n1 ∧ ∀ j, j < z0 → (isort (Le.rsel id (l.take i1))).getD j 0 < (l.getD i1 Le.dflt).addr) (fun z0 => n1 - z0) (0 : Nat) ⟨Nat.zero_le _, fun j hj => absurd hj (Nat.not_lt_zero j)⟩ (fun a w i => ⟨i.1.sub (subB_cons (by first | rfl | exact congrArg (fun z => some (Value.int _ z)) (by omega) | exact congrArg (fun z => some (Value.int _ z)) (by dsimp only; omega)) (subB_cons (by first | rfl | exact congrArg (fun z => some (Value.int _ z)) (by omega) | exact congrArg (fun z => some (Value.int _ z)) (by dsimp only; omega)) (subB_cons (by first | rfl | exact congrArg (fun z => some (Value.int _ z)) (by omega) | exact congrArg (fun z => some (Value.int _ z)) (by dsimp only; omega)) (subB_cons (by first | rfl | exact congrArg (fun z => some (Value.int _ z)) (by omega) | exact congrArg (fun z => some (Value.int _ z)) (by dsimp only; omega)) (subB_cons (by first | rfl | exact congrArg (fun z => some (Value.int _ z)) (by omega) | exact congrArg (fun z => some (Value.int _ z)) (by dsimp only; omega)) (subB_cons (by first | rfl | exact congrArg (fun z => some (Value.int _ z)) (by omega) | exact congrArg (fun z => some (Value.int _ z)) (by dsimp only; omega)) (subB_cons (by first | rfl | exact congrArg (fun z => some (Value.int _ z)) (by omega) | exact congrArg (fun z => some (Value.int _ z)) (by dsimp only; omega)) (subB_cons (by first | rfl | exact congrArg (fun z => some (Value.int _ z)) (by omega) | exact congrArg (fun z => some (Value.int _ z)) (by dsimp only; omega)) (subB_cons (by first | rfl | exact congrArg (fun z => some (Value.int _ z)) (by omega) | exact congrArg (fun z => some (Value.int _ z)) (by dsimp only; omega)) (subB_nil _)))))))))), i.2⟩) ?_
     rintro a1 ⟨hal, ha⟩
     have hrl0 : (isort (Le.rsel id (l.take i1))).length = n1 := by rw [isort_length]; exact hn.symm
     refine Tr.seq ?_
     refine Tr.seq ?_
     refine Tr.quiet Chosen_mo (by kernel_rfl) ?_
     refine RunQ.val (lt rfl) (Y.move rfl) ?_
     refine RunQ.val (lt rfl) (Y.move rfl) ?_
     refine RunQ.val (lt rfl) (Y.lenSl rfl Chosen_es32) ?_
     refine RunQ.val (lt rfl) (Y.int rfl rfl rfl) ?_
     refine RunQ.val (lt rfl) (Y.move rfl) ?_
     rcases Bool.eq_false_or_eq_true (decide ((a1 : Int) < ((n1 : Nat) : Int))) with h56 | h56
     ·have g56 := h56
      try simp only [kb] at g56
      refine RunQ.on rfl rfl rfl h56 ?_
      refine RunQ.val (lt rfl) (Y.move rfl) ?_
      refine RunQ.on rfl rfl rfl h56 ?_
      refine RunQ.val (lt rfl) (Y.move rfl) ?_
      refine RunQ.on rfl rfl rfl h56 ?_
      refine RunQ.val (lt rfl) (Y.idxR a1 rfl rfl Chosen_es32 (how.rd 0 rfl) (by omega) (by omega)) ?_
      refine RunQ.on rfl rfl rfl h56 ?_
      refine RunQ.val (lt rfl) (Y.ldR rfl Chosen_ts37 (how.rd 0 rfl) (flatm_at0 nU_enc.len (by omega) 0 (by decide) rfl)) ?_
      refine RunQ.on rfl rfl rfl h56 ?_
      refine RunQ.val (lt rfl) (Y.move rfl) ?_
      refine RunQ.on rfl rfl rfl h56 ?_
      refine RunQ.val (lt rfl) (Y.move rfl) ?_
      refine RunQ.on rfl rfl rfl h56 ?_
      refine RunQ.val (lt rfl) (Y.idxR i1 rfl rfl Chosen_es24 hv.of_nil (by omega) (by omega)) ?_
      refine RunQ.on rfl rfl rfl h56 ?_
      refine RunQ.val (lt rfl) (Y.fieldR rfl Chosen_fo39_0 hv.of_nil (by omega)) ?_
      refine RunQ.on rfl rfl rfl h56 ?_
      refine RunQ.val (lt rfl) (Y.ldR rfl Chosen_ts37 hv.of_nil (rows_at Le.len (by omega) Le.dflt (by decide) rfl)) ?_
      refine RunQ.on rfl rfl rfl h56 ?_
      refine RunQ.val (lt rfl) (Y.int rfl rfl rfl) ?_
      refine RunQ.val (lt rfl) (Y.pick_t rfl h56 rfl) ?_
      refine RunQ.to_end ?_
      refine Ex.go ?_
      rcases Bool.eq_false_or_eq_true (decide (((isort (Le.rsel id (l.take i1))).getD a1 0) < ((l.getD i1 Le.dflt).addr))) with h57 | h57
      ·have g57 := h57
       try simp only [kb] at g57
       refine Tr.cond_t rfl h57 ?_
       refine Tr.to_end ?_
       refine Ex.go ?_
       refine Tr.block ?_
       refine Tr.region ?_
       refine Run.val (lt rfl) (Y.move rfl) ?_
       refine Run.val (lt rfl) (Y.add rfl rfl (by omega)) ?_
       refine Run.val (lt rfl) (Y.assign rfl) ?_
       refine Run.to_end ?_
       refine Ex.end_block ?_
       exact Ex.round (a1 + 1 : Nat) ⟨by omega, upto_succ ha (by omega)⟩ (by omega) rfl rfl (subB_cons (by first | rfl | exact congrArg (fun z => some (Value.int _ z)) (by omega) | exact congrArg (fun z => some (Value.int _ z)) (by dsimp only; omega)) (subB_cons (by first | rfl | exact congrArg (fun z => some (Value.int _ z)) (by omega) | exact congrArg (fun z => some (Value.int _ z)) (by dsimp only; omega)) (subB_cons (by first | rfl | exact congrArg (fun z => some (Value.int _ z)) (by omega) | exact congrArg (fun z => some (Value.int _ z)) (by dsimp only; omega)) (subB_cons (by first | rfl | exact congrArg (fun z => some (Value.int _ z)) (by omega) | exact congrArg (fun z => some (Value.int _ z)) (by dsimp only; omega)) (subB_cons (by first | rfl | exact congrArg (fun z => some (Value.int _ z)) (by omega) | exact congrArg (fun z => some (Value.int _ z)) (by dsimp only; omega)) (subB_cons (by first | rfl | exact congrArg (fun z => some (Value.int _ z)) (by omega) | exact congrArg (fun z => some (Value.int _ z)) (by dsimp only; omega)) (subB_cons (by first | rfl | exact congrArg (fun z => some (Value.int _ z)) (by omega) | exact congrArg (fun z => some (Value.int _ z)) (by dsimp only; omega)) (subB_cons (by first | rfl | exact congrArg (fun z => some (Value.int _ z)) (by omega) | exact congrArg (fun z => some (Value.int _ z)) (by dsimp only; omega)) (subB_cons (by first | rfl | exact congrArg (fun z => some (Value.int _ z)) (by omega) | exact congrArg (fun z => some (Value.int _ z)) (by dsimp only; omega)) (subB_nil _))))))))))
      ·have g57 := h57
       try simp only [kb] at g57
       refine Tr.cond_f rfl h57 ?_
       refine Tr.to_exit ?_
       refine Ex.exit_then ?_
       refine Ex.exit_then ?_
       refine Ex.exit_in ?_
       refine Ex.go ?_
       refine Tr.seq ?_
       refine Tr.region ?_
       refine Run.buildSlice0 Chosen_es32 (lt rfl) (fun b58 => ?_)
       refine Run.val (lt rfl) (Y.move rfl) ?_
       refine Run.val (lt rfl) (Y.move rfl) ?_
       refine Run.val (lt rfl) (Y.slice (l := 0) (m := a1) rfl Chosen_es32 rfl rfl (by omega) (by omega)) ?_
       refine Run.append (n := 0) (m := (a1 - 0)) (xs := []) (ys := (((isort (Le.rsel id (l.take i1))).drop 0).take (a1 - 0)).flatMap nU) rfl rfl Chosen_es32 Chosen_zi37 (by decide) (j := 0) rfl (Ow.lit (cur := #[]) rfl (by decide)) (Src.of_rd Chosen_es32 (Rd.cut nU_enc.len (how.rd 1 rfl) 0 a1 (by omega) (by omega))) (by omega) (by omega) (all_one_flat nU_enc _) (lt rfl) (fun v59 s60 ho61 hf => ?_)
       obtain ⟨p59, c59, rfl⟩ := hf
       replace ho61 := Ow.app (f := nU) (l := []) (m := ((isort (Le.rsel id (l.take i1))).drop 0).take (a1 - 0)) ho61
       refine Run.val (lt rfl) (Y.assign rfl) ?_
       refine Run.to_end ?_
       refine Ex.go ?_
       refine Tr.seq ?_
       refine Tr.region ?_
       refine Run.val (lt rfl) (Y.move rfl) ?_
       refine Run.val (lt rfl) (Y.move rfl) ?_
       refine Run.val (lt rfl) (Y.move rfl) ?_
       refine Run.val (lt rfl) (Y.idxR i1 rfl rfl Chosen_es24 hv.of_nil (by omega) (by omega)) ?_
       refine Run.val (lt rfl) (Y.fieldR rfl Chosen_fo39_0 hv.of_nil (by omega)) ?_
       refine Run.val (lt rfl) (Y.ldR rfl Chosen_ts37 hv.of_nil (rows_at Le.len (by omega) Le.dflt (by decide) rfl)) ?_
       refine Run.buildSlice (l := [(0, .tmp 86)]) Chosen_es32 Chosen_zo37 rfl (by decide) rfl rfl (by decide) (lt rfl) (fun b62 => ?_)
       refine Run.append (n := 0 + (a1 - 0)) (m := 1) (xs := ([] ++ (((isort (Le.rsel id (l.take i1))).drop 0).take (a1 - 0))).flatMap nU) (ys := [.int .u32 ((l.getD i1 Le.dflt).addr)]) rfl rfl Chosen_es32 Chosen_zi37 (by decide) (j := 1) rfl ho61 (Src.of_rd Chosen_es32 (Rd.one (Kn.at 0 rfl) rfl)) (by omega) (by omega) rfl (lt rfl) (fun v63 s64 ho65 hf => ?_)
       obtain ⟨p63, c63, rfl⟩ := hf
       replace ho65 := Ow.app1 (f := nU) (l := [] ++ (((isort (Le.rsel id (l.take i1))).drop 0).take (a1 - 0))) (x := (l.getD i1 Le.dflt).addr) ho65
       refine Run.val (lt rfl) (Y.assign rfl) ?_
       refine Run.to_end ?_
       refine Ex.go ?_
       refine Tr.region ?_
       refine Run.val (lt rfl) (Y.move rfl) ?_
       refine Run.val (lt rfl) (Y.move rfl) ?_
       refine Run.val (lt rfl) (Y.move rfl) ?_
       refine Run.val (lt rfl) (Y.slice (l := a1) (m := n1) rfl Chosen_es32 rfl rfl (by omega) (by omega)) ?_
       refine Run.append (n := 0 + (a1 - 0) + 1) (m := (n1 - a1)) (xs := (([] ++ (((isort (Le.rsel id (l.take i1))).drop 0).take (a1 - 0))) ++ [(l.getD i1 Le.dflt).addr]).flatMap nU) (ys := (((isort (Le.rsel id (l.take i1))).drop a1).take (n1 - a1)).flatMap nU) rfl rfl Chosen_es32 Chosen_zi37 (by decide) (j := 1) rfl ho65 (Src.of_rd Chosen_es32 (Rd.cut nU_enc.len (how.rd 2 rfl) a1 n1 (by omega) (by omega))) (by omega) (by omega) (all_one_flat nU_enc _) (lt rfl) (fun v66 s67 ho68 hf => ?_)
       obtain ⟨p66, c66, rfl⟩ := hf
       replace ho68 := Ow.app (f := nU) (l := ([] ++ (((isort (Le.rsel id (l.take i1))).drop 0).take (a1 - 0))) ++ [(l.getD i1 Le.dflt).addr]) (m := ((isort (Le.rsel id (l.take i1))).drop a1).take (n1 - a1)) ho68
       refine Run.val (lt rfl) (Y.assign rfl) ?_
       refine Run.to_end ?_
       refine Ex.end_block ?_
       refine Ex.go ?_
       refine Tr.region ?_
       refine Run.val (lt rfl) (Y.move rfl) ?_
       refine Run.val (lt rfl) (Y.add rfl rfl (by omega)) ?_
       refine Run.val (lt rfl) (Y.assign rfl) ?_
       refine Run.to_end ?_
       refine Ex.keep [1, 2] ?_
       have qq0 := Le.sel_takeL (l := l) (i := i1) (b := 0) (by omega) h3
       have qq1 := Le.sel_take0L (l := l) (i := i1) (b := 1) (by omega) h4
       have er : Le.rsel id (l.take (i1 + 1)) = Le.rsel id (l.take i1) ++ [(l.getD i1 Le.dflt).addr] := by first | exact Le.rsel_yes 0 (by omega) (by omega) h3 | exact Le.rsel_yes 1 (by omega) (by omega) h4
       have hrl : (isort (Le.rsel id (l.take i1))).length = n1 := by rw [isort_length]; exact hn.symm
       have hsp : spot (l.getD i1 Le.dflt).addr (isort (Le.rsel id (l.take i1))) = a1 := spot_at (by omega) ha (by first | (left; omega) | (right; omega))
       have ho9 := ho68
       rw [Le.ins_cat hrl hsp, ← isort_snoc, ← er] at ho9
       exact Ex.round (⟨i1 + 1, p66, (0 + (a1 - 0) + 1 + (n1 - a1)), c66, s67⟩ : Nat × Option Addr × Nat × Nat × Sg) ⟨ho9, by rw [er]; rw [List.length_append]; simp only [List.length_singleton]; omega, by omega⟩ (by dsimp only; omega) rfl rfl (subB_cons (by first | rfl | exact congrArg (fun z => some (Value.int _ z)) (by omega) | exact congrArg (fun z => some (Value.int _ z)) (by dsimp only; omega)) (subB_cons (by first | rfl | exact congrArg (fun z => some (Value.int _ z)) (by omega) | exact congrArg (fun z => some (Value.int _ z)) (by dsimp only; omega)) (subB_cons (by first | rfl | exact congrArg (fun z => some (Value.int _ z)) (by omega) | exact congrArg (fun z => some (Value.int _ z)) (by dsimp only; omega)) (subB_cons (by first | rfl | exact congrArg (fun z => some (Value.int _ z)) (by omega) | exact congrArg (fun z => some (Value.int _ z)) (by dsimp only; omega)) (subB_cons (by first | rfl | exact congrArg (fun z => some (Value.int _ z)) (by omega) | exact congrArg (fun z => some (Value.int _ z)) (by dsimp only; omega)) (subB_cons (by first | rfl | exact congrArg (fun z => some (Value.int _ z)) (by omega) | exact congrArg (fun z => some (Value.int _ z)) (by dsimp only; omega)) (subB_cons (by first | rfl | exact congrArg (fun z => some (Value.int _ z)) (by omega) | exact congrArg (fun z => some (Value.int _ z)) (by dsimp only; omega)) (subB_cons (by first | rfl | exact congrArg (fun z => some (Value.int _ z)) (by omega) | exact congrArg (fun z => some (Value.int _ z)) (by dsimp only; omega)) (subB_nil _)))))))))
     ·have g56 := h56
      try simp only [kb] at g56
      refine RunQ.off rfl rfl rfl h56 rfl (lt rfl) ?_
      refine RunQ.off rfl rfl rfl h56 rfl (lt rfl) ?_
      refine RunQ.off rfl rfl rfl h56 rfl (lt rfl) ?_
      refine RunQ.off rfl rfl rfl h56 rfl (lt rfl) ?_
      refine RunQ.off rfl rfl rfl h56 rfl (lt rfl) ?_
      refine RunQ.off rfl rfl rfl h56 rfl (lt rfl) ?_
      refine RunQ.off rfl rfl rfl h56 rfl (lt rfl) ?_
      refine RunQ.off rfl rfl rfl h56 rfl (lt rfl) ?_
      refine RunQ.off rfl rfl rfl h56 rfl (lt rfl) ?_
      refine RunQ.off rfl rfl rfl h56 rfl (lt rfl) ?_
      refine RunQ.val (lt rfl) (Y.pick_f rfl h56 rfl) ?_
      refine RunQ.to_end ?_
      refine Ex.go ?_
      refine Tr.cond_f rfl rfl ?_
      refine Tr.to_exit ?_
      refine Ex.exit_then ?_
      refine Ex.exit_then ?_
      refine Ex.exit_in ?_
      refine Ex.go ?_
      refine Tr.seq ?_
      refine Tr.region ?_
      refine Run.buildSlice0 Chosen_es32 (lt rfl) (fun b69 => ?_)
      refine Run.val (lt rfl) (Y.move rfl) ?_
      refine Run.val (lt rfl) (Y.move rfl) ?_
      refine Run.val (lt rfl) (Y.slice (l := 0) (m := a1) rfl Chosen_es32 rfl rfl (by omega) (by omega)) ?_
      refine Run.append (n := 0) (m := (a1 - 0)) (xs := []) (ys := (((isort (Le.rsel id (l.take i1))).drop 0).take (a1 - 0)).flatMap nU) rfl rfl Chosen_es32 Chosen_zi37 (by decide) (j := 0) rfl (Ow.lit (cur := #[]) rfl (by decide)) (Src.of_rd Chosen_es32 (Rd.cut nU_enc.len (how.rd 1 rfl) 0 a1 (by omega) (by omega))) (by omega) (by omega) (all_one_flat nU_enc _) (lt rfl) (fun v70 s71 ho72 hf => ?_)
      obtain ⟨p70, c70, rfl⟩ := hf
      replace ho72 := Ow.app (f := nU) (l := []) (m := ((isort (Le.rsel id (l.take i1))).drop 0).take (a1 - 0)) ho72
      refine Run.val (lt rfl) (Y.assign rfl) ?_
      refine Run.to_end ?_
      refine Ex.go ?_
      refine Tr.seq ?_
      refine Tr.region ?_
      refine Run.val (lt rfl) (Y.move rfl) ?_
      refine Run.val (lt rfl) (Y.move rfl) ?_
      refine Run.val (lt rfl) (Y.move rfl) ?_
      refine Run.val (lt rfl) (Y.idxR i1 rfl rfl Chosen_es24 hv.of_nil (by omega) (by omega)) ?_
      refine Run.val (lt rfl) (Y.fieldR rfl Chosen_fo39_0 hv.of_nil (by omega)) ?_
      refine Run.val (lt rfl) (Y.ldR rfl Chosen_ts37 hv.of_nil (rows_at Le.len (by omega) Le.dflt (by decide) rfl)) ?_
      refine Run.buildSlice (l := [(0, .tmp 86)]) Chosen_es32 Chosen_zo37 rfl (by decide) rfl rfl (by decide) (lt rfl) (fun b73 => ?_)
      refine Run.append (n := 0 + (a1 - 0)) (m := 1) (xs := ([] ++ (((isort (Le.rsel id (l.take i1))).drop 0).take (a1 - 0))).flatMap nU) (ys := [.int .u32 ((l.getD i1 Le.dflt).addr)]) rfl rfl Chosen_es32 Chosen_zi37 (by decide) (j := 1) rfl ho72 (Src.of_rd Chosen_es32 (Rd.one (Kn.at 0 rfl) rfl)) (by omega) (by omega) rfl (lt rfl) (fun v74 s75 ho76 hf => ?_)
      obtain ⟨p74, c74, rfl⟩ := hf
      replace ho76 := Ow.app1 (f := nU) (l := [] ++ (((isort (Le.rsel id (l.take i1))).drop 0).take (a1 - 0))) (x := (l.getD i1 Le.dflt).addr) ho76
      refine Run.val (lt rfl) (Y.assign rfl) ?_
      refine Run.to_end ?_
      refine Ex.go ?_
      refine Tr.region ?_
      refine Run.val (lt rfl) (Y.move rfl) ?_
      refine Run.val (lt rfl) (Y.move rfl) ?_
      refine Run.val (lt rfl) (Y.move rfl) ?_
      refine Run.val (lt rfl) (Y.slice (l := a1) (m := n1) rfl Chosen_es32 rfl rfl (by omega) (by omega)) ?_
      refine Run.append (n := 0 + (a1 - 0) + 1) (m := (n1 - a1)) (xs := (([] ++ (((isort (Le.rsel id (l.take i1))).drop 0).take (a1 - 0))) ++ [(l.getD i1 Le.dflt).addr]).flatMap nU) (ys := (((isort (Le.rsel id (l.take i1))).drop a1).take (n1 - a1)).flatMap nU) rfl rfl Chosen_es32 Chosen_zi37 (by decide) (j := 1) rfl ho76 (Src.of_rd Chosen_es32 (Rd.cut nU_enc.len (how.rd 2 rfl) a1 n1 (by omega) (by omega))) (by omega) (by omega) (all_one_flat nU_enc _) (lt rfl) (fun v77 s78 ho79 hf => ?_)
      obtain ⟨p77, c77, rfl⟩ := hf
      replace ho79 := Ow.app (f := nU) (l := ([] ++ (((isort (Le.rsel id (l.take i1))).drop 0).take (a1 - 0))) ++ [(l.getD i1 Le.dflt).addr]) (m := ((isort (Le.rsel id (l.take i1))).drop a1).take (n1 - a1)) ho79
      refine Run.val (lt rfl) (Y.assign rfl) ?_
      refine Run.to_end ?_
      refine Ex.end_block ?_
      refine Ex.go ?_
      refine Tr.region ?_
      refine Run.val (lt rfl) (Y.move rfl) ?_
      refine Run.val (lt rfl) (Y.add rfl rfl (by omega)) ?_
      refine Run.val (lt rfl) (Y.assign rfl) ?_
      refine Run.to_end ?_
      refine Ex.keep [1, 2] ?_
      have qq0 := Le.sel_takeL (l := l) (i := i1) (b := 0) (by omega) h3
      have qq1 := Le.sel_take0L (l := l) (i := i1) (b := 1) (by omega) h4
      have er : Le.rsel id (l.take (i1 + 1)) = Le.rsel id (l.take i1) ++ [(l.getD i1 Le.dflt).addr] := by first | exact Le.rsel_yes 0 (by omega) (by omega) h3 | exact Le.rsel_yes 1 (by omega) (by omega) h4
      have hrl : (isort (Le.rsel id (l.take i1))).length = n1 := by rw [isort_length]; exact hn.symm
      have hsp : spot (l.getD i1 Le.dflt).addr (isort (Le.rsel id (l.take i1))) = a1 := spot_at (by omega) ha (by first | (left; omega) | (right; omega))
      have ho9 := ho79
      rw [Le.ins_cat hrl hsp, ← isort_snoc, ← er] at ho9
      exact Ex.round (⟨i1 + 1, p77, (0 + (a1 - 0) + 1 + (n1 - a1)), c77, s78⟩ : Nat × Option Addr × Nat × Nat × Sg) ⟨ho9, by rw [er]; rw [List.length_append]; simp only [List.length_singleton]; omega, by omega⟩ (by dsimp only; omega) rfl rfl (subB_cons (by first | rfl | exact congrArg (fun z => some (Value.int _ z)) (by omega) | exact congrArg (fun z => some (Value.int _ z)) (by dsimp only; omega)) (subB_cons (by first | rfl | exact congrArg (fun z => some (Value.int _ z)) (by omega) | exact congrArg (fun z => some (Value.int _ z)) (by dsimp only; omega)) (subB_cons (by first | rfl | exact congrArg (fun z => some (Value.int _ z)) (by omega) | exact congrArg (fun z => some (Value.int _ z)) (by dsimp only; omega)) (subB_cons (by first | rfl | exact congrArg (fun z => some (Value.int _ z)) (by omega) | exact congrArg (fun z => some (Value.int _ z)) (by dsimp only; omega)) (subB_cons (by first | rfl | exact congrArg (fun z => some (Value.int _ z)) (by omega) | exact congrArg (fun z => some (Value.int _ z)) (by dsimp only; omega)) (subB_cons (by first | rfl | exact congrArg (fun z => some (Value.int _ z)) (by omega) | exact congrArg (fun z => some (Value.int _ z)) (by dsimp only; omega)) (subB_cons (by first | rfl | exact congrArg (fun z => some (Value.int _ z)) (by omega) | exact congrArg (fun z => some (Value.int _ z)) (by dsimp only; omega)) (subB_cons (by first | rfl | exact congrArg (fun z => some (Value.int _ z)) (by omega) | exact congrArg (fun z => some (Value.int _ z)) (by dsimp only; omega)) (subB_nil _)))))))))
    ·have g55 := h55
     try simp only [kb] at g55
     refine Run.off rfl rfl rfl h55 rfl (lt rfl) ?_
     refine Run.off rfl rfl rfl h55 rfl (lt rfl) ?_
     refine Run.off rfl rfl rfl h55 rfl (lt rfl) ?_
     refine Run.off rfl rfl rfl h55 rfl (lt rfl) ?_
     refine Run.off rfl rfl rfl h55 rfl (lt rfl) ?_
     refine Run.off rfl rfl rfl h55 rfl (lt rfl) ?_
     refine Run.val (lt rfl) (Y.pick_f rfl h55 rfl) ?_
     refine Run.val (lt rfl) (Y.move rfl) ?_
     refine Run.on rfl rfl rfl rfl ?_
     refine Run.val (lt rfl) (Y.move rfl) ?_
     refine Run.on rfl rfl rfl rfl ?_
     refine Run.val (lt rfl) (Y.int rfl rfl rfl) ?_
     refine Run.on rfl rfl rfl rfl ?_
     refine Run.val (lt rfl) (Y.move rfl) ?_
     rcases Bool.eq_false_or_eq_true (id == 1) with h80 | h80
     ·have g80 := h80
      try simp only [kb] at g80
      refine Run.on rfl rfl rfl h80 ?_
      refine Run.val (lt rfl) (Y.move rfl) ?_
      refine Run.on rfl rfl rfl h80 ?_
      refine Run.val (lt rfl) (Y.move rfl) ?_
      refine Run.on rfl rfl rfl h80 ?_
      refine Run.val (lt rfl) (Y.idxR i1 rfl rfl Chosen_es24 hv.of_nil (by omega) (by omega)) ?_
      refine Run.on rfl rfl rfl h80 ?_
      refine Run.val (lt rfl) (Y.fieldR rfl Chosen_fo39_1 hv.of_nil (by omega)) ?_
      refine Run.on rfl rfl rfl h80 ?_
      refine Run.val (lt rfl) (Y.ldR rfl Chosen_ts3 hv.of_nil (rows_at Le.len (by omega) Le.dflt (by decide) rfl)) ?_
      refine Run.on rfl rfl rfl h80 ?_
      refine Run.val (lt rfl) (Y.int rfl rfl rfl) ?_
      refine Run.on rfl rfl rfl rfl ?_
      refine Run.val (lt rfl) (Y.pick_t rfl h80 rfl) ?_
      refine Run.val (lt rfl) (Y.pick_f rfl rfl rfl) ?_
      refine Run.to_end ?_
      refine Ex.go ?_
      refine Tr.cond_f rfl h4 ?_
      refine Tr.to_end ?_
      refine Ex.end_block ?_
      refine Ex.go ?_
      refine Tr.region ?_
      refine Run.val (lt rfl) (Y.move rfl) ?_
      refine Run.val (lt rfl) (Y.add rfl rfl (by omega)) ?_
      refine Run.val (lt rfl) (Y.assign rfl) ?_
      refine Run.to_end ?_
      refine Ex.keep [0, 0] ?_
      have qq0 := Le.sel_takeL (l := l) (i := i1) (b := 0) (by omega) h3
      have qq1 := Le.sel_take0L (l := l) (i := i1) (b := 1) (by omega) h4
      have er : Le.rsel id (l.take (i1 + 1)) = Le.rsel id (l.take i1) := Le.rsel_no (by omega) (fun e => by first | exact h3 | exact absurd e (by omega)) (fun e => by first | exact h4 | exact absurd e (by omega))
      exact Ex.round (⟨i1 + 1, p1, n1, k1, q1⟩ : Nat × Option Addr × Nat × Nat × Sg) ⟨by rw [er]; exact how, by rw [er]; exact hn, by omega⟩ (by dsimp only; omega) rfl rfl (subB_cons (by first | rfl | exact congrArg (fun z => some (Value.int _ z)) (by omega) | exact congrArg (fun z => some (Value.int _ z)) (by dsimp only; omega)) (subB_cons (by first | rfl | exact congrArg (fun z => some (Value.int _ z)) (by omega) | exact congrArg (fun z => some (Value.int _ z)) (by dsimp only; omega)) (subB_cons (by first | rfl | exact congrArg (fun z => some (Value.int _ z)) (by omega) | exact congrArg (fun z => some (Value.int _ z)) (by dsimp only; omega)) (subB_cons (by first | rfl | exact congrArg (fun z => some (Value.int _ z)) (by omega) | exact congrArg (fun z => some (Value.int _ z)) (by dsimp only; omega)) (subB_cons (by first | rfl | exact congrArg (fun z => some (Value.int _ z)) (by omega) | exact congrArg (fun z => some (Value.int _ z)) (by dsimp only; omega)) (subB_cons (by first | rfl | exact congrArg (fun z => some (Value.int _ z)) (by omega) | exact congrArg (fun z => some (Value.int _ z)) (by dsimp only; omega)) (subB_cons (by first | rfl | exact congrArg (fun z => some (Value.int _ z)) (by omega) | exact congrArg (fun z => some (Value.int _ z)) (by dsimp only; omega)) (subB_cons (by first | rfl | exact congrArg (fun z => some (Value.int _ z)) (by omega) | exact congrArg (fun z => some (Value.int _ z)) (by dsimp only; omega)) (subB_nil _)))))))))
     ·have g80 := h80
      try simp only [kb] at g80
      refine Run.off rfl rfl rfl h80 rfl (lt rfl) ?_
      refine Run.off rfl rfl rfl h80 rfl (lt rfl) ?_
      refine Run.off rfl rfl rfl h80 rfl (lt rfl) ?_
      refine Run.off rfl rfl rfl h80 rfl (lt rfl) ?_
      refine Run.off rfl rfl rfl h80 rfl (lt rfl) ?_
      refine Run.off rfl rfl rfl h80 rfl (lt rfl) ?_
      refine Run.on rfl rfl rfl rfl ?_
      refine Run.val (lt rfl) (Y.pick_f rfl h80 rfl) ?_
      refine Run.val (lt rfl) (Y.pick_f rfl rfl rfl) ?_
      refine Run.to_end ?_
      refine Ex.go ?_
      refine Tr.cond_f rfl rfl ?_
      refine Tr.to_end ?_
      refine Ex.end_block ?_
      refine Ex.go ?_
      refine Tr.region ?_
      refine Run.val (lt rfl) (Y.move rfl) ?_
      refine Run.val (lt rfl) (Y.add rfl rfl (by omega)) ?_
      refine Run.val (lt rfl) (Y.assign rfl) ?_
      refine Run.to_end ?_
      refine Ex.keep [0, 0] ?_
      have qq0 := Le.sel_takeL (l := l) (i := i1) (b := 0) (by omega) h3
      have qq1 := Le.sel_take0L (l := l) (i := i1) (b := 1) (by omega) h4
      have er : Le.rsel id (l.take (i1 + 1)) = Le.rsel id (l.take i1) := Le.rsel_no (by omega) (fun e => by first | exact h3 | exact absurd e (by omega)) (fun e => by first | exact h4 | exact absurd e (by omega))
      exact Ex.round (⟨i1 + 1, p1, n1, k1, q1⟩ : Nat × Option Addr × Nat × Nat × Sg) ⟨by rw [er]; exact how, by rw [er]; exact hn, by omega⟩ (by dsimp only; omega) rfl rfl (subB_cons (by first | rfl | exact congrArg (fun z => some (Value.int _ z)) (by omega) | exact congrArg (fun z => some (Value.int _ z)) (by dsimp only; omega)) (subB_cons (by first | rfl | exact congrArg (fun z => some (Value.int _ z)) (by omega) | exact congrArg (fun z => some (Value.int _ z)) (by dsimp only; omega)) (subB_cons (by first | rfl | exact congrArg (fun z => some (Value.int _ z)) (by omega) | exact congrArg (fun z => some (Value.int _ z)) (by dsimp only; omega)) (subB_cons (by first | rfl | exact congrArg (fun z => some (Value.int _ z)) (by omega) | exact congrArg (fun z => some (Value.int _ z)) (by dsimp only; omega)) (subB_cons (by first | rfl | exact congrArg (fun z => some (Value.int _ z)) (by omega) | exact congrArg (fun z => some (Value.int _ z)) (by dsimp only; omega)) (subB_cons (by first | rfl | exact congrArg (fun z => some (Value.int _ z)) (by omega) | exact congrArg (fun z => some (Value.int _ z)) (by dsimp only; omega)) (subB_cons (by first | rfl | exact congrArg (fun z => some (Value.int _ z)) (by omega) | exact congrArg (fun z => some (Value.int _ z)) (by dsimp only; omega)) (subB_cons (by first | rfl | exact congrArg (fun z => some (Value.int _ z)) (by omega) | exact congrArg (fun z => some (Value.int _ z)) (by dsimp only; omega)) (subB_nil _)))))))))
  ·have g3 := h3
   try simp only [kb] at g3
   refine Tr.cond_f rfl h3 ?_
   refine Tr.to_end ?_
   refine Ex.go ?_
   refine Tr.seq ?_
   refine Tr.seq ?_
   refine Tr.region ?_
   refine Run.val (lt rfl) (Y.move rfl) ?_
   refine Run.val (lt rfl) (Y.move rfl) ?_
   refine Run.val (lt rfl) (Y.idxR i1 rfl rfl Chosen_es24 hv.of_nil (by omega) (by omega)) ?_
   refine Run.val (lt rfl) (Y.fieldR rfl Chosen_fo39_1 hv.of_nil (by omega)) ?_
   refine Run.val (lt rfl) (Y.ldR rfl Chosen_ts3 hv.of_nil (rows_at Le.len (by omega) Le.dflt (by decide) rfl)) ?_
   refine Run.val (lt rfl) (Y.int rfl rfl rfl) ?_
   refine Run.to_end ?_
   refine Ex.go ?_
   rcases Bool.eq_false_or_eq_true (((l.getD i1 Le.dflt).bind) == 1) with h81 | h81
   ·have g81 := h81
    try simp only [kb] at g81
    refine Tr.cond_t rfl h81 ?_
    refine Tr.region ?_
    refine Run.val (lt rfl) (Y.move rfl) ?_
    refine Run.val (lt rfl) (Y.add rfl rfl (by omega)) ?_
    refine Run.val (lt rfl) (Y.assign rfl) ?_
    refine Run.to_end ?_
    refine Ex.go ?_
    refine Tr.seq ?_
    refine Tr.region ?_
    refine Run.val (lt rfl) (Y.move rfl) ?_
    refine Run.val (lt rfl) (Y.int rfl rfl rfl) ?_
    refine Run.val (lt rfl) (Y.move rfl) ?_
    rcases Bool.eq_false_or_eq_true (id == 0) with h82 | h82
    ·have g82 := h82
     try simp only [kb] at g82
     refine Run.on rfl rfl rfl h82 ?_
     refine Run.val (lt rfl) (Y.move rfl) ?_
     refine Run.on rfl rfl rfl h82 ?_
     refine Run.val (lt rfl) (Y.move rfl) ?_
     refine Run.on rfl rfl rfl h82 ?_
     refine Run.val (lt rfl) (Y.idxR i1 rfl rfl Chosen_es24 hv.of_nil (by omega) (by omega)) ?_
     refine Run.on rfl rfl rfl h82 ?_
     refine Run.val (lt rfl) (Y.fieldR rfl Chosen_fo39_1 hv.of_nil (by omega)) ?_
     refine Run.on rfl rfl rfl h82 ?_
     refine Run.val (lt rfl) (Y.ldR rfl Chosen_ts3 hv.of_nil (rows_at Le.len (by omega) Le.dflt (by decide) rfl)) ?_
     refine Run.on rfl rfl rfl h82 ?_
     refine Run.val (lt rfl) (Y.int rfl rfl rfl) ?_
     refine Run.val (lt rfl) (Y.pick_t rfl h82 rfl) ?_
     refine Run.val (lt rfl) (Y.move rfl) ?_
     refine Run.on rfl rfl rfl h3 ?_
     refine Run.val (lt rfl) (Y.move rfl) ?_
     refine Run.on rfl rfl rfl h3 ?_
     refine Run.val (lt rfl) (Y.int rfl rfl rfl) ?_
     refine Run.on rfl rfl rfl h3 ?_
     refine Run.val (lt rfl) (Y.move rfl) ?_
     rcases Bool.eq_false_or_eq_true (id == 1) with h83 | h83
     ·have g83 := h83
      try simp only [kb] at g83
      refine Run.on rfl rfl rfl h83 ?_
      refine Run.val (lt rfl) (Y.move rfl) ?_
      refine Run.on rfl rfl rfl h83 ?_
      refine Run.val (lt rfl) (Y.move rfl) ?_
      refine Run.on rfl rfl rfl h83 ?_
      refine Run.val (lt rfl) (Y.idxR i1 rfl rfl Chosen_es24 hv.of_nil (by omega) (by omega)) ?_
      refine Run.on rfl rfl rfl h83 ?_
      refine Run.val (lt rfl) (Y.fieldR rfl Chosen_fo39_1 hv.of_nil (by omega)) ?_
      refine Run.on rfl rfl rfl h83 ?_
      refine Run.val (lt rfl) (Y.ldR rfl Chosen_ts3 hv.of_nil (rows_at Le.len (by omega) Le.dflt (by decide) rfl)) ?_
      refine Run.on rfl rfl rfl h83 ?_
      refine Run.val (lt rfl) (Y.int rfl rfl rfl) ?_
      refine Run.on rfl rfl rfl h3 ?_
      refine Run.val (lt rfl) (Y.pick_t rfl h83 rfl) ?_
      refine Run.val (lt rfl) (Y.pick_f rfl h3 rfl) ?_
      refine Run.to_end ?_
      refine Ex.go ?_
      refine Tr.cond_t rfl h81 ?_
      refine Tr.seq ?_
      refine Tr.region ?_
      refine Run.val (lt rfl) (Y.assign rfl) ?_
      refine Run.to_end ?_
      refine Ex.go ?_
      refine Tr.seq ?_
      refine Tr.block ?_
      refine Tr.loop (X := Nat) (fun z0 => V) (fun z0 => [q1, [(b1, .cells #[.float .f64 y, .float .f64 s] 28 (0, 0))]]) (fun z0 => [(0, .agg #[.float .f64 y, .float .f64 s]), (1, .int .i64 id), (2, .slice p l.length c), (7, .int .i64 (((Le.sel 0 (l.take i1)).length : Nat) : Int)), (8, .int .i64 ((((Le.sel 1 (l.take i1)).length : Nat) : Int) + 1)), (9, .slice p1 n1 k1), (10, .int .i64 (i1 : Int)), (3, .pointer (some ⟨b1, 0, none⟩)), (11, .int .i64 (z0 : Int))]) (fun z0 => z0 ≤ n1 ∧ ∀ j, j < z0 → (isort (Le.rsel id (l.take i1))).getD j 0 < (l.getD i1 Le.dflt).addr) (fun z0 => n1 - z0) (0 : Nat) ⟨Nat.zero_le _, fun j hj => absurd hj (Nat.not_lt_zero j)⟩ (fun a w i => ⟨i.1.sub (subB_cons (by first | rfl | exact congrArg (fun z => some (Value.int _ z)) (by omega) | exact congrArg (fun z => some (Value.int _ z)) (by dsimp only; omega)) (subB_cons (by first | rfl | exact congrArg (fun z => some (Value.int _ z)) (by omega) | exact congrArg (fun z => some (Value.int _ z)) (by dsimp only; omega)) (subB_cons (by first | rfl | exact congrArg (fun z => some (Value.int _ z)) (by omega) | exact congrArg (fun z => some (Value.int _ z)) (by dsimp only; omega)) (subB_cons (by first | rfl | exact congrArg (fun z => some (Value.int _ z)) (by omega) | exact congrArg (fun z => some (Value.int _ z)) (by dsimp only; omega)) (subB_cons (by first | rfl | exact congrArg (fun z => some (Value.int _ z)) (by omega) | exact congrArg (fun z => some (Value.int _ z)) (by dsimp only; omega)) (subB_cons (by first | rfl | exact congrArg (fun z => some (Value.int _ z)) (by omega) | exact congrArg (fun z => some (Value.int _ z)) (by dsimp only; omega)) (subB_cons (by first | rfl | exact congrArg (fun z => some (Value.int _ z)) (by omega) | exact congrArg (fun z => some (Value.int _ z)) (by dsimp only; omega)) (subB_cons (by first | rfl | exact congrArg (fun z => some (Value.int _ z)) (by omega) | exact congrArg (fun z => some (Value.int _ z)) (by dsimp only; omega)) (subB_cons (by first | rfl | exact congrArg (fun z => some (Value.int _ z)) (by omega) | exact congrArg (fun z => some (Value.int _ z)) (by dsimp only; omega)) (subB_nil _)))))))))), i.2⟩) ?_
      rintro a1 ⟨hal, ha⟩
      have hrl0 : (isort (Le.rsel id (l.take i1))).length = n1 := by rw [isort_length]; exact hn.symm
      refine Tr.seq ?_
      refine Tr.seq ?_
      refine Tr.quiet Chosen_mo (by kernel_rfl) ?_
      refine RunQ.val (lt rfl) (Y.move rfl) ?_
      refine RunQ.val (lt rfl) (Y.move rfl) ?_
      refine RunQ.val (lt rfl) (Y.lenSl rfl Chosen_es32) ?_
      refine RunQ.val (lt rfl) (Y.int rfl rfl rfl) ?_
      refine RunQ.val (lt rfl) (Y.move rfl) ?_
      rcases Bool.eq_false_or_eq_true (decide ((a1 : Int) < ((n1 : Nat) : Int))) with h84 | h84
      ·have g84 := h84
       try simp only [kb] at g84
       refine RunQ.on rfl rfl rfl h84 ?_
       refine RunQ.val (lt rfl) (Y.move rfl) ?_
       refine RunQ.on rfl rfl rfl h84 ?_
       refine RunQ.val (lt rfl) (Y.move rfl) ?_
       refine RunQ.on rfl rfl rfl h84 ?_
       refine RunQ.val (lt rfl) (Y.idxR a1 rfl rfl Chosen_es32 (how.rd 0 rfl) (by omega) (by omega)) ?_
       refine RunQ.on rfl rfl rfl h84 ?_
       refine RunQ.val (lt rfl) (Y.ldR rfl Chosen_ts37 (how.rd 0 rfl) (flatm_at0 nU_enc.len (by omega) 0 (by decide) rfl)) ?_
       refine RunQ.on rfl rfl rfl h84 ?_
       refine RunQ.val (lt rfl) (Y.move rfl) ?_
       refine RunQ.on rfl rfl rfl h84 ?_
       refine RunQ.val (lt rfl) (Y.move rfl) ?_
       refine RunQ.on rfl rfl rfl h84 ?_
       refine RunQ.val (lt rfl) (Y.idxR i1 rfl rfl Chosen_es24 hv.of_nil (by omega) (by omega)) ?_
       refine RunQ.on rfl rfl rfl h84 ?_
       refine RunQ.val (lt rfl) (Y.fieldR rfl Chosen_fo39_0 hv.of_nil (by omega)) ?_
       refine RunQ.on rfl rfl rfl h84 ?_
       refine RunQ.val (lt rfl) (Y.ldR rfl Chosen_ts37 hv.of_nil (rows_at Le.len (by omega) Le.dflt (by decide) rfl)) ?_
       refine RunQ.on rfl rfl rfl h84 ?_
       refine RunQ.val (lt rfl) (Y.int rfl rfl rfl) ?_
       refine RunQ.val (lt rfl) (Y.pick_t rfl h84 rfl) ?_
       refine RunQ.to_end ?_
       refine Ex.go ?_
       rcases Bool.eq_false_or_eq_true (decide (((isort (Le.rsel id (l.take i1))).getD a1 0) < ((l.getD i1 Le.dflt).addr))) with h85 | h85
       ·have g85 := h85
        try simp only [kb] at g85
        refine Tr.cond_t rfl h85 ?_
        refine Tr.to_end ?_
        refine Ex.go ?_
        refine Tr.block ?_
        refine Tr.region ?_
        refine Run.val (lt rfl) (Y.move rfl) ?_
        refine Run.val (lt rfl) (Y.add rfl rfl (by omega)) ?_
        refine Run.val (lt rfl) (Y.assign rfl) ?_
        refine Run.to_end ?_
        refine Ex.end_block ?_
        exact Ex.round (a1 + 1 : Nat) ⟨by omega, upto_succ ha (by omega)⟩ (by omega) rfl rfl (subB_cons (by first | rfl | exact congrArg (fun z => some (Value.int _ z)) (by omega) | exact congrArg (fun z => some (Value.int _ z)) (by dsimp only; omega)) (subB_cons (by first | rfl | exact congrArg (fun z => some (Value.int _ z)) (by omega) | exact congrArg (fun z => some (Value.int _ z)) (by dsimp only; omega)) (subB_cons (by first | rfl | exact congrArg (fun z => some (Value.int _ z)) (by omega) | exact congrArg (fun z => some (Value.int _ z)) (by dsimp only; omega)) (subB_cons (by first | rfl | exact congrArg (fun z => some (Value.int _ z)) (by omega) | exact congrArg (fun z => some (Value.int _ z)) (by dsimp only; omega)) (subB_cons (by first | rfl | exact congrArg (fun z => some (Value.int _ z)) (by omega) | exact congrArg (fun z => some (Value.int _ z)) (by dsimp only; omega)) (subB_cons (by first | rfl | exact congrArg (fun z => some (Value.int _ z)) (by omega) | exact congrArg (fun z => some (Value.int _ z)) (by dsimp only; omega)) (subB_cons (by first | rfl | exact congrArg (fun z => some (Value.int _ z)) (by omega) | exact congrArg (fun z => some (Value.int _ z)) (by dsimp only; omega)) (subB_cons (by first | rfl | exact congrArg (fun z => some (Value.int _ z)) (by omega) | exact congrArg (fun z => some (Value.int _ z)) (by dsimp only; omega)) (subB_cons (by first | rfl | exact congrArg (fun z => some (Value.int _ z)) (by omega) | exact congrArg (fun z => some (Value.int _ z)) (by dsimp only; omega)) (subB_nil _))))))))))
       ·have g85 := h85
        try simp only [kb] at g85
        refine Tr.cond_f rfl h85 ?_
        refine Tr.to_exit ?_
        refine Ex.exit_then ?_
        refine Ex.exit_then ?_
        refine Ex.exit_in ?_
        refine Ex.go ?_
        refine Tr.seq ?_
        refine Tr.region ?_
        refine Run.buildSlice0 Chosen_es32 (lt rfl) (fun b86 => ?_)
        refine Run.val (lt rfl) (Y.move rfl) ?_
        refine Run.val (lt rfl) (Y.move rfl) ?_
        refine Run.val (lt rfl) (Y.slice (l := 0) (m := a1) rfl Chosen_es32 rfl rfl (by omega) (by omega)) ?_
        refine Run.append (n := 0) (m := (a1 - 0)) (xs := []) (ys := (((isort (Le.rsel id (l.take i1))).drop 0).take (a1 - 0)).flatMap nU) rfl rfl Chosen_es32 Chosen_zi37 (by decide) (j := 0) rfl (Ow.lit (cur := #[]) rfl (by decide)) (Src.of_rd Chosen_es32 (Rd.cut nU_enc.len (how.rd 1 rfl) 0 a1 (by omega) (by omega))) (by omega) (by omega) (all_one_flat nU_enc _) (lt rfl) (fun v87 s88 ho89 hf => ?_)
        obtain ⟨p87, c87, rfl⟩ := hf
        replace ho89 := Ow.app (f := nU) (l := []) (m := ((isort (Le.rsel id (l.take i1))).drop 0).take (a1 - 0)) ho89
        refine Run.val (lt rfl) (Y.assign rfl) ?_
        refine Run.to_end ?_
        refine Ex.go ?_
        refine Tr.seq ?_
        refine Tr.region ?_
        refine Run.val (lt rfl) (Y.move rfl) ?_
        refine Run.val (lt rfl) (Y.move rfl) ?_
        refine Run.val (lt rfl) (Y.move rfl) ?_
        refine Run.val (lt rfl) (Y.idxR i1 rfl rfl Chosen_es24 hv.of_nil (by omega) (by omega)) ?_
        refine Run.val (lt rfl) (Y.fieldR rfl Chosen_fo39_0 hv.of_nil (by omega)) ?_
        refine Run.val (lt rfl) (Y.ldR rfl Chosen_ts37 hv.of_nil (rows_at Le.len (by omega) Le.dflt (by decide) rfl)) ?_
        refine Run.buildSlice (l := [(0, .tmp 86)]) Chosen_es32 Chosen_zo37 rfl (by decide) rfl rfl (by decide) (lt rfl) (fun b90 => ?_)
        refine Run.append (n := 0 + (a1 - 0)) (m := 1) (xs := ([] ++ (((isort (Le.rsel id (l.take i1))).drop 0).take (a1 - 0))).flatMap nU) (ys := [.int .u32 ((l.getD i1 Le.dflt).addr)]) rfl rfl Chosen_es32 Chosen_zi37 (by decide) (j := 1) rfl ho89 (Src.of_rd Chosen_es32 (Rd.one (Kn.at 0 rfl) rfl)) (by omega) (by omega) rfl (lt rfl) (fun v91 s92 ho93 hf => ?_)
        obtain ⟨p91, c91, rfl⟩ := hf
        replace ho93 := Ow.app1 (f := nU) (l := [] ++ (((isort (Le.rsel id (l.take i1))).drop 0).take (a1 - 0))) (x := (l.getD i1 Le.dflt).addr) ho93
        refine Run.val (lt rfl) (Y.assign rfl) ?_
        refine Run.to_end ?_
        refine Ex.go ?_
        refine Tr.region ?_
        refine Run.val (lt rfl) (Y.move rfl) ?_
        refine Run.val (lt rfl) (Y.move rfl) ?_
        refine Run.val (lt rfl) (Y.move rfl) ?_
        refine Run.val (lt rfl) (Y.slice (l := a1) (m := n1) rfl Chosen_es32 rfl rfl (by omega) (by omega)) ?_
        refine Run.append (n := 0 + (a1 - 0) + 1) (m := (n1 - a1)) (xs := (([] ++ (((isort (Le.rsel id (l.take i1))).drop 0).take (a1 - 0))) ++ [(l.getD i1 Le.dflt).addr]).flatMap nU) (ys := (((isort (Le.rsel id (l.take i1))).drop a1).take (n1 - a1)).flatMap nU) rfl rfl Chosen_es32 Chosen_zi37 (by decide) (j := 1) rfl ho93 (Src.of_rd Chosen_es32 (Rd.cut nU_enc.len (how.rd 2 rfl) a1 n1 (by omega) (by omega))) (by omega) (by omega) (all_one_flat nU_enc _) (lt rfl) (fun v94 s95 ho96 hf => ?_)
        obtain ⟨p94, c94, rfl⟩ := hf
        replace ho96 := Ow.app (f := nU) (l := ([] ++ (((isort (Le.rsel id (l.take i1))).drop 0).take (a1 - 0))) ++ [(l.getD i1 Le.dflt).addr]) (m := ((isort (Le.rsel id (l.take i1))).drop a1).take (n1 - a1)) ho96
        refine Run.val (lt rfl) (Y.assign rfl) ?_
        refine Run.to_end ?_
        refine Ex.end_block ?_
        refine Ex.go ?_
        refine Tr.region ?_
        refine Run.val (lt rfl) (Y.move rfl) ?_
        refine Run.val (lt rfl) (Y.add rfl rfl (by omega)) ?_
        refine Run.val (lt rfl) (Y.assign rfl) ?_
        refine Run.to_end ?_
        refine Ex.keep [1, 2] ?_
        have qq0 := Le.sel_take0L (l := l) (i := i1) (b := 0) (by omega) h3
        have qq1 := Le.sel_takeL (l := l) (i := i1) (b := 1) (by omega) h81
        have er : Le.rsel id (l.take (i1 + 1)) = Le.rsel id (l.take i1) ++ [(l.getD i1 Le.dflt).addr] := by first | exact Le.rsel_yes 0 (by omega) (by omega) h3 | exact Le.rsel_yes 1 (by omega) (by omega) h81
        have hrl : (isort (Le.rsel id (l.take i1))).length = n1 := by rw [isort_length]; exact hn.symm
        have hsp : spot (l.getD i1 Le.dflt).addr (isort (Le.rsel id (l.take i1))) = a1 := spot_at (by omega) ha (by first | (left; omega) | (right; omega))
        have ho9 := ho96
        rw [Le.ins_cat hrl hsp, ← isort_snoc, ← er] at ho9
        exact Ex.round (⟨i1 + 1, p94, (0 + (a1 - 0) + 1 + (n1 - a1)), c94, s95⟩ : Nat × Option Addr × Nat × Nat × Sg) ⟨ho9, by rw [er]; rw [List.length_append]; simp only [List.length_singleton]; omega, by omega⟩ (by dsimp only; omega) rfl rfl (subB_cons (by first | rfl | exact congrArg (fun z => some (Value.int _ z)) (by omega) | exact congrArg (fun z => some (Value.int _ z)) (by dsimp only; omega)) (subB_cons (by first | rfl | exact congrArg (fun z => some (Value.int _ z)) (by omega) | exact congrArg (fun z => some (Value.int _ z)) (by dsimp only; omega)) (subB_cons (by first | rfl | exact congrArg (fun z => some (Value.int _ z)) (by omega) | exact congrArg (fun z => some (Value.int _ z)) (by dsimp only; omega)) (subB_cons (by first | rfl | exact congrArg (fun z => some (Value.int _ z)) (by omega) | exact congrArg (fun z => some (Value.int _ z)) (by dsimp only; omega)) (subB_cons (by first | rfl | exact congrArg (fun z => some (Value.int _ z)) (by omega) | exact congrArg (fun z => some (Value.int _ z)) (by dsimp only; omega)) (subB_cons (by first | rfl | exact congrArg (fun z => some (Value.int _ z)) (by omega) | exact congrArg (fun z => some (Value.int _ z)) (by dsimp only; omega)) (subB_cons (by first | rfl | exact congrArg (fun z => some (Value.int _ z)) (by omega) | exact congrArg (fun z => some (Value.int _ z)) (by dsimp only; omega)) (subB_cons (by first | rfl | exact congrArg (fun z => some (Value.int _ z)) (by omega) | exact congrArg (fun z => some (Value.int _ z)) (by dsimp only; omega)) (subB_nil _)))))))))
      ·have g84 := h84
       try simp only [kb] at g84
       refine RunQ.off rfl rfl rfl h84 rfl (lt rfl) ?_
       refine RunQ.off rfl rfl rfl h84 rfl (lt rfl) ?_
       refine RunQ.off rfl rfl rfl h84 rfl (lt rfl) ?_
       refine RunQ.off rfl rfl rfl h84 rfl (lt rfl) ?_
       refine RunQ.off rfl rfl rfl h84 rfl (lt rfl) ?_
       refine RunQ.off rfl rfl rfl h84 rfl (lt rfl) ?_
       refine RunQ.off rfl rfl rfl h84 rfl (lt rfl) ?_
       refine RunQ.off rfl rfl rfl h84 rfl (lt rfl) ?_
       refine RunQ.off rfl rfl rfl h84 rfl (lt rfl) ?_
       refine RunQ.off rfl rfl rfl h84 rfl (lt rfl) ?_
       refine RunQ.val (lt rfl) (Y.pick_f rfl h84 rfl) ?_
       refine RunQ.to_end ?_
       refine Ex.go ?_
       refine Tr.cond_f rfl rfl ?_
       refine Tr.to_exit ?_
       refine Ex.exit_then ?_
       refine Ex.exit_then ?_
       refine Ex.exit_in ?_
       refine Ex.go ?_
       refine Tr.seq ?_
       refine Tr.region ?_
       refine Run.buildSlice0 Chosen_es32 (lt rfl) (fun b97 => ?_)
       refine Run.val (lt rfl) (Y.move rfl) ?_
       refine Run.val (lt rfl) (Y.move rfl) ?_
       refine Run.val (lt rfl) (Y.slice (l := 0) (m := a1) rfl Chosen_es32 rfl rfl (by omega) (by omega)) ?_
       refine Run.append (n := 0) (m := (a1 - 0)) (xs := []) (ys := (((isort (Le.rsel id (l.take i1))).drop 0).take (a1 - 0)).flatMap nU) rfl rfl Chosen_es32 Chosen_zi37 (by decide) (j := 0) rfl (Ow.lit (cur := #[]) rfl (by decide)) (Src.of_rd Chosen_es32 (Rd.cut nU_enc.len (how.rd 1 rfl) 0 a1 (by omega) (by omega))) (by omega) (by omega) (all_one_flat nU_enc _) (lt rfl) (fun v98 s99 ho100 hf => ?_)
       obtain ⟨p98, c98, rfl⟩ := hf
       replace ho100 := Ow.app (f := nU) (l := []) (m := ((isort (Le.rsel id (l.take i1))).drop 0).take (a1 - 0)) ho100
       refine Run.val (lt rfl) (Y.assign rfl) ?_
       refine Run.to_end ?_
       refine Ex.go ?_
       refine Tr.seq ?_
       refine Tr.region ?_
       refine Run.val (lt rfl) (Y.move rfl) ?_
       refine Run.val (lt rfl) (Y.move rfl) ?_
       refine Run.val (lt rfl) (Y.move rfl) ?_
       refine Run.val (lt rfl) (Y.idxR i1 rfl rfl Chosen_es24 hv.of_nil (by omega) (by omega)) ?_
       refine Run.val (lt rfl) (Y.fieldR rfl Chosen_fo39_0 hv.of_nil (by omega)) ?_
       refine Run.val (lt rfl) (Y.ldR rfl Chosen_ts37 hv.of_nil (rows_at Le.len (by omega) Le.dflt (by decide) rfl)) ?_
       refine Run.buildSlice (l := [(0, .tmp 86)]) Chosen_es32 Chosen_zo37 rfl (by decide) rfl rfl (by decide) (lt rfl) (fun b101 => ?_)
       refine Run.append (n := 0 + (a1 - 0)) (m := 1) (xs := ([] ++ (((isort (Le.rsel id (l.take i1))).drop 0).take (a1 - 0))).flatMap nU) (ys := [.int .u32 ((l.getD i1 Le.dflt).addr)]) rfl rfl Chosen_es32 Chosen_zi37 (by decide) (j := 1) rfl ho100 (Src.of_rd Chosen_es32 (Rd.one (Kn.at 0 rfl) rfl)) (by omega) (by omega) rfl (lt rfl) (fun v102 s103 ho104 hf => ?_)
       obtain ⟨p102, c102, rfl⟩ := hf
       replace ho104 := Ow.app1 (f := nU) (l := [] ++ (((isort (Le.rsel id (l.take i1))).drop 0).take (a1 - 0))) (x := (l.getD i1 Le.dflt).addr) ho104
       refine Run.val (lt rfl) (Y.assign rfl) ?_
       refine Run.to_end ?_
       refine Ex.go ?_
       refine Tr.region ?_
       refine Run.val (lt rfl) (Y.move rfl) ?_
       refine Run.val (lt rfl) (Y.move rfl) ?_
       refine Run.val (lt rfl) (Y.move rfl) ?_
       refine Run.val (lt rfl) (Y.slice (l := a1) (m := n1) rfl Chosen_es32 rfl rfl (by omega) (by omega)) ?_
       refine Run.append (n := 0 + (a1 - 0) + 1) (m := (n1 - a1)) (xs := (([] ++ (((isort (Le.rsel id (l.take i1))).drop 0).take (a1 - 0))) ++ [(l.getD i1 Le.dflt).addr]).flatMap nU) (ys := (((isort (Le.rsel id (l.take i1))).drop a1).take (n1 - a1)).flatMap nU) rfl rfl Chosen_es32 Chosen_zi37 (by decide) (j := 1) rfl ho104 (Src.of_rd Chosen_es32 (Rd.cut nU_enc.len (how.rd 2 rfl) a1 n1 (by omega) (by omega))) (by omega) (by omega) (all_one_flat nU_enc _) (lt rfl) (fun v105 s106 ho107 hf => ?_)
       obtain ⟨p105, c105, rfl⟩ := hf
       replace ho107 := Ow.app (f := nU) (l := ([] ++ (((isort (Le.rsel id (l.take i1))).drop 0).take (a1 - 0))) ++ [(l.getD i1 Le.dflt).addr]) (m := ((isort (Le.rsel id (l.take i1))).drop a1).take (n1 - a1)) ho107
       refine Run.val (lt rfl) (Y.assign rfl) ?_
       refine Run.to_end ?_
       refine Ex.end_block ?_
       refine Ex.go ?_
       refine Tr.region ?_
       refine Run.val (lt rfl) (Y.move rfl) ?_
       refine Run.val (lt rfl) (Y.add rfl rfl (by omega)) ?_
       refine Run.val (lt rfl) (Y.assign rfl) ?_
       refine Run.to_end ?_
       refine Ex.keep [1, 2] ?_
       have qq0 := Le.sel_take0L (l := l) (i := i1) (b := 0) (by omega) h3
       have qq1 := Le.sel_takeL (l := l) (i := i1) (b := 1) (by omega) h81
       have er : Le.rsel id (l.take (i1 + 1)) = Le.rsel id (l.take i1) ++ [(l.getD i1 Le.dflt).addr] := by first | exact Le.rsel_yes 0 (by omega) (by omega) h3 | exact Le.rsel_yes 1 (by omega) (by omega) h81
       have hrl : (isort (Le.rsel id (l.take i1))).length = n1 := by rw [isort_length]; exact hn.symm
       have hsp : spot (l.getD i1 Le.dflt).addr (isort (Le.rsel id (l.take i1))) = a1 := spot_at (by omega) ha (by first | (left; omega) | (right; omega))
       have ho9 := ho107
       rw [Le.ins_cat hrl hsp, ← isort_snoc, ← er] at ho9
       exact Ex.round (⟨i1 + 1, p105, (0 + (a1 - 0) + 1 + (n1 - a1)), c105, s106⟩ : Nat × Option Addr × Nat × Nat × Sg) ⟨ho9, by rw [er]; rw [List.length_append]; simp only [List.length_singleton]; omega, by omega⟩ (by dsimp only; omega) rfl rfl (subB_cons (by first | rfl | exact congrArg (fun z => some (Value.int _ z)) (by omega) | exact congrArg (fun z => some (Value.int _ z)) (by dsimp only; omega)) (subB_cons (by first | rfl | exact congrArg (fun z => some (Value.int _ z)) (by omega) | exact congrArg (fun z => some (Value.int _ z)) (by dsimp only; omega)) (subB_cons (by first | rfl | exact congrArg (fun z => some (Value.int _ z)) (by omega) | exact congrArg (fun z => some (Value.int _ z)) (by dsimp only; omega)) (subB_cons (by first | rfl | exact congrArg (fun z => some (Value.int _ z)) (by omega) | exact congrArg (fun z => some (Value.int _ z)) (by dsimp only; omega)) (subB_cons (by first | rfl | exact congrArg (fun z => some (Value.int _ z)) (by omega) | exact congrArg (fun z => some (Value.int _ z)) (by dsimp only; omega)) (subB_cons (by first | rfl | exact congrArg (fun z => some (Value.int _ z)) (by omega) | exact congrArg (fun z => some (Value.int _ z)) (by dsimp only; omega)) (subB_cons (by first | rfl | exact congrArg (fun z => some (Value.int _ z)) (by omega) | exact congrArg (fun z => some (Value.int _ z)) (by dsimp only; omega)) (subB_cons (by first | rfl | exact congrArg (fun z => some (Value.int _ z)) (by omega) | exact congrArg (fun z => some (Value.int _ z)) (by dsimp only; omega)) (subB_nil _)))))))))
     ·have g83 := h83
      try simp only [kb] at g83
      refine Run.off rfl rfl rfl h83 rfl (lt rfl) ?_
      refine Run.off rfl rfl rfl h83 rfl (lt rfl) ?_
      refine Run.off rfl rfl rfl h83 rfl (lt rfl) ?_
      refine Run.off rfl rfl rfl h83 rfl (lt rfl) ?_
      refine Run.off rfl rfl rfl h83 rfl (lt rfl) ?_
      refine Run.off rfl rfl rfl h83 rfl (lt rfl) ?_
      refine Run.on rfl rfl rfl h3 ?_
      refine Run.val (lt rfl) (Y.pick_f rfl h83 rfl) ?_
      refine Run.val (lt rfl) (Y.pick_f rfl h3 rfl) ?_
      refine Run.to_end ?_
      refine Ex.go ?_
      refine Tr.cond_f rfl rfl ?_
      refine Tr.to_end ?_
      refine Ex.end_block ?_
      refine Ex.go ?_
      refine Tr.region ?_
      refine Run.val (lt rfl) (Y.move rfl) ?_
      refine Run.val (lt rfl) (Y.add rfl rfl (by omega)) ?_
      refine Run.val (lt rfl) (Y.assign rfl) ?_
      refine Run.to_end ?_
      refine Ex.keep [0, 0] ?_
      have qq0 := Le.sel_take0L (l := l) (i := i1) (b := 0) (by omega) h3
      have qq1 := Le.sel_takeL (l := l) (i := i1) (b := 1) (by omega) h81
      have er : Le.rsel id (l.take (i1 + 1)) = Le.rsel id (l.take i1) := Le.rsel_no (by omega) (fun e => by first | exact h3 | exact absurd e (by omega)) (fun e => by first | exact h81 | exact absurd e (by omega))
      exact Ex.round (⟨i1 + 1, p1, n1, k1, q1⟩ : Nat × Option Addr × Nat × Nat × Sg) ⟨by rw [er]; exact how, by rw [er]; exact hn, by omega⟩ (by dsimp only; omega) rfl rfl (subB_cons (by first | rfl | exact congrArg (fun z => some (Value.int _ z)) (by omega) | exact congrArg (fun z => some (Value.int _ z)) (by dsimp only; omega)) (subB_cons (by first | rfl | exact congrArg (fun z => some (Value.int _ z)) (by omega) | exact congrArg (fun z => some (Value.int _ z)) (by dsimp only; omega)) (subB_cons (by first | rfl | exact congrArg (fun z => some (Value.int _ z)) (by omega) | exact congrArg (fun z => some (Value.int _ z)) (by dsimp only; omega)) (subB_cons (by first | rfl | exact congrArg (fun z => some (Value.int _ z)) (by omega) | exact congrArg (fun z => some (Value.int _ z)) (by dsimp only; omega)) (subB_cons (by first | rfl | exact congrArg (fun z => some (Value.int _ z)) (by omega) | exact congrArg (fun z => some (Value.int _ z)) (by dsimp only; omega)) (subB_cons (by first | rfl | exact congrArg (fun z => some (Value.int _ z)) (by omega) | exact congrArg (fun z => some (Value.int _ z)) (by dsimp only; omega)) (subB_cons (by first | rfl | exact congrArg (fun z => some (Value.int _ z)) (by omega) | exact congrArg (fun z => some (Value.int _ z)) (by dsimp only; omega)) (subB_cons (by first | rfl | exact congrArg (fun z => some (Value.int _ z)) (by omega) | exact congrArg (fun z => some (Value.int _ z)) (by dsimp only; omega)) (subB_nil _)))))))))
    ·have g82 := h82
     try simp only [kb] at g82
     refine Run.off rfl rfl rfl h82 rfl (lt rfl) ?_
     refine Run.off rfl rfl rfl h82 rfl (lt rfl) ?_
     refine Run.off rfl rfl rfl h82 rfl (lt rfl) ?_
     refine Run.off rfl rfl rfl h82 rfl (lt rfl) ?_
     refine Run.off rfl rfl rfl h82 rfl (lt rfl) ?_
     refine Run.off rfl rfl rfl h82 rfl (lt rfl) ?_
     refine Run.val (lt rfl) (Y.pick_f rfl h82 rfl) ?_
     refine Run.val (lt rfl) (Y.move rfl) ?_
     refine Run.on rfl rfl rfl rfl ?_
     refine Run.val (lt rfl) (Y.move rfl) ?_
     refine Run.on rfl rfl rfl rfl ?_
     refine Run.val (lt rfl) (Y.int rfl rfl rfl) ?_
     refine Run.on rfl rfl rfl rfl ?_
     refine Run.val (lt rfl) (Y.move rfl) ?_
     rcases Bool.eq_false_or_eq_true (id == 1) with h108 | h108
     ·have g108 := h108
      try simp only [kb] at g108
      refine Run.on rfl rfl rfl h108 ?_
      refine Run.val (lt rfl) (Y.move rfl) ?_
      refine Run.on rfl rfl rfl h108 ?_
      refine Run.val (lt rfl) (Y.move rfl) ?_
      refine Run.on rfl rfl rfl h108 ?_
      refine Run.val (lt rfl) (Y.idxR i1 rfl rfl Chosen_es24 hv.of_nil (by omega) (by omega)) ?_
      refine Run.on rfl rfl rfl h108 ?_
      refine Run.val (lt rfl) (Y.fieldR rfl Chosen_fo39_1 hv.of_nil (by omega)) ?_
      refine Run.on rfl rfl rfl h108 ?_
      refine Run.val (lt rfl) (Y.ldR rfl Chosen_ts3 hv.of_nil (rows_at Le.len (by omega) Le.dflt (by decide) rfl)) ?_
      refine Run.on rfl rfl rfl h108 ?_
      refine Run.val (lt rfl) (Y.int rfl rfl rfl) ?_
      refine Run.on rfl rfl rfl rfl ?_
      refine Run.val (lt rfl) (Y.pick_t rfl h108 rfl) ?_
      refine Run.val (lt rfl) (Y.pick_f rfl rfl rfl) ?_
      refine Run.to_end ?_
      refine Ex.go ?_
      refine Tr.cond_t rfl h81 ?_
      refine Tr.seq ?_
      refine Tr.region ?_
      refine Run.val (lt rfl) (Y.assign rfl) ?_
      refine Run.to_end ?_
      refine Ex.go ?_
      refine Tr.seq ?_
      refine Tr.block ?_
      refine Tr.loop (X := Nat) (fun z0 => V) (fun z0 => [q1, [(b1, .cells #[.float .f64 y, .float .f64 s] 28 (0, 0))]]) (fun z0 => [(0, .agg #[.float .f64 y, .float .f64 s]), (1, .int .i64 id), (2, .slice p l.length c), (7, .int .i64 (((Le.sel 0 (l.take i1)).length : Nat) : Int)), (8, .int .i64 ((((Le.sel 1 (l.take i1)).length : Nat) : Int) + 1)), (9, .slice p1 n1 k1), (10, .int .i64 (i1 : Int)), (3, .pointer (some ⟨b1, 0, none⟩)), (11, .int .i64 (z0 : Int))]) (fun z0 => z0 ≤ n1 ∧ ∀ j, j < z0 → (isort (Le.rsel id (l.take i1))).getD j 0 < (l.getD i1 Le.dflt).addr) (fun z0 => n1 - z0) (0 : Nat) ⟨Nat.zero_le _, fun j hj => absurd hj (Nat.not_lt_zero j)⟩ (fun a w i => ⟨i.1.sub (subB_cons (by first | rfl | exact congrArg (fun z => some (Value.int _ z)) (by omega) | exact congrArg (fun z => some (Value.int _ z)) (by dsimp only; omega)) (subB_cons (by first | rfl | exact congrArg (fun z => some (Value.int _ z)) (by omega) | exact congrArg (fun z => some (Value.int _ z)) (by dsimp only; omega)) (subB_cons (by first | rfl | exact congrArg (fun z => some (Value.int _ z)) (by omega) | exact congrArg (fun z => some (Value.int _ z)) (by dsimp only; omega)) (subB_cons (by first | rfl | exact congrArg (fun z => some (Value.int _ z)) (by omega) | exact congrArg (fun z => some (Value.int _ z)) (by dsimp only; omega)) (subB_cons (by first | rfl | exact congrArg (fun z => some (Value.int _ z)) (by omega) | exact congrArg (fun z => some (Value.int _ z)) (by dsimp only; omega)) (subB_cons (by first | rfl | exact congrArg (fun z => some (Value.int _ z)) (by omega) | exact congrArg (fun z => some (Value.int _ z)) (by dsimp only; omega)) (subB_cons (by first | rfl | exact congrArg (fun z => some (Value.int _ z)) (by omega) | exact congrArg (fun z => some (Value.int _ z)) (by dsimp only; omega)) (subB_cons (by first | rfl | exact congrArg (fun z => some (Value.int _ z)) (by omega) | exact congrArg (fun z => some (Value.int _ z)) (by dsimp only; omega)) (subB_cons (by first | rfl | exact congrArg (fun z => some (Value.int _ z)) (by omega) | exact congrArg (fun z => some (Value.int _ z)) (by dsimp only; omega)) (subB_nil _)))))))))), i.2⟩) ?_
      rintro a1 ⟨hal, ha⟩
      have hrl0 : (isort (Le.rsel id (l.take i1))).length = n1 := by rw [isort_length]; exact hn.symm
      refine Tr.seq ?_
      refine Tr.seq ?_
      refine Tr.quiet Chosen_mo (by kernel_rfl) ?_
      refine RunQ.val (lt rfl) (Y.move rfl) ?_
      refine RunQ.val (lt rfl) (Y.move rfl) ?_
      refine RunQ.val (lt rfl) (Y.lenSl rfl Chosen_es32) ?_
      refine RunQ.val (lt rfl) (Y.int rfl rfl rfl) ?_
      refine RunQ.val (lt rfl) (Y.move rfl) ?_
      rcases Bool.eq_false_or_eq_true (decide ((a1 : Int) < ((n1 : Nat) : Int))) with h109 | h109
      ·have g109 := h109
       try simp only [kb] at g109
       refine RunQ.on rfl rfl rfl h109 ?_
       refine RunQ.val (lt rfl) (Y.move rfl) ?_
       refine RunQ.on rfl rfl rfl h109 ?_
       refine RunQ.val (lt rfl) (Y.move rfl) ?_
       refine RunQ.on rfl rfl rfl h109 ?_
       refine RunQ.val (lt rfl) (Y.idxR a1 rfl rfl Chosen_es32 (how.rd 0 rfl) (by omega) (by omega)) ?_
       refine RunQ.on rfl rfl rfl h109 ?_
       refine RunQ.val (lt rfl) (Y.ldR rfl Chosen_ts37 (how.rd 0 rfl) (flatm_at0 nU_enc.len (by omega) 0 (by decide) rfl)) ?_
       refine RunQ.on rfl rfl rfl h109 ?_
       refine RunQ.val (lt rfl) (Y.move rfl) ?_
       refine RunQ.on rfl rfl rfl h109 ?_
       refine RunQ.val (lt rfl) (Y.move rfl) ?_
       refine RunQ.on rfl rfl rfl h109 ?_
       refine RunQ.val (lt rfl) (Y.idxR i1 rfl rfl Chosen_es24 hv.of_nil (by omega) (by omega)) ?_
       refine RunQ.on rfl rfl rfl h109 ?_
       refine RunQ.val (lt rfl) (Y.fieldR rfl Chosen_fo39_0 hv.of_nil (by omega)) ?_
       refine RunQ.on rfl rfl rfl h109 ?_
       refine RunQ.val (lt rfl) (Y.ldR rfl Chosen_ts37 hv.of_nil (rows_at Le.len (by omega) Le.dflt (by decide) rfl)) ?_
       refine RunQ.on rfl rfl rfl h109 ?_
       refine RunQ.val (lt rfl) (Y.int rfl rfl rfl) ?_
       refine RunQ.val (lt rfl) (Y.pick_t rfl h109 rfl) ?_
       refine RunQ.to_end ?_
       refine Ex.go ?_
       rcases Bool.eq_false_or_eq_true (decide (((isort (Le.rsel id (l.take i1))).getD a1 0) < ((l.getD i1 Le.dflt).addr))) with h110 | h110
       ·have g110 := h110
        try simp only [kb] at g110
        refine Tr.cond_t rfl h110 ?_
        refine Tr.to_end ?_
        refine Ex.go ?_
        refine Tr.block ?_
        refine Tr.region ?_
        refine Run.val (lt rfl) (Y.move rfl) ?_
        refine Run.val (lt rfl) (Y.add rfl rfl (by omega)) ?_
        refine Run.val (lt rfl) (Y.assign rfl) ?_
        refine Run.to_end ?_
        refine Ex.end_block ?_
        exact Ex.round (a1 + 1 : Nat) ⟨by omega, upto_succ ha (by omega)⟩ (by omega) rfl rfl (subB_cons (by first | rfl | exact congrArg (fun z => some (Value.int _ z)) (by omega) | exact congrArg (fun z => some (Value.int _ z)) (by dsimp only; omega)) (subB_cons (by first | rfl | exact congrArg (fun z => some (Value.int _ z)) (by omega) | exact congrArg (fun z => some (Value.int _ z)) (by dsimp only; omega)) (subB_cons (by first | rfl | exact congrArg (fun z => some (Value.int _ z)) (by omega) | exact congrArg (fun z => some (Value.int _ z)) (by dsimp only; omega)) (subB_cons (by first | rfl | exact congrArg (fun z => some (Value.int _ z)) (by omega) | exact congrArg (fun z => some (Value.int _ z)) (by dsimp only; omega)) (subB_cons (by first | rfl | exact congrArg (fun z => some (Value.int _ z)) (by omega) | exact congrArg (fun z => some (Value.int _ z)) (by dsimp only; omega)) (subB_cons (by first | rfl | exact congrArg (fun z => some (Value.int _ z)) (by omega) | exact congrArg (fun z => some (Value.int _ z)) (by dsimp only; omega)) (subB_cons (by first | rfl | exact congrArg (fun z => some (Value.int _ z)) (by omega) | exact congrArg (fun z => some (Value.int _ z)) (by dsimp only; omega)) (subB_cons (by first | rfl | exact congrArg (fun z => some (Value.int _ z)) (by omega) | exact congrArg (fun z => some (Value.int _ z)) (by dsimp only; omega)) (subB_cons (by first | rfl | exact congrArg (fun z => some (Value.int _ z)) (by omega) | exact congrArg (fun z => some (Value.int _ z)) (by dsimp only; omega)) (subB_nil _))))))))))
       ·have g110 := h110
        try simp only [kb] at g110
        refine Tr.cond_f rfl h110 ?_
        refine Tr.to_exit ?_
        refine Ex.exit_then ?_
        refine Ex.exit_then ?_
        refine Ex.exit_in ?_
        refine Ex.go ?_
        refine Tr.seq ?_
        refine Tr.region ?_
        refine Run.buildSlice0 Chosen_es32 (lt rfl) (fun b111 => ?_)
        refine Run.val (lt rfl) (Y.move rfl) ?_
        refine Run.val (lt rfl) (Y.move rfl) ?_
        refine Run.val (lt rfl) (Y.slice (l := 0) (m := a1) rfl Chosen_es32 rfl rfl (by omega) (by omega)) ?_
        refine Run.append (n := 0) (m := (a1 - 0)) (xs := []) (ys := (((isort (Le.rsel id (l.take i1))).drop 0).take (a1 - 0)).flatMap nU) rfl rfl Chosen_es32 Chosen_zi37 (by decide) (j := 0) rfl (Ow.lit (cur := #[]) rfl (by decide)) (Src.of_rd Chosen_es32 (Rd.cut nU_enc.len (how.rd 1 rfl) 0 a1 (by omega) (by omega))) (by omega) (by omega) (all_one_flat nU_enc _) (lt rfl) (fun v112 s113 ho114 hf => ?_)
        obtain ⟨p112, c112, rfl⟩ := hf
        replace ho114 := Ow.app (f := nU) (l := []) (m := ((isort (Le.rsel id (l.take i1))).drop 0).take (a1 - 0)) ho114
        refine Run.val (lt rfl) (Y.assign rfl) ?_
        refine Run.to_end ?_
        refine Ex.go ?_
        refine Tr.seq ?_
        refine Tr.region ?_
        refine Run.val (lt rfl) (Y.move rfl) ?_
        refine Run.val (lt rfl) (Y.move rfl) ?_
        refine Run.val (lt rfl) (Y.move rfl) ?_
        refine Run.val (lt rfl) (Y.idxR i1 rfl rfl Chosen_es24 hv.of_nil (by omega) (by omega)) ?_
        refine Run.val (lt rfl) (Y.fieldR rfl Chosen_fo39_0 hv.of_nil (by omega)) ?_
        refine Run.val (lt rfl) (Y.ldR rfl Chosen_ts37 hv.of_nil (rows_at Le.len (by omega) Le.dflt (by decide) rfl)) ?_
        refine Run.buildSlice (l := [(0, .tmp 86)]) Chosen_es32 Chosen_zo37 rfl (by decide) rfl rfl (by decide) (lt rfl) (fun b115 => ?_)
        refine Run.append (n := 0 + (a1 - 0)) (m := 1) (xs := ([] ++ (((isort (Le.rsel id (l.take i1))).drop 0).take (a1 - 0))).flatMap nU) (ys := [.int .u32 ((l.getD i1 Le.dflt).addr)]) rfl rfl Chosen_es32 Chosen_zi37 (by decide) (j := 1) rfl ho114 (Src.of_rd Chosen_es32 (Rd.one (Kn.at 0 rfl) rfl)) (by omega) (by omega) rfl (lt rfl) (fun v116 s117 ho118 hf => ?_)
        obtain ⟨p116, c116, rfl⟩ := hf
        replace ho118 := Ow.app1 (f := nU) (l := [] ++ (((isort (Le.rsel id (l.take i1))).drop 0).take (a1 - 0))) (x := (l.getD i1 Le.dflt).addr) ho118
        refine Run.val (lt rfl) (Y.assign rfl) ?_
        refine Run.to_end ?_
        refine Ex.go ?_
        refine Tr.region ?_
        refine Run.val (lt rfl) (Y.move rfl) ?_
        refine Run.val (lt rfl) (Y.move rfl) ?_
        refine Run.val (lt rfl) (Y.move rfl) ?_
        refine Run.val (lt rfl) (Y.slice (l := a1) (m := n1) rfl Chosen_es32 rfl rfl (by omega) (by omega)) ?_
        refine Run.append (n := 0 + (a1 - 0) + 1) (m := (n1 - a1)) (xs := (([] ++ (((isort (Le.rsel id (l.take i1))).drop 0).take (a1 - 0))) ++ [(l.getD i1 Le.dflt).addr]).flatMap nU) (ys := (((isort (Le.rsel id (l.take i1))).drop a1).take (n1 - a1)).flatMap nU) rfl rfl Chosen_es32 Chosen_zi37 (by decide) (j := 1) rfl ho118 (Src.of_rd Chosen_es32 (Rd.cut nU_enc.len (how.rd 2 rfl) a1 n1 (by omega) (by omega))) (by omega) (by omega) (all_one_flat nU_enc _) (lt rfl) (fun v119 s120 ho121 hf => ?_)
        obtain ⟨p119, c119, rfl⟩ := hf
        replace ho121 := Ow.app (f := nU) (l := ([] ++ (((isort (Le.rsel id (l.take i1))).drop 0).take (a1 - 0))) ++ [(l.getD i1 Le.dflt).addr]) (m := ((isort (Le.rsel id (l.take i1))).drop a1).take (n1 - a1)) ho121
        refine Run.val (lt rfl) (Y.assign rfl) ?_
        refine Run.to_end ?_
        refine Ex.end_block ?_
        refine Ex.go ?_
        refine Tr.region ?_
        refine Run.val (lt rfl) (Y.move rfl) ?_
        refine Run.val (lt rfl) (Y.add rfl rfl (by omega)) ?_
        refine Run.val (lt rfl) (Y.assign rfl) ?_
        refine Run.to_end ?_
        refine Ex.keep [1, 2] ?_
        have qq0 := Le.sel_take0L (l := l) (i := i1) (b := 0) (by omega) h3
        have qq1 := Le.sel_takeL (l := l) (i := i1) (b := 1) (by omega) h81
        have er : Le.rsel id (l.take (i1 + 1)) = Le.rsel id (l.take i1) ++ [(l.getD i1 Le.dflt).addr] := by first | exact Le.rsel_yes 0 (by omega) (by omega) h3 | exact Le.rsel_yes 1 (by omega) (by omega) h81
        have hrl : (isort (Le.rsel id (l.take i1))).length = n1 := by rw [isort_length]; exact hn.symm
        have hsp : spot (l.getD i1 Le.dflt).addr (isort (Le.rsel id (l.take i1))) = a1 := spot_at (by omega) ha (by first | (left; omega) | (right; omega))
        have ho9 := ho121
        rw [Le.ins_cat hrl hsp, ← isort_snoc, ← er] at ho9
        exact Ex.round (⟨i1 + 1, p119, (0 + (a1 - 0) + 1 + (n1 - a1)), c119, s120⟩ : Nat × Option Addr × Nat × Nat × Sg) ⟨ho9, by rw [er]; rw [List.length_append]; simp only [List.length_singleton]; omega, by omega⟩ (by dsimp only; omega) rfl rfl (subB_cons (by first | rfl | exact congrArg (fun z => some (Value.int _ z)) (by omega) | exact congrArg (fun z => some (Value.int _ z)) (by dsimp only; omega)) (subB_cons (by first | rfl | exact congrArg (fun z => some (Value.int _ z)) (by omega) | exact congrArg (fun z => some (Value.int _ z)) (by dsimp only; omega)) (subB_cons (by first | rfl | exact congrArg (fun z => some (Value.int _ z)) (by omega) | exact congrArg (fun z => some (Value.int _ z)) (by dsimp only; omega)) (subB_cons (by first | rfl | exact congrArg (fun z => some (Value.int _ z)) (by omega) | exact congrArg (fun z => some (Value.int _ z)) (by dsimp only; omega)) (subB_cons (by first | rfl | exact congrArg (fun z => some (Value.int _ z)) (by omega) | exact congrArg (fun z => some (Value.int _ z)) (by dsimp only; omega)) (subB_cons (by first | rfl | exact congrArg (fun z => some (Value.int _ z)) (by omega) | exact congrArg (fun z => some (Value.int _ z)) (by dsimp only; omega)) (subB_cons (by first | rfl | exact congrArg (fun z => some (Value.int _ z)) (by omega) | exact congrArg (fun z => some (Value.int _ z)) (by dsimp only; omega)) (subB_cons (by first | rfl | exact congrArg (fun z => some (Value.int _ z)) (by omega) | exact congrArg (fun z => some (Value.int _ z)) (by dsimp only; omega)) (subB_nil _)))))))))
      ·have g109 := h109
       try simp only [kb] at g109
       refine RunQ.off rfl rfl rfl h109 rfl (lt rfl) ?_
       refine RunQ.off rfl rfl rfl h109 rfl (lt rfl) ?_
       refine RunQ.off rfl rfl rfl h109 rfl (lt rfl) ?_
       refine RunQ.off rfl rfl rfl h109 rfl (lt rfl) ?_
       refine RunQ.off rfl rfl rfl h109 rfl (lt rfl) ?_
       refine RunQ.off rfl rfl rfl h109 rfl (lt rfl) ?_
       refine RunQ.off rfl rfl rfl h109 rfl (lt rfl) ?_
       refine RunQ.off rfl rfl rfl h109 rfl (lt rfl) ?_
       refine RunQ.off rfl rfl rfl h109 rfl (lt rfl) ?_
       refine RunQ.off rfl rfl rfl h109 rfl (lt rfl) ?_
       refine RunQ.val (lt rfl) (Y.pick_f rfl h109 rfl) ?_
       refine RunQ.to_end ?_
       refine Ex.go ?_
       refine Tr.cond_f rfl rfl ?_
       refine Tr.to_exit ?_
       refine Ex.exit_then ?_
       refine Ex.exit_then ?_
       refine Ex.exit_in ?_
       refine Ex.go ?_
       refine Tr.seq ?_
       refine Tr.region ?_
       refine Run.buildSlice0 Chosen_es32 (lt rfl) (fun b122 => ?_)
       refine Run.val (lt rfl) (Y.move rfl) ?_
       refine Run.val (lt rfl) (Y.move rfl) ?_
       refine Run.val (lt rfl) (Y.slice (l := 0) (m := a1) rfl Chosen_es32 rfl rfl (by omega) (by omega)) ?_
       refine Run.append (n := 0) (m := (a1 - 0)) (xs := []) (ys := (((isort (Le.rsel id (l.take i1))).drop 0).take (a1 - 0)).flatMap nU) rfl rfl Chosen_es32 Chosen_zi37 (by decide) (j := 0) rfl (Ow.lit (cur := #[]) rfl (by decide)) (Src.of_rd Chosen_es32 (Rd.cut nU_enc.len (how.rd 1 rfl) 0 a1 (by omega) (by omega))) (by omega) (by omega) (all_one_flat nU_enc _) (lt rfl) (fun v123 s124 ho125 hf => ?_)
       obtain ⟨p123, c123, rfl⟩ := hf
       replace ho125 := Ow.app (f := nU) (l := []) (m := ((isort (Le.rsel id (l.take i1))).drop 0).take (a1 - 0)) ho125
       refine Run.val (lt rfl) (Y.assign rfl) ?_
       refine Run.to_end ?_
       refine Ex.go ?_
       refine Tr.seq ?_
       refine Tr.region ?_
       refine Run.val (lt rfl) (Y.move rfl) ?_
       refine Run.val (lt rfl) (Y.move rfl) ?_
       refine Run.val (lt rfl) (Y.move rfl) ?_
       refine Run.val (lt rfl) (Y.idxR i1 rfl rfl Chosen_es24 hv.of_nil (by omega) (by omega)) ?_
       refine Run.val (lt rfl) (Y.fieldR rfl Chosen_fo39_0 hv.of_nil (by omega)) ?_
       refine Run.val (lt rfl) (Y.ldR rfl Chosen_ts37 hv.of_nil (rows_at Le.len (by omega) Le.dflt (by decide) rfl)) ?_
       refine Run.buildSlice (l := [(0, .tmp 86)]) Chosen_es32 Chosen_zo37 rfl (by decide) rfl rfl (by decide) (lt rfl) (fun b126 => ?_)
       refine Run.append (n := 0 + (a1 - 0)) (m := 1) (xs := ([] ++ (((isort (Le.rsel id (l.take i1))).drop 0).take (a1 - 0))).flatMap nU) (ys := [.int .u32 ((l.getD i1 Le.dflt).addr)]) rfl rfl Chosen_es32 Chosen_zi37 (by decide) (j := 1) rfl ho125 (Src.of_rd Chosen_es32 (Rd.one (Kn.at 0 rfl) rfl)) (by omega) (by omega) rfl (lt rfl) (fun v127 s128 ho129 hf => ?_)
       obtain ⟨p127, c127, rfl⟩ := hf
       replace ho129 := Ow.app1 (f := nU) (l := [] ++ (((isort (Le.rsel id (l.take i1))).drop 0).take (a1 - 0))) (x := (l.getD i1 Le.dflt).addr) ho129
       refine Run.val (lt rfl) (Y.assign rfl) ?_
       refine Run.to_end ?_
       refine Ex.go ?_
       refine Tr.region ?_
       refine Run.val (lt rfl) (Y.move rfl) ?_
       refine Run.val (lt rfl) (Y.move rfl) ?_
       refine Run.val (lt rfl) (Y.move rfl) ?_
       refine Run.val (lt rfl) (Y.slice (l := a1) (m := n1) rfl Chosen_es32 rfl rfl (by omega) (by omega)) ?_
       refine Run.append (n := 0 + (a1 - 0) + 1) (m := (n1 - a1)) (xs := (([] ++ (((isort (Le.rsel id (l.take i1))).drop 0).take (a1 - 0))) ++ [(l.getD i1 Le.dflt).addr]).flatMap nU) (ys := (((isort (Le.rsel id (l.take i1))).drop a1).take (n1 - a1)).flatMap nU) rfl rfl Chosen_es32 Chosen_zi37 (by decide) (j := 1) rfl ho129 (Src.of_rd Chosen_es32 (Rd.cut nU_enc.len (how.rd 2 rfl) a1 n1 (by omega) (by omega))) (by omega) (by omega) (all_one_flat nU_enc _) (lt rfl) (fun v130 s131 ho132 hf => ?_)
       obtain ⟨p130, c130, rfl⟩ := hf
       replace ho132 := Ow.app (f := nU) (l := ([] ++ (((isort (Le.rsel id (l.take i1))).drop 0).take (a1 - 0))) ++ [(l.getD i1 Le.dflt).addr]) (m := ((isort (Le.rsel id (l.take i1))).drop a1).take (n1 - a1)) ho132
       refine Run.val (lt rfl) (Y.assign rfl) ?_
       refine Run.to_end ?_
       refine Ex.end_block ?_
       refine Ex.go ?_
       refine Tr.region ?_
       refine Run.val (lt rfl) (Y.move rfl) ?_
       refine Run.val (lt rfl) (Y.add rfl rfl (by omega)) ?_
       refine Run.val (lt rfl) (Y.assign rfl) ?_
       refine Run.to_end ?_
       refine Ex.keep [1, 2] ?_
       have qq0 := Le.sel_take0L (l := l) (i := i1) (b := 0) (by omega) h3
       have qq1 := Le.sel_takeL (l := l) (i := i1) (b := 1) (by omega) h81
       have er : Le.rsel id (l.take (i1 + 1)) = Le.rsel id (l.take i1) ++ [(l.getD i1 Le.dflt).addr] := by first | exact Le.rsel_yes 0 (by omega) (by omega) h3 | exact Le.rsel_yes 1 (by omega) (by omega) h81
       have hrl : (isort (Le.rsel id (l.take i1))).length = n1 := by rw [isort_length]; exact hn.symm
       have hsp : spot (l.getD i1 Le.dflt).addr (isort (Le.rsel id (l.take i1))) = a1 := spot_at (by omega) ha (by first | (left; omega) | (right; omega))
       have ho9 := ho132
       rw [Le.ins_cat hrl hsp, ← isort_snoc, ← er] at ho9
       exact Ex.round (⟨i1 + 1, p130, (0 + (a1 - 0) + 1 + (n1 - a1)), c130, s131⟩ : Nat × Option Addr × Nat × Nat × Sg) ⟨ho9, by rw [er]; rw [List.length_append]; simp only [List.length_singleton]; omega, by omega⟩ (by dsimp only; omega) rfl rfl (subB_cons (by first | rfl | exact congrArg (fun z => some (Value.int _ z)) (by omega) | exact congrArg (fun z => some (Value.int _ z)) (by dsimp only; omega)) (subB_cons (by first | rfl | exact congrArg (fun z => some (Value.int _ z)) (by omega) | exact congrArg (fun z => some (Value.int _ z)) (by dsimp only; omega)) (subB_cons (by first | rfl | exact congrArg (fun z => some (Value.int _ z)) (by omega) | exact congrArg (fun z => some (Value.int _ z)) (by dsimp only; omega)) (subB_cons (by first | rfl | exact congrArg (fun z => some (Value.int _ z)) (by omega) | exact congrArg (fun z => some (Value.int _ z)) (by dsimp only; omega)) (subB_cons (by first | rfl | exact congrArg (fun z => some (Value.int _ z)) (by omega) | exact congrArg (fun z => some (Value.int _ z)) (by dsimp only; omega)) (subB_cons (by first | rfl | exact congrArg (fun z => some (Value.int _ z)) (by omega) | exact congrArg (fun z => some (Value.int _ z)) (by dsimp only; omega)) (subB_cons (by first | rfl | exact congrArg (fun z => some (Value.int _ z)) (by omega) | exact congrArg (fun z => some (Value.int _ z)) (by dsimp only; omega)) (subB_cons (by first | rfl | exact congrArg (fun z => some (Value.int _ z)) (by omega) | exact congrArg (fun z => some (Value.int _ z)) (by dsimp only; omega)) (subB_nil _)))))))))
     ·have g108 := h108
      try simp only [kb] at g108
      refine Run.off rfl rfl rfl h108 rfl (lt rfl) ?_
      refine Run.off rfl rfl rfl h108 rfl (lt rfl) ?_
      refine Run.off rfl rfl rfl h108 rfl (lt rfl) ?_
      refine Run.off rfl rfl rfl h108 rfl (lt rfl) ?_
      refine Run.off rfl rfl rfl h108 rfl (lt rfl) ?_
      refine Run.off rfl rfl rfl h108 rfl (lt rfl) ?_
      refine Run.on rfl rfl rfl rfl ?_
      refine Run.val (lt rfl) (Y.pick_f rfl h108 rfl) ?_
      refine Run.val (lt rfl) (Y.pick_f rfl rfl rfl) ?_
      refine Run.to_end ?_
      refine Ex.go ?_
      refine Tr.cond_f rfl rfl ?_
      refine Tr.to_end ?_
      refine Ex.end_block ?_
      refine Ex.go ?_
      refine Tr.region ?_
      refine Run.val (lt rfl) (Y.move rfl) ?_
      refine Run.val (lt rfl) (Y.add rfl rfl (by omega)) ?_
      refine Run.val (lt rfl) (Y.assign rfl) ?_
      refine Run.to_end ?_
      refine Ex.keep [0, 0] ?_
      have qq0 := Le.sel_take0L (l := l) (i := i1) (b := 0) (by omega) h3
      have qq1 := Le.sel_takeL (l := l) (i := i1) (b := 1) (by omega) h81
      have er : Le.rsel id (l.take (i1 + 1)) = Le.rsel id (l.take i1) := Le.rsel_no (by omega) (fun e => by first | exact h3 | exact absurd e (by omega)) (fun e => by first | exact h81 | exact absurd e (by omega))
      exact Ex.round (⟨i1 + 1, p1, n1, k1, q1⟩ : Nat × Option Addr × Nat × Nat × Sg) ⟨by rw [er]; exact how, by rw [er]; exact hn, by omega⟩ (by dsimp only; omega) rfl rfl (subB_cons (by first | rfl | exact congrArg (fun z => some (Value.int _ z)) (by omega) | exact congrArg (fun z => some (Value.int _ z)) (by dsimp only; omega)) (subB_cons (by first | rfl | exact congrArg (fun z => some (Value.int _ z)) (by omega) | exact congrArg (fun z => some (Value.int _ z)) (by dsimp only; omega)) (subB_cons (by first | rfl | exact congrArg (fun z => some (Value.int _ z)) (by omega) | exact congrArg (fun z => some (Value.int _ z)) (by dsimp only; omega)) (subB_cons (by first | rfl | exact congrArg (fun z => some (Value.int _ z)) (by omega) | exact congrArg (fun z => some (Value.int _ z)) (by dsimp only; omega)) (subB_cons (by first | rfl | exact congrArg (fun z => some (Value.int _ z)) (by omega) | exact congrArg (fun z => some (Value.int _ z)) (by dsimp only; omega)) (subB_cons (by first | rfl | exact congrArg (fun z => some (Value.int _ z)) (by omega) | exact congrArg (fun z => some (Value.int _ z)) (by dsimp only; omega)) (subB_cons (by first | rfl | exact congrArg (fun z => some (Value.int _ z)) (by omega) | exact congrArg (fun z => some (Value.int _ z)) (by dsimp only; omega)) (subB_cons (by first | rfl | exact congrArg (fun z => some (Value.int _ z)) (by omega) | exact congrArg (fun z => some (Value.int _ z)) (by dsimp only; omega)) (subB_nil _)))))))))
   ·have g81 := h81
    try simp only [kb] at g81
    refine Tr.cond_f rfl h81 ?_
    refine Tr.to_end ?_
    refine Ex.go ?_
    refine Tr.seq ?_
    refine Tr.region ?_
    refine Run.val (lt rfl) (Y.move rfl) ?_
    refine Run.val (lt rfl) (Y.int rfl rfl rfl) ?_
    refine Run.val (lt rfl) (Y.move rfl) ?_
    rcases Bool.eq_false_or_eq_true (id == 0) with h133 | h133
    ·have g133 := h133
     try simp only [kb] at g133
     refine Run.on rfl rfl rfl h133 ?_
     refine Run.val (lt rfl) (Y.move rfl) ?_
     refine Run.on rfl rfl rfl h133 ?_
     refine Run.val (lt rfl) (Y.move rfl) ?_
     refine Run.on rfl rfl rfl h133 ?_
     refine Run.val (lt rfl) (Y.idxR i1 rfl rfl Chosen_es24 hv.of_nil (by omega) (by omega)) ?_
     refine Run.on rfl rfl rfl h133 ?_
     refine Run.val (lt rfl) (Y.fieldR rfl Chosen_fo39_1 hv.of_nil (by omega)) ?_
     refine Run.on rfl rfl rfl h133 ?_
     refine Run.val (lt rfl) (Y.ldR rfl Chosen_ts3 hv.of_nil (rows_at Le.len (by omega) Le.dflt (by decide) rfl)) ?_
     refine Run.on rfl rfl rfl h133 ?_
     refine Run.val (lt rfl) (Y.int rfl rfl rfl) ?_
     refine Run.val (lt rfl) (Y.pick_t rfl h133 rfl) ?_
     refine Run.val (lt rfl) (Y.move rfl) ?_
     refine Run.on rfl rfl rfl h3 ?_
     refine Run.val (lt rfl) (Y.move rfl) ?_
     refine Run.on rfl rfl rfl h3 ?_
     refine Run.val (lt rfl) (Y.int rfl rfl rfl) ?_
     refine Run.on rfl rfl rfl h3 ?_
     refine Run.val (lt rfl) (Y.move rfl) ?_
     rcases Bool.eq_false_or_eq_true (id == 1) with h134 | h134
     ·have g134 := h134
      try simp only [kb] at g134
      refine Run.on rfl rfl rfl h134 ?_
      refine Run.val (lt rfl) (Y.move rfl) ?_
      refine Run.on rfl rfl rfl h134 ?_
      refine Run.val (lt rfl) (Y.move rfl) ?_
      refine Run.on rfl rfl rfl h134 ?_
      refine Run.val (lt rfl) (Y.idxR i1 rfl rfl Chosen_es24 hv.of_nil (by omega) (by omega)) ?_
      refine Run.on rfl rfl rfl h134 ?_
      refine Run.val (lt rfl) (Y.fieldR rfl Chosen_fo39_1 hv.of_nil (by omega)) ?_
      refine Run.on rfl rfl rfl h134 ?_
      refine Run.val (lt rfl) (Y.ldR rfl Chosen_ts3 hv.of_nil (rows_at Le.len (by omega) Le.dflt (by decide) rfl)) ?_
      refine Run.on rfl rfl rfl h134 ?_
      refine Run.val (lt rfl) (Y.int rfl rfl rfl) ?_
      refine Run.on rfl rfl rfl h3 ?_
      refine Run.val (lt rfl) (Y.pick_t rfl h134 rfl) ?_
      refine Run.val (lt rfl) (Y.pick_f rfl h3 rfl) ?_
      refine Run.to_end ?_
      refine Ex.go ?_
      refine Tr.cond_f rfl h81 ?_
      refine Tr.to_end ?_
      refine Ex.end_block ?_
      refine Ex.go ?_
      refine Tr.region ?_
      refine Run.val (lt rfl) (Y.move rfl) ?_
      refine Run.val (lt rfl) (Y.add rfl rfl (by omega)) ?_
      refine Run.val (lt rfl) (Y.assign rfl) ?_
      refine Run.to_end ?_
      refine Ex.keep [0, 0] ?_
      have qq0 := Le.sel_take0L (l := l) (i := i1) (b := 0) (by omega) h3
      have qq1 := Le.sel_take0L (l := l) (i := i1) (b := 1) (by omega) h81
      have er : Le.rsel id (l.take (i1 + 1)) = Le.rsel id (l.take i1) := Le.rsel_no (by omega) (fun e => by first | exact h3 | exact absurd e (by omega)) (fun e => by first | exact h81 | exact absurd e (by omega))
      exact Ex.round (⟨i1 + 1, p1, n1, k1, q1⟩ : Nat × Option Addr × Nat × Nat × Sg) ⟨by rw [er]; exact how, by rw [er]; exact hn, by omega⟩ (by dsimp only; omega) rfl rfl (subB_cons (by first | rfl | exact congrArg (fun z => some (Value.int _ z)) (by omega) | exact congrArg (fun z => some (Value.int _ z)) (by dsimp only; omega)) (subB_cons (by first | rfl | exact congrArg (fun z => some (Value.int _ z)) (by omega) | exact congrArg (fun z => some (Value.int _ z)) (by dsimp only; omega)) (subB_cons (by first | rfl | exact congrArg (fun z => some (Value.int _ z)) (by omega) | exact congrArg (fun z => some (Value.int _ z)) (by dsimp only; omega)) (subB_cons (by first | rfl | exact congrArg (fun z => some (Value.int _ z)) (by omega) | exact congrArg (fun z => some (Value.int _ z)) (by dsimp only; omega)) (subB_cons (by first | rfl | exact congrArg (fun z => some (Value.int _ z)) (by omega) | exact congrArg (fun z => some (Value.int _ z)) (by dsimp only; omega)) (subB_cons (by first | rfl | exact congrArg (fun z => some (Value.int _ z)) (by omega) | exact congrArg (fun z => some (Value.int _ z)) (by dsimp only; omega)) (subB_cons (by first | rfl | exact congrArg (fun z => some (Value.int _ z)) (by omega) | exact congrArg (fun z => some (Value.int _ z)) (by dsimp only; omega)) (subB_cons (by first | rfl | exact congrArg (fun z => some (Value.int _ z)) (by omega) | exact congrArg (fun z => some (Value.int _ z)) (by dsimp only; omega)) (subB_nil _)))))))))
     ·have g134 := h134
      try simp only [kb] at g134
      refine Run.off rfl rfl rfl h134 rfl (lt rfl) ?_
      refine Run.off rfl rfl rfl h134 rfl (lt rfl) ?_
      refine Run.off rfl rfl rfl h134 rfl (lt rfl) ?_
      refine Run.off rfl rfl rfl h134 rfl (lt rfl) ?_
      refine Run.off rfl rfl rfl h134 rfl (lt rfl) ?_
      refine Run.off rfl rfl rfl h134 rfl (lt rfl) ?_
      refine Run.on rfl rfl rfl h3 ?_
      refine Run.val (lt rfl) (Y.pick_f rfl h134 rfl) ?_
      refine Run.val (lt rfl) (Y.pick_f rfl h3 rfl) ?_
      refine Run.to_end ?_
      refine Ex.go ?_
      refine Tr.cond_f rfl rfl ?_
      refine Tr.to_end ?_
      refine Ex.end_block ?_
      refine Ex.go ?_
      refine Tr.region ?_
      refine Run.val (lt rfl) (Y.move rfl) ?_
      refine Run.val (lt rfl) (Y.add rfl rfl (by omega)) ?_
      refine Run.val (lt rfl) (Y.assign rfl) ?_
      refine Run.to_end ?_
      refine Ex.keep [0, 0] ?_
      have qq0 := Le.sel_take0L (l := l) (i := i1) (b := 0) (by omega) h3
      have qq1 := Le.sel_take0L (l := l) (i := i1) (b := 1) (by omega) h81
      have er : Le.rsel id (l.take (i1 + 1)) = Le.rsel id (l.take i1) := Le.rsel_no (by omega) (fun e => by first | exact h3 | exact absurd e (by omega)) (fun e => by first | exact h81 | exact absurd e (by omega))
      exact Ex.round (⟨i1 + 1, p1, n1, k1, q1⟩ : Nat × Option Addr × Nat × Nat × Sg) ⟨by rw [er]; exact how, by rw [er]; exact hn, by omega⟩ (by dsimp only; omega) rfl rfl (subB_cons (by first | rfl | exact congrArg (fun z => some (Value.int _ z)) (by omega) | exact congrArg (fun z => some (Value.int _ z)) (by dsimp only; omega)) (subB_cons (by first | rfl | exact congrArg (fun z => some (Value.int _ z)) (by omega) | exact congrArg (fun z => some (Value.int _ z)) (by dsimp only; omega)) (subB_cons (by first | rfl | exact congrArg (fun z => some (Value.int _ z)) (by omega) | exact congrArg (fun z => some (Value.int _ z)) (by dsimp only; omega)) (subB_cons (by first | rfl | exact congrArg (fun z => some (Value.int _ z)) (by omega) | exact congrArg (fun z => some (Value.int _ z)) (by dsimp only; omega)) (subB_cons (by first | rfl | exact congrArg (fun z => some (Value.int _ z)) (by omega) | exact congrArg (fun z => some (Value.int _ z)) (by dsimp only; omega)) (subB_cons (by first | rfl | exact congrArg (fun z => some (Value.int _ z)) (by omega) | exact congrArg (fun z => some (Value.int _ z)) (by dsimp only; omega)) (subB_cons (by first | rfl | exact congrArg (fun z => some (Value.int _ z)) (by omega) | exact congrArg (fun z => some (Value.int _ z)) (by dsimp only; omega)) (subB_cons (by first | rfl | exact congrArg (fun z => some (Value.int _ z)) (by omega) | exact congrArg (fun z => some (Value.int _ z)) (by dsimp only; omega)) (subB_nil _)))))))))
    ·have g133 := h133
     try simp only [kb] at g133
     refine Run.off rfl rfl rfl h133 rfl (lt rfl) ?_
     refine Run.off rfl rfl rfl h133 rfl (lt rfl) ?_
     refine Run.off rfl rfl rfl h133 rfl (lt rfl) ?_
     refine Run.off rfl rfl rfl h133 rfl (lt rfl) ?_
     refine Run.off rfl rfl rfl h133 rfl (lt rfl) ?_
     refine Run.off rfl rfl rfl h133 rfl (lt rfl) ?_
     refine Run.val (lt rfl) (Y.pick_f rfl h133 rfl) ?_
     refine Run.val (lt rfl) (Y.move rfl) ?_
     refine Run.on rfl rfl rfl rfl ?_
     refine Run.val (lt rfl) (Y.move rfl) ?_
     refine Run.on rfl rfl rfl rfl ?_
     refine Run.val (lt rfl) (Y.int rfl rfl rfl) ?_
     refine Run.on rfl rfl rfl rfl ?_
     refine Run.val (lt rfl) (Y.move rfl) ?_
     rcases Bool.eq_false_or_eq_true (id == 1) with h135 | h135
     ·have g135 := h135
      try simp only [kb] at g135
      refine Run.on rfl rfl rfl h135 ?_
      refine Run.val (lt rfl) (Y.move rfl) ?_
      refine Run.on rfl rfl rfl h135 ?_
      refine Run.val (lt rfl) (Y.move rfl) ?_
      refine Run.on rfl rfl rfl h135 ?_
      refine Run.val (lt rfl) (Y.idxR i1 rfl rfl Chosen_es24 hv.of_nil (by omega) (by omega)) ?_
      refine Run.on rfl rfl rfl h135 ?_
      refine Run.val (lt rfl) (Y.fieldR rfl Chosen_fo39_1 hv.of_nil (by omega)) ?_
      refine Run.on rfl rfl rfl h135 ?_
      refine Run.val (lt rfl) (Y.ldR rfl Chosen_ts3 hv.of_nil (rows_at Le.len (by omega) Le.dflt (by decide) rfl)) ?_
      refine Run.on rfl rfl rfl h135 ?_
      refine Run.val (lt rfl) (Y.int rfl rfl rfl) ?_
      refine Run.on rfl rfl rfl rfl ?_
      refine Run.val (lt rfl) (Y.pick_t rfl h135 rfl) ?_
      refine Run.val (lt rfl) (Y.pick_f rfl rfl rfl) ?_
      refine Run.to_end ?_
      refine Ex.go ?_
      refine Tr.cond_f rfl h81 ?_
      refine Tr.to_end ?_
      refine Ex.end_block ?_
      refine Ex.go ?_
      refine Tr.region ?_
      refine Run.val (lt rfl) (Y.move rfl) ?_
      refine Run.val (lt rfl) (Y.add rfl rfl (by omega)) ?_
      refine Run.val (lt rfl) (Y.assign rfl) ?_
      refine Run.to_end ?_
      refine Ex.keep [0, 0] ?_
      have qq0 := Le.sel_take0L (l := l) (i := i1) (b := 0) (by omega) h3
      have qq1 := Le.sel_take0L (l := l) (i := i1) (b := 1) (by omega) h81
      have er : Le.rsel id (l.take (i1 + 1)) = Le.rsel id (l.take i1) := Le.rsel_no (by omega) (fun e => by first | exact h3 | exact absurd e (by omega)) (fun e => by first | exact h81 | exact absurd e (by omega))
      exact Ex.round (⟨i1 + 1, p1, n1, k1, q1⟩ : Nat × Option Addr × Nat × Nat × Sg) ⟨by rw [er]; exact how, by rw [er]; exact hn, by omega⟩ (by dsimp only; omega) rfl rfl (subB_cons (by first | rfl | exact congrArg (fun z => some (Value.int _ z)) (by omega) | exact congrArg (fun z => some (Value.int _ z)) (by dsimp only; omega)) (subB_cons (by first | rfl | exact congrArg (fun z => some (Value.int _ z)) (by omega) | exact congrArg (fun z => some (Value.int _ z)) (by dsimp only; omega)) (subB_cons (by first | rfl | exact congrArg (fun z => some (Value.int _ z)) (by omega) | exact congrArg (fun z => some (Value.int _ z)) (by dsimp only; omega)) (subB_cons (by first | rfl | exact congrArg (fun z => some (Value.int _ z)) (by omega) | exact congrArg (fun z => some (Value.int _ z)) (by dsimp only; omega)) (subB_cons (by first | rfl | exact congrArg (fun z => some (Value.int _ z)) (by omega) | exact congrArg (fun z => some (Value.int _ z)) (by dsimp only; omega)) (subB_cons (by first | rfl | exact congrArg (fun z => some (Value.int _ z)) (by omega) | exact congrArg (fun z => some (Value.int _ z)) (by dsimp only; omega)) (subB_cons (by first | rfl | exact congrArg (fun z => some (Value.int _ z)) (by omega) | exact congrArg (fun z => some (Value.int _ z)) (by dsimp only; omega)) (subB_cons (by first | rfl | exact congrArg (fun z => some (Value.int _ z)) (by omega) | exact congrArg (fun z => some (Value.int _ z)) (by dsimp only; omega)) (subB_nil _)))))))))
     ·have g135 := h135
      try simp only [kb] at g135
      refine Run.off rfl rfl rfl h135 rfl (lt rfl) ?_
      refine Run.off rfl rfl rfl h135 rfl (lt rfl) ?_
      refine Run.off rfl rfl rfl h135 rfl (lt rfl) ?_
      refine Run.off rfl rfl rfl h135 rfl (lt rfl) ?_
      refine Run.off rfl rfl rfl h135 rfl (lt rfl) ?_
      refine Run.off rfl rfl rfl h135 rfl (lt rfl) ?_
      refine Run.on rfl rfl rfl rfl ?_
      refine Run.val (lt rfl) (Y.pick_f rfl h135 rfl) ?_
      refine Run.val (lt rfl) (Y.pick_f rfl rfl rfl) ?_
      refine Run.to_end ?_
      refine Ex.go ?_
      refine Tr.cond_f rfl rfl ?_
      refine Tr.to_end ?_
      refine Ex.end_block ?_
      refine Ex.go ?_
      refine Tr.region ?_
      refine Run.val (lt rfl) (Y.move rfl) ?_
      refine Run.val (lt rfl) (Y.add rfl rfl (by omega)) ?_
      refine Run.val (lt rfl) (Y.assign rfl) ?_
      refine Run.to_end ?_
      refine Ex.keep [0, 0] ?_
      have qq0 := Le.sel_take0L (l := l) (i := i1) (b := 0) (by omega) h3
      have qq1 := Le.sel_take0L (l := l) (i := i1) (b := 1) (by omega) h81
      have er : Le.rsel id (l.take (i1 + 1)) = Le.rsel id (l.take i1) := Le.rsel_no (by omega) (fun e => by first | exact h3 | exact absurd e (by omega)) (fun e => by first | exact h81 | exact absurd e (by omega))
      exact Ex.round (⟨i1 + 1, p1, n1, k1, q1⟩ : Nat × Option Addr × Nat × Nat × Sg) ⟨by rw [er]; exact how, by rw [er]; exact hn, by omega⟩ (by dsimp only; omega) rfl rfl (subB_cons (by first | rfl | exact congrArg (fun z => some (Value.int _ z)) (by omega) | exact congrArg (fun z => some (Value.int _ z)) (by dsimp only; omega)) (subB_cons (by first | rfl | exact congrArg (fun z => some (Value.int _ z)) (by omega) | exact congrArg (fun z => some (Value.int _ z)) (by dsimp only; omega)) (subB_cons (by first | rfl | exact congrArg (fun z => some (Value.int _ z)) (by omega) | exact congrArg (fun z => some (Value.int _ z)) (by dsimp only; omega)) (subB_cons (by first | rfl | exact congrArg (fun z => some (Value.int _ z)) (by omega) | exact congrArg (fun z => some (Value.int _ z)) (by dsimp only; omega)) (subB_cons (by first | rfl | exact congrArg (fun z => some (Value.int _ z)) (by omega) | exact congrArg (fun z => some (Value.int _ z)) (by dsimp only; omega)) (subB_cons (by first | rfl | exact congrArg (fun z => some (Value.int _ z)) (by omega) | exact congrArg (fun z => some (Value.int _ z)) (by dsimp only; omega)) (subB_cons (by first | rfl | exact congrArg (fun z => some (Value.int _ z)) (by omega) | exact congrArg (fun z => some (Value.int _ z)) (by dsimp only; omega)) (subB_cons (by first | rfl | exact congrArg (fun z => some (Value.int _ z)) (by omega) | exact congrArg (fun z => some (Value.int _ z)) (by dsimp only; omega)) (subB_nil _)))))))))
 ·have g2 := h2
  try simp only [kb] at g2
  refine Tr.cond_f rfl h2 ?_
  refine Tr.to_exit ?_
  refine Ex.exit_then ?_
  refine Ex.exit_then ?_
  refine Ex.exit_in ?_
  refine Ex.go ?_
  refine Tr.seq ?_
  refine Tr.region ?_
  obtain rfl : i1 = l.length := by omega
  rw [List.take_length] at how hn hsl h0l h1l
  subst hn
  have hgl := Le.rsel_len (id := id) (y := y) (s := s) hl
  refine Run.sub [(0, .agg #[.float .f64 y, .float .f64 s]), (1, .int .i64 id), (2, .slice p l.length c), (3, .pointer (some ⟨b1, 0, none⟩)), (7, .int .i64 (((Le.sel 0 l).length : Nat) : Int)), (8, .int .i64 (((Le.sel 1 l).length : Nat) : Int)), (9, .slice p1 (Le.rsel id l).length k1)] (subB_cons rfl (subB_cons rfl (subB_cons rfl (subB_cons rfl (subB_cons (by rw [List.take_length]; rfl) (subB_cons (by rw [List.take_length]; rfl) (subB_cons rfl (subB_nil _)))))))) ?_
  refine Run.val (lt rfl) (Y.loadAgg rfl Chosen_ag28 (Kn.at 1 rfl) rfl) ?_
  refine Run.val (lt rfl) (Y.move rfl) ?_
  refine Run.val (lt rfl) (Y.move rfl) ?_
  refine Run.val (lt rfl) (Y.move rfl) ?_
  refine Run.call0 (l := [.tmp 94, .tmp 95, .tmp 96, .tmp 97]) rfl rfl rfl (lt rfl) rgives_h ?_
  refine Run.val (lt rfl) (Y.assign rfl) ?_
  refine Run.to_end ?_
  refine Ex.go ?_
  refine Tr.seq ?_
  refine Tr.region ?_
  refine Run.val (lt rfl) (Y.move rfl) ?_
  refine Run.val (lt rfl) (Y.move rfl) ?_
  refine Run.val (lt rfl) (Y.lenSl rfl Chosen_es32) ?_
  refine Run.val (lt rfl) (Y.move rfl) ?_
  refine Run.val (lt rfl) (Y.subN ((((Le.rsel id l).length - (Fl.gives id (((Le.sel 0 l).length : Nat) : Int) (((Le.sel 1 l).length : Nat) : Int) y s).toNat : Nat)) : Int) rfl rfl (by omega) (by omega)) ?_
  refine Run.val (lt rfl) (Y.slice (l := (Le.rsel id l).length - (Fl.gives id (((Le.sel 0 l).length : Nat) : Int) (((Le.sel 1 l).length : Nat) : Int) y s).toNat) (m := (Le.rsel id l).length) rfl Chosen_es32 rfl rfl (by omega) (by omega)) ?_
  refine Run.val (lt rfl) (Y.assign rfl) ?_
  refine Run.to_end ?_
  refine Ex.go ?_
  refine Tr.to_ret ?_
  refine Ex.keepTo (H' := [q1]) [0] rfl ?_
  refine Ex.show (fun V2 hle2 hsh2 => ?_)
  exact Ex.ret1 rfl rfl  ⟨hle2, rfl, Le.rchosen_rd (Rd.cut nU_enc.len (how.show hsh2) _ _ (by omega) (Nat.le_refl _)) rfl hl⟩

theorem same17 {V : Vw} {l m : List Int} {p p2 : Option Addr} {c c2 : Nat} (hv : Rd V [] 1 (.slice p l.length c) l.length (l.flatMap nU)) (hw : Rd V [] 1 (.slice p2 m.length c2) m.length (m.flatMap nU)) (hlm : l.length ≤ 1000000000)  : Does Try.prog 17 [.slice p l.length c, .slice p2 m.length c2] V [] (Pv (.bool (l == m)) V []) := by
 refine Does.intro Try.func17 rfl rfl (le rfl) (fun B => ?_)
 refine Tr.seq ?_
 refine Tr.region ?_
 refine Run.val (lt rfl) (Y.assign rfl) ?_
 refine Run.to_end ?_
 refine Ex.go ?_
 refine Tr.seq ?_
 refine Tr.seq ?_
 refine Tr.region ?_
 refine Run.val (lt rfl) (Y.move rfl) ?_
 refine Run.val (lt rfl) (Y.lenSl rfl Chosen_es32) ?_
 refine Run.val (lt rfl) (Y.move rfl) ?_
 refine Run.val (lt rfl) (Y.lenSl rfl Chosen_es32) ?_
 refine Run.val (lt rfl) (Y.int rfl rfl rfl) ?_
 refine Run.to_end ?_
 refine Ex.go ?_
 rcases Bool.eq_false_or_eq_true (((l.length : Nat) : Int) != ((m.length : Nat) : Int)) with h1 | h1
 ·have g1 := h1
  try simp only [kb] at g1
  refine Tr.cond_t rfl h1 ?_
  refine Tr.seq ?_
  refine Tr.region ?_
  refine Run.val (lt rfl) (Y.assign rfl) ?_
  refine Run.to_end ?_
  refine Ex.go ?_
  refine Tr.to_ret ?_
  refine Ex.ret_then ?_
  exact Ex.ret1 rfl rfl  ⟨congrArg Value.bool (show (l == m) = false by first | exact len_ne (by omega) | exact getD_ne (i := i1) (d := 0) (by omega)).symm, rfl, rfl⟩
 ·have g1 := h1
  try simp only [kb] at g1
  refine Tr.cond_f rfl h1 ?_
  refine Tr.to_end ?_
  refine Ex.go ?_
  refine Tr.seq ?_
  refine Tr.seq ?_
  refine Tr.region ?_
  refine Run.val (lt rfl) (Y.assign rfl) ?_
  refine Run.to_end ?_
  refine Ex.go ?_
  refine Tr.block ?_
  refine Tr.loop (X := Nat) (fun z0 => V) (fun z0 => []) (fun z0 => [(0, .slice p l.length c), (1, .slice p2 m.length c2), (5, .int .i64 (z0 : Int))]) (fun z0 => z0 ≤ l.length ∧ ∀ j, j < z0 → l.getD j 0 = m.getD j 0) (fun z0 => l.length - z0) (0 : Nat) ⟨Nat.zero_le _, fun j hj => absurd hj (Nat.not_lt_zero j)⟩ (fun a w i => ⟨i.1.sub (subB_cons (by first | rfl | exact congrArg (fun z => some (Value.int _ z)) (by omega)) (subB_cons (by first | rfl | exact congrArg (fun z => some (Value.int _ z)) (by omega)) (subB_cons (by first | rfl | exact congrArg (fun z => some (Value.int _ z)) (by omega)) (subB_nil _)))), i.2⟩) ?_
  rintro i1 ⟨hi, he⟩
  refine Tr.seq ?_
  refine Tr.seq ?_
  refine Tr.region ?_
  refine Run.val (lt rfl) (Y.move rfl) ?_
  refine Run.val (lt rfl) (Y.move rfl) ?_
  refine Run.val (lt rfl) (Y.lenSl rfl Chosen_es32) ?_
  refine Run.val (lt rfl) (Y.int rfl rfl rfl) ?_
  refine Run.to_end ?_
  refine Ex.go ?_
  rcases Bool.eq_false_or_eq_true (decide ((i1 : Int) < ((l.length : Nat) : Int))) with h2 | h2
  ·have g2 := h2
   try simp only [kb] at g2
   refine Tr.cond_t rfl h2 ?_
   refine Tr.to_end ?_
   refine Ex.go ?_
   refine Tr.seq ?_
   refine Tr.block ?_
   refine Tr.seq ?_
   refine Tr.quiet Chosen_mo (by kernel_rfl) ?_
   refine RunQ.val (lt rfl) (Y.move rfl) ?_
   refine RunQ.val (lt rfl) (Y.move rfl) ?_
   refine RunQ.val (lt rfl) (Y.idxR i1 rfl rfl Chosen_es32 hv.of_nil (by omega) (by omega)) ?_
   refine RunQ.val (lt rfl) (Y.ldR rfl Chosen_ts37 hv.of_nil (flatm_at0 nU_enc.len (by omega) 0 (by decide) rfl)) ?_
   refine RunQ.val (lt rfl) (Y.move rfl) ?_
   refine RunQ.val (lt rfl) (Y.move rfl) ?_
   refine RunQ.val (lt rfl) (Y.idxR i1 rfl rfl Chosen_es32 hw.of_nil (by omega) (by omega)) ?_
   refine RunQ.val (lt rfl) (Y.ldR rfl Chosen_ts37 hw.of_nil (flatm_at0 nU_enc.len (by omega) 0 (by decide) rfl)) ?_
   refine RunQ.val (lt rfl) (Y.int rfl rfl rfl) ?_
   refine RunQ.to_end ?_
   refine Ex.go ?_
   rcases Bool.eq_false_or_eq_true ((l.getD i1 0) != (m.getD i1 0)) with h3 | h3
   ·have g3 := h3
    try simp only [kb] at g3
    refine Tr.cond_t rfl h3 ?_
    refine Tr.seq ?_
    refine Tr.region ?_
    refine Run.val (lt rfl) (Y.assign rfl) ?_
    refine Run.to_end ?_
    refine Ex.go ?_
    refine Tr.to_ret ?_
    refine Ex.ret_block ?_
    refine Ex.ret_then ?_
    refine Ex.ret_then ?_
    refine Ex.ret_block ?_
    refine Ex.ret_then ?_
    exact Ex.ret1 rfl rfl  ⟨congrArg Value.bool (show (l == m) = false by first | exact len_ne (by omega) | exact getD_ne (i := i1) (d := 0) (by omega)).symm, rfl, rfl⟩
   ·have g3 := h3
    try simp only [kb] at g3
    refine Tr.cond_f rfl h3 ?_
    refine Tr.to_end ?_
    refine Ex.end_block ?_
    refine Ex.go ?_
    refine Tr.region ?_
    refine Run.val (lt rfl) (Y.move rfl) ?_
    refine Run.val (lt rfl) (Y.add rfl rfl (by omega)) ?_
    refine Run.val (lt rfl) (Y.assign rfl) ?_
    refine Run.to_end ?_
    exact Ex.round (i1 + 1 : Nat) ⟨by omega, upto_succ he (by omega)⟩ (by omega) rfl rfl (subB_cons (by first | rfl | exact congrArg (fun z => some (Value.int _ z)) (by omega)) (subB_cons (by first | rfl | exact congrArg (fun z => some (Value.int _ z)) (by omega)) (subB_cons (by first | rfl | exact congrArg (fun z => some (Value.int _ z)) (by omega)) (subB_nil _))))
  ·have g2 := h2
   try simp only [kb] at g2
   refine Tr.cond_f rfl h2 ?_
   refine Tr.to_exit ?_
   refine Ex.exit_then ?_
   refine Ex.exit_then ?_
   refine Ex.exit_in ?_
   refine Ex.go ?_
   refine Tr.seq ?_
   refine Tr.region ?_
   refine Run.val (lt rfl) (Y.assign rfl) ?_
   refine Run.to_end ?_
   refine Ex.go ?_
   refine Tr.to_ret ?_
   exact Ex.ret1 rfl rfl  ⟨congrArg Value.bool (getD_eq (d := 0) (by omega) (fun j hj => he j (by omega))).symm, rfl, rfl⟩

theorem same17_h {V : Vw} {H : Hp} {l m : List Int} {v w : Value} (hv : Rd V [] 1 v l.length (l.flatMap nU)) (hw : Rd V [] 1 w m.length (m.flatMap nU)) (hlm : l.length ≤ 1000000000) : Does Try.prog 17 [v, w] V H (Pv (.bool (l == m)) V H) := by
  obtain ⟨p, c, rfl, _⟩ := hv.form
  obtain ⟨p2, c2, rfl, _⟩ := hw.form
  exact (same17 hv hw hlm).frame

theorem chooses_c0 {V : Vw} {l : List Le} {p : Option Addr} {c : Nat} (hv : Rd V [] 8 (.slice p l.length c) l.length (l.map Le.cells).flatten) {id : Int} {y s : Nat}  : Does Try.prog 3 [.agg #[.float .f64 y, .float .f64 s], .int .i64 id, .slice p l.length c] V [] (fun v _ _ => v = .bool true) := by
 refine Does.intro Try.func3 rfl rfl (le rfl) (fun B => ?_)
 refine Tr.seq ?_
 refine Tr.region ?_
 refine Run.box rfl (lt rfl) (fun b1 => ?_)
 refine Run.val (lt rfl) (Y.assign rfl) ?_
 refine Run.to_end ?_
 refine Ex.go ?_
 refine Tr.seq ?_
 refine Tr.region ?_
 refine Run.call0 (l := []) rfl rfl rfl (lt rfl) awake17_h ?_
 refine Run.val (lt rfl) (Y.assign rfl) ?_
 refine Run.to_end ?_
 refine Ex.go ?_
 refine Tr.seq ?_
 refine Tr.seq ?_
 refine Tr.region ?_
 refine Run.val (lt rfl) (Y.move rfl) ?_
 refine Run.val (lt rfl) (Y.not rfl) ?_
 refine Run.val (lt rfl) (Y.move rfl) ?_
 refine Run.on rfl rfl rfl rfl ?_
 refine Run.val (lt rfl) (Y.move rfl) ?_
 refine Run.on rfl rfl rfl rfl ?_
 refine Run.val (lt rfl) (Y.lenSl rfl Chosen_es24) ?_
 refine Run.on rfl rfl rfl rfl ?_
 refine Run.val (lt rfl) (Y.int rfl rfl rfl) ?_
 refine Run.val (lt rfl) (Y.pick_f rfl rfl rfl) ?_
 refine Run.to_end ?_
 refine Ex.go ?_
 rcases Bool.eq_false_or_eq_true (decide (((l.length : Nat) : Int) > 300)) with h2 | h2
 ·have g2 := h2
  try simp only [kb] at g2
  refine Tr.cond_t rfl h2 ?_
  refine Tr.seq ?_
  refine Tr.region ?_
  refine Run.val (lt rfl) (Y.move rfl) ?_
  refine Run.val (lt rfl) (Y.assign rfl) ?_
  refine Run.to_end ?_
  refine Ex.go ?_
  refine Tr.to_ret ?_
  refine Ex.ret_then ?_
  refine Ex.keep [] ?_
  exact Ex.ret1 rfl rfl  rfl
 ·have g2 := h2
  try simp only [kb] at g2
  refine Tr.cond_f rfl h2 ?_
  refine Tr.to_end ?_
  refine Ex.go ?_
  refine Tr.seq ?_
  refine Tr.region ?_
  refine Run.val (lt rfl) (Y.loadAgg rfl Chosen_ag23 (Kn.at 0 rfl) rfl) ?_
  refine Run.call0 (l := [.tmp 20]) rfl rfl rfl (lt rfl) plans_h ?_
  refine Run.val (lt rfl) (Y.move rfl) ?_
  refine Run.val (lt rfl) (Y.extract rfl rfl) ?_
  refine Run.val (lt rfl) (Y.extract rfl rfl) ?_
  refine Run.alloc Chosen_zo27 (lt rfl) (fun b3 => ?_)
  refine Run.alloc Chosen_zo28 (lt rfl) (fun b4 => ?_)
  refine Run.store (s := [(b3, .cells #[.float .f64 y, .float .f64 s] 27 (0, 0))]) rfl rfl Chosen_sz27 (i := 1) rfl rfl (le rfl) rfl rfl ?_
  refine Run.store (s := [(b4, .cells #[.float .f64 y, .float .f64 s] 28 (0, 0))]) rfl rfl Chosen_sz28 (i := 0) rfl rfl (le rfl) rfl rfl ?_
  refine Run.to_end ?_
  refine Ex.go ?_
  refine Tr.seq ?_
  refine Tr.anyD [] Chosen_mo ?_
  refine RunD.pure (i := 1) rfl (by kernel_rfl) (by kernel_rfl) (by kernel_rfl) (fun _ _ _ h => h) (lt rfl) KnAll.nil (fun _ => (Y.move rfl)) ?_
  refine RunD.pure (i := 2) rfl (by kernel_rfl) (by kernel_rfl) (by kernel_rfl) (fun _ _ _ h => h) (lt rfl) KnAll.nil (fun _ => (Y.move rfl)) ?_
  refine RunD.pure (i := 5) rfl (by kernel_rfl) (by kernel_rfl) (by kernel_rfl) (fun _ _ _ h => h) (lt rfl) KnAll.nil (fun _ => (Y.move rfl)) ?_
  refine RunD.pure (i := 6) rfl (by kernel_rfl) (by kernel_rfl) (by kernel_rfl) (fun _ _ _ h => h) (lt rfl) KnAll.nil (fun _ => (Y.move rfl)) ?_
  refine RunD.two (i := 0) (j := 4) (by kernel_rfl) rfl rfl  ?_ ?_ 
  ·refine Run.val (lt rfl) (Y.loadAgg rfl Chosen_ag27 (Kn.at 1 rfl) rfl) ?_
   refine Run.to_end ?_
   refine Ex.anyD KnAll.nil ?_
   refine RunD.two (i := 3) (j := 4) (by kernel_rfl) rfl rfl  ?_ ?_ 
   ·refine Run.call [] (l := [.tmp 24, .tmp 25, .tmp 26]) rfl rfl rfl (lt rfl) (chosen_c hv (by omega)) (fun va Va hHa hlea hR => ?_)
    obtain ⟨_, rfl, hra⟩ := hR
    refine Run.heapTo (H' := [[(b4, .cells #[.float .f64 y, .float .f64 s] 28 (0, 0))], [(b3, .cells #[.float .f64 y, .float .f64 s] 27 (0, 0))], [(b1, .cells #[.float .f64 y, .float .f64 s] 23 (0, 0))]]) rfl ?_
    refine Run.to_end ?_
    refine Ex.anyD KnAll.nil ?_
    refine RunD.one (i := 4) (by kernel_rfl) rfl  ?_ 
    refine Run.val (lt rfl) (Y.loadAgg rfl Chosen_ag28 (Kn.at 0 rfl) rfl) ?_
    refine Run.to_end ?_
    refine Ex.anyD KnAll.nil ?_
    refine RunD.one (i := 7) (by kernel_rfl) rfl  ?_ 
    refine Run.call [] (l := [.tmp 28, .tmp 29, .tmp 30]) rfl rfl rfl (lt rfl) (rchosen_c (hv.le hlea) (by omega)) (fun vb Vb hHb hleb hR => ?_)
    obtain ⟨_, rfl, hrb⟩ := hR
    refine Run.heapTo (H' := [[(b4, .cells #[.float .f64 y, .float .f64 s] 28 (0, 0))], [(b3, .cells #[.float .f64 y, .float .f64 s] 27 (0, 0))], [(b1, .cells #[.float .f64 y, .float .f64 s] 23 (0, 0))]]) rfl ?_
    refine Run.to_end ?_
    refine Ex.anyD KnAll.nil ?_
    refine RunD.one (i := 8) (by kernel_rfl) rfl  ?_ 
    refine Run.call0 (l := [.tmp 27, .tmp 31]) rfl rfl rfl (lt rfl) (same17_h (hra.le hleb) hrb (by have := Le.chosen_len id l y s; omega)) ?_
    refine Run.to_end ?_
    refine Ex.anyD KnAll.nil ?_
    refine RunD.pure (i := 9) rfl (by kernel_rfl) (by kernel_rfl) (by kernel_rfl) (fun _ _ _ h => h) (lt rfl) KnAll.nil (fun _ => (Y.assign rfl)) ?_
    refine RunD.done (by kernel_rfl) ?_
    refine Ex.go ?_
    refine Tr.to_ret ?_
    refine Ex.keep [] ?_
    exact Ex.ret1 rfl rfl  (congrArg Value.bool (beq_self_eq_true _))
   ·refine Run.val (lt rfl) (Y.loadAgg rfl Chosen_ag28 (Kn.at 0 rfl) rfl) ?_
    refine Run.to_end ?_
    refine Ex.anyD KnAll.nil ?_
    refine RunD.one (i := 3) (by kernel_rfl) rfl  ?_ 
    refine Run.call [] (l := [.tmp 24, .tmp 25, .tmp 26]) rfl rfl rfl (lt rfl) (chosen_c hv (by omega)) (fun va Va hHa hlea hR => ?_)
    obtain ⟨_, rfl, hra⟩ := hR
    refine Run.heapTo (H' := [[(b4, .cells #[.float .f64 y, .float .f64 s] 28 (0, 0))], [(b3, .cells #[.float .f64 y, .float .f64 s] 27 (0, 0))], [(b1, .cells #[.float .f64 y, .float .f64 s] 23 (0, 0))]]) rfl ?_
    refine Run.to_end ?_
    refine Ex.anyD KnAll.nil ?_
    refine RunD.one (i := 7) (by kernel_rfl) rfl  ?_ 
    refine Run.call [] (l := [.tmp 28, .tmp 29, .tmp 30]) rfl rfl rfl (lt rfl) (rchosen_c (hv.le hlea) (by omega)) (fun vb Vb hHb hleb hR => ?_)
    obtain ⟨_, rfl, hrb⟩ := hR
    refine Run.heapTo (H' := [[(b4, .cells #[.float .f64 y, .float .f64 s] 28 (0, 0))], [(b3, .cells #[.float .f64 y, .float .f64 s] 27 (0, 0))], [(b1, .cells #[.float .f64 y, .float .f64 s] 23 (0, 0))]]) rfl ?_
    refine Run.to_end ?_
    refine Ex.anyD KnAll.nil ?_
    refine RunD.one (i := 8) (by kernel_rfl) rfl  ?_ 
    refine Run.call0 (l := [.tmp 27, .tmp 31]) rfl rfl rfl (lt rfl) (same17_h (hra.le hleb) hrb (by have := Le.chosen_len id l y s; omega)) ?_
    refine Run.to_end ?_
    refine Ex.anyD KnAll.nil ?_
    refine RunD.pure (i := 9) rfl (by kernel_rfl) (by kernel_rfl) (by kernel_rfl) (fun _ _ _ h => h) (lt rfl) KnAll.nil (fun _ => (Y.assign rfl)) ?_
    refine RunD.done (by kernel_rfl) ?_
    refine Ex.go ?_
    refine Tr.to_ret ?_
    refine Ex.keep [] ?_
    exact Ex.ret1 rfl rfl  (congrArg Value.bool (beq_self_eq_true _))
  ·refine Run.val (lt rfl) (Y.loadAgg rfl Chosen_ag28 (Kn.at 0 rfl) rfl) ?_
   refine Run.to_end ?_
   refine Ex.anyD KnAll.nil ?_
   refine RunD.one (i := 0) (by kernel_rfl) rfl  ?_ 
   refine Run.val (lt rfl) (Y.loadAgg rfl Chosen_ag27 (Kn.at 1 rfl) rfl) ?_
   refine Run.to_end ?_
   refine Ex.anyD KnAll.nil ?_
   refine RunD.one (i := 3) (by kernel_rfl) rfl  ?_ 
   refine Run.call [] (l := [.tmp 24, .tmp 25, .tmp 26]) rfl rfl rfl (lt rfl) (chosen_c hv (by omega)) (fun va Va hHa hlea hR => ?_)
   obtain ⟨_, rfl, hra⟩ := hR
   refine Run.heapTo (H' := [[(b4, .cells #[.float .f64 y, .float .f64 s] 28 (0, 0))], [(b3, .cells #[.float .f64 y, .float .f64 s] 27 (0, 0))], [(b1, .cells #[.float .f64 y, .float .f64 s] 23 (0, 0))]]) rfl ?_
   refine Run.to_end ?_
   refine Ex.anyD KnAll.nil ?_
   refine RunD.one (i := 7) (by kernel_rfl) rfl  ?_ 
   refine Run.call [] (l := [.tmp 28, .tmp 29, .tmp 30]) rfl rfl rfl (lt rfl) (rchosen_c (hv.le hlea) (by omega)) (fun vb Vb hHb hleb hR => ?_)
   obtain ⟨_, rfl, hrb⟩ := hR
   refine Run.heapTo (H' := [[(b4, .cells #[.float .f64 y, .float .f64 s] 28 (0, 0))], [(b3, .cells #[.float .f64 y, .float .f64 s] 27 (0, 0))], [(b1, .cells #[.float .f64 y, .float .f64 s] 23 (0, 0))]]) rfl ?_
   refine Run.to_end ?_
   refine Ex.anyD KnAll.nil ?_
   refine RunD.one (i := 8) (by kernel_rfl) rfl  ?_ 
   refine Run.call0 (l := [.tmp 27, .tmp 31]) rfl rfl rfl (lt rfl) (same17_h (hra.le hleb) hrb (by have := Le.chosen_len id l y s; omega)) ?_
   refine Run.to_end ?_
   refine Ex.anyD KnAll.nil ?_
   refine RunD.pure (i := 9) rfl (by kernel_rfl) (by kernel_rfl) (by kernel_rfl) (fun _ _ _ h => h) (lt rfl) KnAll.nil (fun _ => (Y.assign rfl)) ?_
   refine RunD.done (by kernel_rfl) ?_
   refine Ex.go ?_
   refine Tr.to_ret ?_
   refine Ex.keep [] ?_
   exact Ex.ret1 rfl rfl  (congrArg Value.bool (beq_self_eq_true _))

theorem chooses_c {V : Vw} {id : Int} {y s : Nat} {l : List Le} {v0 : Value} (hv : Rd V [] 8 v0 l.length (l.map Le.cells).flatten) : Does Try.prog 3 [.agg #[.float .f64 y, .float .f64 s], .int .i64 id, v0] V [] (fun v _ _ => v = .bool true) := by
  obtain ⟨p, c, rfl, _⟩ := hv.form
  exact chooses_c0 hv
end Go.Proofs.Ytjfacdepgkdoeaa
