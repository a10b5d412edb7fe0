/- The laws AddrTurned and AddrIndex, walked.
Conditions: as each theorem names them. -/
import Derived.Test.YtjfacdepgkdoeaaProg
import Derived.Test.YtjfacdepgkdoeaaRB
import Derived.Test.YtjfacdepgkdoeaaAddr3
set_option linter.unusedSimpArgs false
set_option linter.unusedVariables false
set_option maxRecDepth 4000
namespace Go.Proofs.Ytjfacdepgkdoeaa
open Go Go.K
attribute [local irreducible] Code.wp wpList Calls wpQuiet
theorem Law01_zo53 : zeroOf Try.prog 53 = some (.agg #[.int .u32 0, .int .u32 0]) := by kernel_rfl
theorem Law01_pl53 : placesS Try.prog 53 = some [(0, 1), (1, 1)] := by kernel_rfl
theorem Law01_es51 : elemS Try.prog 51 = some (53, 2) := by kernel_rfl
theorem Law01_fo53_0 : fieldOff Try.prog 53 0 = some 0 := by kernel_rfl
theorem Law01_ts37 : scal Try.prog 37 = true := by kernel_rfl
theorem Law01_fo53_1 : fieldOff Try.prog 53 1 = some 1 := by kernel_rfl
theorem Law01_mo : Try.prog.follows .mixedOrders = true := by kernel_rfl
theorem Law01_ag53 : aggsz Try.prog 53 = some 2 := by kernel_rfl
theorem Law01_tgs53 : tags Try.prog 53 = some [(0, .u32), (0, .u32)] := by kernel_rfl
theorem Law01_zi53 : zeroInfo Try.prog 53 = some (2, 8, .agg #[.int .u32 0, .int .u32 0]) := by kernel_rfl
theorem Law01_tg4 : tagOf Try.prog 4 = some (1, .i64) := by kernel_rfl

theorem awake01_c  {V : Vw} : Does Try.prog 32 [] V [] (fun v V' H' => V.le V' ∧ H' = [] ∧ v = .bool true) := by
 refine Does.intro Try.func32 rfl rfl (le rfl) (fun B => ?_)
 refine Tr.seq ?_
 refine Tr.region ?_
 refine Run.val (lt rfl) (Y.assign rfl) ?_
 refine Run.to_end ?_
 refine Ex.go ?_
 refine Tr.seq ?_
 refine Tr.region ?_
 refine Run.val (lt rfl) (Y.buildS (l := [(0, .const (.int .u32 5)), (1, .const (.int .u32 7))]) Law01_zo53 Law01_pl53 rfl rfl) ?_
 refine Run.val (lt rfl) (Y.buildS (l := [(0, .const (.int .u32 1)), (1, .const (.int .u32 4))]) Law01_zo53 Law01_pl53 rfl rfl) ?_
 refine Run.buildSlice (l := [(0, .tmp 4), (1, .tmp 5)]) (r := [.int .u32 5, .int .u32 7, .int .u32 1, .int .u32 4]) Law01_es51 Law01_zo53 rfl (by decide) rfl rfl (by decide) (lt rfl) (fun b1 => ?_)
 have hsh := (Ow.lit (e := 53) (k := 2) (b := b1) (n := 2) (cur := #[.int .u32 5, .int .u32 7, .int .u32 1, .int .u32 4]) rfl (by decide)).shows
 refine Run.keepTo (H' := [[(b1, .cells #[.int .u32 5, .int .u32 7, .int .u32 1, .int .u32 4] 53 (0, 0))]]) [0] rfl ?_
 refine Run.show (fun V9 hle9 hsh9 => ?_)
 have hv0 : Rd V9 [] 2 (.slice (some ⟨b1, 0, none⟩) 2 2) Rg.l0.length (Rg.l0.flatMap Rg.cells) := hsh _ hsh9
 refine Run.call [] (l := [.tmp 6]) rfl rfl rfl (lt rfl) (pool_h (l := Rg.l0) hv0 (by decide) Rg.l0_ok) (fun va Va Ha hlea hR => ?_)
 rw [Rg.pool0] at hR; dsimp only at hR
 obtain ⟨_, rfl, wa, rfl, hra⟩ := hR; obtain ⟨pa, ca, rfl, _⟩ := hra.form
 have e1 : Rg.l1.length = 1 := rfl
 refine Run.heapTo (H' := []) rfl ?_
 refine Run.heapTo (H' := []) rfl ?_
 refine Run.val (lt rfl) (Y.move rfl) ?_
 refine Run.val (lt rfl) (Y.extract rfl rfl) ?_
 refine Run.val (lt rfl) (Y.extract rfl rfl) ?_
 refine Run.val (lt rfl) (Y.assign rfl) ?_
 refine Run.val (lt rfl) (Y.assign rfl) ?_
 refine Run.to_end ?_
 refine Ex.go ?_
 refine Tr.seq ?_
 refine Tr.region ?_
 refine Run.val (lt rfl) (Y.move rfl) ?_
 refine Run.val (lt rfl) (Y.int (r := .bool true) rfl rfl rfl) ?_
 refine Run.val (lt rfl) (Y.move rfl) ?_
 refine Run.on rfl rfl rfl rfl ?_
 refine Run.val (lt rfl) (Y.move rfl) ?_
 refine Run.on rfl rfl rfl rfl ?_
 refine Run.val (lt rfl) (Y.lenSl rfl Law01_es51) ?_
 refine Run.on rfl rfl rfl rfl ?_
 refine Run.val (lt rfl) (Y.int rfl rfl rfl) ?_
 refine Run.val (lt rfl) (Y.pick_t rfl rfl rfl) ?_
 refine Run.val (lt rfl) (Y.move rfl) ?_
 refine Run.on rfl rfl rfl (by rfl) ?_
 refine Run.val (lt rfl) (Y.move rfl) ?_
 refine Run.on rfl rfl rfl (by rfl) ?_
 refine Run.val (lt rfl) (Y.idxR 0 rfl rfl Law01_es51 hra.of_nil (by omega) (by omega)) ?_
 refine Run.on rfl rfl rfl (by rfl) ?_
 refine Run.val (lt rfl) (Y.fieldR rfl Law01_fo53_0 hra.of_nil (by omega)) ?_
 refine Run.on rfl rfl rfl (by rfl) ?_
 refine Run.val (lt rfl) (Y.ldR rfl Law01_ts37 hra.of_nil (flatm_at Rg.len (by omega) Rg.dflt (by decide) rfl)) ?_
 refine Run.on rfl rfl rfl (by rfl) ?_
 refine Run.val (lt rfl) (Y.int rfl rfl rfl) ?_
 refine Run.val (lt rfl) (Y.pick_t rfl (by rfl) rfl) ?_
 refine Run.val (lt rfl) (Y.move rfl) ?_
 refine Run.on rfl rfl rfl (by rfl) ?_
 refine Run.val (lt rfl) (Y.move rfl) ?_
 refine Run.on rfl rfl rfl (by rfl) ?_
 refine Run.val (lt rfl) (Y.idxR 0 rfl rfl Law01_es51 hra.of_nil (by omega) (by omega)) ?_
 refine Run.on rfl rfl rfl (by rfl) ?_
 refine Run.val (lt rfl) (Y.fieldR rfl Law01_fo53_1 hra.of_nil (by omega)) ?_
 refine Run.on rfl rfl rfl (by rfl) ?_
 refine Run.val (lt rfl) (Y.ldR rfl Law01_ts37 hra.of_nil (flatm_at Rg.len (by omega) Rg.dflt (by decide) rfl)) ?_
 refine Run.on rfl rfl rfl (by rfl) ?_
 refine Run.val (lt rfl) (Y.int rfl rfl rfl) ?_
 refine Run.val (lt rfl) (Y.pick_t rfl (by rfl) rfl) ?_
 refine Run.val (lt rfl) (Y.move rfl) ?_
 refine Run.on rfl rfl rfl (by rfl) ?_
 refine Run.val (lt rfl) (Y.move rfl) ?_
 refine Run.on rfl rfl rfl (by rfl) ?_
 refine Run.call0 (l := [.tmp 32, .const (.int .u32 3)]) rfl rfl rfl (lt rfl) (index_h (l := Rg.l1) hra (by decide) Rg.l1_ok) ?_
 refine Run.on rfl rfl rfl (by rfl) ?_
 refine Run.val (lt rfl) (Y.int rfl rfl rfl) ?_
 refine Run.val (lt rfl) (Y.pick_t rfl (by rfl) rfl) ?_
 refine Run.val (lt rfl) (Y.move rfl) ?_
 refine Run.on rfl rfl rfl (by rw [Rg.idx1]; rfl) ?_
 refine Run.call0 (l := [.const (.int .u32 3232235777)]) rfl rfl rfl (lt rfl) (text_h (m := 3232235777) (by decide)) ?_
 refine Run.on rfl rfl rfl (by rw [Rg.idx1]; rfl) ?_
 refine Run.val (lt rfl) (Y.eqStr rfl rfl) ?_
 refine Run.val (lt rfl) (Y.pick_t rfl (by rw [Rg.idx1]; rfl) rfl) ?_
 refine Run.val (lt rfl) (Y.assign rfl) ?_
 refine Run.to_end ?_
 refine Ex.go ?_
 refine Tr.to_ret ?_
 refine Ex.keep [] ?_
 exact Ex.ret1 rfl rfl  ⟨Vw.le_trans hle9 hlea, rfl, congrArg Value.bool txt0⟩

theorem same01_c {V : Vw} {H : Hp} {l : List Rg} {p p2 : Option Addr} {c c2 : Nat} (hv : Rd V H 2 (.slice p l.length c) l.length (l.flatMap Rg.cells)) (hw : Rd V H 2 (.slice p2 l.length c2) l.length (l.flatMap Rg.cells)) (hlm : l.length ≤ 1000000000)  : Does Try.prog 34 [.slice p l.length c, .slice p2 l.length c2] V H (Pv (.bool true) V H) := by
 refine Does.intro Try.func34 rfl rfl (le rfl) (fun B => ?_)
 refine Tr.seq ?_
 refine Tr.region ?_
 refine Run.val (lt rfl) (Y.assign rfl) ?_
 refine Run.to_end ?_
 refine Ex.go ?_
 refine Tr.seq ?_
 refine Tr.seq ?_
 refine Tr.region ?_
 refine Run.val (lt rfl) (Y.move rfl) ?_
 refine Run.val (lt rfl) (Y.lenSl rfl Law01_es51) ?_
 refine Run.val (lt rfl) (Y.move rfl) ?_
 refine Run.val (lt rfl) (Y.lenSl rfl Law01_es51) ?_
 refine Run.val (lt rfl) (Y.neI_f rfl rfl) ?_
 refine Run.to_end ?_
 refine Ex.go ?_
 refine Tr.cond_f rfl rfl ?_
 refine Tr.to_end ?_
 refine Ex.go ?_
 refine Tr.seq ?_
 refine Tr.seq ?_
 refine Tr.region ?_
 refine Run.val (lt rfl) (Y.assign rfl) ?_
 refine Run.to_end ?_
 refine Ex.go ?_
 refine Tr.block ?_
 refine Tr.loop (X := Nat) (fun z0 => V) (fun z0 => H) (fun z0 => [(0, .slice p l.length c), (1, .slice p2 l.length c2), (5, .int .i64 (z0 : Int))]) (fun z0 => z0 ≤ l.length) (fun z0 => l.length - z0) (0 : Nat) (Nat.zero_le _) (fun a w i => ⟨i.1.sub (subB_cons (by first | rfl | exact congrArg (fun z => some (Value.int _ z)) (by omega)) (subB_cons (by first | rfl | exact congrArg (fun z => some (Value.int _ z)) (by omega)) (subB_cons (by first | rfl | exact congrArg (fun z => some (Value.int _ z)) (by omega)) (subB_nil _)))), i.2⟩) ?_
 rintro i1 hi
 refine Tr.seq ?_
 refine Tr.seq ?_
 refine Tr.region ?_
 refine Run.val (lt rfl) (Y.move rfl) ?_
 refine Run.val (lt rfl) (Y.move rfl) ?_
 refine Run.val (lt rfl) (Y.lenSl rfl Law01_es51) ?_
 refine Run.val (lt rfl) (Y.int rfl rfl rfl) ?_
 refine Run.to_end ?_
 refine Ex.go ?_
 rcases Bool.eq_false_or_eq_true (decide ((i1 : Int) < ((l.length : Nat) : Int))) with h1 | h1
 ·have g1 := h1
  try simp only [kb] at g1
  refine Tr.cond_t rfl h1 ?_
  refine Tr.to_end ?_
  refine Ex.go ?_
  refine Tr.seq ?_
  refine Tr.block ?_
  refine Tr.seq ?_
  refine Tr.quiet Law01_mo (by kernel_rfl) ?_
  refine RunQ.val (lt rfl) (Y.move rfl) ?_
  refine RunQ.val (lt rfl) (Y.move rfl) ?_
  refine RunQ.val (lt rfl) (Y.idxR i1 rfl rfl Law01_es51 hv (by omega) (by omega)) ?_
  refine RunQ.val (lt rfl) (Y.ldRA (vs := [.int .u32 ((l.getD i1 Rg.dflt).low), .int .u32 ((l.getD i1 Rg.dflt).high)]) rfl Law01_ag53 hv rfl (by decide) (fun o ho => flatm_atA Rg.len (by omega) Rg.dflt o ho)) ?_
  refine RunQ.val (lt rfl) (Y.move rfl) ?_
  refine RunQ.val (lt rfl) (Y.move rfl) ?_
  refine RunQ.val (lt rfl) (Y.idxR i1 rfl rfl Law01_es51 hw (by omega) (by omega)) ?_
  refine RunQ.val (lt rfl) (Y.ldRA (vs := [.int .u32 ((l.getD i1 Rg.dflt).low), .int .u32 ((l.getD i1 Rg.dflt).high)]) rfl Law01_ag53 hw rfl (by decide) (fun o ho => flatm_atA Rg.len (by omega) Rg.dflt o ho)) ?_
  refine RunQ.val (lt rfl) (Y.neS_self rfl rfl Law01_tgs53 rfl) ?_
  refine RunQ.to_end ?_
  refine Ex.go ?_
  refine Tr.cond_f rfl rfl ?_
  refine Tr.to_end ?_
  refine Ex.end_block ?_
  refine Ex.go ?_
  refine Tr.region ?_
  refine Run.val (lt rfl) (Y.move rfl) ?_
  refine Run.val (lt rfl) (Y.add rfl rfl (by omega)) ?_
  refine Run.val (lt rfl) (Y.assign rfl) ?_
  refine Run.to_end ?_
  exact Ex.round (i1 + 1 : Nat) (by omega) (by omega) rfl rfl (subB_cons (by first | rfl | exact congrArg (fun z => some (Value.int _ z)) (by omega)) (subB_cons (by first | rfl | exact congrArg (fun z => some (Value.int _ z)) (by omega)) (subB_cons (by first | rfl | exact congrArg (fun z => some (Value.int _ z)) (by omega)) (subB_nil _))))
 ·have g1 := h1
  try simp only [kb] at g1
  refine Tr.cond_f rfl h1 ?_
  refine Tr.to_exit ?_
  refine Ex.exit_then ?_
  refine Ex.exit_then ?_
  refine Ex.exit_in ?_
  refine Ex.go ?_
  refine Tr.seq ?_
  refine Tr.region ?_
  refine Run.val (lt rfl) (Y.assign rfl) ?_
  refine Run.to_end ?_
  refine Ex.go ?_
  refine Tr.to_ret ?_
  exact Ex.ret1 rfl rfl  ⟨rfl, rfl, rfl⟩

theorem same01_h {V : Vw} {H : Hp} {l : List Rg} {v w : Value} (hv : Rd V H 2 v l.length (l.flatMap Rg.cells)) (hw : Rd V H 2 w l.length (l.flatMap Rg.cells)) (hlm : l.length ≤ 1000000000) : Does Try.prog 34 [v, w] V H (Pv (.bool true) V H) := by
  obtain ⟨p, c, rfl, _⟩ := hv.form
  obtain ⟨p2, c2, rfl, _⟩ := hw.form
  exact same01_c hv hw hlm

theorem turned_c {V : Vw} {l : List Rg} {p : Option Addr} {c : Nat} (hv : Rd V [] 2 (.slice p l.length c) l.length (l.flatMap Rg.cells)) (hok : Rg.Oks l)  : Does Try.prog 7 [.slice p l.length c] V [] (fun v _ _ => v = .bool true) := by
 refine Does.intro Try.func7 rfl rfl (le rfl) (fun B => ?_)
 refine Tr.seq ?_
 refine Tr.region ?_
 refine Run.val (lt rfl) (Y.assign rfl) ?_
 refine Run.to_end ?_
 refine Ex.go ?_
 refine Tr.seq ?_
 refine Tr.region ?_
 refine Run.call [] (l := []) rfl rfl rfl (lt rfl) awake01_c (fun v7 V7 H7 hle7 hR7 => ?_)
 obtain ⟨hle, rfl, rfl⟩ := hR7
 replace hv := hv.le hle
 refine Run.heapTo (H' := []) rfl ?_
 refine Run.heapTo (H' := []) rfl ?_
 refine Run.val (lt rfl) (Y.assign rfl) ?_
 refine Run.to_end ?_
 refine Ex.go ?_
 refine Tr.seq ?_
 refine Tr.seq ?_
 refine Tr.region ?_
 refine Run.val (lt rfl) (Y.move rfl) ?_
 refine Run.val (lt rfl) (Y.not rfl) ?_
 refine Run.val (lt rfl) (Y.move rfl) ?_
 refine Run.on rfl rfl rfl rfl ?_
 refine Run.val (lt rfl) (Y.move rfl) ?_
 refine Run.on rfl rfl rfl rfl ?_
 refine Run.val (lt rfl) (Y.lenSl rfl Law01_es51) ?_
 refine Run.on rfl rfl rfl rfl ?_
 refine Run.val (lt rfl) (Y.int rfl rfl rfl) ?_
 refine Run.val (lt rfl) (Y.pick_f rfl rfl rfl) ?_
 refine Run.to_end ?_
 refine Ex.go ?_
 rcases Bool.eq_false_or_eq_true (decide (((l.length : Nat) : Int) > 100)) with h1 | h1
 ·have g1 := h1
  try simp only [kb] at g1
  refine Tr.cond_t rfl h1 ?_
  refine Tr.seq ?_
  refine Tr.region ?_
  refine Run.val (lt rfl) (Y.move rfl) ?_
  refine Run.val (lt rfl) (Y.assign rfl) ?_
  refine Run.to_end ?_
  refine Ex.go ?_
  refine Tr.to_ret ?_
  refine Ex.ret_then ?_
  refine Ex.keep [] ?_
  exact Ex.ret1 rfl rfl  rfl
 ·have g1 := h1
  try simp only [kb] at g1
  refine Tr.cond_f rfl h1 ?_
  refine Tr.to_end ?_
  refine Ex.go ?_
  refine Tr.seq ?_
  refine Tr.region ?_
  refine Run.buildSlice0 Law01_es51 (lt rfl) (fun b2 => ?_)
  refine Run.val (lt rfl) (Y.move rfl) ?_
  refine Run.append (n := 0) (m := l.length) (xs := []) (ys := l.flatMap Rg.cells) rfl rfl Law01_es51 Law01_zi53 (by decide) (j := 0) rfl (Ow.lit (cur := #[]) rfl (by decide)) (Src.of_rd Law01_es51 hv.of_nil) (by omega) (by omega) (all_one_flat Rg.enc _) (lt rfl) (fun v3 s4 ho5 hf => ?_)
  obtain ⟨p3, c3, rfl⟩ := hf
  replace ho5 := Ow.app (f := Rg.cells) (l := []) (m := l) ho5
  refine Run.val (lt rfl) (Y.assign rfl) ?_
  refine Run.to_end ?_
  refine Ex.go ?_
  refine Tr.seq ?_
  refine Tr.seq ?_
  refine Tr.region ?_
  refine Run.val (lt rfl) (Y.move rfl) ?_
  refine Run.val (lt rfl) (Y.lenSl rfl Law01_es51) ?_
  refine Run.val (lt rfl) (Y.sub rfl rfl (by omega)) ?_
  refine Run.val (lt rfl) (Y.assign rfl) ?_
  refine Run.to_end ?_
  refine Ex.go ?_
  refine Tr.block ?_
  refine Tr.loop (X := Nat × Option Addr × Nat × Nat × Sg) (fun z0 => V7) (fun z0 => [z0.2.2.2.2]) (fun z0 => [(0, .slice p l.length c), (3, .bool true), (4, .slice z0.2.1 z0.2.2.1 z0.2.2.2.1), (5, .int .i64 (((l.length : Nat) : Int) - 1 - (z0.1 : Int)))]) (fun z0 => Ow 53 2 (.slice z0.2.1 z0.2.2.1 z0.2.2.2.1) z0.2.2.1 ((l ++ l.reverse.take z0.1).flatMap Rg.cells) z0.2.2.2.2 ∧ z0.2.2.1 = (l ++ l.reverse.take z0.1).length ∧ z0.1 ≤ l.length) (fun z0 => l.length - z0.1) (⟨0, p3, (0 + l.length), c3, s4⟩ : Nat × Option Addr × Nat × Nat × Sg) ⟨by simpa using ho5, by simp, Nat.zero_le _⟩ (fun a w i => ⟨i.1.sub (subB_cons (by first | rfl | exact congrArg (fun z => some (Value.int _ z)) (by omega)) (subB_cons (by first | rfl | exact congrArg (fun z => some (Value.int _ z)) (by omega)) (subB_cons (by first | rfl | exact congrArg (fun z => some (Value.int _ z)) (by omega)) (subB_cons (by first | rfl | exact congrArg (fun z => some (Value.int _ z)) (by omega)) (subB_nil _))))), i.2⟩) ?_
  rintro ⟨k1, p1, n1, c1, q1⟩ ⟨how, hn, hk⟩
  try dsimp only at how hn hk ⊢
  have hn2 : n1 = l.length + k1 := by rw [hn, List.length_append, List.length_take, List.length_reverse]; omega
  refine Tr.seq ?_
  refine Tr.seq ?_
  refine Tr.region ?_
  refine Run.val (lt rfl) (Y.move rfl) ?_
  refine Run.val (lt rfl) (Y.int rfl rfl rfl) ?_
  refine Run.to_end ?_
  refine Ex.go ?_
  rcases Bool.eq_false_or_eq_true (decide ((((l.length : Nat) : Int) - 1 - (k1 : Int)) ≥ 0)) with h6 | h6
  ·have g6 := h6
   try simp only [kb] at g6
   refine Tr.cond_t rfl h6 ?_
   refine Tr.to_end ?_
   refine Ex.go ?_
   refine Tr.seq ?_
   refine Tr.block ?_
   refine Tr.region ?_
   refine Run.val (lt rfl) (Y.move rfl) ?_
   refine Run.val (lt rfl) (Y.move rfl) ?_
   refine Run.val (lt rfl) (Y.move rfl) ?_
   refine Run.val (lt rfl) (Y.idxR (l.length - 1 - k1) rfl rfl Law01_es51 hv.of_nil (by omega) (by omega)) ?_
   refine Run.val (lt rfl) (Y.ldRA (vs := [.int .u32 ((l.getD (l.length - 1 - k1) Rg.dflt).low), .int .u32 ((l.getD (l.length - 1 - k1) Rg.dflt).high)]) rfl Law01_ag53 hv.of_nil rfl (by decide) (fun o ho => flatm_atA Rg.len (by omega) Rg.dflt o ho)) ?_
   refine Run.buildSlice (l := [(0, .tmp 37)]) Law01_es51 Law01_zo53 rfl (by decide) rfl rfl (by decide) (lt rfl) (fun b7 => ?_)
   refine Run.append (n := n1) (m := 1) (xs := (l ++ l.reverse.take k1).flatMap Rg.cells) (ys := [.int .u32 ((l.getD (l.length - 1 - k1) Rg.dflt).low), .int .u32 ((l.getD (l.length - 1 - k1) Rg.dflt).high)]) rfl rfl Law01_es51 Law01_zi53 (by decide) (j := 1) rfl how (Src.of_rd Law01_es51 (Rd.one (Kn.at 0 rfl) rfl)) (by omega) (by omega) rfl (lt rfl) (fun v8 s9 ho10 hf => ?_)
   obtain ⟨p8, c8, rfl⟩ := hf
   replace ho10 := Ow.app1 (f := Rg.cells) (l := l ++ l.reverse.take k1) (x := (⟨(l.getD (l.length - 1 - k1) Rg.dflt).low, (l.getD (l.length - 1 - k1) Rg.dflt).high⟩ : Rg)) ho10
   refine Run.val (lt rfl) (Y.assign rfl) ?_
   refine Run.to_end ?_
   refine Ex.end_block ?_
   refine Ex.go ?_
   refine Tr.region ?_
   refine Run.val (lt rfl) (Y.move rfl) ?_
   refine Run.val (lt rfl) (Y.sub rfl rfl (by omega)) ?_
   refine Run.val (lt rfl) (Y.assign rfl) ?_
   refine Run.to_end ?_
   refine Ex.keep [1] ?_
   have er := Rg.rev_take (l := l) (k := k1) (by omega)
   have hoz := ho10
   rw [List.append_assoc, ← er] at hoz
   exact Ex.round (⟨k1 + 1, p8, (n1 + 1), c8, s9⟩ : Nat × Option Addr × Nat × Nat × Sg) ⟨hoz, by rw [er]; simp only [List.length_append, List.length_singleton] at hn ⊢; omega, by omega⟩ (by dsimp only; omega) rfl rfl (subB_cons (by first | rfl | exact congrArg (fun z => some (Value.int _ z)) (by omega) | exact congrArg (fun z => some (Value.int _ z)) (by dsimp only; omega)) (subB_cons (by first | rfl | exact congrArg (fun z => some (Value.int _ z)) (by omega) | exact congrArg (fun z => some (Value.int _ z)) (by dsimp only; omega)) (subB_cons (by first | rfl | exact congrArg (fun z => some (Value.int _ z)) (by omega) | exact congrArg (fun z => some (Value.int _ z)) (by dsimp only; omega)) (subB_cons (by first | rfl | exact congrArg (fun z => some (Value.int _ z)) (by omega) | exact congrArg (fun z => some (Value.int _ z)) (by dsimp only; omega)) (subB_nil _)))))
  ·have g6 := h6
   try simp only [kb] at g6
   refine Tr.cond_f rfl h6 ?_
   refine Tr.to_exit ?_
   refine Ex.exit_then ?_
   refine Ex.exit_then ?_
   refine Ex.exit_in ?_
   refine Ex.go ?_
   refine Tr.seq ?_
   refine Tr.region ?_
   obtain rfl : k1 = l.length := by omega
   rw [show l.reverse.take l.length = l.reverse from List.take_of_length_le (by simp)] at how hn
   subst hn
   have hsh := how.shows
   refine Run.show (fun V9 hle9 hsh9 => ?_)
   have hbk : Rd V9 [] 2 (.slice p1 (l ++ l.reverse).length c1) (l ++ l.reverse).length ((l ++ l.reverse).flatMap Rg.cells) := hsh _ hsh9
   replace hv := hv.le hle9
   have hbl : (l ++ l.reverse).length = l.length + l.length := by simp
   refine Run.val (lt rfl) (Y.move rfl) ?_
   refine Run.call [] (l := [.tmp 41]) rfl rfl rfl (lt rfl) (pool_h (l := l) hv (by first | omega | decide) hok) (fun va Va Ha hlea hR => ?_)
   obtain ⟨_, rfl, wa, rfl, hra⟩ := hR; obtain ⟨pa, ca, rfl, _⟩ := hra.form
   replace hv := hv.le hlea
   replace hbk := hbk.le hlea
   have hpa := Rg.pool_len l
   have hoa := Rg.pool_oks hok
   refine Run.heapTo (H' := []) rfl ?_
   refine Run.heapTo (H' := []) rfl ?_
   refine Run.val (lt rfl) (Y.move rfl) ?_
   refine Run.val (lt rfl) (Y.extract rfl rfl) ?_
   refine Run.val (lt rfl) (Y.extract rfl rfl) ?_
   refine Run.val (lt rfl) (Y.assign rfl) ?_
   refine Run.val (lt rfl) (Y.assign rfl) ?_
   refine Run.to_end ?_
   refine Ex.go ?_
   refine Tr.seq ?_
   refine Tr.region ?_
   refine Run.val (lt rfl) (Y.move rfl) ?_
   refine Run.val (lt rfl) (Y.move rfl) ?_
   refine Run.val (lt rfl) (Y.lenSl rfl Law01_es51) ?_
   refine Run.val (lt rfl) (Y.quoN (m := l.length) (n := 2) rfl rfl (by omega) (by omega)) ?_
   have hcut := Rd.cut Rg.len hbk (l.length / 2) (l ++ l.reverse).length (by omega) (Nat.le_refl _)
   have hcp := how.cap
   refine Run.val (lt rfl) (Y.slice (l := l.length / 2) (m := (l ++ l.reverse).length) rfl Law01_es51 rfl rfl (by omega) (by omega)) ?_
   have hcut2 : Rd Va [] 2 (.slice (if c1 = l.length / 2 then p1 else p1.map (·.add (l.length / 2 * 2))) ((l ++ l.reverse).length - l.length / 2) (c1 - l.length / 2)) (((l ++ l.reverse).drop (l.length / 2)).take ((l ++ l.reverse).length - l.length / 2)).length ((((l ++ l.reverse).drop (l.length / 2)).take ((l ++ l.reverse).length - l.length / 2)).flatMap Rg.cells) := by
    have e : (((l ++ l.reverse).drop (l.length / 2)).take ((l ++ l.reverse).length - l.length / 2)).length = (l ++ l.reverse).length - l.length / 2 := by rw [List.length_take, List.length_drop]; omega
    rw [e]; exact hcut
   have hml : (((l ++ l.reverse).drop (l.length / 2)).take ((l ++ l.reverse).length - l.length / 2)).length ≤ 1000 := by rw [List.length_take, List.length_drop]; omega
   refine Run.call [] (l := [.tmp 50]) rfl rfl rfl (lt rfl) (pool_h (l := ((l ++ l.reverse).drop (l.length / 2)).take ((l ++ l.reverse).length - l.length / 2)) hcut2 hml (fun r hr => hok r ((Rg.turned_same l r).1 hr))) (fun vb Vb Hb hleb hR => ?_)
   rw [Rg.pool_same (Rg.turned_same l)] at hR
   obtain ⟨_, rfl, wb, rfl, hrb⟩ := hR; obtain ⟨pb, cb, rfl, _⟩ := hrb.form
   replace hv := hv.le hleb
   replace hra := hra.le hleb
   refine Run.heapTo (H' := []) rfl ?_
   refine Run.heapTo (H' := []) rfl ?_
   refine Run.val (lt rfl) (Y.move rfl) ?_
   refine Run.val (lt rfl) (Y.extract rfl rfl) ?_
   refine Run.val (lt rfl) (Y.extract rfl rfl) ?_
   refine Run.val (lt rfl) (Y.assign rfl) ?_
   refine Run.val (lt rfl) (Y.assign rfl) ?_
   refine Run.to_end ?_
   refine Ex.go ?_
   refine Tr.seq ?_
   refine Tr.region ?_
   refine Run.val (lt rfl) (Y.move rfl) ?_
   refine Run.call [] (l := [.tmp 55]) rfl rfl rfl (lt rfl) (pool_h (l := (Rg.pool l).1) hra (by omega) hoa) (fun vc Vc Hc hlec hR => ?_)
   rw [Rg.pool_idem l] at hR
   obtain ⟨_, rfl, wc, rfl, hrc⟩ := hR; obtain ⟨pc, cc, rfl, _⟩ := hrc.form
   replace hrc : Rd Vc [] 2 (.slice pc (Rg.pool l).1.length cc) (Rg.pool l).1.length ((Rg.pool l).1.flatMap Rg.cells) := hrc
   replace hra := hra.le hlec
   replace hrb := hrb.le hlec
   refine Run.heapTo (H' := []) rfl ?_
   refine Run.heapTo (H' := []) rfl ?_
   refine Run.val (lt rfl) (Y.move rfl) ?_
   refine Run.val (lt rfl) (Y.extract rfl rfl) ?_
   refine Run.val (lt rfl) (Y.extract rfl rfl) ?_
   refine Run.val (lt rfl) (Y.assign rfl) ?_
   refine Run.val (lt rfl) (Y.assign rfl) ?_
   refine Run.to_end ?_
   refine Ex.go ?_
   refine Tr.seq ?_
   refine Tr.region ?_
   refine Run.val (lt rfl) (Y.move rfl) ?_
   refine Run.val (lt rfl) (Y.move rfl) ?_
   refine Run.call0 (l := [.tmp 59, .tmp 60]) rfl rfl rfl (lt rfl) (same01_h hra.of_nil hrb.of_nil (by omega)) ?_
   refine Run.val (lt rfl) (Y.assign rfl) ?_
   refine Run.to_end ?_
   refine Ex.go ?_
   refine Tr.seq ?_
   refine Tr.region ?_
   refine Run.val (lt rfl) (Y.move rfl) ?_
   refine Run.val (lt rfl) (Y.move rfl) ?_
   refine Run.call0 (l := [.tmp 62, .tmp 63]) rfl rfl rfl (lt rfl) (same01_h hra.of_nil hrc.of_nil (by omega)) ?_
   refine Run.val (lt rfl) (Y.assign rfl) ?_
   refine Run.to_end ?_
   refine Ex.go ?_
   refine Tr.seq ?_
   refine Tr.region ?_
   refine Run.val (lt rfl) (Y.move rfl) ?_
   refine Run.val (lt rfl) (Y.move rfl) ?_
   refine Run.val (lt rfl) (Y.eqI_t rfl rfl) ?_
   refine Run.val (lt rfl) (Y.move rfl) ?_
   refine Run.on rfl rfl rfl rfl ?_
   refine Run.val (lt rfl) (Y.move rfl) ?_
   refine Run.val (lt rfl) (Y.pick_t rfl rfl rfl) ?_
   refine Run.val (lt rfl) (Y.move rfl) ?_
   refine Run.on rfl rfl rfl rfl ?_
   refine Run.val (lt rfl) (Y.move rfl) ?_
   refine Run.on rfl rfl rfl rfl ?_
   refine Run.val (lt rfl) (Y.int rfl rfl rfl) ?_
   refine Run.on rfl rfl rfl rfl ?_
   refine Run.val (lt rfl) (Y.move rfl) ?_
   rcases Bool.eq_false_or_eq_true (((Rg.pool l).2) != 0) with h11 | h11
   ·have g11 := h11
    try simp only [kb] at g11
    refine Run.off rfl rfl rfl h11 rfl (lt rfl) ?_
    refine Run.off rfl rfl rfl h11 rfl (lt rfl) ?_
    refine Run.off rfl rfl rfl h11 rfl (lt rfl) ?_
    refine Run.off_u rfl rfl rfl rfl (lt rfl) ?_
    refine Run.off rfl rfl rfl h11 rfl (lt rfl) ?_
    refine Run.on rfl rfl rfl rfl ?_
    refine Run.val (lt rfl) (Y.pick_t rfl h11 rfl) ?_
    refine Run.val (lt rfl) (Y.pick_t rfl rfl rfl) ?_
    refine Run.val (lt rfl) (Y.assign rfl) ?_
    refine Run.to_end ?_
    refine Ex.go ?_
    refine Tr.to_ret ?_
    refine Ex.keep [] ?_
    exact Ex.ret1 rfl rfl  rfl
   ·have g11 := h11
    try simp only [kb] at g11
    refine Run.on rfl rfl rfl h11 ?_
    refine Run.val (lt rfl) (Y.move rfl) ?_
    refine Run.on rfl rfl rfl h11 ?_
    refine Run.val (lt rfl) (Y.int (r := .bool true) rfl rfl rfl) ?_
    refine Run.on rfl rfl rfl h11 ?_
    refine Run.val (lt rfl) (Y.move rfl) ?_
    refine Run.on rfl rfl rfl rfl ?_
    refine Run.val (lt rfl) (Y.move rfl) ?_
    refine Run.on rfl rfl rfl h11 ?_
    refine Run.val (lt rfl) (Y.pick_t rfl rfl rfl) ?_
    refine Run.on rfl rfl rfl rfl ?_
    refine Run.val (lt rfl) (Y.pick_f rfl h11 rfl) ?_
    refine Run.val (lt rfl) (Y.pick_t rfl rfl rfl) ?_
    refine Run.val (lt rfl) (Y.assign rfl) ?_
    refine Run.to_end ?_
    refine Ex.go ?_
    refine Tr.to_ret ?_
    refine Ex.keep [] ?_
    exact Ex.ret1 rfl rfl  rfl

theorem turned_c_h {V : Vw} {l : List Rg} {v0 : Value} (hv : Rd V [] 2 v0 l.length (l.map Rg.cells).flatten) (hok : Rg.Oks l)  : Does Try.prog 7 [v0] V [] (fun v _ _ => v = .bool true) := by
  obtain ⟨p, c, rfl, _⟩ := hv.form
  rw [← List.flatMap_def] at hv
  exact turned_c hv hok

theorem indexlaw_c {V : Vw} {l : List Rg} {p : Option Addr} {c : Nat} (hv : Rd V [] 2 (.slice p l.length c) l.length (l.flatMap Rg.cells)) (hok : Rg.Oks l) {a : Int}  : Does Try.prog 9 [.slice p l.length c, .int .u32 a] V [] (fun v _ _ => v = .bool true) := by
 refine Does.intro Try.func9 rfl rfl (le rfl) (fun B => ?_)
 refine Tr.seq ?_
 refine Tr.region ?_
 refine Run.val (lt rfl) (Y.assign rfl) ?_
 refine Run.to_end ?_
 refine Ex.go ?_
 refine Tr.seq ?_
 refine Tr.region ?_
 refine Run.call [] (l := []) rfl rfl rfl (lt rfl) awake01_c (fun v7 V7 H7 hle7 hR7 => ?_)
 obtain ⟨hle, rfl, rfl⟩ := hR7
 replace hv := hv.le hle
 refine Run.heapTo (H' := []) rfl ?_
 refine Run.heapTo (H' := []) rfl ?_
 refine Run.val (lt rfl) (Y.assign rfl) ?_
 refine Run.to_end ?_
 refine Ex.go ?_
 refine Tr.seq ?_
 refine Tr.seq ?_
 refine Tr.region ?_
 refine Run.val (lt rfl) (Y.move rfl) ?_
 refine Run.val (lt rfl) (Y.not rfl) ?_
 refine Run.val (lt rfl) (Y.move rfl) ?_
 refine Run.on rfl rfl rfl rfl ?_
 refine Run.val (lt rfl) (Y.move rfl) ?_
 refine Run.on rfl rfl rfl rfl ?_
 refine Run.val (lt rfl) (Y.lenSl rfl Law01_es51) ?_
 refine Run.on rfl rfl rfl rfl ?_
 refine Run.val (lt rfl) (Y.int rfl rfl rfl) ?_
 refine Run.val (lt rfl) (Y.pick_f rfl rfl rfl) ?_
 refine Run.to_end ?_
 refine Ex.go ?_
 rcases Bool.eq_false_or_eq_true (decide (((l.length : Nat) : Int) > 200)) with h1 | h1
 ·have g1 := h1
  try simp only [kb] at g1
  refine Tr.cond_t rfl h1 ?_
  refine Tr.seq ?_
  refine Tr.region ?_
  refine Run.val (lt rfl) (Y.move rfl) ?_
  refine Run.val (lt rfl) (Y.assign rfl) ?_
  refine Run.to_end ?_
  refine Ex.go ?_
  refine Tr.to_ret ?_
  refine Ex.ret_then ?_
  refine Ex.keep [] ?_
  exact Ex.ret1 rfl rfl  rfl
 ·have g1 := h1
  try simp only [kb] at g1
  refine Tr.cond_f rfl h1 ?_
  refine Tr.to_end ?_
  refine Ex.go ?_
  refine Tr.seq ?_
  refine Tr.region ?_
  refine Run.val (lt rfl) (Y.move rfl) ?_
  refine Run.call [] (l := [.tmp 28]) rfl rfl rfl (lt rfl) (pool_h (l := l) hv (by first | omega | decide) hok) (fun va Va Ha hlea hR => ?_)
  obtain ⟨_, rfl, wa, rfl, hra⟩ := hR; obtain ⟨pa, ca, rfl, _⟩ := hra.form
  replace hv := hv.le hlea
  have hpa := Rg.pool_len l
  have hoa := Rg.pool_oks hok
  refine Run.heapTo (H' := []) rfl ?_
  have hpc := Rg.pool_cases l
  refine Run.heapTo (H' := []) rfl ?_
  refine Run.val (lt rfl) (Y.move rfl) ?_
  refine Run.val (lt rfl) (Y.extract rfl rfl) ?_
  refine Run.val (lt rfl) (Y.extract rfl rfl) ?_
  refine Run.val (lt rfl) (Y.assign rfl) ?_
  refine Run.val (lt rfl) (Y.assign rfl) ?_
  refine Run.to_end ?_
  refine Ex.go ?_
  refine Tr.seq ?_
  refine Tr.seq ?_
  refine Tr.region ?_
  refine Run.val (lt rfl) (Y.move rfl) ?_
  refine Run.val (lt rfl) (Y.int rfl rfl rfl) ?_
  refine Run.to_end ?_
  refine Ex.go ?_
  rcases Bool.eq_false_or_eq_true (((Rg.pool l).2) != 0) with h2 | h2
  ·have g2 := h2
   try simp only [kb] at g2
   refine Tr.cond_t rfl h2 ?_
   refine Tr.seq ?_
   refine Tr.region ?_
   rcases hpc with ⟨hz, hcan, hcnt⟩ | ⟨hz, he⟩
   case inl => omega
   refine Run.val (lt rfl) (Y.move rfl) ?_
   refine Run.val (lt rfl) (Y.lenSl rfl Law01_es51) ?_
   refine Run.val (lt rfl) (Y.int rfl rfl rfl) ?_
   refine Run.val (lt rfl) (Y.assign rfl) ?_
   refine Run.to_end ?_
   refine Ex.go ?_
   refine Tr.to_ret ?_
   refine Ex.ret_then ?_
   refine Ex.keep [] ?_
   exact Ex.ret1 rfl rfl  (congrArg Value.bool (by rw [he]; rfl))
  ·have g2 := h2
   try simp only [kb] at g2
   refine Tr.cond_f rfl h2 ?_
   refine Tr.to_end ?_
   refine Ex.go ?_
   refine Tr.seq ?_
   refine Tr.region ?_
   rcases hpc with ⟨hz, hcan, hcnt⟩ | ⟨hz, he⟩
   case inr => omega
   have hup := Rg.adr_up hcan
   have hca := Rg.cnt_adr hcan.1
   refine Run.val (lt rfl) (Y.move rfl) ?_
   refine Run.call0 (l := [.tmp 37]) rfl rfl rfl (lt rfl) (count_h hra.of_nil (by omega) hoa) ?_
   refine Run.val (lt rfl) (Y.assign rfl) ?_
   refine Run.to_end ?_
   refine Ex.go ?_
   refine Tr.seq ?_
   refine Tr.region ?_
   refine Run.val (lt rfl) (Y.assign rfl) ?_
   refine Run.to_end ?_
   refine Ex.go ?_
   refine Tr.seq ?_
   refine Tr.region ?_
   refine Run.val (lt rfl) (Y.assign rfl) ?_
   refine Run.to_end ?_
   refine Ex.go ?_
   refine Tr.seq ?_
   refine Tr.seq ?_
   refine Tr.region ?_
   refine Run.val (lt rfl) (Y.assign rfl) ?_
   refine Run.to_end ?_
   refine Ex.go ?_
   refine Tr.block ?_
   refine Tr.loop (X := Nat) (fun z0 => Va) (fun z0 => []) (fun z0 => [(1, .int .u32 a), (6, .slice pa (Rg.pool l).1.length ca), (8, .int .i64 (Rg.cnt (Rg.pool l).1)), (9, .int .u32 (Rg.prev (Rg.adr (Rg.pool l).1) z0)), (10, .bool (((Rg.adr (Rg.pool l).1).take z0).contains a)), (11, .int .i64 (z0 : Int))]) (fun z0 => z0 ≤ (Rg.adr (Rg.pool l).1).length) (fun z0 => (Rg.adr (Rg.pool l).1).length - z0) (0 : Nat) (Nat.zero_le _) (fun a w i => ⟨i.1.sub (subB_cons (by first | rfl | exact congrArg (fun z => some (Value.int _ z)) (by omega)) (subB_cons (by first | rfl | exact congrArg (fun z => some (Value.int _ z)) (by omega)) (subB_cons (by first | rfl | exact congrArg (fun z => some (Value.int _ z)) (by omega)) (subB_cons (by first | rfl | exact congrArg (fun z => some (Value.int _ z)) (by omega)) (subB_cons (by first | rfl | exact congrArg (fun z => some (Value.int _ z)) (by omega)) (subB_cons (by first | rfl | exact congrArg (fun z => some (Value.int _ z)) (by omega)) (subB_nil _))))))), i.2⟩) ?_
   rintro i1 hi
   have hab := Rg.adr_bd hoa i1
   refine Tr.seq ?_
   refine Tr.seq ?_
   refine Tr.region ?_
   refine Run.val (lt rfl) (Y.move rfl) ?_
   refine Run.val (lt rfl) (Y.move rfl) ?_
   refine Run.val (lt rfl) (Y.int rfl rfl rfl) ?_
   refine Run.val (lt rfl) (Y.move rfl) ?_
   rcases Bool.eq_false_or_eq_true (decide ((i1 : Int) < (Rg.cnt (Rg.pool l).1))) with h3 | h3
   ·have g3 := h3
    try simp only [kb] at g3
    refine Run.on rfl rfl rfl h3 ?_
    refine Run.val (lt rfl) (Y.move rfl) ?_
    refine Run.on rfl rfl rfl h3 ?_
    refine Run.val (lt rfl) (Y.int rfl rfl rfl) ?_
    refine Run.val (lt rfl) (Y.pick_t rfl h3 rfl) ?_
    refine Run.to_end ?_
    refine Ex.go ?_
    rcases Bool.eq_false_or_eq_true (decide ((i1 : Int) < 300)) with h4 | h4
    ·have g4 := h4
     try simp only [kb] at g4
     refine Tr.cond_t rfl h4 ?_
     refine Tr.to_end ?_
     refine Ex.go ?_
     refine Tr.seq ?_
     refine Tr.block ?_
     refine Tr.seq ?_
     refine Tr.region ?_
     refine Run.val (lt rfl) (Y.move rfl) ?_
     refine Run.val (lt rfl) (Y.move rfl) ?_
     refine Run.call0 (l := [.tmp 49, .tmp 50]) rfl rfl rfl (lt rfl) (show Does Try.prog 36 [_, .int .i64 (i1 : Int)] _ _ (Pv (.tuple #[.int .u32 ((Rg.adr (Rg.pool l).1).getD i1 0), .int .i64 0]) _ _) from by have h := at_h (n := (i1 : Int)) (H := []) hra (by omega) hoa; rw [Rg.at_at (by omega)] at h; exact h) ?_
     refine Run.val (lt rfl) (Y.move rfl) ?_
     refine Run.val (lt rfl) (Y.extract rfl rfl) ?_
     refine Run.val (lt rfl) (Y.extract rfl rfl) ?_
     refine Run.val (lt rfl) (Y.assign rfl) ?_
     refine Run.val (lt rfl) (Y.assign rfl) ?_
     refine Run.to_end ?_
     refine Ex.go ?_
     refine Tr.seq ?_
     refine Tr.seq ?_
     refine Tr.region ?_
     have hiu := Rg.idx_up hup (i := i1) (by omega)
     have hpl := fun h0 => Rg.prev_lt hup (i := i1) (by omega) h0
     refine Run.val (lt rfl) (Y.move rfl) ?_
     refine Run.val (lt rfl) (Y.int (r := .bool false) rfl rfl rfl) ?_
     refine Run.val (lt rfl) (Y.move rfl) ?_
     refine Run.on rfl rfl rfl rfl ?_
     refine Run.val (lt rfl) (Y.move rfl) ?_
     refine Run.on rfl rfl rfl rfl ?_
     refine Run.val (lt rfl) (Y.move rfl) ?_
     refine Run.on rfl rfl rfl rfl ?_
     refine Run.call0 (l := [.tmp 57, .tmp 58]) rfl rfl rfl (lt rfl) (index_h (a := (Rg.adr (Rg.pool l).1).getD i1 0) hra (by omega) hoa) ?_
     refine Run.on rfl rfl rfl rfl ?_
     refine Run.val (lt rfl) (Y.move rfl) ?_
     refine Run.on rfl rfl rfl rfl ?_
     refine Run.val (lt rfl) (Y.int rfl rfl rfl) ?_
     refine Run.val (lt rfl) (Y.pick_f rfl rfl rfl) ?_
     refine Run.val (lt rfl) (Y.move rfl) ?_
     rcases Bool.eq_false_or_eq_true ((Rg.idx (Rg.adr (Rg.pool l).1) ((Rg.adr (Rg.pool l).1).getD i1 0)) != (i1 : Int)) with h5 | h5
     ·have g5 := h5
      try simp only [kb] at g5
      refine Run.off rfl rfl rfl h5 rfl (lt rfl) ?_
      refine Run.off rfl rfl rfl h5 rfl (lt rfl) ?_
      refine Run.off rfl rfl rfl h5 rfl (lt rfl) ?_
      refine Run.off_u rfl rfl rfl rfl (lt rfl) ?_
      refine Run.off_u rfl rfl rfl rfl (lt rfl) ?_
      refine Run.off_u rfl rfl rfl rfl (lt rfl) ?_
      refine Run.off rfl rfl rfl h5 rfl (lt rfl) ?_
      refine Run.val (lt rfl) (Y.pick_t rfl h5 rfl) ?_
      refine Run.to_end ?_
      refine Ex.go ?_
      refine Tr.cond_t rfl rfl ?_
      refine Tr.seq ?_
      refine Tr.region ?_
      refine Run.val (lt rfl) (Y.assign rfl) ?_
      refine Run.to_end ?_
      refine Ex.go ?_
      refine Tr.to_ret ?_
      refine Ex.ret_then ?_
      refine Ex.ret_block ?_
      refine Ex.ret_then ?_
      refine Ex.ret_then ?_
      refine Ex.ret_block ?_
      refine Ex.ret_then ?_
      refine Ex.keep [] ?_
      exact Ex.ret1 rfl rfl  (by exfalso; first | omega | (have := hpl (by omega); omega))
     ·have g5 := h5
      try simp only [kb] at g5
      refine Run.on rfl rfl rfl h5 ?_
      refine Run.val (lt rfl) (Y.move rfl) ?_
      refine Run.on rfl rfl rfl h5 ?_
      refine Run.val (lt rfl) (Y.int rfl rfl rfl) ?_
      refine Run.on rfl rfl rfl h5 ?_
      refine Run.val (lt rfl) (Y.move rfl) ?_
      rcases Bool.eq_false_or_eq_true (decide ((i1 : Int) > 0)) with h6 | h6
      ·have g6 := h6
       try simp only [kb] at g6
       refine Run.on rfl rfl rfl h6 ?_
       refine Run.val (lt rfl) (Y.move rfl) ?_
       refine Run.on rfl rfl rfl h6 ?_
       refine Run.val (lt rfl) (Y.move rfl) ?_
       refine Run.on rfl rfl rfl h6 ?_
       refine Run.val (lt rfl) (Y.int rfl rfl rfl) ?_
       refine Run.on rfl rfl rfl h5 ?_
       refine Run.val (lt rfl) (Y.pick_t rfl h6 rfl) ?_
       refine Run.val (lt rfl) (Y.pick_f rfl h5 rfl) ?_
       refine Run.to_end ?_
       refine Ex.go ?_
       rcases Bool.eq_false_or_eq_true (decide (((Rg.adr (Rg.pool l).1).getD i1 0) ≤ (Rg.prev (Rg.adr (Rg.pool l).1) i1))) with h7 | h7
       ·have g7 := h7
        try simp only [kb] at g7
        refine Tr.cond_t rfl h7 ?_
        refine Tr.seq ?_
        refine Tr.region ?_
        refine Run.val (lt rfl) (Y.assign rfl) ?_
        refine Run.to_end ?_
        refine Ex.go ?_
        refine Tr.to_ret ?_
        refine Ex.ret_then ?_
        refine Ex.ret_block ?_
        refine Ex.ret_then ?_
        refine Ex.ret_then ?_
        refine Ex.ret_block ?_
        refine Ex.ret_then ?_
        refine Ex.keep [] ?_
        exact Ex.ret1 rfl rfl  (by exfalso; first | omega | (have := hpl (by omega); omega))
       ·have g7 := h7
        try simp only [kb] at g7
        refine Tr.cond_f rfl h7 ?_
        refine Tr.to_end ?_
        refine Ex.go ?_
        refine Tr.seq ?_
        refine Tr.region ?_
        refine Run.val (lt rfl) (Y.move rfl) ?_
        refine Run.val (lt rfl) (Y.assign rfl) ?_
        refine Run.to_end ?_
        refine Ex.go ?_
        refine Tr.region ?_
        refine Run.val (lt rfl) (Y.move rfl) ?_
        refine Run.val (lt rfl) (Y.move rfl) ?_
        rcases Bool.eq_false_or_eq_true (((Rg.adr (Rg.pool l).1).take i1).contains a) with h8 | h8
        ·have g8 := h8
         try simp only [kb] at g8
         refine Run.off rfl rfl rfl h8 rfl (lt rfl) ?_
         refine Run.off rfl rfl rfl h8 rfl (lt rfl) ?_
         refine Run.off rfl rfl rfl h8 rfl (lt rfl) ?_
         refine Run.val (lt rfl) (Y.pick_t rfl h8 rfl) ?_
         refine Run.val (lt rfl) (Y.assign rfl) ?_
         refine Run.to_end ?_
         refine Ex.end_block ?_
         refine Ex.go ?_
         refine Tr.region ?_
         refine Run.val (lt rfl) (Y.move rfl) ?_
         refine Run.val (lt rfl) (Y.add rfl rfl (by omega)) ?_
         refine Run.val (lt rfl) (Y.assign rfl) ?_
         refine Run.to_end ?_
         have ep := Rg.prev_succ (Rg.adr (Rg.pool l).1) i1
         have eh := @Rg.has_take (Rg.adr (Rg.pool l).1) i1 a (by omega)
         exact Ex.round (i1 + 1 : Nat) (by omega) (by omega) rfl rfl (subB_cons (by first | rfl | exact congrArg (fun z => some (Value.int _ z)) (by omega) | exact congrArg (fun z => some (Value.int _ z)) (by (try dsimp only); omega) | exact congrArg (fun z => some (Value.bool z)) (by (try dsimp only); rw [eh, h8]; rfl)) (subB_cons (by first | rfl | exact congrArg (fun z => some (Value.int _ z)) (by omega) | exact congrArg (fun z => some (Value.int _ z)) (by (try dsimp only); omega) | exact congrArg (fun z => some (Value.bool z)) (by (try dsimp only); rw [eh, h8]; rfl)) (subB_cons (by first | rfl | exact congrArg (fun z => some (Value.int _ z)) (by omega) | exact congrArg (fun z => some (Value.int _ z)) (by (try dsimp only); omega) | exact congrArg (fun z => some (Value.bool z)) (by (try dsimp only); rw [eh, h8]; rfl)) (subB_cons (by first | rfl | exact congrArg (fun z => some (Value.int _ z)) (by omega) | exact congrArg (fun z => some (Value.int _ z)) (by (try dsimp only); omega) | exact congrArg (fun z => some (Value.bool z)) (by (try dsimp only); rw [eh, h8]; rfl)) (subB_cons (by first | rfl | exact congrArg (fun z => some (Value.int _ z)) (by omega) | exact congrArg (fun z => some (Value.int _ z)) (by (try dsimp only); omega) | exact congrArg (fun z => some (Value.bool z)) (by (try dsimp only); rw [eh, h8]; rfl)) (subB_cons (by first | rfl | exact congrArg (fun z => some (Value.int _ z)) (by omega) | exact congrArg (fun z => some (Value.int _ z)) (by (try dsimp only); omega) | exact congrArg (fun z => some (Value.bool z)) (by (try dsimp only); rw [eh, h8]; rfl)) (subB_nil _)))))))
        ·have g8 := h8
         try simp only [kb] at g8
         refine Run.on rfl rfl rfl h8 ?_
         refine Run.val (lt rfl) (Y.move rfl) ?_
         refine Run.on rfl rfl rfl h8 ?_
         refine Run.val (lt rfl) (Y.move rfl) ?_
         refine Run.on rfl rfl rfl h8 ?_
         refine Run.val (lt rfl) (Y.int rfl rfl rfl) ?_
         refine Run.val (lt rfl) (Y.pick_f rfl h8 rfl) ?_
         refine Run.val (lt rfl) (Y.assign rfl) ?_
         refine Run.to_end ?_
         refine Ex.end_block ?_
         refine Ex.go ?_
         refine Tr.region ?_
         refine Run.val (lt rfl) (Y.move rfl) ?_
         refine Run.val (lt rfl) (Y.add rfl rfl (by omega)) ?_
         refine Run.val (lt rfl) (Y.assign rfl) ?_
         refine Run.to_end ?_
         have ep := Rg.prev_succ (Rg.adr (Rg.pool l).1) i1
         have eh := @Rg.has_take (Rg.adr (Rg.pool l).1) i1 a (by omega)
         exact Ex.round (i1 + 1 : Nat) (by omega) (by omega) rfl rfl (subB_cons (by first | rfl | exact congrArg (fun z => some (Value.int _ z)) (by omega) | exact congrArg (fun z => some (Value.int _ z)) (by (try dsimp only); omega) | exact congrArg (fun z => some (Value.bool z)) (by (try dsimp only); rw [eh, h8]; rfl)) (subB_cons (by first | rfl | exact congrArg (fun z => some (Value.int _ z)) (by omega) | exact congrArg (fun z => some (Value.int _ z)) (by (try dsimp only); omega) | exact congrArg (fun z => some (Value.bool z)) (by (try dsimp only); rw [eh, h8]; rfl)) (subB_cons (by first | rfl | exact congrArg (fun z => some (Value.int _ z)) (by omega) | exact congrArg (fun z => some (Value.int _ z)) (by (try dsimp only); omega) | exact congrArg (fun z => some (Value.bool z)) (by (try dsimp only); rw [eh, h8]; rfl)) (subB_cons (by first | rfl | exact congrArg (fun z => some (Value.int _ z)) (by omega) | exact congrArg (fun z => some (Value.int _ z)) (by (try dsimp only); omega) | exact congrArg (fun z => some (Value.bool z)) (by (try dsimp only); rw [eh, h8]; rfl)) (subB_cons (by first | rfl | exact congrArg (fun z => some (Value.int _ z)) (by omega) | exact congrArg (fun z => some (Value.int _ z)) (by (try dsimp only); omega) | exact congrArg (fun z => some (Value.bool z)) (by (try dsimp only); rw [eh, h8]; rfl)) (subB_cons (by first | rfl | exact congrArg (fun z => some (Value.int _ z)) (by omega) | exact congrArg (fun z => some (Value.int _ z)) (by (try dsimp only); omega) | exact congrArg (fun z => some (Value.bool z)) (by (try dsimp only); rw [eh, h8]; rfl)) (subB_nil _)))))))
      ·have g6 := h6
       try simp only [kb] at g6
       refine Run.off rfl rfl rfl h6 rfl (lt rfl) ?_
       refine Run.off rfl rfl rfl h6 rfl (lt rfl) ?_
       refine Run.off rfl rfl rfl h6 rfl (lt rfl) ?_
       refine Run.on rfl rfl rfl h5 ?_
       refine Run.val (lt rfl) (Y.pick_f rfl h6 rfl) ?_
       refine Run.val (lt rfl) (Y.pick_f rfl h5 rfl) ?_
       refine Run.to_end ?_
       refine Ex.go ?_
       refine Tr.cond_f rfl rfl ?_
       refine Tr.to_end ?_
       refine Ex.go ?_
       refine Tr.seq ?_
       refine Tr.region ?_
       refine Run.val (lt rfl) (Y.move rfl) ?_
       refine Run.val (lt rfl) (Y.assign rfl) ?_
       refine Run.to_end ?_
       refine Ex.go ?_
       refine Tr.region ?_
       refine Run.val (lt rfl) (Y.move rfl) ?_
       refine Run.val (lt rfl) (Y.move rfl) ?_
       rcases Bool.eq_false_or_eq_true (((Rg.adr (Rg.pool l).1).take i1).contains a) with h9 | h9
       ·have g9 := h9
        try simp only [kb] at g9
        refine Run.off rfl rfl rfl h9 rfl (lt rfl) ?_
        refine Run.off rfl rfl rfl h9 rfl (lt rfl) ?_
        refine Run.off rfl rfl rfl h9 rfl (lt rfl) ?_
        refine Run.val (lt rfl) (Y.pick_t rfl h9 rfl) ?_
        refine Run.val (lt rfl) (Y.assign rfl) ?_
        refine Run.to_end ?_
        refine Ex.end_block ?_
        refine Ex.go ?_
        refine Tr.region ?_
        refine Run.val (lt rfl) (Y.move rfl) ?_
        refine Run.val (lt rfl) (Y.add rfl rfl (by omega)) ?_
        refine Run.val (lt rfl) (Y.assign rfl) ?_
        refine Run.to_end ?_
        have ep := Rg.prev_succ (Rg.adr (Rg.pool l).1) i1
        have eh := @Rg.has_take (Rg.adr (Rg.pool l).1) i1 a (by omega)
        exact Ex.round (i1 + 1 : Nat) (by omega) (by omega) rfl rfl (subB_cons (by first | rfl | exact congrArg (fun z => some (Value.int _ z)) (by omega) | exact congrArg (fun z => some (Value.int _ z)) (by (try dsimp only); omega) | exact congrArg (fun z => some (Value.bool z)) (by (try dsimp only); rw [eh, h9]; rfl)) (subB_cons (by first | rfl | exact congrArg (fun z => some (Value.int _ z)) (by omega) | exact congrArg (fun z => some (Value.int _ z)) (by (try dsimp only); omega) | exact congrArg (fun z => some (Value.bool z)) (by (try dsimp only); rw [eh, h9]; rfl)) (subB_cons (by first | rfl | exact congrArg (fun z => some (Value.int _ z)) (by omega) | exact congrArg (fun z => some (Value.int _ z)) (by (try dsimp only); omega) | exact congrArg (fun z => some (Value.bool z)) (by (try dsimp only); rw [eh, h9]; rfl)) (subB_cons (by first | rfl | exact congrArg (fun z => some (Value.int _ z)) (by omega) | exact congrArg (fun z => some (Value.int _ z)) (by (try dsimp only); omega) | exact congrArg (fun z => some (Value.bool z)) (by (try dsimp only); rw [eh, h9]; rfl)) (subB_cons (by first | rfl | exact congrArg (fun z => some (Value.int _ z)) (by omega) | exact congrArg (fun z => some (Value.int _ z)) (by (try dsimp only); omega) | exact congrArg (fun z => some (Value.bool z)) (by (try dsimp only); rw [eh, h9]; rfl)) (subB_cons (by first | rfl | exact congrArg (fun z => some (Value.int _ z)) (by omega) | exact congrArg (fun z => some (Value.int _ z)) (by (try dsimp only); omega) | exact congrArg (fun z => some (Value.bool z)) (by (try dsimp only); rw [eh, h9]; rfl)) (subB_nil _)))))))
       ·have g9 := h9
        try simp only [kb] at g9
        refine Run.on rfl rfl rfl h9 ?_
        refine Run.val (lt rfl) (Y.move rfl) ?_
        refine Run.on rfl rfl rfl h9 ?_
        refine Run.val (lt rfl) (Y.move rfl) ?_
        refine Run.on rfl rfl rfl h9 ?_
        refine Run.val (lt rfl) (Y.int rfl rfl rfl) ?_
        refine Run.val (lt rfl) (Y.pick_f rfl h9 rfl) ?_
        refine Run.val (lt rfl) (Y.assign rfl) ?_
        refine Run.to_end ?_
        refine Ex.end_block ?_
        refine Ex.go ?_
        refine Tr.region ?_
        refine Run.val (lt rfl) (Y.move rfl) ?_
        refine Run.val (lt rfl) (Y.add rfl rfl (by omega)) ?_
        refine Run.val (lt rfl) (Y.assign rfl) ?_
        refine Run.to_end ?_
        have ep := Rg.prev_succ (Rg.adr (Rg.pool l).1) i1
        have eh := @Rg.has_take (Rg.adr (Rg.pool l).1) i1 a (by omega)
        exact Ex.round (i1 + 1 : Nat) (by omega) (by omega) rfl rfl (subB_cons (by first | rfl | exact congrArg (fun z => some (Value.int _ z)) (by omega) | exact congrArg (fun z => some (Value.int _ z)) (by (try dsimp only); omega) | exact congrArg (fun z => some (Value.bool z)) (by (try dsimp only); rw [eh, h9]; rfl)) (subB_cons (by first | rfl | exact congrArg (fun z => some (Value.int _ z)) (by omega) | exact congrArg (fun z => some (Value.int _ z)) (by (try dsimp only); omega) | exact congrArg (fun z => some (Value.bool z)) (by (try dsimp only); rw [eh, h9]; rfl)) (subB_cons (by first | rfl | exact congrArg (fun z => some (Value.int _ z)) (by omega) | exact congrArg (fun z => some (Value.int _ z)) (by (try dsimp only); omega) | exact congrArg (fun z => some (Value.bool z)) (by (try dsimp only); rw [eh, h9]; rfl)) (subB_cons (by first | rfl | exact congrArg (fun z => some (Value.int _ z)) (by omega) | exact congrArg (fun z => some (Value.int _ z)) (by (try dsimp only); omega) | exact congrArg (fun z => some (Value.bool z)) (by (try dsimp only); rw [eh, h9]; rfl)) (subB_cons (by first | rfl | exact congrArg (fun z => some (Value.int _ z)) (by omega) | exact congrArg (fun z => some (Value.int _ z)) (by (try dsimp only); omega) | exact congrArg (fun z => some (Value.bool z)) (by (try dsimp only); rw [eh, h9]; rfl)) (subB_cons (by first | rfl | exact congrArg (fun z => some (Value.int _ z)) (by omega) | exact congrArg (fun z => some (Value.int _ z)) (by (try dsimp only); omega) | exact congrArg (fun z => some (Value.bool z)) (by (try dsimp only); rw [eh, h9]; rfl)) (subB_nil _)))))))
    ·have g4 := h4
     try simp only [kb] at g4
     refine Tr.cond_f rfl h4 ?_
     refine Tr.to_exit ?_
     refine Ex.exit_then ?_
     refine Ex.exit_then ?_
     refine Ex.exit_in ?_
     refine Ex.go ?_
     refine Tr.seq ?_
     refine Tr.region ?_
     refine Run.val (lt rfl) (Y.move rfl) ?_
     refine Run.val (lt rfl) (Y.move rfl) ?_
     refine Run.call0 (l := [.tmp 80, .tmp 81]) rfl rfl rfl (lt rfl) (show Does Try.prog 36 [_, .int .i64 (Rg.cnt (Rg.pool l).1)] _ _ (Pv (.tuple #[.int .u32 0, .int .i64 4]) _ _) from by have h := at_h (n := Rg.cnt (Rg.pool l).1) (H := []) hra (by omega) hoa; rw [Rg.at_out (by omega)] at h; exact h) ?_
     refine Run.val (lt rfl) (Y.move rfl) ?_
     refine Run.val (lt rfl) (Y.extract rfl rfl) ?_
     refine Run.val (lt rfl) (Y.extract rfl rfl) ?_
     refine Run.val (lt rfl) (Y.assign rfl) ?_
     refine Run.val (lt rfl) (Y.assign rfl) ?_
     refine Run.to_end ?_
     refine Ex.go ?_
     refine Tr.seq ?_
     refine Tr.region ?_
     refine Run.val (lt rfl) (Y.move rfl) ?_
     refine Run.call0 (l := [.tmp 86, .const (.int .i64 (-1))]) rfl rfl rfl (lt rfl) (show Does Try.prog 36 [_, .int .i64 (-1)] _ _ (Pv (.tuple #[.int .u32 0, .int .i64 4]) _ _) from by have h := at_h (n := (-1)) (H := []) hra (by omega) hoa; rw [Rg.at_out (by omega)] at h; exact h) ?_
     refine Run.val (lt rfl) (Y.move rfl) ?_
     refine Run.val (lt rfl) (Y.extract rfl rfl) ?_
     refine Run.val (lt rfl) (Y.extract rfl rfl) ?_
     refine Run.val (lt rfl) (Y.assign rfl) ?_
     refine Run.val (lt rfl) (Y.assign rfl) ?_
     refine Run.to_end ?_
     refine Ex.go ?_
     refine Tr.seq ?_
     refine Tr.region ?_
     refine Run.val (lt rfl) (Y.move rfl) ?_
     refine Run.val (lt rfl) (Y.int rfl rfl rfl) ?_
     refine Run.val (lt rfl) (Y.move rfl) ?_
     rcases Bool.eq_false_or_eq_true (decide ((Rg.cnt (Rg.pool l).1) ≤ 256)) with h10 | h10
     ·have g10 := h10
      try simp only [kb] at g10
      refine Run.on rfl rfl rfl h10 ?_
      refine Run.val (lt rfl) (Y.move rfl) ?_
      refine Run.on rfl rfl rfl h10 ?_
      refine Run.val (lt rfl) (Y.int (r := .bool true) rfl rfl rfl) ?_
      refine Run.val (lt rfl) (Y.pick_t rfl h10 rfl) ?_
      refine Run.val (lt rfl) (Y.move rfl) ?_
      refine Run.on rfl rfl rfl rfl ?_
      refine Run.val (lt rfl) (Y.move rfl) ?_
      refine Run.on rfl rfl rfl rfl ?_
      refine Run.val (lt rfl) (Y.int (r := .bool true) rfl rfl rfl) ?_
      refine Run.val (lt rfl) (Y.pick_t rfl rfl rfl) ?_
      refine Run.val (lt rfl) (Y.move rfl) ?_
      refine Run.on rfl rfl rfl rfl ?_
      refine Run.val (lt rfl) (Y.move rfl) ?_
      refine Run.on rfl rfl rfl rfl ?_
      refine Run.val (lt rfl) (Y.move rfl) ?_
      refine Run.on rfl rfl rfl rfl ?_
      refine Run.call0 (l := [.tmp 101, .tmp 102]) rfl rfl rfl (lt rfl) (index_h (a := a) hra (by omega) hoa) ?_
      refine Run.on rfl rfl rfl rfl ?_
      refine Run.val (lt rfl) (Y.int rfl rfl rfl) ?_
      refine Run.on rfl rfl rfl rfl ?_
      refine Run.val (lt rfl) (Y.move rfl) ?_
      refine Run.on rfl rfl rfl rfl ?_
      refine Run.val (lt rfl) (Y.eqB rfl rfl Law01_tg4) ?_
      refine Run.val (lt rfl) (Y.pick_t rfl rfl rfl) ?_
      refine Run.val (lt rfl) (Y.assign rfl) ?_
      refine Run.to_end ?_
      refine Ex.go ?_
      refine Tr.to_ret ?_
      refine Ex.keep [] ?_
      exact Ex.ret1 rfl rfl  (congrArg Value.bool (by obtain rfl : i1 = (Rg.adr (Rg.pool l).1).length := (by omega); rw [List.take_length, Rg.idx_in]; exact beq_self_eq_true _))
     ·have g10 := h10
      try simp only [kb] at g10
      refine Run.off rfl rfl rfl h10 rfl (lt rfl) ?_
      refine Run.off rfl rfl rfl h10 rfl (lt rfl) ?_
      refine Run.val (lt rfl) (Y.pick_f rfl h10 rfl) ?_
      refine Run.val (lt rfl) (Y.move rfl) ?_
      refine Run.off rfl rfl rfl rfl rfl (lt rfl) ?_
      refine Run.off rfl rfl rfl rfl rfl (lt rfl) ?_
      refine Run.val (lt rfl) (Y.pick_f rfl rfl rfl) ?_
      refine Run.val (lt rfl) (Y.move rfl) ?_
      refine Run.off rfl rfl rfl rfl rfl (lt rfl) ?_
      refine Run.off rfl rfl rfl rfl rfl (lt rfl) ?_
      refine Run.off rfl rfl rfl rfl rfl (lt rfl) ?_
      refine Run.off rfl rfl rfl rfl rfl (lt rfl) ?_
      refine Run.off rfl rfl rfl rfl rfl (lt rfl) ?_
      refine Run.off rfl rfl rfl rfl rfl (lt rfl) ?_
      refine Run.val (lt rfl) (Y.pick_f rfl rfl rfl) ?_
      refine Run.val (lt rfl) (Y.assign rfl) ?_
      refine Run.to_end ?_
      refine Ex.go ?_
      refine Tr.to_ret ?_
      refine Ex.keep [] ?_
      exact Ex.ret1 rfl rfl  (by exfalso; first | omega | (have := hpl (by omega); omega))
   ·have g3 := h3
    try simp only [kb] at g3
    refine Run.off rfl rfl rfl h3 rfl (lt rfl) ?_
    refine Run.off rfl rfl rfl h3 rfl (lt rfl) ?_
    refine Run.val (lt rfl) (Y.pick_f rfl h3 rfl) ?_
    refine Run.to_end ?_
    refine Ex.go ?_
    refine Tr.cond_f rfl rfl ?_
    refine Tr.to_exit ?_
    refine Ex.exit_then ?_
    refine Ex.exit_then ?_
    refine Ex.exit_in ?_
    refine Ex.go ?_
    refine Tr.seq ?_
    refine Tr.region ?_
    refine Run.val (lt rfl) (Y.move rfl) ?_
    refine Run.val (lt rfl) (Y.move rfl) ?_
    refine Run.call0 (l := [.tmp 80, .tmp 81]) rfl rfl rfl (lt rfl) (show Does Try.prog 36 [_, .int .i64 (Rg.cnt (Rg.pool l).1)] _ _ (Pv (.tuple #[.int .u32 0, .int .i64 4]) _ _) from by have h := at_h (n := Rg.cnt (Rg.pool l).1) (H := []) hra (by omega) hoa; rw [Rg.at_out (by omega)] at h; exact h) ?_
    refine Run.val (lt rfl) (Y.move rfl) ?_
    refine Run.val (lt rfl) (Y.extract rfl rfl) ?_
    refine Run.val (lt rfl) (Y.extract rfl rfl) ?_
    refine Run.val (lt rfl) (Y.assign rfl) ?_
    refine Run.val (lt rfl) (Y.assign rfl) ?_
    refine Run.to_end ?_
    refine Ex.go ?_
    refine Tr.seq ?_
    refine Tr.region ?_
    refine Run.val (lt rfl) (Y.move rfl) ?_
    refine Run.call0 (l := [.tmp 86, .const (.int .i64 (-1))]) rfl rfl rfl (lt rfl) (show Does Try.prog 36 [_, .int .i64 (-1)] _ _ (Pv (.tuple #[.int .u32 0, .int .i64 4]) _ _) from by have h := at_h (n := (-1)) (H := []) hra (by omega) hoa; rw [Rg.at_out (by omega)] at h; exact h) ?_
    refine Run.val (lt rfl) (Y.move rfl) ?_
    refine Run.val (lt rfl) (Y.extract rfl rfl) ?_
    refine Run.val (lt rfl) (Y.extract rfl rfl) ?_
    refine Run.val (lt rfl) (Y.assign rfl) ?_
    refine Run.val (lt rfl) (Y.assign rfl) ?_
    refine Run.to_end ?_
    refine Ex.go ?_
    refine Tr.seq ?_
    refine Tr.region ?_
    refine Run.val (lt rfl) (Y.move rfl) ?_
    refine Run.val (lt rfl) (Y.int rfl rfl rfl) ?_
    refine Run.val (lt rfl) (Y.move rfl) ?_
    rcases Bool.eq_false_or_eq_true (decide ((Rg.cnt (Rg.pool l).1) ≤ 256)) with h11 | h11
    ·have g11 := h11
     try simp only [kb] at g11
     refine Run.on rfl rfl rfl h11 ?_
     refine Run.val (lt rfl) (Y.move rfl) ?_
     refine Run.on rfl rfl rfl h11 ?_
     refine Run.val (lt rfl) (Y.int (r := .bool true) rfl rfl rfl) ?_
     refine Run.val (lt rfl) (Y.pick_t rfl h11 rfl) ?_
     refine Run.val (lt rfl) (Y.move rfl) ?_
     refine Run.on rfl rfl rfl rfl ?_
     refine Run.val (lt rfl) (Y.move rfl) ?_
     refine Run.on rfl rfl rfl rfl ?_
     refine Run.val (lt rfl) (Y.int (r := .bool true) rfl rfl rfl) ?_
     refine Run.val (lt rfl) (Y.pick_t rfl rfl rfl) ?_
     refine Run.val (lt rfl) (Y.move rfl) ?_
     refine Run.on rfl rfl rfl rfl ?_
     refine Run.val (lt rfl) (Y.move rfl) ?_
     refine Run.on rfl rfl rfl rfl ?_
     refine Run.val (lt rfl) (Y.move rfl) ?_
     refine Run.on rfl rfl rfl rfl ?_
     refine Run.call0 (l := [.tmp 101, .tmp 102]) rfl rfl rfl (lt rfl) (index_h (a := a) hra (by omega) hoa) ?_
     refine Run.on rfl rfl rfl rfl ?_
     refine Run.val (lt rfl) (Y.int rfl rfl rfl) ?_
     refine Run.on rfl rfl rfl rfl ?_
     refine Run.val (lt rfl) (Y.move rfl) ?_
     refine Run.on rfl rfl rfl rfl ?_
     refine Run.val (lt rfl) (Y.eqB rfl rfl Law01_tg4) ?_
     refine Run.val (lt rfl) (Y.pick_t rfl rfl rfl) ?_
     refine Run.val (lt rfl) (Y.assign rfl) ?_
     refine Run.to_end ?_
     refine Ex.go ?_
     refine Tr.to_ret ?_
     refine Ex.keep [] ?_
     exact Ex.ret1 rfl rfl  (congrArg Value.bool (by obtain rfl : i1 = (Rg.adr (Rg.pool l).1).length := (by omega); rw [List.take_length, Rg.idx_in]; exact beq_self_eq_true _))
    ·have g11 := h11
     try simp only [kb] at g11
     refine Run.off rfl rfl rfl h11 rfl (lt rfl) ?_
     refine Run.off rfl rfl rfl h11 rfl (lt rfl) ?_
     refine Run.val (lt rfl) (Y.pick_f rfl h11 rfl) ?_
     refine Run.val (lt rfl) (Y.move rfl) ?_
     refine Run.off rfl rfl rfl rfl rfl (lt rfl) ?_
     refine Run.off rfl rfl rfl rfl rfl (lt rfl) ?_
     refine Run.val (lt rfl) (Y.pick_f rfl rfl rfl) ?_
     refine Run.val (lt rfl) (Y.move rfl) ?_
     refine Run.off rfl rfl rfl rfl rfl (lt rfl) ?_
     refine Run.off rfl rfl rfl rfl rfl (lt rfl) ?_
     refine Run.off rfl rfl rfl rfl rfl (lt rfl) ?_
     refine Run.off rfl rfl rfl rfl rfl (lt rfl) ?_
     refine Run.off rfl rfl rfl rfl rfl (lt rfl) ?_
     refine Run.off rfl rfl rfl rfl rfl (lt rfl) ?_
     refine Run.val (lt rfl) (Y.pick_f rfl rfl rfl) ?_
     refine Run.val (lt rfl) (Y.assign rfl) ?_
     refine Run.to_end ?_
     refine Ex.go ?_
     refine Tr.to_ret ?_
     refine Ex.keep [] ?_
     exact Ex.ret1 rfl rfl  (by exfalso; first | omega | (have := hpl (by omega); omega))

theorem indexlaw_c_h {V : Vw} {l : List Rg} {v0 : Value} (hv : Rd V [] 2 v0 l.length (l.map Rg.cells).flatten) (hok : Rg.Oks l) {a : Int} : Does Try.prog 9 [v0, .int .u32 a] V [] (fun v _ _ => v = .bool true) := by
  obtain ⟨p, c, rfl, _⟩ := hv.form
  rw [← List.flatMap_def] at hv
  exact indexlaw_c hv hok
end Go.Proofs.Ytjfacdepgkdoeaa
