/- The law ClientSays, walked.
Conditions: as each theorem names them. -/
import Derived.Test.YtelahacalnmilaaProg
import Derived.Test.YtelahacalnmilaaCldec
import Derived.Test.YtelahacalnmilaaLaw24
set_option linter.unusedSimpArgs false
set_option linter.unusedVariables false
set_option maxRecDepth 4000
namespace Go.Proofs.Ytelahacalnmilaa
open Go Go.K
attribute [local irreducible] Code.wp wpList Calls wpQuiet
theorem Law24c_es22 : elemS Try.prog 22 = some (5, 1) := by kernel_rfl
theorem Law24c_zo5 : zeroOf Try.prog 5 = some (.int .u8 0) := by kernel_rfl
theorem Law24c_pt25 : ptrT Try.prog 25 = true := by kernel_rfl
theorem Law24c_zo36 : zeroOf Try.prog 36 = some (.agg #[.int .i64 0, .int .u32 0, .int .i64 0, .int .i64 0, .int .u32 0, .int .u32 0, .int .u32 0, .int .u32 0, .slice none 0 0, .slice none 0 0]) := by kernel_rfl
theorem Law24c_es23 : elemS Try.prog 23 = some (39, 15) := by kernel_rfl
theorem Law24c_ag39 : aggsz Try.prog 39 = some 15 := by kernel_rfl
theorem Law24c_fo39_0 : fieldOff Try.prog 39 0 = some 0 := by kernel_rfl
theorem Law24c_ts3 : scal Try.prog 3 = true := by kernel_rfl
theorem Law24c_mo : Try.prog.follows .mixedOrders = true := by kernel_rfl
theorem Law24c_ag36 : aggsz Try.prog 36 = some 10 := by kernel_rfl
theorem Law24c_sz36 : sizeT Try.prog 36 = some 10 := by kernel_rfl
theorem Law24c_fo39_1 : fieldOff Try.prog 39 1 = some 1 := by kernel_rfl
theorem Law24c_es48 : elemS Try.prog 48 = some (36, 10) := by kernel_rfl

set_option maxHeartbeats 2000000 in
theorem says24_y {V : Vw} {nm : ByteArray} (hf : Cli.fine nm [1, 2]) {l : List CStp} {p : Option Addr} {c0 : Nat} (hvs : Rd V [] 15 (.slice p l.length c0) l.length (l.map CStp.cells).flatten) (hl9 : l.length ≤ 9223372036854775807) (hrs : CStp.Rs V l)  : Does Try.prog 5 [.string nm, .slice p l.length c0] V [] (fun v _ _ => v = .bool true) := by
 refine Does.intro Try.func5 rfl rfl (le rfl) (fun B => ?_)
 refine Tr.seq ?_
 refine Tr.region ?_
 refine Run.val (lt rfl) (Y.assign rfl) ?_
 refine Run.to_end ?_
 refine Ex.go ?_
 refine Tr.seq ?_
 refine Tr.region ?_
 refine Run.call [] (l := []) rfl rfl rfl (lt rfl) awake24_c0 (fun v1 V2 H2 hle2 hR => ?_)
 obtain ⟨_, rfl, rfl⟩ := hR
 obtain ⟨Vs3, hVe⟩ : ∃ V3 : Vw, V3 = V2 := ⟨_, rfl⟩
 subst hVe
 replace hvs := hvs.le hle2
 replace hrs := hrs.le hle2
 have hVle := hle2
 refine Run.heapTo (H' := []) rfl ?_
 refine Run.val (lt rfl) (Y.assign rfl) ?_
 refine Run.to_end ?_
 refine Ex.go ?_
 refine Tr.seq ?_
 refine Tr.region ?_
 refine Run.val (lt rfl) (Y.move rfl) ?_
 refine Run.buildSlice (l := [(0, .const (.int .u8 1)), (1, .const (.int .u8 2))]) Law24c_es22 Law24c_zo5 rfl (by decide) rfl rfl (by decide) (lt rfl) (fun b4 => ?_)
 refine Run.keepTo (H' := [[(b4, .cells #[.int .u8 1, .int .u8 2] 5 (0, 0))]]) [0] rfl ?_
 refine Run.show (fun V6 hleV6 hshV6 => ?_)
 have hna5 := (Ow.lit (e := 5) (k := 1) (b := b4) (n := 2) (cur := #[.int .u8 1, .int .u8 2]) rfl (by decide)).shows _ hshV6
 replace hvs := hvs.le hleV6
 replace hrs := hrs.le hleV6
 replace hVle := Vw.le_trans hVle hleV6
 have hna5b : Rd V6 [] 1 (.slice (some ⟨b4, 0, none⟩) 2 2) ([1, 2] : List UInt8).length (([1, 2] : List UInt8).map byteV) := hna5
 refine Run.call [] (l := [.tmp 27, .tmp 28]) rfl rfl rfl (lt rfl) (new_c_h (s := nm) hna5b hf) (fun v7 V2 H2 hle8 hR => ?_)
 obtain ⟨_, b9, w10, rfl, rfl, hha⟩ := hR
 obtain ⟨Vs11, hVe⟩ : ∃ V3 : Vw, V3 = V2 := ⟨_, rfl⟩
 subst hVe
 replace hvs := hvs.le hle8
 replace hrs := hrs.le hle8
 replace hna5 := hna5.le hle8
 replace hna5b := hna5b.le hle8
 replace hVle := Vw.le_trans hVle hle8
 refine Run.heapTo (H' := [[(b9, .cells #[.string ((Cli.new nm [1, 2]).name), w10, .int .i64 ((Cli.new nm [1, 2]).state), .int .u32 ((Cli.new nm [1, 2]).xid), .int .u32 ((Cli.new nm [1, 2]).addr), .int .u32 ((Cli.new nm [1, 2]).server), .int .i64 ((Cli.new nm [1, 2]).until_), .int .i64 ((Cli.new nm [1, 2]).one), .int .i64 ((Cli.new nm [1, 2]).two), .bool ((Cli.new nm [1, 2]).due), .int .i64 ((Cli.new nm [1, 2]).tries), .int .i64 ((Cli.new nm [1, 2]).said), .int .i64 ((Cli.new nm [1, 2]).asks)] 67 (0, 0))]]) rfl ?_
 refine Run.val (lt rfl) (Y.move rfl) ?_
 refine Run.val (lt rfl) (Y.extract rfl rfl) ?_
 refine Run.val (lt rfl) (Y.extract rfl rfl) ?_
 refine Run.val (lt rfl) (Y.assign rfl) ?_
 refine Run.val (lt rfl) (Y.assign rfl) ?_
 refine Run.to_end ?_
 refine Ex.go ?_
 refine Tr.seq ?_
 refine Tr.seq ?_
 refine Tr.region ?_
 refine Run.val (lt rfl) (Y.move rfl) ?_
 refine Run.val (lt rfl) (Y.not rfl) ?_
 refine Run.val (lt rfl) (Y.move rfl) ?_
 refine Run.on rfl rfl rfl rfl ?_
 refine Run.val (lt rfl) (Y.move rfl) ?_
 refine Run.on rfl rfl rfl rfl ?_
 refine Run.val (lt rfl) (Y.int (r := .bool false) rfl rfl rfl) ?_
 refine Run.val (lt rfl) (Y.pick_f rfl rfl rfl) ?_
 refine Run.val (lt rfl) (Y.move rfl) ?_
 refine Run.on rfl rfl rfl rfl ?_
 refine Run.val (lt rfl) (Y.move rfl) ?_
 refine Run.on rfl rfl rfl rfl ?_
 refine Run.val (lt rfl) (Y.eqNil rfl rfl Law24c_pt25) ?_
 refine Run.val (lt rfl) (Y.pick_f rfl rfl rfl) ?_
 refine Run.to_end ?_
 refine Ex.go ?_
 refine Tr.cond_f rfl rfl ?_
 refine Tr.to_end ?_
 refine Ex.go ?_
 refine Tr.seq ?_
 refine Tr.region ?_
 refine Run.val (lt rfl) (Y.move rfl) ?_
 refine Run.buildSlice (l := [(0, .const (.int .u8 1)), (1, .const (.int .u8 2))]) Law24c_es22 Law24c_zo5 rfl (by decide) rfl rfl (by decide) (lt rfl) (fun b12 => ?_)
 refine Run.keepTo (H' := [[(b12, .cells #[.int .u8 1, .int .u8 2] 5 (0, 0))], [(b9, .cells #[.string ((Cli.new nm [1, 2]).name), w10, .int .i64 ((Cli.new nm [1, 2]).state), .int .u32 ((Cli.new nm [1, 2]).xid), .int .u32 ((Cli.new nm [1, 2]).addr), .int .u32 ((Cli.new nm [1, 2]).server), .int .i64 ((Cli.new nm [1, 2]).until_), .int .i64 ((Cli.new nm [1, 2]).one), .int .i64 ((Cli.new nm [1, 2]).two), .bool ((Cli.new nm [1, 2]).due), .int .i64 ((Cli.new nm [1, 2]).tries), .int .i64 ((Cli.new nm [1, 2]).said), .int .i64 ((Cli.new nm [1, 2]).asks)] 67 (0, 0))]]) [0, 0] rfl ?_
 refine Run.show (fun V14 hleV14 hshV14 => ?_)
 have hna13 := (Ow.lit (e := 5) (k := 1) (b := b12) (n := 2) (cur := #[.int .u8 1, .int .u8 2]) rfl (by decide)).shows _ hshV14
 replace hvs := hvs.le hleV14
 replace hrs := hrs.le hleV14
 replace hna5 := hna5.le hleV14
 replace hna5b := hna5b.le hleV14
 replace hha := hha.le hleV14
 replace hVle := Vw.le_trans hVle hleV14
 have hna13b : Rd V14 [] 1 (.slice (some ⟨b12, 0, none⟩) 2 2) ([1, 2] : List UInt8).length (([1, 2] : List UInt8).map byteV) := hna13
 refine Run.call [] (l := [.tmp 48, .tmp 49]) rfl rfl rfl (lt rfl) (rnew_c_h (s := nm) hna13b hf) (fun v15 V2 H2 hle16 hR => ?_)
 obtain ⟨_, b17, w18, rfl, rfl, hhb⟩ := hR
 obtain ⟨Vs19, hVe⟩ : ∃ V3 : Vw, V3 = V2 := ⟨_, rfl⟩
 subst hVe
 replace hvs := hvs.le hle16
 replace hrs := hrs.le hle16
 replace hna5 := hna5.le hle16
 replace hna5b := hna5b.le hle16
 replace hha := hha.le hle16
 replace hna13 := hna13.le hle16
 replace hna13b := hna13b.le hle16
 replace hVle := Vw.le_trans hVle hle16
 refine Run.heapTo (H' := [[(b9, .cells #[.string ((Cli.new nm [1, 2]).name), w10, .int .i64 ((Cli.new nm [1, 2]).state), .int .u32 ((Cli.new nm [1, 2]).xid), .int .u32 ((Cli.new nm [1, 2]).addr), .int .u32 ((Cli.new nm [1, 2]).server), .int .i64 ((Cli.new nm [1, 2]).until_), .int .i64 ((Cli.new nm [1, 2]).one), .int .i64 ((Cli.new nm [1, 2]).two), .bool ((Cli.new nm [1, 2]).due), .int .i64 ((Cli.new nm [1, 2]).tries), .int .i64 ((Cli.new nm [1, 2]).said), .int .i64 ((Cli.new nm [1, 2]).asks)] 67 (0, 0))], [(b17, .cells #[.string ((Cli.new nm [1, 2]).name), w18, .int .i64 ((Cli.new nm [1, 2]).state), .int .u32 ((Cli.new nm [1, 2]).xid), .int .u32 ((Cli.new nm [1, 2]).addr), .int .u32 ((Cli.new nm [1, 2]).server), .int .i64 ((Cli.new nm [1, 2]).until_), .int .i64 ((Cli.new nm [1, 2]).one), .int .i64 ((Cli.new nm [1, 2]).two), .bool ((Cli.new nm [1, 2]).due), .int .i64 ((Cli.new nm [1, 2]).tries), .int .i64 ((Cli.new nm [1, 2]).said), .int .i64 ((Cli.new nm [1, 2]).asks)] 44 (0, 0))]]) rfl ?_
 refine Run.val (lt rfl) (Y.move rfl) ?_
 refine Run.val (lt rfl) (Y.extract rfl rfl) ?_
 refine Run.val (lt rfl) (Y.extract rfl rfl) ?_
 refine Run.val (lt rfl) (Y.assign rfl) ?_
 refine Run.val (lt rfl) (Y.assign rfl) ?_
 refine Run.to_end ?_
 refine Ex.go ?_
 refine Tr.seq ?_
 refine Tr.region ?_
 refine Run.alloc Law24c_zo36 (lt rfl) (fun b20 => ?_)
 refine Run.to_end ?_
 refine Ex.go ?_
 refine Tr.seq ?_
 refine Tr.seq ?_
 refine Tr.region ?_
 refine Run.val (lt rfl) (Y.assign rfl) ?_
 refine Run.to_end ?_
 refine Ex.go ?_
 refine Tr.block ?_
 refine Tr.loop (X := Lo) (fun x => x.V) (fun x => [[(b20, .cells #[.int .i64 x.last.op, .int .u32 x.last.xid, .int .i64 x.last.secs, .int .i64 x.last.flags, .int .u32 x.last.ci, .int .u32 x.last.yi, .int .u32 x.last.si, .int .u32 x.last.gi, x.hv, x.ov] 36 (0, 0))], [(b9, .cells #[.string x.c.name, w10, .int .i64 x.c.state, .int .u32 x.c.xid, .int .u32 x.c.addr, .int .u32 x.c.server, .int .i64 x.c.until_, .int .i64 x.c.one, .int .i64 x.c.two, .bool x.c.due, .int .i64 x.c.tries, .int .i64 x.c.said, .int .i64 x.c.asks] 67 (0, 0))], [(b17, .cells #[.string x.c.name, w18, .int .i64 x.c.state, .int .u32 x.c.xid, .int .u32 x.c.addr, .int .u32 x.c.server, .int .i64 x.c.until_, .int .i64 x.c.one, .int .i64 x.c.two, .bool x.c.due, .int .i64 x.c.tries, .int .i64 x.c.said, .int .i64 x.c.asks] 44 (0, 0))]]) (fun x => [(1, .slice p l.length c0), (6, .pointer (some ⟨b9, 0, none⟩)), (8, .pointer (some ⟨b17, 0, none⟩)), (10, .pointer (some ⟨b20, 0, none⟩)), (0, .string nm), (11, .int .i64 (x.i : Int))]) (fun x => Cli.Inv x.i x.c ∧ x.c.hw = ([1, 2] : List UInt8) ∧ Vw.le Vs19 x.V ∧ Pc.R x.V x.last x.hv x.ov ∧ Pc.few x.last = true ∧ x.i ≤ l.length ∧ x.i ≤ 100 ∧ x.c.name = nm) (fun x => l.length - x.i) (⟨(Cli.new nm [1, 2]), Vs19, Cli.zeroP, .slice none 0 0, .slice none 0 0, 0⟩ : Lo) ⟨(Cli.Inv.new hf), rfl, Vw.le_refl _, Pc.zero_R _, Cli.few_zero, Nat.zero_le _, Nat.zero_le _, rfl⟩ (fun a w i => ⟨i.1.sub (subB_cons (by first | rfl | exact congrArg (fun z => some (Value.int _ z)) (by omega)) (subB_cons (by first | rfl | exact congrArg (fun z => some (Value.int _ z)) (by omega)) (subB_cons (by first | rfl | exact congrArg (fun z => some (Value.int _ z)) (by omega)) (subB_cons (by first | rfl | exact congrArg (fun z => some (Value.int _ z)) (by omega)) (subB_cons (by first | rfl | exact congrArg (fun z => some (Value.int _ z)) (by omega)) (subB_cons (by first | rfl | exact congrArg (fun z => some (Value.int _ z)) (by omega)) (subB_nil _))))))), i.2⟩) ?_
 rintro ⟨c, Vn, last, hvl, ovl, i⟩ ⟨hi, hhw, hVle, hl, hlf, hil, hi9, hnm⟩
 dsimp only at hi hhw hVle hl hlf hil hi9 hnm ⊢
 replace hha : Rd Vn [] 1 w10 c.hw.length (c.hw.map byteV) := by rw [hhw]; exact hha.le hVle
 replace hhb : Rd Vn [] 1 w18 c.hw.length (c.hw.map byteV) := by rw [hhw]; exact hhb.le hVle
 replace hvs := hvs.le hVle
 replace hrs := hrs.le hVle
 obtain ⟨⟨pl, cl, rfl⟩, ql, nl, kl, rfl⟩ := hl.forms
 refine Tr.seq ?_
 refine Tr.seq ?_
 refine Tr.region ?_
 refine Run.val (lt rfl) (Y.move rfl) ?_
 refine Run.val (lt rfl) (Y.move rfl) ?_
 refine Run.val (lt rfl) (Y.lenSl rfl Law24c_es23) ?_
 refine Run.val (lt rfl) (Y.int rfl rfl rfl) ?_
 refine Run.val (lt rfl) (Y.move rfl) ?_
 rcases Bool.eq_false_or_eq_true (decide ((i : Int) < ((l.length : Nat) : Int))) with h21 | h21
 ·have g21 := h21
  try simp only [kb] at g21
  obtain ⟨b, off, c2, cs, et, fz, hw, hc, hk, hcs⟩ := hvs.opened (by omega)
  obtain ⟨rfl, rfl⟩ : p = some ⟨b, off, none⟩ ∧ c0 = c2 := by cases hw; exact ⟨rfl, rfl⟩
  clear hw
  have hrow := row_at (f := CStp.cells) CStp.len hcs (i := i) (by omega) (Nat.le_refl _) CStp.dflt
  have hmem := getD_mem (l := l) (j := i) (by omega) CStp.dflt
  generalize hse : l.getD i CStp.dflt = s at hrow hmem
  have hsR := hrs.at hmem
  have hsa := (hrs s hmem).2.1
  refine Run.on rfl rfl rfl h21 ?_
  refine Run.val (lt rfl) (Y.move rfl) ?_
  refine Run.on rfl rfl rfl h21 ?_
  refine Run.val (lt rfl) (Y.int rfl rfl rfl) ?_
  refine Run.val (lt rfl) (Y.pick_t rfl h21 rfl) ?_
  refine Run.to_end ?_
  refine Ex.go ?_
  rcases Bool.eq_false_or_eq_true (decide ((i : Int) < 100)) with h22 | h22
  ·have g22 := h22
   try simp only [kb] at g22
   refine Tr.cond_t rfl h22 ?_
   refine Tr.to_end ?_
   refine Ex.go ?_
   refine Tr.seq ?_
   refine Tr.block ?_
   refine Tr.seq ?_
   refine Tr.seq ?_
   refine Tr.region ?_
   refine Run.val (lt rfl) (Y.move rfl) ?_
   refine Run.val (lt rfl) (Y.move rfl) ?_
   refine Run.val (lt rfl) (Y.idxAddr rfl rfl Law24c_es23 (by omega) (by omega)) ?_
   refine Run.val (lt rfl) (Y.loadAgg rfl Law24c_ag39 hk.of_nil (cellsAt_of (CStp.cells s) _ hrow)) ?_
   refine Run.call0 (l := [.tmp 66]) rfl rfl rfl (lt rfl) ((long24_c hsR.hw hsR.os).frame) ?_
   refine Run.to_end ?_
   refine Ex.go ?_
   rcases Bool.eq_false_or_eq_true (Pc.few s.p) with h23 | h23
   ·have g23 := h23
    try simp only [kb] at g23
    refine Tr.cond_f rfl (congrArg Bool.not h23) ?_
    refine Tr.to_end ?_
    refine Ex.go ?_
    refine Tr.seq ?_
    refine Tr.seq ?_
    refine Tr.region ?_
    refine Run.val (lt rfl) (Y.move rfl) ?_
    refine Run.val (lt rfl) (Y.move rfl) ?_
    refine Run.val (lt rfl) (Y.idxAddr rfl rfl Law24c_es23 (by omega) (by omega)) ?_
    refine Run.val (lt rfl) (Y.fieldAddr rfl Law24c_fo39_0) ?_
    refine Run.val (lt rfl) (Y.load rfl Law24c_ts3 hk.of_nil (hrow 0 (by decide))) ?_
    refine Run.val (lt rfl) (Y.int rfl rfl rfl) ?_
    refine Run.to_end ?_
    refine Ex.go ?_
    rcases Bool.eq_false_or_eq_true (s.do_ != 0) with h24 | h24
    ·have g24 := h24
     try simp only [kb] at g24
     refine Tr.cond_t rfl h24 ?_
     refine Tr.seq ?_
     refine Tr.anyD [(b20, .cells #[.int .i64 last.op, .int .u32 last.xid, .int .i64 last.secs, .int .i64 last.flags, .int .u32 last.ci, .int .u32 last.yi, .int .u32 last.si, .int .u32 last.gi, .slice pl last.hw.length cl, .slice ql nl kl] 36 (0, 0)), (b, .cells cs et fz)] Law24c_mo ?_
     refine RunD.pure (i := 0) rfl (by kernel_rfl) (by kernel_rfl) (by kernel_rfl) (fun _ _ _ h => h) (lt rfl) (KnAll.cons (Kn.at 0 rfl) (KnAll.cons hk.of_nil KnAll.nil)) (fun _ => (Y.move rfl)) ?_
     refine RunD.pure (i := 1) rfl (by kernel_rfl) (by kernel_rfl) (by kernel_rfl) (fun _ _ _ h => h) (lt rfl) (KnAll.cons (Kn.at 0 rfl) (KnAll.cons hk.of_nil KnAll.nil)) (fun _ => (Y.move rfl)) ?_
     refine RunD.pure (i := 2) rfl (by kernel_rfl) (by kernel_rfl) (by kernel_rfl) (fun _ _ _ h => h) (lt rfl) (KnAll.cons (Kn.at 0 rfl) (KnAll.cons hk.of_nil KnAll.nil)) (fun _ => (Y.move rfl)) ?_
     refine RunD.pure (i := 3) rfl (by kernel_rfl) (by kernel_rfl) (by kernel_rfl) (fun _ _ _ h => h) (lt rfl) (KnAll.cons (Kn.at 0 rfl) (KnAll.cons hk.of_nil KnAll.nil)) (fun _ => (Y.move rfl)) ?_
     refine RunD.pure (i := 4) rfl (by kernel_rfl) (by kernel_rfl) (by kernel_rfl) (fun _ _ _ h => h) (lt rfl) (KnAll.cons (Kn.at 0 rfl) (KnAll.cons hk.of_nil KnAll.nil)) (fun _ => (Y.idxAddr rfl rfl Law24c_es23 (by omega) (by omega))) ?_
     refine RunD.take (i := 5) 1 rfl rfl (by kernel_rfl) (by kernel_rfl) (by kernel_rfl) (fun _ _ _ h => h) (lt rfl) (KnAll.cons (Kn.at 0 rfl) (KnAll.cons hk.of_nil KnAll.nil)) (fun _ => (Y.loadAgg rfl Law24c_ag39 Kn.vk1 (cellsAt_of (CStp.cells s) _ hrow))) ?_
     refine RunD.take (i := 6) 0 rfl rfl (by kernel_rfl) (by kernel_rfl) (by kernel_rfl) (fun _ _ _ h => h) (lt rfl) (KnAll.cons (Kn.at 0 rfl) (KnAll.cons hk.of_nil KnAll.nil)) (fun _ => (Y.loadAgg rfl Law24c_ag36 Kn.vk1 rfl)) ?_
     refine RunD.two (i := 7) (j := 11) (by kernel_rfl) rfl rfl  ?_ ?_ 
     ·refine Run.call [1, 1] (l := [.tmp 75, .tmp 76, .tmp 80, .tmp 81]) rfl rfl rfl (lt rfl) (step_c (n := i) (c := c) (s := s) (last := last) hi (by omega) hha hhb hl hlf hsR (by simpa using h23) hsa) (fun v25 V2 H2 hle26 hR => ?_)
      obtain ⟨_, rfl, w27, w28, rfl, hRs29⟩ := hR
      obtain ⟨⟨p30, c31, rfl⟩, p32, n33, c34, rfl⟩ := hRs29.forms
      obtain ⟨Vs35, hVe⟩ : ∃ V3 : Vw, V3 = V2 := ⟨_, rfl⟩
      subst hVe
      replace hha := hha.le hle26
      replace hhb := hhb.le hle26
      replace hrs := hrs.le hle26
      replace hl := hl.le hle26
      replace hsR := hsR.le hle26
      replace hk := hk.le hle26
      replace hVle := Vw.le_trans hVle hle26
      refine Run.heapTo (H' := [[(b20, .cells #[.int .i64 last.op, .int .u32 last.xid, .int .i64 last.secs, .int .i64 last.flags, .int .u32 last.ci, .int .u32 last.yi, .int .u32 last.si, .int .u32 last.gi, .slice pl last.hw.length cl, .slice ql nl kl] 36 (0, 0))], [(b9, .cells #[.string ((Cli.stepC c s last).name), w10, .int .i64 ((Cli.stepC c s last).state), .int .u32 ((Cli.stepC c s last).xid), .int .u32 ((Cli.stepC c s last).addr), .int .u32 ((Cli.stepC c s last).server), .int .i64 ((Cli.stepC c s last).until_), .int .i64 ((Cli.stepC c s last).one), .int .i64 ((Cli.stepC c s last).two), .bool ((Cli.stepC c s last).due), .int .i64 ((Cli.stepC c s last).tries), .int .i64 ((Cli.stepC c s last).said), .int .i64 ((Cli.stepC c s last).asks)] 67 (0, 0))], [(b17, .cells #[.string ((Cli.stepC c s last).name), w18, .int .i64 ((Cli.stepC c s last).state), .int .u32 ((Cli.stepC c s last).xid), .int .u32 ((Cli.stepC c s last).addr), .int .u32 ((Cli.stepC c s last).server), .int .i64 ((Cli.stepC c s last).until_), .int .i64 ((Cli.stepC c s last).one), .int .i64 ((Cli.stepC c s last).two), .bool ((Cli.stepC c s last).due), .int .i64 ((Cli.stepC c s last).tries), .int .i64 ((Cli.stepC c s last).said), .int .i64 ((Cli.stepC c s last).asks)] 44 (0, 0))]]) rfl ?_
      refine Run.to_end ?_
      refine Ex.anyD (KnAll.cons (Kn.at 0 rfl) (KnAll.cons hk.of_nil KnAll.nil)) ?_
      refine RunD.pure (i := 8) rfl (by kernel_rfl) (by kernel_rfl) (by kernel_rfl) (fun _ _ _ h => h) (lt rfl) (KnAll.cons (Kn.at 0 rfl) (KnAll.cons hk.of_nil KnAll.nil)) (fun _ => (Y.move rfl)) ?_
      refine RunD.pure (i := 9) rfl (by kernel_rfl) (by kernel_rfl) (by kernel_rfl) (fun _ _ _ h => h) (lt rfl) (KnAll.cons (Kn.at 0 rfl) (KnAll.cons hk.of_nil KnAll.nil)) (fun _ => (Y.extract rfl rfl)) ?_
      refine RunD.pure (i := 10) rfl (by kernel_rfl) (by kernel_rfl) (by kernel_rfl) (fun _ _ _ h => h) (lt rfl) (KnAll.cons (Kn.at 0 rfl) (KnAll.cons hk.of_nil KnAll.nil)) (fun _ => (Y.extract rfl rfl)) ?_
      refine RunD.one (i := 11) (by kernel_rfl) rfl  ?_ 
      refine Run.alloc Law24c_zo36 (lt rfl) (fun b36 => ?_)
      refine Run.to_end ?_
      refine Ex.anyD (KnAll.cons (Kn.at 1 rfl) (KnAll.cons hk.of_nil KnAll.nil)) ?_
      refine RunD.one (i := 12) (by kernel_rfl) rfl  ?_ 
      refine Run.store (s := [(b36, .cells #[.int .i64 ((Cli.stepL c s last).op), .int .u32 ((Cli.stepL c s last).xid), .int .i64 ((Cli.stepL c s last).secs), .int .i64 ((Cli.stepL c s last).flags), .int .u32 ((Cli.stepL c s last).ci), .int .u32 ((Cli.stepL c s last).yi), .int .u32 ((Cli.stepL c s last).si), .int .u32 ((Cli.stepL c s last).gi), .slice p30 (Cli.stepL c s last).hw.length c31, .slice p32 n33 c34] 36 (0, 0))]) rfl rfl Law24c_sz36 (i := 0) rfl rfl (le rfl) rfl rfl ?_
      refine Run.to_end ?_
      refine Ex.anyD (KnAll.cons (Kn.at 1 rfl) (KnAll.cons hk.of_nil KnAll.nil)) ?_
      refine RunD.pure (i := 13) rfl (by kernel_rfl) (by kernel_rfl) (by kernel_rfl) (fun _ _ _ h => h) (lt rfl) (KnAll.cons (Kn.at 1 rfl) (KnAll.cons hk.of_nil KnAll.nil)) (fun _ => (Y.assign rfl)) ?_
      refine RunD.done (by kernel_rfl) ?_
      refine Ex.go ?_
      refine Tr.seq ?_
      refine Tr.region ?_
      refine Run.val (lt rfl) (Y.loadAgg rfl Law24c_ag36 (Kn.at 0 rfl) rfl) ?_
      refine Run.store (s := [(b20, .cells #[.int .i64 ((Cli.stepL c s last).op), .int .u32 ((Cli.stepL c s last).xid), .int .i64 ((Cli.stepL c s last).secs), .int .i64 ((Cli.stepL c s last).flags), .int .u32 ((Cli.stepL c s last).ci), .int .u32 ((Cli.stepL c s last).yi), .int .u32 ((Cli.stepL c s last).si), .int .u32 ((Cli.stepL c s last).gi), .slice p30 (Cli.stepL c s last).hw.length c31, .slice p32 n33 c34] 36 (0, 0))]) rfl rfl Law24c_sz36 (i := 1) rfl rfl (le rfl) rfl rfl ?_
      refine Run.to_end ?_
      refine Ex.go ?_
      refine Tr.to_exit ?_
      refine Ex.exit_then ?_
      refine Ex.exit_in ?_
      refine Ex.go ?_
      refine Tr.region ?_
      refine Run.val (lt rfl) (Y.move rfl) ?_
      refine Run.val (lt rfl) (Y.add rfl rfl (by omega)) ?_
      refine Run.val (lt rfl) (Y.assign rfl) ?_
      refine Run.to_end ?_
      refine Ex.keep [1, 1, 1] ?_
      exact Ex.round (⟨Cli.stepC c s last, Vs35, Cli.stepL c s last, .slice p30 (Cli.stepL c s last).hw.length c31, .slice p32 n33 c34, i + 1⟩ : Lo) ⟨hi.step s ⟨hsR.yi, hsR.si⟩ hsa, (Cli.step_same c s last).1.trans hhw, hVle, hRs29, Cli.few_stepL hi s hlf, by show i + 1 ≤ l.length; omega, by show i + 1 ≤ 100; omega, (Cli.step_same c s last).2.trans hnm⟩ (by show l.length - (i + 1) < l.length - i; omega) rfl rfl (subB_cons (by first | rfl | exact congrArg (fun z => some (Value.int _ z)) (by omega)) (subB_cons (by first | rfl | exact congrArg (fun z => some (Value.int _ z)) (by omega)) (subB_cons (by first | rfl | exact congrArg (fun z => some (Value.int _ z)) (by omega)) (subB_cons (by first | rfl | exact congrArg (fun z => some (Value.int _ z)) (by omega)) (subB_cons (by first | rfl | exact congrArg (fun z => some (Value.int _ z)) (by omega)) (subB_cons (by first | rfl | exact congrArg (fun z => some (Value.int _ z)) (by omega)) (subB_nil _)))))))
     ·refine Run.alloc Law24c_zo36 (lt rfl) (fun b37 => ?_)
      refine Run.to_end ?_
      refine Ex.anyD (KnAll.cons (Kn.at 1 rfl) (KnAll.cons hk.of_nil KnAll.nil)) ?_
      refine RunD.one (i := 7) (by kernel_rfl) rfl  ?_ 
      refine Run.call [2, 2] (l := [.tmp 75, .tmp 76, .tmp 80, .tmp 81]) rfl rfl rfl (lt rfl) (step_c (n := i) (c := c) (s := s) (last := last) hi (by omega) hha hhb hl hlf hsR (by simpa using h23) hsa) (fun v38 V2 H2 hle39 hR => ?_)
      obtain ⟨_, rfl, w40, w41, rfl, hRs42⟩ := hR
      obtain ⟨⟨p43, c44, rfl⟩, p45, n46, c47, rfl⟩ := hRs42.forms
      obtain ⟨Vs48, hVe⟩ : ∃ V3 : Vw, V3 = V2 := ⟨_, rfl⟩
      subst hVe
      replace hha := hha.le hle39
      replace hhb := hhb.le hle39
      replace hrs := hrs.le hle39
      replace hl := hl.le hle39
      replace hsR := hsR.le hle39
      replace hk := hk.le hle39
      replace hVle := Vw.le_trans hVle hle39
      refine Run.heapTo (H' := [[(b37, .cells #[.int .i64 0, .int .u32 0, .int .i64 0, .int .i64 0, .int .u32 0, .int .u32 0, .int .u32 0, .int .u32 0, .slice none 0 0, .slice none 0 0] 36 (0, 0))], [(b20, .cells #[.int .i64 last.op, .int .u32 last.xid, .int .i64 last.secs, .int .i64 last.flags, .int .u32 last.ci, .int .u32 last.yi, .int .u32 last.si, .int .u32 last.gi, .slice pl last.hw.length cl, .slice ql nl kl] 36 (0, 0))], [(b9, .cells #[.string ((Cli.stepC c s last).name), w10, .int .i64 ((Cli.stepC c s last).state), .int .u32 ((Cli.stepC c s last).xid), .int .u32 ((Cli.stepC c s last).addr), .int .u32 ((Cli.stepC c s last).server), .int .i64 ((Cli.stepC c s last).until_), .int .i64 ((Cli.stepC c s last).one), .int .i64 ((Cli.stepC c s last).two), .bool ((Cli.stepC c s last).due), .int .i64 ((Cli.stepC c s last).tries), .int .i64 ((Cli.stepC c s last).said), .int .i64 ((Cli.stepC c s last).asks)] 67 (0, 0))], [(b17, .cells #[.string ((Cli.stepC c s last).name), w18, .int .i64 ((Cli.stepC c s last).state), .int .u32 ((Cli.stepC c s last).xid), .int .u32 ((Cli.stepC c s last).addr), .int .u32 ((Cli.stepC c s last).server), .int .i64 ((Cli.stepC c s last).until_), .int .i64 ((Cli.stepC c s last).one), .int .i64 ((Cli.stepC c s last).two), .bool ((Cli.stepC c s last).due), .int .i64 ((Cli.stepC c s last).tries), .int .i64 ((Cli.stepC c s last).said), .int .i64 ((Cli.stepC c s last).asks)] 44 (0, 0))]]) rfl ?_
      refine Run.to_end ?_
      refine Ex.anyD (KnAll.cons (Kn.at 1 rfl) (KnAll.cons hk.of_nil KnAll.nil)) ?_
      refine RunD.pure (i := 8) rfl (by kernel_rfl) (by kernel_rfl) (by kernel_rfl) (fun _ _ _ h => h) (lt rfl) (KnAll.cons (Kn.at 1 rfl) (KnAll.cons hk.of_nil KnAll.nil)) (fun _ => (Y.move rfl)) ?_
      refine RunD.pure (i := 9) rfl (by kernel_rfl) (by kernel_rfl) (by kernel_rfl) (fun _ _ _ h => h) (lt rfl) (KnAll.cons (Kn.at 1 rfl) (KnAll.cons hk.of_nil KnAll.nil)) (fun _ => (Y.extract rfl rfl)) ?_
      refine RunD.pure (i := 10) rfl (by kernel_rfl) (by kernel_rfl) (by kernel_rfl) (fun _ _ _ h => h) (lt rfl) (KnAll.cons (Kn.at 1 rfl) (KnAll.cons hk.of_nil KnAll.nil)) (fun _ => (Y.extract rfl rfl)) ?_
      refine RunD.one (i := 12) (by kernel_rfl) rfl  ?_ 
      refine Run.store (s := [(b37, .cells #[.int .i64 ((Cli.stepL c s last).op), .int .u32 ((Cli.stepL c s last).xid), .int .i64 ((Cli.stepL c s last).secs), .int .i64 ((Cli.stepL c s last).flags), .int .u32 ((Cli.stepL c s last).ci), .int .u32 ((Cli.stepL c s last).yi), .int .u32 ((Cli.stepL c s last).si), .int .u32 ((Cli.stepL c s last).gi), .slice p43 (Cli.stepL c s last).hw.length c44, .slice p45 n46 c47] 36 (0, 0))]) rfl rfl Law24c_sz36 (i := 0) rfl rfl (le rfl) rfl rfl ?_
      refine Run.to_end ?_
      refine Ex.anyD (KnAll.cons (Kn.at 1 rfl) (KnAll.cons hk.of_nil KnAll.nil)) ?_
      refine RunD.pure (i := 13) rfl (by kernel_rfl) (by kernel_rfl) (by kernel_rfl) (fun _ _ _ h => h) (lt rfl) (KnAll.cons (Kn.at 1 rfl) (KnAll.cons hk.of_nil KnAll.nil)) (fun _ => (Y.assign rfl)) ?_
      refine RunD.done (by kernel_rfl) ?_
      refine Ex.go ?_
      refine Tr.seq ?_
      refine Tr.region ?_
      refine Run.val (lt rfl) (Y.loadAgg rfl Law24c_ag36 (Kn.at 0 rfl) rfl) ?_
      refine Run.store (s := [(b20, .cells #[.int .i64 ((Cli.stepL c s last).op), .int .u32 ((Cli.stepL c s last).xid), .int .i64 ((Cli.stepL c s last).secs), .int .i64 ((Cli.stepL c s last).flags), .int .u32 ((Cli.stepL c s last).ci), .int .u32 ((Cli.stepL c s last).yi), .int .u32 ((Cli.stepL c s last).si), .int .u32 ((Cli.stepL c s last).gi), .slice p43 (Cli.stepL c s last).hw.length c44, .slice p45 n46 c47] 36 (0, 0))]) rfl rfl Law24c_sz36 (i := 1) rfl rfl (le rfl) rfl rfl ?_
      refine Run.to_end ?_
      refine Ex.go ?_
      refine Tr.to_exit ?_
      refine Ex.exit_then ?_
      refine Ex.exit_in ?_
      refine Ex.go ?_
      refine Tr.region ?_
      refine Run.val (lt rfl) (Y.move rfl) ?_
      refine Run.val (lt rfl) (Y.add rfl rfl (by omega)) ?_
      refine Run.val (lt rfl) (Y.assign rfl) ?_
      refine Run.to_end ?_
      refine Ex.keep [1, 1, 1] ?_
      exact Ex.round (⟨Cli.stepC c s last, Vs48, Cli.stepL c s last, .slice p43 (Cli.stepL c s last).hw.length c44, .slice p45 n46 c47, i + 1⟩ : Lo) ⟨hi.step s ⟨hsR.yi, hsR.si⟩ hsa, (Cli.step_same c s last).1.trans hhw, hVle, hRs42, Cli.few_stepL hi s hlf, by show i + 1 ≤ l.length; omega, by show i + 1 ≤ 100; omega, (Cli.step_same c s last).2.trans hnm⟩ (by show l.length - (i + 1) < l.length - i; omega) rfl rfl (subB_cons (by first | rfl | exact congrArg (fun z => some (Value.int _ z)) (by omega)) (subB_cons (by first | rfl | exact congrArg (fun z => some (Value.int _ z)) (by omega)) (subB_cons (by first | rfl | exact congrArg (fun z => some (Value.int _ z)) (by omega)) (subB_cons (by first | rfl | exact congrArg (fun z => some (Value.int _ z)) (by omega)) (subB_cons (by first | rfl | exact congrArg (fun z => some (Value.int _ z)) (by omega)) (subB_cons (by first | rfl | exact congrArg (fun z => some (Value.int _ z)) (by omega)) (subB_nil _)))))))
    ·have g24 := h24
     try simp only [kb] at g24
     refine Tr.cond_f rfl h24 ?_
     refine Tr.to_end ?_
     refine Ex.go ?_
     refine Tr.seq ?_
     refine Tr.region ?_
     refine Run.val (lt rfl) (Y.move rfl) ?_
     refine Run.val (lt rfl) (Y.move rfl) ?_
     refine Run.val (lt rfl) (Y.move rfl) ?_
     refine Run.val (lt rfl) (Y.idxAddr rfl rfl Law24c_es23 (by omega) (by omega)) ?_
     refine Run.val (lt rfl) (Y.fieldAddr rfl Law24c_fo39_1) ?_
     refine Run.val (lt rfl) (Y.load rfl Law24c_ts3 hk.of_nil (hrow 1 (by decide))) ?_
     refine Run.call [1] (l := [.tmp 87, .tmp 92]) rfl rfl rfl (lt rfl) (tick_c (n := (i : Int)) (c := c) (now := s.now) hi (by omega) hha) (fun v49 V2 H2 hle50 hR => ?_)
     obtain ⟨_, rfl, psa, rfl, hka⟩ := hR
     obtain ⟨Vs51, hVe⟩ : ∃ V3 : Vw, V3 = V2 := ⟨_, rfl⟩
     subst hVe
     replace hha := hha.le hle50
     replace hhb := hhb.le hle50
     replace hrs := hrs.le hle50
     replace hl := hl.le hle50
     replace hsR := hsR.le hle50
     replace hk := hk.le hle50
     replace hVle := Vw.le_trans hVle hle50
     refine Run.heapTo (H' := [[(b20, .cells #[.int .i64 last.op, .int .u32 last.xid, .int .i64 last.secs, .int .i64 last.flags, .int .u32 last.ci, .int .u32 last.yi, .int .u32 last.si, .int .u32 last.gi, .slice pl last.hw.length cl, .slice ql nl kl] 36 (0, 0))], [(b17, .cells #[.string c.name, w18, .int .i64 c.state, .int .u32 c.xid, .int .u32 c.addr, .int .u32 c.server, .int .i64 c.until_, .int .i64 c.one, .int .i64 c.two, .bool c.due, .int .i64 c.tries, .int .i64 c.said, .int .i64 c.asks] 44 (0, 0))], [(b9, .cells #[.string ((Cli.tickC c s.now).name), w10, .int .i64 ((Cli.tickC c s.now).state), .int .u32 ((Cli.tickC c s.now).xid), .int .u32 ((Cli.tickC c s.now).addr), .int .u32 ((Cli.tickC c s.now).server), .int .i64 ((Cli.tickC c s.now).until_), .int .i64 ((Cli.tickC c s.now).one), .int .i64 ((Cli.tickC c s.now).two), .bool ((Cli.tickC c s.now).due), .int .i64 ((Cli.tickC c s.now).tries), .int .i64 ((Cli.tickC c s.now).said), .int .i64 ((Cli.tickC c s.now).asks)] 67 (0, 0))]]) rfl ?_
     refine Run.val (lt rfl) (Y.move rfl) ?_
     refine Run.val (lt rfl) (Y.extract rfl rfl) ?_
     refine Run.val (lt rfl) (Y.extract rfl rfl) ?_
     refine Run.val (lt rfl) (Y.assign rfl) ?_
     refine Run.val (lt rfl) (Y.assign rfl) ?_
     refine Run.to_end ?_
     refine Ex.go ?_
     refine Tr.seq ?_
     refine Tr.region ?_
     refine Run.val (lt rfl) (Y.move rfl) ?_
     refine Run.val (lt rfl) (Y.move rfl) ?_
     refine Run.val (lt rfl) (Y.move rfl) ?_
     refine Run.val (lt rfl) (Y.idxAddr rfl rfl Law24c_es23 (by omega) (by omega)) ?_
     refine Run.val (lt rfl) (Y.fieldAddr rfl Law24c_fo39_1) ?_
     refine Run.val (lt rfl) (Y.load rfl Law24c_ts3 hk.of_nil (hrow 1 (by decide))) ?_
     refine Run.call [1] (l := [.tmp 96, .tmp 101]) rfl rfl rfl (lt rfl) (rtick_c (n := (i : Int)) (c := c) (now := s.now) hi (by omega) hhb) (fun v52 V2 H2 hle53 hR => ?_)
     obtain ⟨_, rfl, psb, rfl, hkb⟩ := hR
     obtain ⟨Vs54, hVe⟩ : ∃ V3 : Vw, V3 = V2 := ⟨_, rfl⟩
     subst hVe
     replace hha := hha.le hle53
     replace hhb := hhb.le hle53
     replace hrs := hrs.le hle53
     replace hl := hl.le hle53
     replace hsR := hsR.le hle53
     replace hk := hk.le hle53
     replace hka := hka.le hle53
     replace hVle := Vw.le_trans hVle hle53
     refine Run.heapTo (H' := [[(b20, .cells #[.int .i64 last.op, .int .u32 last.xid, .int .i64 last.secs, .int .i64 last.flags, .int .u32 last.ci, .int .u32 last.yi, .int .u32 last.si, .int .u32 last.gi, .slice pl last.hw.length cl, .slice ql nl kl] 36 (0, 0))], [(b9, .cells #[.string ((Cli.tickC c s.now).name), w10, .int .i64 ((Cli.tickC c s.now).state), .int .u32 ((Cli.tickC c s.now).xid), .int .u32 ((Cli.tickC c s.now).addr), .int .u32 ((Cli.tickC c s.now).server), .int .i64 ((Cli.tickC c s.now).until_), .int .i64 ((Cli.tickC c s.now).one), .int .i64 ((Cli.tickC c s.now).two), .bool ((Cli.tickC c s.now).due), .int .i64 ((Cli.tickC c s.now).tries), .int .i64 ((Cli.tickC c s.now).said), .int .i64 ((Cli.tickC c s.now).asks)] 67 (0, 0))], [(b17, .cells #[.string ((Cli.tickC c s.now).name), w18, .int .i64 ((Cli.tickC c s.now).state), .int .u32 ((Cli.tickC c s.now).xid), .int .u32 ((Cli.tickC c s.now).addr), .int .u32 ((Cli.tickC c s.now).server), .int .i64 ((Cli.tickC c s.now).until_), .int .i64 ((Cli.tickC c s.now).one), .int .i64 ((Cli.tickC c s.now).two), .bool ((Cli.tickC c s.now).due), .int .i64 ((Cli.tickC c s.now).tries), .int .i64 ((Cli.tickC c s.now).said), .int .i64 ((Cli.tickC c s.now).asks)] 44 (0, 0))]]) rfl ?_
     refine Run.to_end ?_
     refine Ex.go ?_
     refine Tr.seq ?_
     refine Tr.seq ?_
     refine Tr.region ?_
     rcases htp : Cli.tickP c s.now with _ | ⟨q, ql2⟩
     ·rw [htp] at hka
      have hk2a : psa = .slice none 0 0 := hka
      subst hk2a
      refine Run.val (lt rfl) (Y.move rfl) ?_
      refine Run.val (lt rfl) (Y.int rfl rfl rfl) ?_
      refine Run.to_end ?_
      refine Ex.go ?_
      rcases Bool.eq_false_or_eq_true ((Cli.tickE s.now) != 0) with h55 | h55
      ·have g55 := h55
       try simp only [kb] at g55
       refine Tr.cond_t rfl h55 ?_
       refine Tr.to_exit ?_
       refine Ex.exit_then ?_
       refine Ex.exit_in ?_
       refine Ex.go ?_
       refine Tr.region ?_
       refine Run.val (lt rfl) (Y.move rfl) ?_
       refine Run.val (lt rfl) (Y.add rfl rfl (by omega)) ?_
       refine Run.val (lt rfl) (Y.assign rfl) ?_
       refine Run.to_end ?_
       refine Ex.keep [0, 0, 0] ?_
       exact Ex.round (⟨(Cli.tickC c s.now), Vs54, last, .slice pl last.hw.length cl, .slice ql nl kl, i + 1⟩ : Lo) ⟨hi.tick s.now, (Cli.tick_same c s.now).1.trans hhw, hVle, hl, hlf, by show i + 1 ≤ l.length; omega, by show i + 1 ≤ 100; omega, (Cli.tick_same c s.now).2.trans hnm⟩ (by show l.length - (i + 1) < l.length - i; omega) rfl rfl (subB_cons (by first | rfl | exact congrArg (fun z => some (Value.int _ z)) (by omega)) (subB_cons (by first | rfl | exact congrArg (fun z => some (Value.int _ z)) (by omega)) (subB_cons (by first | rfl | exact congrArg (fun z => some (Value.int _ z)) (by omega)) (subB_cons (by first | rfl | exact congrArg (fun z => some (Value.int _ z)) (by omega)) (subB_cons (by first | rfl | exact congrArg (fun z => some (Value.int _ z)) (by omega)) (subB_cons (by first | rfl | exact congrArg (fun z => some (Value.int _ z)) (by omega)) (subB_nil _)))))))
      ·have g55 := h55
       try simp only [kb] at g55
       refine Tr.cond_f rfl h55 ?_
       refine Tr.to_end ?_
       refine Ex.go ?_
       refine Tr.seq ?_
       refine Tr.region ?_
       refine Run.val (lt rfl) (Y.assign rfl) ?_
       refine Run.to_end ?_
       refine Ex.go ?_
       refine Tr.block ?_
       refine Tr.loop (X := Lo) (fun x => x.V) (fun x => [[(b20, .cells #[.int .i64 x.last.op, .int .u32 x.last.xid, .int .i64 x.last.secs, .int .i64 x.last.flags, .int .u32 x.last.ci, .int .u32 x.last.yi, .int .u32 x.last.si, .int .u32 x.last.gi, x.hv, x.ov] 36 (0, 0))], [(b9, .cells #[.string ((Cli.tickC c s.now).name), w10, .int .i64 ((Cli.tickC c s.now).state), .int .u32 ((Cli.tickC c s.now).xid), .int .u32 ((Cli.tickC c s.now).addr), .int .u32 ((Cli.tickC c s.now).server), .int .i64 ((Cli.tickC c s.now).until_), .int .i64 ((Cli.tickC c s.now).one), .int .i64 ((Cli.tickC c s.now).two), .bool ((Cli.tickC c s.now).due), .int .i64 ((Cli.tickC c s.now).tries), .int .i64 ((Cli.tickC c s.now).said), .int .i64 ((Cli.tickC c s.now).asks)] 67 (0, 0))], [(b17, .cells #[.string ((Cli.tickC c s.now).name), w18, .int .i64 ((Cli.tickC c s.now).state), .int .u32 ((Cli.tickC c s.now).xid), .int .u32 ((Cli.tickC c s.now).addr), .int .u32 ((Cli.tickC c s.now).server), .int .i64 ((Cli.tickC c s.now).until_), .int .i64 ((Cli.tickC c s.now).one), .int .i64 ((Cli.tickC c s.now).two), .bool ((Cli.tickC c s.now).due), .int .i64 ((Cli.tickC c s.now).tries), .int .i64 ((Cli.tickC c s.now).said), .int .i64 ((Cli.tickC c s.now).asks)] 44 (0, 0))]]) (fun x => [(0, .string nm), (1, .slice (some ⟨b, off, none⟩) l.length c0), (6, .pointer (some ⟨b9, 0, none⟩)), (8, .pointer (some ⟨b17, 0, none⟩)), (10, .pointer (some ⟨b20, 0, none⟩)), (11, .int .i64 (i : Int)), (14, .slice none 0 0), (16, .int .i64 (x.i : Int))]) (fun x => Vw.le Vs54 x.V ∧ Pc.R x.V x.last x.hv x.ov ∧ Pc.few x.last = true ∧ x.i ≤ 0) (fun x => 0 - x.i) (⟨c, Vs54, last, .slice pl last.hw.length cl, .slice ql nl kl, 0⟩ : Lo) ⟨Vw.le_refl _, hl, hlf, Nat.zero_le _⟩ (fun a w i => ⟨i.1.sub (subB_cons (by first | rfl | exact congrArg (fun z => some (Value.int _ z)) (by omega)) (subB_cons (by first | rfl | exact congrArg (fun z => some (Value.int _ z)) (by omega)) (subB_cons (by first | rfl | exact congrArg (fun z => some (Value.int _ z)) (by omega)) (subB_cons (by first | rfl | exact congrArg (fun z => some (Value.int _ z)) (by omega)) (subB_cons (by first | rfl | exact congrArg (fun z => some (Value.int _ z)) (by omega)) (subB_cons (by first | rfl | exact congrArg (fun z => some (Value.int _ z)) (by omega)) (subB_cons (by first | rfl | exact congrArg (fun z => some (Value.int _ z)) (by omega)) (subB_cons (by first | rfl | exact congrArg (fun z => some (Value.int _ z)) (by omega)) (subB_nil _))))))))), i.2⟩) ?_
       rintro ⟨cj, Vj, last2, hvj, ovj, j⟩ ⟨hVj, hl2, hlf2, hj⟩
       dsimp only at hVj hl2 hlf2 hj ⊢
       replace hVle := Vw.le_trans hVle hVj
       obtain ⟨⟨pj, cj2, rfl⟩, qj, nj, kj, rfl⟩ := hl2.forms
       refine Tr.seq ?_
       refine Tr.seq ?_
       refine Tr.region ?_
       refine Run.val (lt rfl) (Y.move rfl) ?_
       refine Run.val (lt rfl) (Y.move rfl) ?_
       refine Run.val (lt rfl) (Y.lenSl rfl Law24c_es48) ?_
       refine Run.val (lt rfl) (Y.int rfl rfl rfl) ?_
       refine Run.to_end ?_
       refine Ex.go ?_
       rcases Bool.eq_false_or_eq_true (decide ((j : Int) < 0)) with h56 | h56
       ·have g56 := h56
        try simp only [kb] at g56
        omega
       ·have g56 := h56
        try simp only [kb] at g56
        refine Tr.cond_f rfl h56 ?_
        refine Tr.to_exit ?_
        refine Ex.exit_then ?_
        refine Ex.exit_then ?_
        refine Ex.exit_in ?_
        refine Ex.end_block ?_
        refine Ex.go ?_
        refine Tr.region ?_
        refine Run.val (lt rfl) (Y.move rfl) ?_
        refine Run.val (lt rfl) (Y.add rfl rfl (by omega)) ?_
        refine Run.val (lt rfl) (Y.assign rfl) ?_
        refine Run.to_end ?_
        refine Ex.keep [0, 0, 0] ?_
        exact Ex.round (⟨(Cli.tickC c s.now), Vj, last2, .slice pj last2.hw.length cj2, .slice qj nj kj, i + 1⟩ : Lo) ⟨hi.tick s.now, (Cli.tick_same c s.now).1.trans hhw, hVle, hl2, hlf2, by show i + 1 ≤ l.length; omega, by show i + 1 ≤ 100; omega, (Cli.tick_same c s.now).2.trans hnm⟩ (by show l.length - (i + 1) < l.length - i; omega) rfl rfl (subB_cons (by first | rfl | exact congrArg (fun z => some (Value.int _ z)) (by omega)) (subB_cons (by first | rfl | exact congrArg (fun z => some (Value.int _ z)) (by omega)) (subB_cons (by first | rfl | exact congrArg (fun z => some (Value.int _ z)) (by omega)) (subB_cons (by first | rfl | exact congrArg (fun z => some (Value.int _ z)) (by omega)) (subB_cons (by first | rfl | exact congrArg (fun z => some (Value.int _ z)) (by omega)) (subB_cons (by first | rfl | exact congrArg (fun z => some (Value.int _ z)) (by omega)) (subB_nil _)))))))
     ·rw [htp] at hka
      have hqf := Cli.few_tick hi (now := s.now) (p := q) (by rw [htp]; exact List.mem_cons_self ..)
      obtain ⟨x1, x2, x3, x4, x5, x6⟩ := Cli.says_all hi htp
      have hqo := Cli.few_os hqf
      obtain ⟨ba, ha1, ha2, rfl, hma, hRa⟩ := hka
      obtain ⟨⟨pa1, ca1, rfl⟩, pa2, na2, ca2, rfl⟩ := hRa.forms
      refine Run.val (lt rfl) (Y.move rfl) ?_
      refine Run.val (lt rfl) (Y.int rfl rfl rfl) ?_
      refine Run.to_end ?_
      refine Ex.go ?_
      rcases Bool.eq_false_or_eq_true ((Cli.tickE s.now) != 0) with h57 | h57
      ·have g57 := h57
       try simp only [kb] at g57
       refine Tr.cond_t rfl h57 ?_
       refine Tr.to_exit ?_
       refine Ex.exit_then ?_
       refine Ex.exit_in ?_
       refine Ex.go ?_
       refine Tr.region ?_
       refine Run.val (lt rfl) (Y.move rfl) ?_
       refine Run.val (lt rfl) (Y.add rfl rfl (by omega)) ?_
       refine Run.val (lt rfl) (Y.assign rfl) ?_
       refine Run.to_end ?_
       refine Ex.keep [0, 0, 0] ?_
       exact Ex.round (⟨(Cli.tickC c s.now), Vs54, last, .slice pl last.hw.length cl, .slice ql nl kl, i + 1⟩ : Lo) ⟨hi.tick s.now, (Cli.tick_same c s.now).1.trans hhw, hVle, hl, hlf, by show i + 1 ≤ l.length; omega, by show i + 1 ≤ 100; omega, (Cli.tick_same c s.now).2.trans hnm⟩ (by show l.length - (i + 1) < l.length - i; omega) rfl rfl (subB_cons (by first | rfl | exact congrArg (fun z => some (Value.int _ z)) (by omega)) (subB_cons (by first | rfl | exact congrArg (fun z => some (Value.int _ z)) (by omega)) (subB_cons (by first | rfl | exact congrArg (fun z => some (Value.int _ z)) (by omega)) (subB_cons (by first | rfl | exact congrArg (fun z => some (Value.int _ z)) (by omega)) (subB_cons (by first | rfl | exact congrArg (fun z => some (Value.int _ z)) (by omega)) (subB_cons (by first | rfl | exact congrArg (fun z => some (Value.int _ z)) (by omega)) (subB_nil _)))))))
      ·have g57 := h57
       try simp only [kb] at g57
       refine Tr.cond_f rfl h57 ?_
       refine Tr.to_end ?_
       refine Ex.go ?_
       refine Tr.seq ?_
       refine Tr.region ?_
       refine Run.val (lt rfl) (Y.assign rfl) ?_
       refine Run.to_end ?_
       refine Ex.go ?_
       refine Tr.block ?_
       refine Tr.loop (X := Lo) (fun x => x.V) (fun x => [[(b20, .cells #[.int .i64 x.last.op, .int .u32 x.last.xid, .int .i64 x.last.secs, .int .i64 x.last.flags, .int .u32 x.last.ci, .int .u32 x.last.yi, .int .u32 x.last.si, .int .u32 x.last.gi, x.hv, x.ov] 36 (0, 0))], [(b9, .cells #[.string ((Cli.tickC c s.now).name), w10, .int .i64 ((Cli.tickC c s.now).state), .int .u32 ((Cli.tickC c s.now).xid), .int .u32 ((Cli.tickC c s.now).addr), .int .u32 ((Cli.tickC c s.now).server), .int .i64 ((Cli.tickC c s.now).until_), .int .i64 ((Cli.tickC c s.now).one), .int .i64 ((Cli.tickC c s.now).two), .bool ((Cli.tickC c s.now).due), .int .i64 ((Cli.tickC c s.now).tries), .int .i64 ((Cli.tickC c s.now).said), .int .i64 ((Cli.tickC c s.now).asks)] 67 (0, 0))], [(b17, .cells #[.string ((Cli.tickC c s.now).name), w18, .int .i64 ((Cli.tickC c s.now).state), .int .u32 ((Cli.tickC c s.now).xid), .int .u32 ((Cli.tickC c s.now).addr), .int .u32 ((Cli.tickC c s.now).server), .int .i64 ((Cli.tickC c s.now).until_), .int .i64 ((Cli.tickC c s.now).one), .int .i64 ((Cli.tickC c s.now).two), .bool ((Cli.tickC c s.now).due), .int .i64 ((Cli.tickC c s.now).tries), .int .i64 ((Cli.tickC c s.now).said), .int .i64 ((Cli.tickC c s.now).asks)] 44 (0, 0))]]) (fun x => [(0, .string nm), (1, .slice (some ⟨b, off, none⟩) l.length c0), (6, .pointer (some ⟨b9, 0, none⟩)), (8, .pointer (some ⟨b17, 0, none⟩)), (10, .pointer (some ⟨b20, 0, none⟩)), (11, .int .i64 (i : Int)), (14, .slice (some ⟨ba, 0, none⟩) 1 1), (16, .int .i64 (x.i : Int))]) (fun x => Vw.le Vs54 x.V ∧ Pc.R x.V x.last x.hv x.ov ∧ Pc.few x.last = true ∧ x.i ≤ 1) (fun x => 1 - x.i) (⟨c, Vs54, last, .slice pl last.hw.length cl, .slice ql nl kl, 0⟩ : Lo) ⟨Vw.le_refl _, hl, hlf, Nat.zero_le _⟩ (fun a w i => ⟨i.1.sub (subB_cons (by first | rfl | exact congrArg (fun z => some (Value.int _ z)) (by omega)) (subB_cons (by first | rfl | exact congrArg (fun z => some (Value.int _ z)) (by omega)) (subB_cons (by first | rfl | exact congrArg (fun z => some (Value.int _ z)) (by omega)) (subB_cons (by first | rfl | exact congrArg (fun z => some (Value.int _ z)) (by omega)) (subB_cons (by first | rfl | exact congrArg (fun z => some (Value.int _ z)) (by omega)) (subB_cons (by first | rfl | exact congrArg (fun z => some (Value.int _ z)) (by omega)) (subB_cons (by first | rfl | exact congrArg (fun z => some (Value.int _ z)) (by omega)) (subB_cons (by first | rfl | exact congrArg (fun z => some (Value.int _ z)) (by omega)) (subB_nil _))))))))), i.2⟩) ?_
       rintro ⟨cj, Vj, last2, hvj, ovj, j⟩ ⟨hVj, hl2, hlf2, hj⟩
       dsimp only at hVj hl2 hlf2 hj ⊢
       replace hVle := Vw.le_trans hVle hVj
       replace hRa := hRa.le hVj
       replace hma := hVj _ _ hma
       obtain ⟨⟨pj, cj2, rfl⟩, qj, nj, kj, rfl⟩ := hl2.forms
       refine Tr.seq ?_
       refine Tr.seq ?_
       refine Tr.region ?_
       refine Run.val (lt rfl) (Y.move rfl) ?_
       refine Run.val (lt rfl) (Y.move rfl) ?_
       refine Run.val (lt rfl) (Y.lenSl rfl Law24c_es48) ?_
       refine Run.val (lt rfl) (Y.int rfl rfl rfl) ?_
       refine Run.to_end ?_
       refine Ex.go ?_
       rcases Bool.eq_false_or_eq_true (decide ((j : Int) < 1)) with h58 | h58
       ·have g58 := h58
        try simp only [kb] at g58
        obtain rfl : j = 0 := by omega
        refine Tr.cond_t rfl h58 ?_
        refine Tr.to_end ?_
        refine Ex.go ?_
        refine Tr.seq ?_
        refine Tr.block ?_
        refine Tr.seq ?_
        refine Tr.region ?_
        refine Run.val (lt rfl) (Y.move rfl) ?_
        refine Run.val (lt rfl) (Y.move rfl) ?_
        refine Run.val (lt rfl) (Y.idxAddr rfl rfl Law24c_es48 (by omega) (by omega)) ?_
        refine Run.val (lt rfl) (Y.loadAgg rfl Law24c_ag36 (.inl hma) rfl) ?_
        refine Run.call [] (l := [.tmp 115]) rfl rfl rfl (lt rfl) (enc3_h (p := q) hRa hqf x6 x4 x5) (fun v59 V2 H2 _ hR => ?_)
        obtain ⟨hV, z60, s61, rfl, rfl, hoc62⟩ := hR; replace hV := hV.symm; subst hV; obtain ⟨p63, c64, rfl⟩ := hoc62.form
        refine Run.heapTo (H' := [[(b20, .cells #[.int .i64 last2.op, .int .u32 last2.xid, .int .i64 last2.secs, .int .i64 last2.flags, .int .u32 last2.ci, .int .u32 last2.yi, .int .u32 last2.si, .int .u32 last2.gi, .slice pj last2.hw.length cj2, .slice qj nj kj] 36 (0, 0))], [(b9, .cells #[.string ((Cli.tickC c s.now).name), w10, .int .i64 ((Cli.tickC c s.now).state), .int .u32 ((Cli.tickC c s.now).xid), .int .u32 ((Cli.tickC c s.now).addr), .int .u32 ((Cli.tickC c s.now).server), .int .i64 ((Cli.tickC c s.now).until_), .int .i64 ((Cli.tickC c s.now).one), .int .i64 ((Cli.tickC c s.now).two), .bool ((Cli.tickC c s.now).due), .int .i64 ((Cli.tickC c s.now).tries), .int .i64 ((Cli.tickC c s.now).said), .int .i64 ((Cli.tickC c s.now).asks)] 67 (0, 0))], [(b17, .cells #[.string ((Cli.tickC c s.now).name), w18, .int .i64 ((Cli.tickC c s.now).state), .int .u32 ((Cli.tickC c s.now).xid), .int .u32 ((Cli.tickC c s.now).addr), .int .u32 ((Cli.tickC c s.now).server), .int .i64 ((Cli.tickC c s.now).until_), .int .i64 ((Cli.tickC c s.now).one), .int .i64 ((Cli.tickC c s.now).two), .bool ((Cli.tickC c s.now).due), .int .i64 ((Cli.tickC c s.now).tries), .int .i64 ((Cli.tickC c s.now).said), .int .i64 ((Cli.tickC c s.now).asks)] 44 (0, 0))], s61]) rfl ?_
        refine Run.val (lt rfl) (Y.move rfl) ?_
        refine Run.val (lt rfl) (Y.extract rfl rfl) ?_
        refine Run.val (lt rfl) (Y.extract rfl rfl) ?_
        refine Run.val (lt rfl) (Y.assign rfl) ?_
        refine Run.val (lt rfl) (Y.assign rfl) ?_
        refine Run.to_end ?_
        refine Ex.go ?_
        refine Tr.seq ?_
        refine Tr.region ?_
        refine Run.keepTo (H' := [s61, [(b20, .cells #[.int .i64 last2.op, .int .u32 last2.xid, .int .i64 last2.secs, .int .i64 last2.flags, .int .u32 last2.ci, .int .u32 last2.yi, .int .u32 last2.si, .int .u32 last2.gi, .slice pj last2.hw.length cj2, .slice qj nj kj] 36 (0, 0))], [(b9, .cells #[.string ((Cli.tickC c s.now).name), w10, .int .i64 ((Cli.tickC c s.now).state), .int .u32 ((Cli.tickC c s.now).xid), .int .u32 ((Cli.tickC c s.now).addr), .int .u32 ((Cli.tickC c s.now).server), .int .i64 ((Cli.tickC c s.now).until_), .int .i64 ((Cli.tickC c s.now).one), .int .i64 ((Cli.tickC c s.now).two), .bool ((Cli.tickC c s.now).due), .int .i64 ((Cli.tickC c s.now).tries), .int .i64 ((Cli.tickC c s.now).said), .int .i64 ((Cli.tickC c s.now).asks)] 67 (0, 0))], [(b17, .cells #[.string ((Cli.tickC c s.now).name), w18, .int .i64 ((Cli.tickC c s.now).state), .int .u32 ((Cli.tickC c s.now).xid), .int .u32 ((Cli.tickC c s.now).addr), .int .u32 ((Cli.tickC c s.now).server), .int .i64 ((Cli.tickC c s.now).until_), .int .i64 ((Cli.tickC c s.now).one), .int .i64 ((Cli.tickC c s.now).two), .bool ((Cli.tickC c s.now).due), .int .i64 ((Cli.tickC c s.now).tries), .int .i64 ((Cli.tickC c s.now).said), .int .i64 ((Cli.tickC c s.now).asks)] 44 (0, 0))]]) [3, 0, 0, 0] rfl ?_
        refine Run.show (fun V65 hleV65 hshV65 => ?_)
        have heb := hoc62.shows _ hshV65
        replace hl2 := hl2.le hleV65
        replace hRa := hRa.le hleV65
        replace hVle := Vw.le_trans hVle hleV65
        replace hma := hleV65 _ _ hma
        replace hVj := Vw.le_trans hVj hleV65
        refine Run.val (lt rfl) (Y.move rfl) ?_
        refine Run.call [] (l := [.tmp 120]) rfl rfl rfl (lt rfl) (dec3_h (p := q) heb rfl x6 hqf hRa.xid x4 hRa.yi hRa.si x5) (fun v66 V2 H2 hle67 hR => ?_)
        obtain ⟨_, rfl, w68, w69, rfl, hRd70⟩ := hR
        obtain ⟨⟨p71, c72, rfl⟩, p73, n74, c75, rfl⟩ := hRd70.forms
        obtain ⟨Vs76, hVe⟩ : ∃ V3 : Vw, V3 = V2 := ⟨_, rfl⟩
        subst hVe
        replace hl2 := hl2.le hle67
        replace hRa := hRa.le hle67
        replace heb := heb.le hle67
        replace hVle := Vw.le_trans hVle hle67
        replace hma := hle67 _ _ hma
        replace hVj := Vw.le_trans hVj hle67
        refine Run.heapTo (H' := [[(b20, .cells #[.int .i64 last2.op, .int .u32 last2.xid, .int .i64 last2.secs, .int .i64 last2.flags, .int .u32 last2.ci, .int .u32 last2.yi, .int .u32 last2.si, .int .u32 last2.gi, .slice pj last2.hw.length cj2, .slice qj nj kj] 36 (0, 0))], [(b9, .cells #[.string ((Cli.tickC c s.now).name), w10, .int .i64 ((Cli.tickC c s.now).state), .int .u32 ((Cli.tickC c s.now).xid), .int .u32 ((Cli.tickC c s.now).addr), .int .u32 ((Cli.tickC c s.now).server), .int .i64 ((Cli.tickC c s.now).until_), .int .i64 ((Cli.tickC c s.now).one), .int .i64 ((Cli.tickC c s.now).two), .bool ((Cli.tickC c s.now).due), .int .i64 ((Cli.tickC c s.now).tries), .int .i64 ((Cli.tickC c s.now).said), .int .i64 ((Cli.tickC c s.now).asks)] 67 (0, 0))], [(b17, .cells #[.string ((Cli.tickC c s.now).name), w18, .int .i64 ((Cli.tickC c s.now).state), .int .u32 ((Cli.tickC c s.now).xid), .int .u32 ((Cli.tickC c s.now).addr), .int .u32 ((Cli.tickC c s.now).server), .int .i64 ((Cli.tickC c s.now).until_), .int .i64 ((Cli.tickC c s.now).one), .int .i64 ((Cli.tickC c s.now).two), .bool ((Cli.tickC c s.now).due), .int .i64 ((Cli.tickC c s.now).tries), .int .i64 ((Cli.tickC c s.now).said), .int .i64 ((Cli.tickC c s.now).asks)] 44 (0, 0))]]) rfl ?_
        refine Run.val (lt rfl) (Y.move rfl) ?_
        refine Run.val (lt rfl) (Y.extract rfl rfl) ?_
        refine Run.val (lt rfl) (Y.extract rfl rfl) ?_
        refine Run.alloc Law24c_zo36 (lt rfl) (fun b77 => ?_)
        refine Run.store (s := [(b77, .cells #[.int .i64 q.op, .int .u32 q.xid, .int .i64 q.secs, .int .i64 q.flags, .int .u32 q.ci, .int .u32 q.yi, .int .u32 q.si, .int .u32 q.gi, .slice p71 q.hw.length c72, .slice p73 n74 c75] 36 (0, 0))]) rfl rfl Law24c_sz36 (i := 0) rfl rfl (le rfl) rfl rfl ?_
        refine Run.val (lt rfl) (Y.assign rfl) ?_
        refine Run.to_end ?_
        refine Ex.go ?_
        refine Tr.seq ?_
        refine Tr.region ?_
        refine Run.val (lt rfl) (Y.move rfl) ?_
        refine Run.val (lt rfl) (Y.move rfl) ?_
        refine Run.val (lt rfl) (Y.idxAddr rfl rfl Law24c_es48 (by omega) (by omega)) ?_
        refine Run.val (lt rfl) (Y.loadAgg rfl Law24c_ag36 (.inl hma) rfl) ?_
        refine Run.store (s := [(b20, .cells #[.int .i64 q.op, .int .u32 q.xid, .int .i64 q.secs, .int .i64 q.flags, .int .u32 q.ci, .int .u32 q.yi, .int .u32 q.si, .int .u32 q.gi, .slice pa1 q.hw.length ca1, .slice pa2 na2 ca2] 36 (0, 0))]) rfl rfl Law24c_sz36 (i := 1) rfl rfl (le rfl) rfl rfl ?_
        refine Run.to_end ?_
        refine Ex.go ?_
        refine Tr.seq ?_
        refine Tr.region ?_
        refine Run.val (lt rfl) (Y.assign rfl) ?_
        refine Run.to_end ?_
        refine Ex.go ?_
        refine Tr.seq ?_
        refine Tr.seq ?_
        refine Tr.region ?_
        refine Run.val (lt rfl) (Y.move rfl) ?_
        refine Run.call0 (l := [.tmp 128]) rfl rfl rfl (lt rfl) (state_c (c := (Cli.tickC c s.now)) (Kn.at 2 rfl)) ?_
        refine Run.val (lt rfl) (Y.int rfl rfl rfl) ?_
        refine Run.to_end ?_
        refine Ex.go ?_
        rcases Bool.eq_false_or_eq_true (((Cli.tickC c s.now).state) == 1) with h78 | h78
        ·have g78 := h78
         try simp only [kb] at g78
         have hk1 : Pc.kind q = 1 := by rw [x2, if_pos (by simpa using h78)]
         refine Tr.cond_t rfl h78 ?_
         refine Tr.region ?_
         refine Run.val (lt rfl) (Y.assign rfl) ?_
         refine Run.to_end ?_
         refine Ex.go ?_
         refine Tr.seq ?_
         refine Tr.quiet Law24c_mo (by kernel_rfl) ?_
         refine RunQ.val (lt rfl) (Y.loadAgg rfl Law24c_ag36 (Kn.at 0 rfl) rfl) ?_
         refine RunQ.val (lt rfl) (Y.move rfl) ?_
         refine RunQ.val (lt rfl) (Y.move rfl) ?_
         refine RunQ.val (lt rfl) (Y.idxAddr rfl rfl Law24c_es48 (by omega) (by omega)) ?_
         refine RunQ.val (lt rfl) (Y.loadAgg rfl Law24c_ag36 (.inl hma) rfl) ?_
         refine RunQ.call0 (l := [.tmp 131, .tmp 135]) rfl rfl rfl (lt rfl) (same_h hRd70.hw hRd70.os hRa.hw hRa.os hqo) ?_
         refine RunQ.val (lt rfl) (Y.assign rfl) ?_
         refine RunQ.to_end ?_
         refine Ex.go ?_
         refine Tr.seq ?_
         refine Tr.region ?_
         refine Run.val (lt rfl) (Y.loadAgg rfl Law24c_ag36 (Kn.at 0 rfl) rfl) ?_
         refine Run.call0 (l := [.tmp 138]) rfl rfl rfl (lt rfl) (asked_h hRd70 hqf) ?_
         refine Run.val (lt rfl) (Y.move rfl) ?_
         refine Run.val (lt rfl) (Y.extract rfl rfl) ?_
         refine Run.val (lt rfl) (Y.extract rfl rfl) ?_
         refine Run.val (lt rfl) (Y.assign rfl) ?_
         refine Run.val (lt rfl) (Y.assign rfl) ?_
         refine Run.to_end ?_
         refine Ex.go ?_
         refine Tr.seq ?_
         refine Tr.region ?_
         refine Run.val (lt rfl) (Y.move rfl) ?_
         refine Run.val (lt rfl) (Y.int (r := .bool false) rfl rfl rfl) ?_
         refine Run.val (lt rfl) (Y.move rfl) ?_
         refine Run.on rfl rfl rfl rfl ?_
         refine Run.val (lt rfl) (Y.move rfl) ?_
         refine Run.on rfl rfl rfl rfl ?_
         refine Run.val (lt rfl) (Y.int (r := .bool false) rfl rfl rfl) ?_
         refine Run.val (lt rfl) (Y.pick_f rfl rfl rfl) ?_
         refine Run.val (lt rfl) (Y.move rfl) ?_
         refine Run.on rfl rfl rfl rfl ?_
         refine Run.val (lt rfl) (Y.move rfl) ?_
         refine Run.on rfl rfl rfl rfl ?_
         refine Run.val (lt rfl) (Y.not rfl) ?_
         refine Run.val (lt rfl) (Y.pick_f rfl rfl rfl) ?_
         refine Run.val (lt rfl) (Y.move rfl) ?_
         refine Run.on rfl rfl rfl rfl ?_
         refine Run.val (lt rfl) (Y.loadAgg rfl Law24c_ag36 (Kn.at 0 rfl) rfl) ?_
         refine Run.on rfl rfl rfl rfl ?_
         refine Run.call0 (l := [.tmp 153]) rfl rfl rfl (lt rfl) (client_h hRd70 hqf) ?_
         refine Run.on rfl rfl rfl rfl ?_
         refine Run.val (lt rfl) (Y.move rfl) ?_
         refine Run.on rfl rfl rfl rfl ?_
         refine Run.val (lt rfl) (Y.neStr rfl rfl) ?_
         refine Run.val (lt rfl) (Y.pick_f rfl rfl rfl) ?_
         refine Run.val (lt rfl) (Y.move rfl) ?_
         refine Run.on rfl rfl rfl (by rw [x1, hnm]; simp) ?_
         refine Run.val (lt rfl) (Y.loadAgg rfl Law24c_ag36 (Kn.at 0 rfl) rfl) ?_
         refine Run.on rfl rfl rfl (by rw [x1, hnm]; simp) ?_
         refine Run.call0 (l := [.tmp 159]) rfl rfl rfl (lt rfl) (rkind_h hRd70 hqf) ?_
         refine Run.on rfl rfl rfl (by rw [x1, hnm]; simp) ?_
         refine Run.val (lt rfl) (Y.move rfl) ?_
         refine Run.on rfl rfl rfl (by rw [x1, hnm]; simp) ?_
         refine Run.val (lt rfl) (Y.int rfl rfl rfl) ?_
         refine Run.val (lt rfl) (Y.pick_f rfl (by rw [x1, hnm]; simp) rfl) ?_
         refine Run.val (lt rfl) (Y.move rfl) ?_
         refine Run.on rfl rfl rfl (bne_eq_false_iff_eq.2 hk1) ?_
         refine Run.val (lt rfl) (Y.move rfl) ?_
         refine Run.on rfl rfl rfl (bne_eq_false_iff_eq.2 hk1) ?_
         refine Run.val (lt rfl) (Y.int (r := .bool false) rfl rfl rfl) ?_
         refine Run.on rfl rfl rfl (bne_eq_false_iff_eq.2 hk1) ?_
         refine Run.val (lt rfl) (Y.move rfl) ?_
         refine Run.off rfl rfl rfl rfl rfl (lt rfl) ?_
         refine Run.off rfl rfl rfl rfl rfl (lt rfl) ?_
         refine Run.off rfl rfl rfl rfl rfl (lt rfl) ?_
         refine Run.off rfl rfl rfl rfl rfl (lt rfl) ?_
         refine Run.on rfl rfl rfl (bne_eq_false_iff_eq.2 hk1) ?_
         refine Run.val (lt rfl) (Y.pick_f rfl rfl rfl) ?_
         refine Run.val (lt rfl) (Y.pick_f rfl (bne_eq_false_iff_eq.2 hk1) rfl) ?_
         refine Run.val (lt rfl) (Y.move rfl) ?_
         refine Run.on rfl rfl rfl rfl ?_
         refine Run.val (lt rfl) (Y.move rfl) ?_
         refine Run.on rfl rfl rfl rfl ?_
         refine Run.val (lt rfl) (Y.int rfl rfl rfl) ?_
         refine Run.val (lt rfl) (Y.pick_f rfl rfl rfl) ?_
         refine Run.to_end ?_
         refine Ex.go ?_
         refine Tr.cond_f rfl (by decide) ?_
         refine Tr.to_end ?_
         refine Ex.end_block ?_
         refine Ex.go ?_
         refine Tr.region ?_
         refine Run.val (lt rfl) (Y.move rfl) ?_
         refine Run.val (lt rfl) (Y.add rfl rfl (by omega)) ?_
         refine Run.val (lt rfl) (Y.assign rfl) ?_
         refine Run.to_end ?_
         refine Ex.keep [1, 1, 1] ?_
         exact Ex.round (⟨c, Vs76, q, .slice pa1 q.hw.length ca1, .slice pa2 na2 ca2, 1⟩ : Lo) ⟨hVj, hRa, hqf, Nat.le_refl 1⟩ (show 1 - 1 < 1 - 0 by decide) rfl rfl (subB_cons (by first | rfl | exact congrArg (fun z => some (Value.int _ z)) (by omega)) (subB_cons (by first | rfl | exact congrArg (fun z => some (Value.int _ z)) (by omega)) (subB_cons (by first | rfl | exact congrArg (fun z => some (Value.int _ z)) (by omega)) (subB_cons (by first | rfl | exact congrArg (fun z => some (Value.int _ z)) (by omega)) (subB_cons (by first | rfl | exact congrArg (fun z => some (Value.int _ z)) (by omega)) (subB_cons (by first | rfl | exact congrArg (fun z => some (Value.int _ z)) (by omega)) (subB_cons (by first | rfl | exact congrArg (fun z => some (Value.int _ z)) (by omega)) (subB_cons (by first | rfl | exact congrArg (fun z => some (Value.int _ z)) (by omega)) (subB_nil _)))))))))
        ·have g78 := h78
         try simp only [kb] at g78
         have hs0 : ¬ (Cli.tickC c s.now).state = 1 := by simpa using h78
         have hk3 : Pc.kind q = 3 := by rw [x2, if_neg hs0]
         refine Tr.cond_f rfl h78 ?_
         refine Tr.to_end ?_
         refine Ex.go ?_
         refine Tr.seq ?_
         refine Tr.quiet Law24c_mo (by kernel_rfl) ?_
         refine RunQ.val (lt rfl) (Y.loadAgg rfl Law24c_ag36 (Kn.at 0 rfl) rfl) ?_
         refine RunQ.val (lt rfl) (Y.move rfl) ?_
         refine RunQ.val (lt rfl) (Y.move rfl) ?_
         refine RunQ.val (lt rfl) (Y.idxAddr rfl rfl Law24c_es48 (by omega) (by omega)) ?_
         refine RunQ.val (lt rfl) (Y.loadAgg rfl Law24c_ag36 (.inl hma) rfl) ?_
         refine RunQ.call0 (l := [.tmp 131, .tmp 135]) rfl rfl rfl (lt rfl) (same_h hRd70.hw hRd70.os hRa.hw hRa.os hqo) ?_
         refine RunQ.val (lt rfl) (Y.assign rfl) ?_
         refine RunQ.to_end ?_
         refine Ex.go ?_
         refine Tr.seq ?_
         refine Tr.region ?_
         refine Run.val (lt rfl) (Y.loadAgg rfl Law24c_ag36 (Kn.at 0 rfl) rfl) ?_
         refine Run.call0 (l := [.tmp 138]) rfl rfl rfl (lt rfl) (asked_h hRd70 hqf) ?_
         refine Run.val (lt rfl) (Y.move rfl) ?_
         refine Run.val (lt rfl) (Y.extract rfl rfl) ?_
         refine Run.val (lt rfl) (Y.extract rfl rfl) ?_
         refine Run.val (lt rfl) (Y.assign rfl) ?_
         refine Run.val (lt rfl) (Y.assign rfl) ?_
         refine Run.to_end ?_
         refine Ex.go ?_
         refine Tr.seq ?_
         refine Tr.region ?_
         refine Run.val (lt rfl) (Y.move rfl) ?_
         refine Run.val (lt rfl) (Y.int (r := .bool false) rfl rfl rfl) ?_
         refine Run.val (lt rfl) (Y.move rfl) ?_
         refine Run.on rfl rfl rfl rfl ?_
         refine Run.val (lt rfl) (Y.move rfl) ?_
         refine Run.on rfl rfl rfl rfl ?_
         refine Run.val (lt rfl) (Y.int (r := .bool false) rfl rfl rfl) ?_
         refine Run.val (lt rfl) (Y.pick_f rfl rfl rfl) ?_
         refine Run.val (lt rfl) (Y.move rfl) ?_
         refine Run.on rfl rfl rfl rfl ?_
         refine Run.val (lt rfl) (Y.move rfl) ?_
         refine Run.on rfl rfl rfl rfl ?_
         refine Run.val (lt rfl) (Y.not rfl) ?_
         refine Run.val (lt rfl) (Y.pick_f rfl rfl rfl) ?_
         refine Run.val (lt rfl) (Y.move rfl) ?_
         refine Run.on rfl rfl rfl rfl ?_
         refine Run.val (lt rfl) (Y.loadAgg rfl Law24c_ag36 (Kn.at 0 rfl) rfl) ?_
         refine Run.on rfl rfl rfl rfl ?_
         refine Run.call0 (l := [.tmp 153]) rfl rfl rfl (lt rfl) (client_h hRd70 hqf) ?_
         refine Run.on rfl rfl rfl rfl ?_
         refine Run.val (lt rfl) (Y.move rfl) ?_
         refine Run.on rfl rfl rfl rfl ?_
         refine Run.val (lt rfl) (Y.neStr rfl rfl) ?_
         refine Run.val (lt rfl) (Y.pick_f rfl rfl rfl) ?_
         refine Run.val (lt rfl) (Y.move rfl) ?_
         refine Run.on rfl rfl rfl (by rw [x1, hnm]; simp) ?_
         refine Run.val (lt rfl) (Y.loadAgg rfl Law24c_ag36 (Kn.at 0 rfl) rfl) ?_
         refine Run.on rfl rfl rfl (by rw [x1, hnm]; simp) ?_
         refine Run.call0 (l := [.tmp 159]) rfl rfl rfl (lt rfl) (rkind_h hRd70 hqf) ?_
         refine Run.on rfl rfl rfl (by rw [x1, hnm]; simp) ?_
         refine Run.val (lt rfl) (Y.move rfl) ?_
         refine Run.on rfl rfl rfl (by rw [x1, hnm]; simp) ?_
         refine Run.val (lt rfl) (Y.int rfl rfl rfl) ?_
         refine Run.val (lt rfl) (Y.pick_f rfl (by rw [x1, hnm]; simp) rfl) ?_
         refine Run.val (lt rfl) (Y.move rfl) ?_
         refine Run.on rfl rfl rfl (bne_eq_false_iff_eq.2 hk3) ?_
         refine Run.val (lt rfl) (Y.move rfl) ?_
         refine Run.on rfl rfl rfl (bne_eq_false_iff_eq.2 hk3) ?_
         refine Run.val (lt rfl) (Y.int (r := .bool true) rfl rfl rfl) ?_
         refine Run.on rfl rfl rfl (bne_eq_false_iff_eq.2 hk3) ?_
         refine Run.val (lt rfl) (Y.move rfl) ?_
         refine Run.on rfl rfl rfl rfl ?_
         refine Run.val (lt rfl) (Y.move rfl) ?_
         refine Run.on rfl rfl rfl rfl ?_
         refine Run.val (lt rfl) (Y.move rfl) ?_
         refine Run.on rfl rfl rfl rfl ?_
         refine Run.call0 (l := [.tmp 169]) rfl rfl rfl (lt rfl) (addr_c (c := (Cli.tickC c s.now)) (Kn.at 2 rfl)) ?_
         refine Run.on rfl rfl rfl rfl ?_
         refine Run.val (lt rfl) (Y.int rfl rfl rfl) ?_
         refine Run.on rfl rfl rfl (bne_eq_false_iff_eq.2 hk3) ?_
         refine Run.val (lt rfl) (Y.pick_t rfl rfl rfl) ?_
         refine Run.val (lt rfl) (Y.pick_f rfl (bne_eq_false_iff_eq.2 hk3) rfl) ?_
         refine Run.val (lt rfl) (Y.move rfl) ?_
         refine Run.on rfl rfl rfl (bne_eq_false_iff_eq.2 (x3 hs0)) ?_
         refine Run.val (lt rfl) (Y.move rfl) ?_
         refine Run.on rfl rfl rfl (bne_eq_false_iff_eq.2 (x3 hs0)) ?_
         refine Run.val (lt rfl) (Y.int rfl rfl rfl) ?_
         refine Run.val (lt rfl) (Y.pick_f rfl (bne_eq_false_iff_eq.2 (x3 hs0)) rfl) ?_
         refine Run.to_end ?_
         refine Ex.go ?_
         refine Tr.cond_f rfl (by decide) ?_
         refine Tr.to_end ?_
         refine Ex.end_block ?_
         refine Ex.go ?_
         refine Tr.region ?_
         refine Run.val (lt rfl) (Y.move rfl) ?_
         refine Run.val (lt rfl) (Y.add rfl rfl (by omega)) ?_
         refine Run.val (lt rfl) (Y.assign rfl) ?_
         refine Run.to_end ?_
         refine Ex.keep [1, 1, 1] ?_
         exact Ex.round (⟨c, Vs76, q, .slice pa1 q.hw.length ca1, .slice pa2 na2 ca2, 1⟩ : Lo) ⟨hVj, hRa, hqf, Nat.le_refl 1⟩ (show 1 - 1 < 1 - 0 by decide) rfl rfl (subB_cons (by first | rfl | exact congrArg (fun z => some (Value.int _ z)) (by omega)) (subB_cons (by first | rfl | exact congrArg (fun z => some (Value.int _ z)) (by omega)) (subB_cons (by first | rfl | exact congrArg (fun z => some (Value.int _ z)) (by omega)) (subB_cons (by first | rfl | exact congrArg (fun z => some (Value.int _ z)) (by omega)) (subB_cons (by first | rfl | exact congrArg (fun z => some (Value.int _ z)) (by omega)) (subB_cons (by first | rfl | exact congrArg (fun z => some (Value.int _ z)) (by omega)) (subB_cons (by first | rfl | exact congrArg (fun z => some (Value.int _ z)) (by omega)) (subB_cons (by first | rfl | exact congrArg (fun z => some (Value.int _ z)) (by omega)) (subB_nil _)))))))))
       ·have g58 := h58
        try simp only [kb] at g58
        refine Tr.cond_f rfl h58 ?_
        refine Tr.to_exit ?_
        refine Ex.exit_then ?_
        refine Ex.exit_then ?_
        refine Ex.exit_in ?_
        refine Ex.end_block ?_
        refine Ex.go ?_
        refine Tr.region ?_
        refine Run.val (lt rfl) (Y.move rfl) ?_
        refine Run.val (lt rfl) (Y.add rfl rfl (by omega)) ?_
        refine Run.val (lt rfl) (Y.assign rfl) ?_
        refine Run.to_end ?_
        refine Ex.keep [0, 0, 0] ?_
        exact Ex.round (⟨(Cli.tickC c s.now), Vj, last2, .slice pj last2.hw.length cj2, .slice qj nj kj, i + 1⟩ : Lo) ⟨hi.tick s.now, (Cli.tick_same c s.now).1.trans hhw, hVle, hl2, hlf2, by show i + 1 ≤ l.length; omega, by show i + 1 ≤ 100; omega, (Cli.tick_same c s.now).2.trans hnm⟩ (by show l.length - (i + 1) < l.length - i; omega) rfl rfl (subB_cons (by first | rfl | exact congrArg (fun z => some (Value.int _ z)) (by omega)) (subB_cons (by first | rfl | exact congrArg (fun z => some (Value.int _ z)) (by omega)) (subB_cons (by first | rfl | exact congrArg (fun z => some (Value.int _ z)) (by omega)) (subB_cons (by first | rfl | exact congrArg (fun z => some (Value.int _ z)) (by omega)) (subB_cons (by first | rfl | exact congrArg (fun z => some (Value.int _ z)) (by omega)) (subB_cons (by first | rfl | exact congrArg (fun z => some (Value.int _ z)) (by omega)) (subB_nil _)))))))
   ·have g23 := h23
    try simp only [kb] at g23
    refine Tr.cond_t rfl (congrArg Bool.not h23) ?_
    refine Tr.seq ?_
    refine Tr.region ?_
    refine Run.val (lt rfl) (Y.assign rfl) ?_
    refine Run.to_end ?_
    refine Ex.go ?_
    refine Tr.to_ret ?_
    refine Ex.ret_then ?_
    refine Ex.ret_block ?_
    refine Ex.ret_then ?_
    refine Ex.ret_then ?_
    refine Ex.ret_block ?_
    refine Ex.ret_then ?_
    refine Ex.keep [] ?_
    exact Ex.ret1 rfl rfl  rfl
  ·have g22 := h22
   try simp only [kb] at g22
   refine Tr.cond_f rfl h22 ?_
   refine Tr.to_exit ?_
   refine Ex.exit_then ?_
   refine Ex.exit_then ?_
   refine Ex.exit_in ?_
   refine Ex.go ?_
   refine Tr.seq ?_
   refine Tr.region ?_
   refine Run.val (lt rfl) (Y.assign rfl) ?_
   refine Run.to_end ?_
   refine Ex.go ?_
   refine Tr.to_ret ?_
   refine Ex.keep [] ?_
   exact Ex.ret1 rfl rfl  rfl
 ·have g21 := h21
  try simp only [kb] at g21
  refine Run.off rfl rfl rfl h21 rfl (lt rfl) ?_
  refine Run.off rfl rfl rfl h21 rfl (lt rfl) ?_
  refine Run.val (lt rfl) (Y.pick_f rfl h21 rfl) ?_
  refine Run.to_end ?_
  refine Ex.go ?_
  refine Tr.cond_f rfl rfl ?_
  refine Tr.to_exit ?_
  refine Ex.exit_then ?_
  refine Ex.exit_then ?_
  refine Ex.exit_in ?_
  refine Ex.go ?_
  refine Tr.seq ?_
  refine Tr.region ?_
  refine Run.val (lt rfl) (Y.assign rfl) ?_
  refine Run.to_end ?_
  refine Ex.go ?_
  refine Tr.to_ret ?_
  refine Ex.keep [] ?_
  exact Ex.ret1 rfl rfl  rfl

set_option maxHeartbeats 2000000 in
theorem says24_n {V : Vw} {nm : ByteArray} (hf : ¬ Cli.fine nm [1, 2]) {l : List CStp} {p : Option Addr} {c0 : Nat} (hvs : Rd V [] 15 (.slice p l.length c0) l.length (l.map CStp.cells).flatten) (hl9 : l.length ≤ 9223372036854775807) (hrs : CStp.Rs V l)  : Does Try.prog 5 [.string nm, .slice p l.length c0] V [] (fun v _ _ => v = .bool true) := by
 refine Does.intro Try.func5 rfl rfl (le rfl) (fun B => ?_)
 refine Tr.seq ?_
 refine Tr.region ?_
 refine Run.val (lt rfl) (Y.assign rfl) ?_
 refine Run.to_end ?_
 refine Ex.go ?_
 refine Tr.seq ?_
 refine Tr.region ?_
 refine Run.call [] (l := []) rfl rfl rfl (lt rfl) awake24_c0 (fun v1 V2 H2 hle2 hR => ?_)
 obtain ⟨_, rfl, rfl⟩ := hR
 obtain ⟨Vs3, hVe⟩ : ∃ V3 : Vw, V3 = V2 := ⟨_, rfl⟩
 subst hVe
 replace hvs := hvs.le hle2
 replace hrs := hrs.le hle2
 have hVle := hle2
 refine Run.heapTo (H' := []) rfl ?_
 refine Run.val (lt rfl) (Y.assign rfl) ?_
 refine Run.to_end ?_
 refine Ex.go ?_
 refine Tr.seq ?_
 refine Tr.region ?_
 refine Run.val (lt rfl) (Y.move rfl) ?_
 refine Run.buildSlice (l := [(0, .const (.int .u8 1)), (1, .const (.int .u8 2))]) Law24c_es22 Law24c_zo5 rfl (by decide) rfl rfl (by decide) (lt rfl) (fun b4 => ?_)
 refine Run.keepTo (H' := [[(b4, .cells #[.int .u8 1, .int .u8 2] 5 (0, 0))]]) [0] rfl ?_
 refine Run.show (fun V6 hleV6 hshV6 => ?_)
 have hna5 := (Ow.lit (e := 5) (k := 1) (b := b4) (n := 2) (cur := #[.int .u8 1, .int .u8 2]) rfl (by decide)).shows _ hshV6
 replace hvs := hvs.le hleV6
 replace hrs := hrs.le hleV6
 replace hVle := Vw.le_trans hVle hleV6
 have hna5b : Rd V6 [] 1 (.slice (some ⟨b4, 0, none⟩) 2 2) ([1, 2] : List UInt8).length (([1, 2] : List UInt8).map byteV) := hna5
 refine Run.call0 (l := [.tmp 27, .tmp 28]) rfl rfl rfl (lt rfl) (new_c_hn (s := nm) hna5b hf).frame ?_
 refine Run.heapTo (H' := []) rfl ?_
 refine Run.val (lt rfl) (Y.move rfl) ?_
 refine Run.val (lt rfl) (Y.extract rfl rfl) ?_
 refine Run.val (lt rfl) (Y.extract rfl rfl) ?_
 refine Run.val (lt rfl) (Y.assign rfl) ?_
 refine Run.val (lt rfl) (Y.assign rfl) ?_
 refine Run.to_end ?_
 refine Ex.go ?_
 refine Tr.seq ?_
 refine Tr.seq ?_
 refine Tr.region ?_
 refine Run.val (lt rfl) (Y.move rfl) ?_
 refine Run.val (lt rfl) (Y.not rfl) ?_
 refine Run.val (lt rfl) (Y.move rfl) ?_
 refine Run.on rfl rfl rfl rfl ?_
 refine Run.val (lt rfl) (Y.move rfl) ?_
 refine Run.on rfl rfl rfl rfl ?_
 refine Run.val (lt rfl) (Y.int (r := .bool true) rfl rfl rfl) ?_
 refine Run.val (lt rfl) (Y.pick_f rfl rfl rfl) ?_
 refine Run.val (lt rfl) (Y.move rfl) ?_
 refine Run.off rfl rfl rfl rfl rfl (lt rfl) ?_
 refine Run.off rfl rfl rfl rfl rfl (lt rfl) ?_
 refine Run.val (lt rfl) (Y.pick_t rfl rfl rfl) ?_
 refine Run.to_end ?_
 refine Ex.go ?_
 refine Tr.cond_t rfl rfl ?_
 refine Tr.seq ?_
 refine Tr.region ?_
 refine Run.val (lt rfl) (Y.move rfl) ?_
 refine Run.val (lt rfl) (Y.move rfl) ?_
 refine Run.on rfl rfl rfl rfl ?_
 refine Run.val (lt rfl) (Y.move rfl) ?_
 refine Run.on rfl rfl rfl rfl ?_
 refine Run.val (lt rfl) (Y.int (r := .bool true) rfl rfl rfl) ?_
 refine Run.val (lt rfl) (Y.pick_t rfl rfl rfl) ?_
 refine Run.val (lt rfl) (Y.assign rfl) ?_
 refine Run.to_end ?_
 refine Ex.go ?_
 refine Tr.to_ret ?_
 refine Ex.ret_then ?_
 refine Ex.keep [] ?_
 exact Ex.ret1 rfl rfl  rfl

theorem says24_c {V : Vw} {nm : ByteArray} {v2 : Value} {l : List CStp} (hvs : Rd V [] 15 v2 l.length (l.map CStp.cells).flatten) (hl9 : l.length ≤ 9223372036854775807) (hrs : CStp.Rs V l) : Does Try.prog 5 [.string nm, v2] V [] (fun v _ _ => v = .bool true) := by
  obtain ⟨p, c0, rfl, _⟩ := hvs.form
  by_cases hf : Cli.fine nm [1, 2]
  · exact says24_y hf hvs hl9 hrs
  · exact says24_n hf hvs hl9 hrs
end Go.Proofs.Ytelahacalnmilaa
