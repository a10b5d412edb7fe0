/- The laws ClientIdles and ClientHolds, walked.
Conditions: as each theorem names them. -/
import Derived.Test.YtelahacalnmilaaProg
import Derived.Test.YtelahacalnmilaaO6
import Derived.Test.YtelahacalnmilaaLaw24
set_option linter.unusedSimpArgs false
set_option linter.unusedVariables false
set_option maxRecDepth 4000
namespace Go.Proofs.Ytelahacalnmilaa
open Go Go.K
attribute [local irreducible] Code.wp wpList Calls wpQuiet
theorem Law24b_es22 : elemS Try.prog 22 = some (5, 1) := by kernel_rfl
theorem Law24b_zo5 : zeroOf Try.prog 5 = some (.int .u8 0) := by kernel_rfl
theorem Law24b_pt25 : ptrT Try.prog 25 = true := by kernel_rfl
theorem Law24b_zo36 : zeroOf Try.prog 36 = some (.agg #[.int .i64 0, .int .u32 0, .int .i64 0, .int .i64 0, .int .u32 0, .int .u32 0, .int .u32 0, .int .u32 0, .slice none 0 0, .slice none 0 0]) := by kernel_rfl
theorem Law24b_es23 : elemS Try.prog 23 = some (39, 15) := by kernel_rfl
theorem Law24b_ag39 : aggsz Try.prog 39 = some 15 := by kernel_rfl
theorem Law24b_mo : Try.prog.follows .mixedOrders = true := by kernel_rfl
theorem Law24b_ag36 : aggsz Try.prog 36 = some 10 := by kernel_rfl
theorem Law24b_sz36 : sizeT Try.prog 36 = some 10 := by kernel_rfl
theorem Law24b_zo39 : zeroOf Try.prog 39 = some (.agg #[.int .i64 0, .int .i64 0, .int .i64 0, .int .i64 0, .int .u32 0, .int .i64 0, .int .u32 0, .int .i64 0, .int .i64 0, .int .u32 0, .int .u32 0, .int .u32 0, .int .u32 0, .slice none 0 0, .slice none 0 0]) := by kernel_rfl
theorem Law24b_pl39 : placesS Try.prog 39 = some [(0, 1), (1, 1), (2, 1), (3, 1), (4, 1), (5, 10)] := by kernel_rfl
theorem Law24b_fo36_4 : fieldOff Try.prog 36 4 = some 4 := by kernel_rfl
theorem Law24b_ts33 : scal Try.prog 33 = true := by kernel_rfl
theorem Law24b_es48 : elemS Try.prog 48 = some (36, 10) := by kernel_rfl
theorem Law24b_sz39 : sizeT Try.prog 39 = some 15 := by kernel_rfl
theorem Law24b_fo39_1 : fieldOff Try.prog 39 1 = some 1 := by kernel_rfl
theorem Law24b_ts3 : scal Try.prog 3 = true := by kernel_rfl
theorem Law24b_fo39_0 : fieldOff Try.prog 39 0 = some 0 := by kernel_rfl
theorem Law24b_tg4 : tagOf Try.prog 4 = some (1, .i64) := by kernel_rfl
theorem Law24b_fo39_3 : fieldOff Try.prog 39 3 = some 3 := by kernel_rfl

set_option maxHeartbeats 2000000 in
theorem idles_c0 {V : Vw} {l : List CStp} {p : Option Addr} {now : Int} {c0 : Nat} (hvs : Rd V [] 15 (.slice p l.length c0) l.length (l.map CStp.cells).flatten) (hl9 : l.length ≤ 9223372036854775807) (hrs : CStp.Rs V l)  : Does Try.prog 6 [.slice p l.length c0, .int .i64 now] V [] (fun v _ _ => v = .bool true) := by
 refine Does.intro Try.func6 rfl rfl (le rfl) (fun B => ?_)
 refine Tr.seq ?_
 refine Tr.region ?_
 refine Run.val (lt rfl) (Y.assign rfl) ?_
 refine Run.to_end ?_
 refine Ex.go ?_
 refine Tr.seq ?_
 refine Tr.region ?_
 refine Run.call [] (l := []) rfl rfl rfl (lt rfl) awake24_c0 (fun v1 V2 H2 hle2 hR => ?_)
 obtain ⟨_, rfl, rfl⟩ := hR
 obtain ⟨Vs3, hVe⟩ : ∃ V3 : Vw, V3 = V2 := ⟨_, rfl⟩
 subst hVe
 replace hvs := hvs.le hle2
 replace hrs := hrs.le hle2
 have hVle := hle2
 refine Run.heapTo (H' := []) rfl ?_
 refine Run.val (lt rfl) (Y.assign rfl) ?_
 refine Run.to_end ?_
 refine Ex.go ?_
 refine Tr.seq ?_
 refine Tr.region ?_
 refine Run.buildSlice (l := [(0, .const (.int .u8 1))]) Law24b_es22 Law24b_zo5 rfl (by decide) rfl rfl (by decide) (lt rfl) (fun b4 => ?_)
 refine Run.keepTo (H' := [[(b4, .cells #[.int .u8 1] 5 (0, 0))]]) [0] rfl ?_
 refine Run.show (fun V6 hleV6 hshV6 => ?_)
 have hna5 := (Ow.lit (e := 5) (k := 1) (b := b4) (n := 1) (cur := #[.int .u8 1]) rfl (by decide)).shows _ hshV6
 replace hvs := hvs.le hleV6
 replace hrs := hrs.le hleV6
 replace hVle := Vw.le_trans hVle hleV6
 have hna5b : Rd V6 [] 1 (.slice (some ⟨b4, 0, none⟩) 1 1) ([1] : List UInt8).length (([1] : List UInt8).map byteV) := hna5
 refine Run.call [] (l := [.const (.string ⟨#[97]⟩), .tmp 25]) rfl rfl rfl (lt rfl) (new_c_h (s := ⟨#[97]⟩) hna5b Cli.fine_a) (fun v7 V2 H2 hle8 hR => ?_)
 obtain ⟨_, b9, w10, rfl, rfl, hha⟩ := hR
 obtain ⟨Vs11, hVe⟩ : ∃ V3 : Vw, V3 = V2 := ⟨_, rfl⟩
 subst hVe
 replace hvs := hvs.le hle8
 replace hrs := hrs.le hle8
 replace hna5 := hna5.le hle8
 replace hna5b := hna5b.le hle8
 replace hVle := Vw.le_trans hVle hle8
 refine Run.heapTo (H' := [[(b9, .cells #[.string Cli.aw0.name, w10, .int .i64 Cli.aw0.state, .int .u32 Cli.aw0.xid, .int .u32 Cli.aw0.addr, .int .u32 Cli.aw0.server, .int .i64 Cli.aw0.until_, .int .i64 Cli.aw0.one, .int .i64 Cli.aw0.two, .bool Cli.aw0.due, .int .i64 Cli.aw0.tries, .int .i64 Cli.aw0.said, .int .i64 Cli.aw0.asks] 67 (0, 0))]]) rfl ?_
 refine Run.val (lt rfl) (Y.move rfl) ?_
 refine Run.val (lt rfl) (Y.extract rfl rfl) ?_
 refine Run.val (lt rfl) (Y.extract rfl rfl) ?_
 refine Run.val (lt rfl) (Y.assign rfl) ?_
 refine Run.val (lt rfl) (Y.assign rfl) ?_
 refine Run.to_end ?_
 refine Ex.go ?_
 refine Tr.seq ?_
 refine Tr.seq ?_
 refine Tr.region ?_
 refine Run.val (lt rfl) (Y.move rfl) ?_
 refine Run.val (lt rfl) (Y.not rfl) ?_
 refine Run.val (lt rfl) (Y.move rfl) ?_
 refine Run.on rfl rfl rfl rfl ?_
 refine Run.val (lt rfl) (Y.move rfl) ?_
 refine Run.on rfl rfl rfl rfl ?_
 refine Run.val (lt rfl) (Y.int (r := .bool false) rfl rfl rfl) ?_
 refine Run.val (lt rfl) (Y.pick_f rfl rfl rfl) ?_
 refine Run.val (lt rfl) (Y.move rfl) ?_
 refine Run.on rfl rfl rfl rfl ?_
 refine Run.val (lt rfl) (Y.move rfl) ?_
 refine Run.on rfl rfl rfl rfl ?_
 refine Run.val (lt rfl) (Y.eqNil rfl rfl Law24b_pt25) ?_
 refine Run.val (lt rfl) (Y.pick_f rfl rfl rfl) ?_
 refine Run.val (lt rfl) (Y.move rfl) ?_
 refine Run.on rfl rfl rfl rfl ?_
 refine Run.val (lt rfl) (Y.move rfl) ?_
 refine Run.on rfl rfl rfl rfl ?_
 refine Run.val (lt rfl) (Y.int rfl rfl rfl) ?_
 refine Run.val (lt rfl) (Y.pick_f rfl rfl rfl) ?_
 refine Run.val (lt rfl) (Y.move rfl) ?_
 rcases Bool.eq_false_or_eq_true (decide (now < 0)) with h12 | h12
 ·have g12 := h12
  try simp only [kb] at g12
  refine Run.off rfl rfl rfl h12 rfl (lt rfl) ?_
  refine Run.off rfl rfl rfl h12 rfl (lt rfl) ?_
  refine Run.val (lt rfl) (Y.pick_t rfl h12 rfl) ?_
  refine Run.to_end ?_
  refine Ex.go ?_
  refine Tr.cond_t rfl rfl ?_
  refine Tr.seq ?_
  refine Tr.region ?_
  refine Run.val (lt rfl) (Y.move rfl) ?_
  refine Run.val (lt rfl) (Y.move rfl) ?_
  refine Run.on rfl rfl rfl rfl ?_
  refine Run.val (lt rfl) (Y.move rfl) ?_
  refine Run.on rfl rfl rfl rfl ?_
  refine Run.val (lt rfl) (Y.int (r := .bool true) rfl rfl rfl) ?_
  refine Run.val (lt rfl) (Y.pick_t rfl rfl rfl) ?_
  refine Run.val (lt rfl) (Y.assign rfl) ?_
  refine Run.to_end ?_
  refine Ex.go ?_
  refine Tr.to_ret ?_
  refine Ex.ret_then ?_
  refine Ex.keep [] ?_
  exact Ex.ret1 rfl rfl  rfl
 ·have g12 := h12
  try simp only [kb] at g12
  refine Run.on rfl rfl rfl h12 ?_
  refine Run.val (lt rfl) (Y.move rfl) ?_
  refine Run.on rfl rfl rfl h12 ?_
  refine Run.val (lt rfl) (Y.int rfl rfl rfl) ?_
  refine Run.val (lt rfl) (Y.pick_f rfl h12 rfl) ?_
  refine Run.to_end ?_
  refine Ex.go ?_
  rcases Bool.eq_false_or_eq_true (decide (now > 549755813888)) with h13 | h13
  ·have g13 := h13
   try simp only [kb] at g13
   refine Tr.cond_t rfl h13 ?_
   refine Tr.seq ?_
   refine Tr.region ?_
   refine Run.val (lt rfl) (Y.move rfl) ?_
   refine Run.val (lt rfl) (Y.move rfl) ?_
   refine Run.on rfl rfl rfl rfl ?_
   refine Run.val (lt rfl) (Y.move rfl) ?_
   refine Run.on rfl rfl rfl rfl ?_
   refine Run.val (lt rfl) (Y.int (r := .bool true) rfl rfl rfl) ?_
   refine Run.val (lt rfl) (Y.pick_t rfl rfl rfl) ?_
   refine Run.val (lt rfl) (Y.assign rfl) ?_
   refine Run.to_end ?_
   refine Ex.go ?_
   refine Tr.to_ret ?_
   refine Ex.ret_then ?_
   refine Ex.keep [] ?_
   exact Ex.ret1 rfl rfl  rfl
  ·have g13 := h13
   try simp only [kb] at g13
   refine Tr.cond_f rfl h13 ?_
   refine Tr.to_end ?_
   refine Ex.go ?_
   refine Tr.seq ?_
   refine Tr.region ?_
   refine Run.buildSlice (l := [(0, .const (.int .u8 1))]) Law24b_es22 Law24b_zo5 rfl (by decide) rfl rfl (by decide) (lt rfl) (fun b14 => ?_)
   refine Run.keepTo (H' := [[(b14, .cells #[.int .u8 1] 5 (0, 0))], [(b9, .cells #[.string Cli.aw0.name, w10, .int .i64 Cli.aw0.state, .int .u32 Cli.aw0.xid, .int .u32 Cli.aw0.addr, .int .u32 Cli.aw0.server, .int .i64 Cli.aw0.until_, .int .i64 Cli.aw0.one, .int .i64 Cli.aw0.two, .bool Cli.aw0.due, .int .i64 Cli.aw0.tries, .int .i64 Cli.aw0.said, .int .i64 Cli.aw0.asks] 67 (0, 0))]]) [0, 0] rfl ?_
   refine Run.show (fun V16 hleV16 hshV16 => ?_)
   have hna15 := (Ow.lit (e := 5) (k := 1) (b := b14) (n := 1) (cur := #[.int .u8 1]) rfl (by decide)).shows _ hshV16
   replace hvs := hvs.le hleV16
   replace hrs := hrs.le hleV16
   replace hna5 := hna5.le hleV16
   replace hna5b := hna5b.le hleV16
   replace hha := hha.le hleV16
   replace hVle := Vw.le_trans hVle hleV16
   have hna15b : Rd V16 [] 1 (.slice (some ⟨b14, 0, none⟩) 1 1) ([1] : List UInt8).length (([1] : List UInt8).map byteV) := hna15
   refine Run.call [] (l := [.const (.string ⟨#[97]⟩), .tmp 53]) rfl rfl rfl (lt rfl) (rnew_c_h (s := ⟨#[97]⟩) hna15b Cli.fine_a) (fun v17 V2 H2 hle18 hR => ?_)
   obtain ⟨_, b19, w20, rfl, rfl, hhb⟩ := hR
   obtain ⟨Vs21, hVe⟩ : ∃ V3 : Vw, V3 = V2 := ⟨_, rfl⟩
   subst hVe
   replace hvs := hvs.le hle18
   replace hrs := hrs.le hle18
   replace hna5 := hna5.le hle18
   replace hna5b := hna5b.le hle18
   replace hha := hha.le hle18
   replace hna15 := hna15.le hle18
   replace hna15b := hna15b.le hle18
   replace hVle := Vw.le_trans hVle hle18
   refine Run.heapTo (H' := [[(b9, .cells #[.string Cli.aw0.name, w10, .int .i64 Cli.aw0.state, .int .u32 Cli.aw0.xid, .int .u32 Cli.aw0.addr, .int .u32 Cli.aw0.server, .int .i64 Cli.aw0.until_, .int .i64 Cli.aw0.one, .int .i64 Cli.aw0.two, .bool Cli.aw0.due, .int .i64 Cli.aw0.tries, .int .i64 Cli.aw0.said, .int .i64 Cli.aw0.asks] 67 (0, 0))], [(b19, .cells #[.string Cli.aw0.name, w20, .int .i64 Cli.aw0.state, .int .u32 Cli.aw0.xid, .int .u32 Cli.aw0.addr, .int .u32 Cli.aw0.server, .int .i64 Cli.aw0.until_, .int .i64 Cli.aw0.one, .int .i64 Cli.aw0.two, .bool Cli.aw0.due, .int .i64 Cli.aw0.tries, .int .i64 Cli.aw0.said, .int .i64 Cli.aw0.asks] 44 (0, 0))]]) rfl ?_
   refine Run.val (lt rfl) (Y.move rfl) ?_
   refine Run.val (lt rfl) (Y.extract rfl rfl) ?_
   refine Run.val (lt rfl) (Y.extract rfl rfl) ?_
   refine Run.val (lt rfl) (Y.assign rfl) ?_
   refine Run.val (lt rfl) (Y.assign rfl) ?_
   refine Run.to_end ?_
   refine Ex.go ?_
   refine Tr.seq ?_
   refine Tr.region ?_
   refine Run.alloc Law24b_zo36 (lt rfl) (fun b22 => ?_)
   refine Run.to_end ?_
   refine Ex.go ?_
   refine Tr.seq ?_
   refine Tr.seq ?_
   refine Tr.region ?_
   refine Run.val (lt rfl) (Y.assign rfl) ?_
   refine Run.to_end ?_
   refine Ex.go ?_
   refine Tr.block ?_
   refine Tr.loop (X := Lo) (fun x => x.V) (fun x => [[(b22, .cells #[.int .i64 x.last.op, .int .u32 x.last.xid, .int .i64 x.last.secs, .int .i64 x.last.flags, .int .u32 x.last.ci, .int .u32 x.last.yi, .int .u32 x.last.si, .int .u32 x.last.gi, x.hv, x.ov] 36 (0, 0))], [(b9, .cells #[.string x.c.name, w10, .int .i64 x.c.state, .int .u32 x.c.xid, .int .u32 x.c.addr, .int .u32 x.c.server, .int .i64 x.c.until_, .int .i64 x.c.one, .int .i64 x.c.two, .bool x.c.due, .int .i64 x.c.tries, .int .i64 x.c.said, .int .i64 x.c.asks] 67 (0, 0))], [(b19, .cells #[.string x.c.name, w20, .int .i64 x.c.state, .int .u32 x.c.xid, .int .u32 x.c.addr, .int .u32 x.c.server, .int .i64 x.c.until_, .int .i64 x.c.one, .int .i64 x.c.two, .bool x.c.due, .int .i64 x.c.tries, .int .i64 x.c.said, .int .i64 x.c.asks] 44 (0, 0))]]) (fun x => [(0, .slice p l.length c0), (6, .pointer (some ⟨b9, 0, none⟩)), (8, .pointer (some ⟨b19, 0, none⟩)), (10, .pointer (some ⟨b22, 0, none⟩)), (1, .int .i64 now), (11, .int .i64 (x.i : Int))]) (fun x => Cli.Inv x.i x.c ∧ x.c.hw = ([1] : List UInt8) ∧ Vw.le Vs21 x.V ∧ Pc.R x.V x.last x.hv x.ov ∧ Pc.few x.last = true ∧ x.i ≤ l.length ∧ x.i ≤ 100 ∧ Cli.J0 x.c) (fun x => l.length - x.i) (⟨Cli.aw0, Vs21, Cli.zeroP, .slice none 0 0, .slice none 0 0, 0⟩ : Lo) ⟨Cli.inv0, rfl, Vw.le_refl _, Pc.zero_R _, Cli.few_zero, Nat.zero_le _, Nat.zero_le _, Cli.J0.new⟩ (fun a w i => ⟨i.1.sub (subB_cons (by first | rfl | exact congrArg (fun z => some (Value.int _ z)) (by omega)) (subB_cons (by first | rfl | exact congrArg (fun z => some (Value.int _ z)) (by omega)) (subB_cons (by first | rfl | exact congrArg (fun z => some (Value.int _ z)) (by omega)) (subB_cons (by first | rfl | exact congrArg (fun z => some (Value.int _ z)) (by omega)) (subB_cons (by first | rfl | exact congrArg (fun z => some (Value.int _ z)) (by omega)) (subB_cons (by first | rfl | exact congrArg (fun z => some (Value.int _ z)) (by omega)) (subB_nil _))))))), i.2⟩) ?_
   rintro ⟨c, Vn, last, hvl, ovl, i⟩ ⟨hi, hhw, hVle, hl, hlf, hil, hi9, hj⟩
   dsimp only at hi hhw hVle hl hlf hil hi9 ⊢
   replace hha : Rd Vn [] 1 w10 c.hw.length (c.hw.map byteV) := by rw [hhw]; exact hha.le hVle
   replace hhb : Rd Vn [] 1 w20 c.hw.length (c.hw.map byteV) := by rw [hhw]; exact hhb.le hVle
   replace hvs := hvs.le hVle
   replace hrs := hrs.le hVle
   obtain ⟨⟨pl, cl, rfl⟩, ql, nl, kl, rfl⟩ := hl.forms
   refine Tr.seq ?_
   refine Tr.seq ?_
   refine Tr.region ?_
   refine Run.val (lt rfl) (Y.move rfl) ?_
   refine Run.val (lt rfl) (Y.move rfl) ?_
   refine Run.val (lt rfl) (Y.lenSl rfl Law24b_es23) ?_
   refine Run.val (lt rfl) (Y.int rfl rfl rfl) ?_
   refine Run.val (lt rfl) (Y.move rfl) ?_
   rcases Bool.eq_false_or_eq_true (decide ((i : Int) < ((l.length : Nat) : Int))) with h23 | h23
   ·have g23 := h23
    try simp only [kb] at g23
    obtain ⟨b, off, c2, cs, et, fz, hw, hc, hk, hcs⟩ := hvs.opened (by omega)
    obtain ⟨rfl, rfl⟩ : p = some ⟨b, off, none⟩ ∧ c0 = c2 := by cases hw; exact ⟨rfl, rfl⟩
    clear hw
    have hrow := row_at (f := CStp.cells) CStp.len hcs (i := i) (by omega) (Nat.le_refl _) CStp.dflt
    have hmem := getD_mem (l := l) (j := i) (by omega) CStp.dflt
    generalize hse : l.getD i CStp.dflt = s at hrow hmem
    have hsR := hrs.at hmem
    have hsa := (hrs s hmem).2.1
    refine Run.on rfl rfl rfl h23 ?_
    refine Run.val (lt rfl) (Y.move rfl) ?_
    refine Run.on rfl rfl rfl h23 ?_
    refine Run.val (lt rfl) (Y.int rfl rfl rfl) ?_
    refine Run.val (lt rfl) (Y.pick_t rfl h23 rfl) ?_
    refine Run.to_end ?_
    refine Ex.go ?_
    rcases Bool.eq_false_or_eq_true (decide ((i : Int) < 100)) with h24 | h24
    ·have g24 := h24
     try simp only [kb] at g24
     refine Tr.cond_t rfl h24 ?_
     refine Tr.to_end ?_
     refine Ex.go ?_
     refine Tr.seq ?_
     refine Tr.block ?_
     refine Tr.seq ?_
     refine Tr.seq ?_
     refine Tr.region ?_
     refine Run.val (lt rfl) (Y.move rfl) ?_
     refine Run.val (lt rfl) (Y.move rfl) ?_
     refine Run.val (lt rfl) (Y.idxAddr rfl rfl Law24b_es23 (by omega) (by omega)) ?_
     refine Run.val (lt rfl) (Y.loadAgg rfl Law24b_ag39 hk.of_nil (cellsAt_of (CStp.cells s) _ hrow)) ?_
     refine Run.call0 (l := [.tmp 70]) rfl rfl rfl (lt rfl) ((long24_c hsR.hw hsR.os).frame) ?_
     refine Run.to_end ?_
     refine Ex.go ?_
     rcases Bool.eq_false_or_eq_true (Pc.few s.p) with h25 | h25
     ·have g25 := h25
      try simp only [kb] at g25
      refine Tr.cond_f rfl (congrArg Bool.not h25) ?_
      refine Tr.to_end ?_
      refine Ex.go ?_
      refine Tr.seq ?_
      refine Tr.anyD [(b22, .cells #[.int .i64 last.op, .int .u32 last.xid, .int .i64 last.secs, .int .i64 last.flags, .int .u32 last.ci, .int .u32 last.yi, .int .u32 last.si, .int .u32 last.gi, .slice pl last.hw.length cl, .slice ql nl kl] 36 (0, 0)), (b, .cells cs et fz)] Law24b_mo ?_
      refine RunD.pure (i := 0) rfl (by kernel_rfl) (by kernel_rfl) (by kernel_rfl) (fun _ _ _ h => h) (lt rfl) (KnAll.cons (Kn.at 0 rfl) (KnAll.cons hk.of_nil KnAll.nil)) (fun _ => (Y.move rfl)) ?_
      refine RunD.pure (i := 1) rfl (by kernel_rfl) (by kernel_rfl) (by kernel_rfl) (fun _ _ _ h => h) (lt rfl) (KnAll.cons (Kn.at 0 rfl) (KnAll.cons hk.of_nil KnAll.nil)) (fun _ => (Y.move rfl)) ?_
      refine RunD.pure (i := 2) rfl (by kernel_rfl) (by kernel_rfl) (by kernel_rfl) (fun _ _ _ h => h) (lt rfl) (KnAll.cons (Kn.at 0 rfl) (KnAll.cons hk.of_nil KnAll.nil)) (fun _ => (Y.move rfl)) ?_
      refine RunD.pure (i := 3) rfl (by kernel_rfl) (by kernel_rfl) (by kernel_rfl) (fun _ _ _ h => h) (lt rfl) (KnAll.cons (Kn.at 0 rfl) (KnAll.cons hk.of_nil KnAll.nil)) (fun _ => (Y.move rfl)) ?_
      refine RunD.pure (i := 4) rfl (by kernel_rfl) (by kernel_rfl) (by kernel_rfl) (fun _ _ _ h => h) (lt rfl) (KnAll.cons (Kn.at 0 rfl) (KnAll.cons hk.of_nil KnAll.nil)) (fun _ => (Y.idxAddr rfl rfl Law24b_es23 (by omega) (by omega))) ?_
      refine RunD.take (i := 5) 1 rfl rfl (by kernel_rfl) (by kernel_rfl) (by kernel_rfl) (fun _ _ _ h => h) (lt rfl) (KnAll.cons (Kn.at 0 rfl) (KnAll.cons hk.of_nil KnAll.nil)) (fun _ => (Y.loadAgg rfl Law24b_ag39 Kn.vk1 (cellsAt_of (CStp.cells s) _ hrow))) ?_
      refine RunD.take (i := 6) 0 rfl rfl (by kernel_rfl) (by kernel_rfl) (by kernel_rfl) (fun _ _ _ h => h) (lt rfl) (KnAll.cons (Kn.at 0 rfl) (KnAll.cons hk.of_nil KnAll.nil)) (fun _ => (Y.loadAgg rfl Law24b_ag36 Kn.vk1 rfl)) ?_
      refine RunD.two (i := 7) (j := 11) (by kernel_rfl) rfl rfl  ?_ ?_ 
      ·refine Run.call [1, 1] (l := [.tmp 73, .tmp 74, .tmp 78, .tmp 79]) rfl rfl rfl (lt rfl) (step_c (n := i) (c := c) (s := s) (last := last) hi (by omega) hha hhb hl hlf hsR (by simpa using h25) hsa) (fun v26 V2 H2 hle27 hR => ?_)
       obtain ⟨_, rfl, w28, w29, rfl, hRs30⟩ := hR
       obtain ⟨⟨p31, c32, rfl⟩, p33, n34, c35, rfl⟩ := hRs30.forms
       obtain ⟨Vs36, hVe⟩ : ∃ V3 : Vw, V3 = V2 := ⟨_, rfl⟩
       subst hVe
       replace hha := hha.le hle27
       replace hhb := hhb.le hle27
       replace hrs := hrs.le hle27
       replace hl := hl.le hle27
       replace hsR := hsR.le hle27
       replace hk := hk.le hle27
       replace hVle := Vw.le_trans hVle hle27
       refine Run.heapTo (H' := [[(b22, .cells #[.int .i64 last.op, .int .u32 last.xid, .int .i64 last.secs, .int .i64 last.flags, .int .u32 last.ci, .int .u32 last.yi, .int .u32 last.si, .int .u32 last.gi, .slice pl last.hw.length cl, .slice ql nl kl] 36 (0, 0))], [(b9, .cells #[.string ((Cli.stepC c s last).name), w10, .int .i64 ((Cli.stepC c s last).state), .int .u32 ((Cli.stepC c s last).xid), .int .u32 ((Cli.stepC c s last).addr), .int .u32 ((Cli.stepC c s last).server), .int .i64 ((Cli.stepC c s last).until_), .int .i64 ((Cli.stepC c s last).one), .int .i64 ((Cli.stepC c s last).two), .bool ((Cli.stepC c s last).due), .int .i64 ((Cli.stepC c s last).tries), .int .i64 ((Cli.stepC c s last).said), .int .i64 ((Cli.stepC c s last).asks)] 67 (0, 0))], [(b19, .cells #[.string ((Cli.stepC c s last).name), w20, .int .i64 ((Cli.stepC c s last).state), .int .u32 ((Cli.stepC c s last).xid), .int .u32 ((Cli.stepC c s last).addr), .int .u32 ((Cli.stepC c s last).server), .int .i64 ((Cli.stepC c s last).until_), .int .i64 ((Cli.stepC c s last).one), .int .i64 ((Cli.stepC c s last).two), .bool ((Cli.stepC c s last).due), .int .i64 ((Cli.stepC c s last).tries), .int .i64 ((Cli.stepC c s last).said), .int .i64 ((Cli.stepC c s last).asks)] 44 (0, 0))]]) rfl ?_
       refine Run.to_end ?_
       refine Ex.anyD (KnAll.cons (Kn.at 0 rfl) (KnAll.cons hk.of_nil KnAll.nil)) ?_
       refine RunD.pure (i := 8) rfl (by kernel_rfl) (by kernel_rfl) (by kernel_rfl) (fun _ _ _ h => h) (lt rfl) (KnAll.cons (Kn.at 0 rfl) (KnAll.cons hk.of_nil KnAll.nil)) (fun _ => (Y.move rfl)) ?_
       refine RunD.pure (i := 9) rfl (by kernel_rfl) (by kernel_rfl) (by kernel_rfl) (fun _ _ _ h => h) (lt rfl) (KnAll.cons (Kn.at 0 rfl) (KnAll.cons hk.of_nil KnAll.nil)) (fun _ => (Y.extract rfl rfl)) ?_
       refine RunD.pure (i := 10) rfl (by kernel_rfl) (by kernel_rfl) (by kernel_rfl) (fun _ _ _ h => h) (lt rfl) (KnAll.cons (Kn.at 0 rfl) (KnAll.cons hk.of_nil KnAll.nil)) (fun _ => (Y.extract rfl rfl)) ?_
       refine RunD.one (i := 11) (by kernel_rfl) rfl  ?_ 
       refine Run.alloc Law24b_zo36 (lt rfl) (fun b37 => ?_)
       refine Run.to_end ?_
       refine Ex.anyD (KnAll.cons (Kn.at 1 rfl) (KnAll.cons hk.of_nil KnAll.nil)) ?_
       refine RunD.one (i := 12) (by kernel_rfl) rfl  ?_ 
       refine Run.store (s := [(b37, .cells #[.int .i64 ((Cli.stepL c s last).op), .int .u32 ((Cli.stepL c s last).xid), .int .i64 ((Cli.stepL c s last).secs), .int .i64 ((Cli.stepL c s last).flags), .int .u32 ((Cli.stepL c s last).ci), .int .u32 ((Cli.stepL c s last).yi), .int .u32 ((Cli.stepL c s last).si), .int .u32 ((Cli.stepL c s last).gi), .slice p31 (Cli.stepL c s last).hw.length c32, .slice p33 n34 c35] 36 (0, 0))]) rfl rfl Law24b_sz36 (i := 0) rfl rfl (le rfl) rfl rfl ?_
       refine Run.to_end ?_
       refine Ex.anyD (KnAll.cons (Kn.at 1 rfl) (KnAll.cons hk.of_nil KnAll.nil)) ?_
       refine RunD.pure (i := 13) rfl (by kernel_rfl) (by kernel_rfl) (by kernel_rfl) (fun _ _ _ h => h) (lt rfl) (KnAll.cons (Kn.at 1 rfl) (KnAll.cons hk.of_nil KnAll.nil)) (fun _ => (Y.assign rfl)) ?_
       refine RunD.done (by kernel_rfl) ?_
       refine Ex.go ?_
       refine Tr.region ?_
       refine Run.val (lt rfl) (Y.loadAgg rfl Law24b_ag36 (Kn.at 0 rfl) rfl) ?_
       refine Run.store (s := [(b22, .cells #[.int .i64 ((Cli.stepL c s last).op), .int .u32 ((Cli.stepL c s last).xid), .int .i64 ((Cli.stepL c s last).secs), .int .i64 ((Cli.stepL c s last).flags), .int .u32 ((Cli.stepL c s last).ci), .int .u32 ((Cli.stepL c s last).yi), .int .u32 ((Cli.stepL c s last).si), .int .u32 ((Cli.stepL c s last).gi), .slice p31 (Cli.stepL c s last).hw.length c32, .slice p33 n34 c35] 36 (0, 0))]) rfl rfl Law24b_sz36 (i := 1) rfl rfl (le rfl) rfl rfl ?_
       refine Run.to_end ?_
       refine Ex.end_block ?_
       refine Ex.go ?_
       refine Tr.region ?_
       refine Run.val (lt rfl) (Y.move rfl) ?_
       refine Run.val (lt rfl) (Y.add rfl rfl (by omega)) ?_
       refine Run.val (lt rfl) (Y.assign rfl) ?_
       refine Run.to_end ?_
       refine Ex.keep [1, 1, 1] ?_
       exact Ex.round (⟨Cli.stepC c s last, Vs36, Cli.stepL c s last, .slice p31 (Cli.stepL c s last).hw.length c32, .slice p33 n34 c35, i + 1⟩ : Lo) ⟨hi.step s ⟨hsR.yi, hsR.si⟩ hsa, (Cli.step_same c s last).1.trans hhw, hVle, hRs30, Cli.few_stepL hi s hlf, by show i + 1 ≤ l.length; omega, by show i + 1 ≤ 100; omega, hj.step s last⟩ (by show l.length - (i + 1) < l.length - i; omega) rfl rfl (subB_cons (by first | rfl | exact congrArg (fun z => some (Value.int _ z)) (by omega)) (subB_cons (by first | rfl | exact congrArg (fun z => some (Value.int _ z)) (by omega)) (subB_cons (by first | rfl | exact congrArg (fun z => some (Value.int _ z)) (by omega)) (subB_cons (by first | rfl | exact congrArg (fun z => some (Value.int _ z)) (by omega)) (subB_cons (by first | rfl | exact congrArg (fun z => some (Value.int _ z)) (by omega)) (subB_cons (by first | rfl | exact congrArg (fun z => some (Value.int _ z)) (by omega)) (subB_nil _)))))))
      ·refine Run.alloc Law24b_zo36 (lt rfl) (fun b38 => ?_)
       refine Run.to_end ?_
       refine Ex.anyD (KnAll.cons (Kn.at 1 rfl) (KnAll.cons hk.of_nil KnAll.nil)) ?_
       refine RunD.one (i := 7) (by kernel_rfl) rfl  ?_ 
       refine Run.call [2, 2] (l := [.tmp 73, .tmp 74, .tmp 78, .tmp 79]) rfl rfl rfl (lt rfl) (step_c (n := i) (c := c) (s := s) (last := last) hi (by omega) hha hhb hl hlf hsR (by simpa using h25) hsa) (fun v39 V2 H2 hle40 hR => ?_)
       obtain ⟨_, rfl, w41, w42, rfl, hRs43⟩ := hR
       obtain ⟨⟨p44, c45, rfl⟩, p46, n47, c48, rfl⟩ := hRs43.forms
       obtain ⟨Vs49, hVe⟩ : ∃ V3 : Vw, V3 = V2 := ⟨_, rfl⟩
       subst hVe
       replace hha := hha.le hle40
       replace hhb := hhb.le hle40
       replace hrs := hrs.le hle40
       replace hl := hl.le hle40
       replace hsR := hsR.le hle40
       replace hk := hk.le hle40
       replace hVle := Vw.le_trans hVle hle40
       refine Run.heapTo (H' := [[(b38, .cells #[.int .i64 0, .int .u32 0, .int .i64 0, .int .i64 0, .int .u32 0, .int .u32 0, .int .u32 0, .int .u32 0, .slice none 0 0, .slice none 0 0] 36 (0, 0))], [(b22, .cells #[.int .i64 last.op, .int .u32 last.xid, .int .i64 last.secs, .int .i64 last.flags, .int .u32 last.ci, .int .u32 last.yi, .int .u32 last.si, .int .u32 last.gi, .slice pl last.hw.length cl, .slice ql nl kl] 36 (0, 0))], [(b9, .cells #[.string ((Cli.stepC c s last).name), w10, .int .i64 ((Cli.stepC c s last).state), .int .u32 ((Cli.stepC c s last).xid), .int .u32 ((Cli.stepC c s last).addr), .int .u32 ((Cli.stepC c s last).server), .int .i64 ((Cli.stepC c s last).until_), .int .i64 ((Cli.stepC c s last).one), .int .i64 ((Cli.stepC c s last).two), .bool ((Cli.stepC c s last).due), .int .i64 ((Cli.stepC c s last).tries), .int .i64 ((Cli.stepC c s last).said), .int .i64 ((Cli.stepC c s last).asks)] 67 (0, 0))], [(b19, .cells #[.string ((Cli.stepC c s last).name), w20, .int .i64 ((Cli.stepC c s last).state), .int .u32 ((Cli.stepC c s last).xid), .int .u32 ((Cli.stepC c s last).addr), .int .u32 ((Cli.stepC c s last).server), .int .i64 ((Cli.stepC c s last).until_), .int .i64 ((Cli.stepC c s last).one), .int .i64 ((Cli.stepC c s last).two), .bool ((Cli.stepC c s last).due), .int .i64 ((Cli.stepC c s last).tries), .int .i64 ((Cli.stepC c s last).said), .int .i64 ((Cli.stepC c s last).asks)] 44 (0, 0))]]) rfl ?_
       refine Run.to_end ?_
       refine Ex.anyD (KnAll.cons (Kn.at 1 rfl) (KnAll.cons hk.of_nil KnAll.nil)) ?_
       refine RunD.pure (i := 8) rfl (by kernel_rfl) (by kernel_rfl) (by kernel_rfl) (fun _ _ _ h => h) (lt rfl) (KnAll.cons (Kn.at 1 rfl) (KnAll.cons hk.of_nil KnAll.nil)) (fun _ => (Y.move rfl)) ?_
       refine RunD.pure (i := 9) rfl (by kernel_rfl) (by kernel_rfl) (by kernel_rfl) (fun _ _ _ h => h) (lt rfl) (KnAll.cons (Kn.at 1 rfl) (KnAll.cons hk.of_nil KnAll.nil)) (fun _ => (Y.extract rfl rfl)) ?_
       refine RunD.pure (i := 10) rfl (by kernel_rfl) (by kernel_rfl) (by kernel_rfl) (fun _ _ _ h => h) (lt rfl) (KnAll.cons (Kn.at 1 rfl) (KnAll.cons hk.of_nil KnAll.nil)) (fun _ => (Y.extract rfl rfl)) ?_
       refine RunD.one (i := 12) (by kernel_rfl) rfl  ?_ 
       refine Run.store (s := [(b38, .cells #[.int .i64 ((Cli.stepL c s last).op), .int .u32 ((Cli.stepL c s last).xid), .int .i64 ((Cli.stepL c s last).secs), .int .i64 ((Cli.stepL c s last).flags), .int .u32 ((Cli.stepL c s last).ci), .int .u32 ((Cli.stepL c s last).yi), .int .u32 ((Cli.stepL c s last).si), .int .u32 ((Cli.stepL c s last).gi), .slice p44 (Cli.stepL c s last).hw.length c45, .slice p46 n47 c48] 36 (0, 0))]) rfl rfl Law24b_sz36 (i := 0) rfl rfl (le rfl) rfl rfl ?_
       refine Run.to_end ?_
       refine Ex.anyD (KnAll.cons (Kn.at 1 rfl) (KnAll.cons hk.of_nil KnAll.nil)) ?_
       refine RunD.pure (i := 13) rfl (by kernel_rfl) (by kernel_rfl) (by kernel_rfl) (fun _ _ _ h => h) (lt rfl) (KnAll.cons (Kn.at 1 rfl) (KnAll.cons hk.of_nil KnAll.nil)) (fun _ => (Y.assign rfl)) ?_
       refine RunD.done (by kernel_rfl) ?_
       refine Ex.go ?_
       refine Tr.region ?_
       refine Run.val (lt rfl) (Y.loadAgg rfl Law24b_ag36 (Kn.at 0 rfl) rfl) ?_
       refine Run.store (s := [(b22, .cells #[.int .i64 ((Cli.stepL c s last).op), .int .u32 ((Cli.stepL c s last).xid), .int .i64 ((Cli.stepL c s last).secs), .int .i64 ((Cli.stepL c s last).flags), .int .u32 ((Cli.stepL c s last).ci), .int .u32 ((Cli.stepL c s last).yi), .int .u32 ((Cli.stepL c s last).si), .int .u32 ((Cli.stepL c s last).gi), .slice p44 (Cli.stepL c s last).hw.length c45, .slice p46 n47 c48] 36 (0, 0))]) rfl rfl Law24b_sz36 (i := 1) rfl rfl (le rfl) rfl rfl ?_
       refine Run.to_end ?_
       refine Ex.end_block ?_
       refine Ex.go ?_
       refine Tr.region ?_
       refine Run.val (lt rfl) (Y.move rfl) ?_
       refine Run.val (lt rfl) (Y.add rfl rfl (by omega)) ?_
       refine Run.val (lt rfl) (Y.assign rfl) ?_
       refine Run.to_end ?_
       refine Ex.keep [1, 1, 1] ?_
       exact Ex.round (⟨Cli.stepC c s last, Vs49, Cli.stepL c s last, .slice p44 (Cli.stepL c s last).hw.length c45, .slice p46 n47 c48, i + 1⟩ : Lo) ⟨hi.step s ⟨hsR.yi, hsR.si⟩ hsa, (Cli.step_same c s last).1.trans hhw, hVle, hRs43, Cli.few_stepL hi s hlf, by show i + 1 ≤ l.length; omega, by show i + 1 ≤ 100; omega, hj.step s last⟩ (by show l.length - (i + 1) < l.length - i; omega) rfl rfl (subB_cons (by first | rfl | exact congrArg (fun z => some (Value.int _ z)) (by omega)) (subB_cons (by first | rfl | exact congrArg (fun z => some (Value.int _ z)) (by omega)) (subB_cons (by first | rfl | exact congrArg (fun z => some (Value.int _ z)) (by omega)) (subB_cons (by first | rfl | exact congrArg (fun z => some (Value.int _ z)) (by omega)) (subB_cons (by first | rfl | exact congrArg (fun z => some (Value.int _ z)) (by omega)) (subB_cons (by first | rfl | exact congrArg (fun z => some (Value.int _ z)) (by omega)) (subB_nil _)))))))
     ·have g25 := h25
      try simp only [kb] at g25
      refine Tr.cond_t rfl (congrArg Bool.not h25) ?_
      refine Tr.seq ?_
      refine Tr.region ?_
      refine Run.val (lt rfl) (Y.assign rfl) ?_
      refine Run.to_end ?_
      refine Ex.go ?_
      refine Tr.to_ret ?_
      refine Ex.ret_then ?_
      refine Ex.ret_block ?_
      refine Ex.ret_then ?_
      refine Ex.ret_then ?_
      refine Ex.ret_block ?_
      refine Ex.ret_then ?_
      refine Ex.keep [] ?_
      exact Ex.ret1 rfl rfl  rfl
    ·have g24 := h24
     try simp only [kb] at g24
     refine Tr.cond_f rfl h24 ?_
     refine Tr.to_exit ?_
     refine Ex.exit_then ?_
     refine Ex.exit_then ?_
     refine Ex.exit_in ?_
     refine Ex.go ?_
     refine Tr.seq ?_
     refine Tr.region ?_
     have hm : Con.moment now = true := Con.moment_yes (by omega)
     refine Run.val (lt rfl) (Y.move rfl) ?_
     refine Run.call0 (l := [.tmp 84]) rfl rfl rfl (lt rfl) (addr_c (c := c) (Kn.at 1 rfl)) ?_
     refine Run.val (lt rfl) (Y.assign rfl) ?_
     refine Run.to_end ?_
     refine Ex.go ?_
     refine Tr.seq ?_
     refine Tr.region ?_
     refine Run.val (lt rfl) (Y.move rfl) ?_
     refine Run.val (lt rfl) (Y.move rfl) ?_
     refine Run.call [1] (l := [.tmp 87, .tmp 88]) rfl rfl rfl (lt rfl) (release_c (n := (i : Int)) (c := c) (now := now) hi hha) (fun v50 V2 H2 hle51 hR => ?_)
     obtain ⟨_, rfl, w52, w53, rfl, hRr54⟩ := hR
     obtain ⟨⟨p55, c56, rfl⟩, p57, n58, c59, rfl⟩ := hRr54.forms
     obtain ⟨Vs60, hVe⟩ : ∃ V3 : Vw, V3 = V2 := ⟨_, rfl⟩
     subst hVe
     replace hha := hha.le hle51
     replace hhb := hhb.le hle51
     replace hrs := hrs.le hle51
     replace hl := hl.le hle51
     replace hsR := hsR.le hle51
     replace hk := hk.le hle51
     replace hVle := Vw.le_trans hVle hle51
     have hix61 : Cli.Inv ((i : Int)) (Cli.relC c now) := hi.rel now
     have hhx62 : Rd Vs60 [] 1 w10 (Cli.hw (Cli.relC c now)).length ((Cli.hw (Cli.relC c now)).map byteV) := by rw [show Cli.hw (Cli.relC c now) = Cli.hw c from (Cli.rel_same _ _).1]; exact hha
     refine Run.heapTo (H' := [[(b22, .cells #[.int .i64 last.op, .int .u32 last.xid, .int .i64 last.secs, .int .i64 last.flags, .int .u32 last.ci, .int .u32 last.yi, .int .u32 last.si, .int .u32 last.gi, .slice pl last.hw.length cl, .slice ql nl kl] 36 (0, 0))], [(b19, .cells #[.string c.name, w20, .int .i64 c.state, .int .u32 c.xid, .int .u32 c.addr, .int .u32 c.server, .int .i64 c.until_, .int .i64 c.one, .int .i64 c.two, .bool c.due, .int .i64 c.tries, .int .i64 c.said, .int .i64 c.asks] 44 (0, 0))], [(b9, .cells #[.string ((Cli.relC c now).name), w10, .int .i64 ((Cli.relC c now).state), .int .u32 ((Cli.relC c now).xid), .int .u32 ((Cli.relC c now).addr), .int .u32 ((Cli.relC c now).server), .int .i64 ((Cli.relC c now).until_), .int .i64 ((Cli.relC c now).one), .int .i64 ((Cli.relC c now).two), .bool ((Cli.relC c now).due), .int .i64 ((Cli.relC c now).tries), .int .i64 ((Cli.relC c now).said), .int .i64 ((Cli.relC c now).asks)] 67 (0, 0))]]) rfl ?_
     refine Run.val (lt rfl) (Y.move rfl) ?_
     refine Run.val (lt rfl) (Y.extract rfl rfl) ?_
     refine Run.val (lt rfl) (Y.extract rfl rfl) ?_
     refine Run.alloc Law24b_zo36 (lt rfl) (fun b63 => ?_)
     refine Run.store (s := [(b63, .cells #[.int .i64 ((Cli.relP c now).op), .int .u32 ((Cli.relP c now).xid), .int .i64 ((Cli.relP c now).secs), .int .i64 ((Cli.relP c now).flags), .int .u32 ((Cli.relP c now).ci), .int .u32 ((Cli.relP c now).yi), .int .u32 ((Cli.relP c now).si), .int .u32 ((Cli.relP c now).gi), .slice p55 (Cli.relP c now).hw.length c56, .slice p57 n58 c59] 36 (0, 0))]) rfl rfl Law24b_sz36 (i := 0) rfl rfl (le rfl) rfl rfl ?_
     refine Run.val (lt rfl) (Y.assign rfl) ?_
     refine Run.to_end ?_
     refine Ex.go ?_
     refine Tr.seq ?_
     refine Tr.seq ?_
     refine Tr.region ?_
     refine Run.val (lt rfl) (Y.move rfl) ?_
     refine Run.val (lt rfl) (Y.int rfl rfl rfl) ?_
     refine Run.to_end ?_
     refine Ex.go ?_
     rcases Bool.eq_false_or_eq_true ((Cli.relE c now) != 0) with h64 | h64
     ·have g64 := h64
      try simp only [kb] at g64
      have hnh : Cli.holding c = false := Cli.rel_ne hm (by simpa using h64)
      refine Tr.cond_t rfl h64 ?_
      refine Tr.seq ?_
      refine Tr.region ?_
      refine Run.val (lt rfl) (Y.move rfl) ?_
      refine Run.val (lt rfl) (Y.int rfl rfl rfl) ?_
      refine Run.val (lt rfl) (Y.move rfl) ?_
      refine Run.on rfl rfl rfl (beq_iff_eq.2 (Cli.rel_still hm hnh).1) ?_
      refine Run.val (lt rfl) (Y.move rfl) ?_
      refine Run.on rfl rfl rfl (beq_iff_eq.2 (Cli.rel_still hm hnh).1) ?_
      refine Run.call0 (l := [.tmp 97]) rfl rfl rfl (lt rfl) (state_c (c := (Cli.relC c now)) (Kn.at 3 rfl)) ?_
      refine Run.on rfl rfl rfl (beq_iff_eq.2 (Cli.rel_still hm hnh).1) ?_
      refine Run.val (lt rfl) (Y.int rfl rfl rfl) ?_
      refine Run.val (lt rfl) (Y.pick_t rfl (beq_iff_eq.2 (Cli.rel_still hm hnh).1) rfl) ?_
      refine Run.val (lt rfl) (Y.assign rfl) ?_
      refine Run.to_end ?_
      refine Ex.go ?_
      refine Tr.to_ret ?_
      refine Ex.ret_then ?_
      refine Ex.keep [] ?_
      exact Ex.ret1 rfl rfl  (congrArg Value.bool (bne_iff_ne.2 (Cli.rel_still hm hnh).2))
     ·have g64 := h64
      try simp only [kb] at g64
      have hho : Cli.holding c = true := Cli.rel_eq hm (by simpa using h64)
      obtain ⟨x1, x2, x3, x4, x5, x6, x7, x8, x9, xa, xb⟩ := Cli.idles hi hj hm hho
      refine Tr.cond_f rfl h64 ?_
      refine Tr.to_end ?_
      refine Ex.go ?_
      refine Tr.seq ?_
      refine Tr.region ?_
      refine Run.val (lt rfl) (Y.move rfl) ?_
      refine Run.val (lt rfl) (Y.move rfl) ?_
      refine Run.call [3] (l := [.tmp 102, .tmp 103]) rfl rfl rfl (lt rfl) (tick_c (n := (i : Int)) (c := (Cli.relC c now)) (now := now) hix61 (by omega) hhx62) (fun v65 V2 H2 hle66 hR => ?_)
      obtain ⟨_, rfl, pst68, rfl, hkt67⟩ := hR
      obtain ⟨Vs69, hVe⟩ : ∃ V3 : Vw, V3 = V2 := ⟨_, rfl⟩
      subst hVe
      replace hhb := hhb.le hle66
      replace hrs := hrs.le hle66
      replace hl := hl.le hle66
      replace hsR := hsR.le hle66
      replace hk := hk.le hle66
      replace hRr54 := hRr54.le hle66
      replace hhx62 := hhx62.le hle66
      replace hVle := Vw.le_trans hVle hle66
      have hix70 : Cli.Inv ((i : Int) + 1) (Cli.tickC (Cli.relC c now) now) := hix61.tick now
      have hhx71 : Rd Vs69 [] 1 w10 (Cli.hw (Cli.tickC (Cli.relC c now) now)).length ((Cli.hw (Cli.tickC (Cli.relC c now) now)).map byteV) := by rw [show Cli.hw (Cli.tickC (Cli.relC c now) now) = Cli.hw (Cli.relC c now) from (Cli.tick_same _ _).1]; exact hhx62
      refine Run.heapTo (H' := [[(b63, .cells #[.int .i64 ((Cli.relP c now).op), .int .u32 ((Cli.relP c now).xid), .int .i64 ((Cli.relP c now).secs), .int .i64 ((Cli.relP c now).flags), .int .u32 ((Cli.relP c now).ci), .int .u32 ((Cli.relP c now).yi), .int .u32 ((Cli.relP c now).si), .int .u32 ((Cli.relP c now).gi), .slice p55 (Cli.relP c now).hw.length c56, .slice p57 n58 c59] 36 (0, 0))], [(b22, .cells #[.int .i64 last.op, .int .u32 last.xid, .int .i64 last.secs, .int .i64 last.flags, .int .u32 last.ci, .int .u32 last.yi, .int .u32 last.si, .int .u32 last.gi, .slice pl last.hw.length cl, .slice ql nl kl] 36 (0, 0))], [(b19, .cells #[.string c.name, w20, .int .i64 c.state, .int .u32 c.xid, .int .u32 c.addr, .int .u32 c.server, .int .i64 c.until_, .int .i64 c.one, .int .i64 c.two, .bool c.due, .int .i64 c.tries, .int .i64 c.said, .int .i64 c.asks] 44 (0, 0))], [(b9, .cells #[.string ((Cli.tickC (Cli.relC c now) now).name), w10, .int .i64 ((Cli.tickC (Cli.relC c now) now).state), .int .u32 ((Cli.tickC (Cli.relC c now) now).xid), .int .u32 ((Cli.tickC (Cli.relC c now) now).addr), .int .u32 ((Cli.tickC (Cli.relC c now) now).server), .int .i64 ((Cli.tickC (Cli.relC c now) now).until_), .int .i64 ((Cli.tickC (Cli.relC c now) now).one), .int .i64 ((Cli.tickC (Cli.relC c now) now).two), .bool ((Cli.tickC (Cli.relC c now) now).due), .int .i64 ((Cli.tickC (Cli.relC c now) now).tries), .int .i64 ((Cli.tickC (Cli.relC c now) now).said), .int .i64 ((Cli.tickC (Cli.relC c now) now).asks)] 67 (0, 0))]]) rfl ?_
      refine Run.val (lt rfl) (Y.move rfl) ?_
      refine Run.val (lt rfl) (Y.extract rfl rfl) ?_
      refine Run.val (lt rfl) (Y.extract rfl rfl) ?_
      refine Run.val (lt rfl) (Y.assign rfl) ?_
      refine Run.val (lt rfl) (Y.assign rfl) ?_
      refine Run.to_end ?_
      refine Ex.go ?_
      refine Tr.seq ?_
      refine Tr.region ?_
      rw [x1] at hkt67
      have hkt672 : pst68 = .slice none 0 0 := hkt67
      subst hkt672
      refine Run.val (lt rfl) (Y.move rfl) ?_
      refine Run.val (lt rfl) (Y.loadAgg rfl Law24b_ag36 (Kn.at 0 rfl) rfl) ?_
      refine Run.val (lt rfl) (Y.move rfl) ?_
      refine Run.val (lt rfl) (Y.buildS (l := [(2, .const (.int .i64 5)), (3, .const (.int .i64 5)), (4, .tmp 109)]) Law24b_zo39 Law24b_pl39 rfl rfl) ?_
      refine Run.call [] (l := [.tmp 108, .tmp 110]) rfl rfl rfl (lt rfl) (answer_c (p := (Cli.relP c now)) (s := (⟨0, 0, 5, 5, c.addr, Cli.zeroP, .slice none 0 0, .slice none 0 0⟩ : CStp)) hRr54 hi.addr) (fun v72 V2 H2 hle73 hR => ?_)
      obtain ⟨_, rfl, w74, rfl, hRn75⟩ := hR
      obtain ⟨Vs76, hVe⟩ : ∃ V3 : Vw, V3 = V2 := ⟨_, rfl⟩
      subst hVe
      replace hhb := hhb.le hle73
      replace hrs := hrs.le hle73
      replace hl := hl.le hle73
      replace hsR := hsR.le hle73
      replace hk := hk.le hle73
      replace hRr54 := hRr54.le hle73
      replace hhx71 := hhx71.le hle73
      replace hVle := Vw.le_trans hVle hle73
      refine Run.heapTo (H' := [[(b63, .cells #[.int .i64 ((Cli.relP c now).op), .int .u32 ((Cli.relP c now).xid), .int .i64 ((Cli.relP c now).secs), .int .i64 ((Cli.relP c now).flags), .int .u32 ((Cli.relP c now).ci), .int .u32 ((Cli.relP c now).yi), .int .u32 ((Cli.relP c now).si), .int .u32 ((Cli.relP c now).gi), .slice p55 (Cli.relP c now).hw.length c56, .slice p57 n58 c59] 36 (0, 0))], [(b22, .cells #[.int .i64 last.op, .int .u32 last.xid, .int .i64 last.secs, .int .i64 last.flags, .int .u32 last.ci, .int .u32 last.yi, .int .u32 last.si, .int .u32 last.gi, .slice pl last.hw.length cl, .slice ql nl kl] 36 (0, 0))], [(b19, .cells #[.string c.name, w20, .int .i64 c.state, .int .u32 c.xid, .int .u32 c.addr, .int .u32 c.server, .int .i64 c.until_, .int .i64 c.one, .int .i64 c.two, .bool c.due, .int .i64 c.tries, .int .i64 c.said, .int .i64 c.asks] 44 (0, 0))], [(b9, .cells #[.string ((Cli.tickC (Cli.relC c now) now).name), w10, .int .i64 ((Cli.tickC (Cli.relC c now) now).state), .int .u32 ((Cli.tickC (Cli.relC c now) now).xid), .int .u32 ((Cli.tickC (Cli.relC c now) now).addr), .int .u32 ((Cli.tickC (Cli.relC c now) now).server), .int .i64 ((Cli.tickC (Cli.relC c now) now).until_), .int .i64 ((Cli.tickC (Cli.relC c now) now).one), .int .i64 ((Cli.tickC (Cli.relC c now) now).two), .bool ((Cli.tickC (Cli.relC c now) now).due), .int .i64 ((Cli.tickC (Cli.relC c now) now).tries), .int .i64 ((Cli.tickC (Cli.relC c now) now).said), .int .i64 ((Cli.tickC (Cli.relC c now) now).asks)] 67 (0, 0))]]) rfl ?_
      refine Run.val (lt rfl) (Y.move rfl) ?_
      refine Run.call [3] (l := [.tmp 107, .tmp 111, .tmp 112]) rfl rfl rfl (lt rfl) (take_c (n := (i : Int) + 1) (c := (Cli.tickC (Cli.relC c now) now)) (now := now) (p := (Cli.ans (Cli.relP c now) 5 5 c.addr)) hix70 hhx71 hRn75 (Cli.few_ans (Cli.few_rel hi now) _ _ _)) (fun v77 V2 H2 _ hR => ?_)
      obtain ⟨hV, rfl, rfl⟩ := hR; replace hV := hV.symm; subst hV
      have hix78 : Cli.Inv ((i : Int) + 1) (Cli.takeC (Cli.tickC (Cli.relC c now) now) (Cli.ans (Cli.relP c now) 5 5 c.addr) now) := hix70.take hRn75.yi hRn75.si now
      have hhx79 : Rd Vs76 [] 1 w10 (Cli.hw (Cli.takeC (Cli.tickC (Cli.relC c now) now) (Cli.ans (Cli.relP c now) 5 5 c.addr) now)).length ((Cli.hw (Cli.takeC (Cli.tickC (Cli.relC c now) now) (Cli.ans (Cli.relP c now) 5 5 c.addr) now)).map byteV) := by rw [show Cli.hw (Cli.takeC (Cli.tickC (Cli.relC c now) now) (Cli.ans (Cli.relP c now) 5 5 c.addr) now) = Cli.hw (Cli.tickC (Cli.relC c now) now) from (Cli.take_same _ _ _).1]; exact hhx71
      refine Run.heapTo (H' := [[(b63, .cells #[.int .i64 ((Cli.relP c now).op), .int .u32 ((Cli.relP c now).xid), .int .i64 ((Cli.relP c now).secs), .int .i64 ((Cli.relP c now).flags), .int .u32 ((Cli.relP c now).ci), .int .u32 ((Cli.relP c now).yi), .int .u32 ((Cli.relP c now).si), .int .u32 ((Cli.relP c now).gi), .slice p55 (Cli.relP c now).hw.length c56, .slice p57 n58 c59] 36 (0, 0))], [(b22, .cells #[.int .i64 last.op, .int .u32 last.xid, .int .i64 last.secs, .int .i64 last.flags, .int .u32 last.ci, .int .u32 last.yi, .int .u32 last.si, .int .u32 last.gi, .slice pl last.hw.length cl, .slice ql nl kl] 36 (0, 0))], [(b19, .cells #[.string c.name, w20, .int .i64 c.state, .int .u32 c.xid, .int .u32 c.addr, .int .u32 c.server, .int .i64 c.until_, .int .i64 c.one, .int .i64 c.two, .bool c.due, .int .i64 c.tries, .int .i64 c.said, .int .i64 c.asks] 44 (0, 0))], [(b9, .cells #[.string ((Cli.takeC (Cli.tickC (Cli.relC c now) now) (Cli.ans (Cli.relP c now) 5 5 c.addr) now).name), w10, .int .i64 ((Cli.takeC (Cli.tickC (Cli.relC c now) now) (Cli.ans (Cli.relP c now) 5 5 c.addr) now).state), .int .u32 ((Cli.takeC (Cli.tickC (Cli.relC c now) now) (Cli.ans (Cli.relP c now) 5 5 c.addr) now).xid), .int .u32 ((Cli.takeC (Cli.tickC (Cli.relC c now) now) (Cli.ans (Cli.relP c now) 5 5 c.addr) now).addr), .int .u32 ((Cli.takeC (Cli.tickC (Cli.relC c now) now) (Cli.ans (Cli.relP c now) 5 5 c.addr) now).server), .int .i64 ((Cli.takeC (Cli.tickC (Cli.relC c now) now) (Cli.ans (Cli.relP c now) 5 5 c.addr) now).until_), .int .i64 ((Cli.takeC (Cli.tickC (Cli.relC c now) now) (Cli.ans (Cli.relP c now) 5 5 c.addr) now).one), .int .i64 ((Cli.takeC (Cli.tickC (Cli.relC c now) now) (Cli.ans (Cli.relP c now) 5 5 c.addr) now).two), .bool ((Cli.takeC (Cli.tickC (Cli.relC c now) now) (Cli.ans (Cli.relP c now) 5 5 c.addr) now).due), .int .i64 ((Cli.takeC (Cli.tickC (Cli.relC c now) now) (Cli.ans (Cli.relP c now) 5 5 c.addr) now).tries), .int .i64 ((Cli.takeC (Cli.tickC (Cli.relC c now) now) (Cli.ans (Cli.relP c now) 5 5 c.addr) now).said), .int .i64 ((Cli.takeC (Cli.tickC (Cli.relC c now) now) (Cli.ans (Cli.relP c now) 5 5 c.addr) now).asks)] 67 (0, 0))]]) rfl ?_
      refine Run.val (lt rfl) (Y.assign rfl) ?_
      refine Run.to_end ?_
      refine Ex.go ?_
      refine Tr.seq ?_
      refine Tr.region ?_
      refine Run.val (lt rfl) (Y.move rfl) ?_
      refine Run.call0 (l := [.tmp 114]) rfl rfl rfl (lt rfl) (state_c (c := (Cli.takeC (Cli.tickC (Cli.relC c now) now) (Cli.ans (Cli.relP c now) 5 5 c.addr) now)) (Kn.at 3 rfl)) ?_
      refine Run.val (lt rfl) (Y.int rfl rfl rfl) ?_
      refine Run.val (lt rfl) (Y.move rfl) ?_
      refine Run.on rfl rfl rfl (beq_iff_eq.2 x4) ?_
      refine Run.val (lt rfl) (Y.move rfl) ?_
      refine Run.on rfl rfl rfl (beq_iff_eq.2 x4) ?_
      refine Run.call0 (l := [.tmp 118]) rfl rfl rfl (lt rfl) (addr_c (c := (Cli.takeC (Cli.tickC (Cli.relC c now) now) (Cli.ans (Cli.relP c now) 5 5 c.addr) now)) (Kn.at 3 rfl)) ?_
      refine Run.on rfl rfl rfl (beq_iff_eq.2 x4) ?_
      refine Run.val (lt rfl) (Y.int rfl rfl rfl) ?_
      refine Run.val (lt rfl) (Y.pick_t rfl (beq_iff_eq.2 x4) rfl) ?_
      refine Run.val (lt rfl) (Y.move rfl) ?_
      refine Run.on rfl rfl rfl (beq_iff_eq.2 x5) ?_
      refine Run.val (lt rfl) (Y.move rfl) ?_
      refine Run.on rfl rfl rfl (beq_iff_eq.2 x5) ?_
      refine Run.call0 (l := [.tmp 123]) rfl rfl rfl (lt rfl) (until_c (c := (Cli.takeC (Cli.tickC (Cli.relC c now) now) (Cli.ans (Cli.relP c now) 5 5 c.addr) now)) (Kn.at 3 rfl)) ?_
      refine Run.on rfl rfl rfl (beq_iff_eq.2 x5) ?_
      refine Run.val (lt rfl) (Y.int rfl rfl rfl) ?_
      refine Run.val (lt rfl) (Y.pick_t rfl (beq_iff_eq.2 x5) rfl) ?_
      refine Run.val (lt rfl) (Y.assign rfl) ?_
      refine Run.to_end ?_
      refine Ex.go ?_
      refine Tr.seq ?_
      refine Tr.region ?_
      refine Run.val (lt rfl) (Y.move rfl) ?_
      refine Run.call [3] (l := [.tmp 127]) rfl rfl rfl (lt rfl) (start_c (c := (Cli.takeC (Cli.tickC (Cli.relC c now) now) (Cli.ans (Cli.relP c now) 5 5 c.addr) now))) (fun v80 V2 H2 _ hR => ?_)
      obtain ⟨hV, rfl, rfl⟩ := hR; replace hV := hV.symm; subst hV
      have hix81 : Cli.Inv ((i : Int) + 1) (Cli.start (Cli.takeC (Cli.tickC (Cli.relC c now) now) (Cli.ans (Cli.relP c now) 5 5 c.addr) now)) := hix78.start
      have hhx82 : Rd Vs76 [] 1 w10 (Cli.hw (Cli.start (Cli.takeC (Cli.tickC (Cli.relC c now) now) (Cli.ans (Cli.relP c now) 5 5 c.addr) now))).length ((Cli.hw (Cli.start (Cli.takeC (Cli.tickC (Cli.relC c now) now) (Cli.ans (Cli.relP c now) 5 5 c.addr) now))).map byteV) := by rw [show Cli.hw (Cli.start (Cli.takeC (Cli.tickC (Cli.relC c now) now) (Cli.ans (Cli.relP c now) 5 5 c.addr) now)) = Cli.hw (Cli.takeC (Cli.tickC (Cli.relC c now) now) (Cli.ans (Cli.relP c now) 5 5 c.addr) now) from (Cli.start_same _).1]; exact hhx79
      refine Run.heapTo (H' := [[(b63, .cells #[.int .i64 ((Cli.relP c now).op), .int .u32 ((Cli.relP c now).xid), .int .i64 ((Cli.relP c now).secs), .int .i64 ((Cli.relP c now).flags), .int .u32 ((Cli.relP c now).ci), .int .u32 ((Cli.relP c now).yi), .int .u32 ((Cli.relP c now).si), .int .u32 ((Cli.relP c now).gi), .slice p55 (Cli.relP c now).hw.length c56, .slice p57 n58 c59] 36 (0, 0))], [(b22, .cells #[.int .i64 last.op, .int .u32 last.xid, .int .i64 last.secs, .int .i64 last.flags, .int .u32 last.ci, .int .u32 last.yi, .int .u32 last.si, .int .u32 last.gi, .slice pl last.hw.length cl, .slice ql nl kl] 36 (0, 0))], [(b19, .cells #[.string c.name, w20, .int .i64 c.state, .int .u32 c.xid, .int .u32 c.addr, .int .u32 c.server, .int .i64 c.until_, .int .i64 c.one, .int .i64 c.two, .bool c.due, .int .i64 c.tries, .int .i64 c.said, .int .i64 c.asks] 44 (0, 0))], [(b9, .cells #[.string ((Cli.start (Cli.takeC (Cli.tickC (Cli.relC c now) now) (Cli.ans (Cli.relP c now) 5 5 c.addr) now)).name), w10, .int .i64 ((Cli.start (Cli.takeC (Cli.tickC (Cli.relC c now) now) (Cli.ans (Cli.relP c now) 5 5 c.addr) now)).state), .int .u32 ((Cli.start (Cli.takeC (Cli.tickC (Cli.relC c now) now) (Cli.ans (Cli.relP c now) 5 5 c.addr) now)).xid), .int .u32 ((Cli.start (Cli.takeC (Cli.tickC (Cli.relC c now) now) (Cli.ans (Cli.relP c now) 5 5 c.addr) now)).addr), .int .u32 ((Cli.start (Cli.takeC (Cli.tickC (Cli.relC c now) now) (Cli.ans (Cli.relP c now) 5 5 c.addr) now)).server), .int .i64 ((Cli.start (Cli.takeC (Cli.tickC (Cli.relC c now) now) (Cli.ans (Cli.relP c now) 5 5 c.addr) now)).until_), .int .i64 ((Cli.start (Cli.takeC (Cli.tickC (Cli.relC c now) now) (Cli.ans (Cli.relP c now) 5 5 c.addr) now)).one), .int .i64 ((Cli.start (Cli.takeC (Cli.tickC (Cli.relC c now) now) (Cli.ans (Cli.relP c now) 5 5 c.addr) now)).two), .bool ((Cli.start (Cli.takeC (Cli.tickC (Cli.relC c now) now) (Cli.ans (Cli.relP c now) 5 5 c.addr) now)).due), .int .i64 ((Cli.start (Cli.takeC (Cli.tickC (Cli.relC c now) now) (Cli.ans (Cli.relP c now) 5 5 c.addr) now)).tries), .int .i64 ((Cli.start (Cli.takeC (Cli.tickC (Cli.relC c now) now) (Cli.ans (Cli.relP c now) 5 5 c.addr) now)).said), .int .i64 ((Cli.start (Cli.takeC (Cli.tickC (Cli.relC c now) now) (Cli.ans (Cli.relP c now) 5 5 c.addr) now)).asks)] 67 (0, 0))]]) rfl ?_
      refine Run.to_end ?_
      refine Ex.go ?_
      refine Tr.seq ?_
      refine Tr.region ?_
      refine Run.val (lt rfl) (Y.move rfl) ?_
      refine Run.val (lt rfl) (Y.move rfl) ?_
      refine Run.call [3] (l := [.tmp 130, .tmp 131]) rfl rfl rfl (lt rfl) (tick_c (n := (i : Int) + 1) (c := (Cli.start (Cli.takeC (Cli.tickC (Cli.relC c now) now) (Cli.ans (Cli.relP c now) 5 5 c.addr) now))) (now := now) hix81 (by omega) hhx82) (fun v83 V2 H2 hle84 hR => ?_)
      obtain ⟨_, rfl, pst86, rfl, hkt85⟩ := hR
      obtain ⟨Vs87, hVe⟩ : ∃ V3 : Vw, V3 = V2 := ⟨_, rfl⟩
      subst hVe
      replace hhb := hhb.le hle84
      replace hrs := hrs.le hle84
      replace hl := hl.le hle84
      replace hsR := hsR.le hle84
      replace hk := hk.le hle84
      replace hRr54 := hRr54.le hle84
      replace hRn75 := hRn75.le hle84
      replace hhx82 := hhx82.le hle84
      replace hVle := Vw.le_trans hVle hle84
      have hix88 : Cli.Inv ((i : Int) + 1 + 1) (Cli.tickC (Cli.start (Cli.takeC (Cli.tickC (Cli.relC c now) now) (Cli.ans (Cli.relP c now) 5 5 c.addr) now)) now) := hix81.tick now
      have hhx89 : Rd Vs87 [] 1 w10 (Cli.hw (Cli.tickC (Cli.start (Cli.takeC (Cli.tickC (Cli.relC c now) now) (Cli.ans (Cli.relP c now) 5 5 c.addr) now)) now)).length ((Cli.hw (Cli.tickC (Cli.start (Cli.takeC (Cli.tickC (Cli.relC c now) now) (Cli.ans (Cli.relP c now) 5 5 c.addr) now)) now)).map byteV) := by rw [show Cli.hw (Cli.tickC (Cli.start (Cli.takeC (Cli.tickC (Cli.relC c now) now) (Cli.ans (Cli.relP c now) 5 5 c.addr) now)) now) = Cli.hw (Cli.start (Cli.takeC (Cli.tickC (Cli.relC c now) now) (Cli.ans (Cli.relP c now) 5 5 c.addr) now)) from (Cli.tick_same _ _).1]; exact hhx82
      refine Run.heapTo (H' := [[(b63, .cells #[.int .i64 ((Cli.relP c now).op), .int .u32 ((Cli.relP c now).xid), .int .i64 ((Cli.relP c now).secs), .int .i64 ((Cli.relP c now).flags), .int .u32 ((Cli.relP c now).ci), .int .u32 ((Cli.relP c now).yi), .int .u32 ((Cli.relP c now).si), .int .u32 ((Cli.relP c now).gi), .slice p55 (Cli.relP c now).hw.length c56, .slice p57 n58 c59] 36 (0, 0))], [(b22, .cells #[.int .i64 last.op, .int .u32 last.xid, .int .i64 last.secs, .int .i64 last.flags, .int .u32 last.ci, .int .u32 last.yi, .int .u32 last.si, .int .u32 last.gi, .slice pl last.hw.length cl, .slice ql nl kl] 36 (0, 0))], [(b19, .cells #[.string c.name, w20, .int .i64 c.state, .int .u32 c.xid, .int .u32 c.addr, .int .u32 c.server, .int .i64 c.until_, .int .i64 c.one, .int .i64 c.two, .bool c.due, .int .i64 c.tries, .int .i64 c.said, .int .i64 c.asks] 44 (0, 0))], [(b9, .cells #[.string ((Cli.tickC (Cli.start (Cli.takeC (Cli.tickC (Cli.relC c now) now) (Cli.ans (Cli.relP c now) 5 5 c.addr) now)) now).name), w10, .int .i64 ((Cli.tickC (Cli.start (Cli.takeC (Cli.tickC (Cli.relC c now) now) (Cli.ans (Cli.relP c now) 5 5 c.addr) now)) now).state), .int .u32 ((Cli.tickC (Cli.start (Cli.takeC (Cli.tickC (Cli.relC c now) now) (Cli.ans (Cli.relP c now) 5 5 c.addr) now)) now).xid), .int .u32 ((Cli.tickC (Cli.start (Cli.takeC (Cli.tickC (Cli.relC c now) now) (Cli.ans (Cli.relP c now) 5 5 c.addr) now)) now).addr), .int .u32 ((Cli.tickC (Cli.start (Cli.takeC (Cli.tickC (Cli.relC c now) now) (Cli.ans (Cli.relP c now) 5 5 c.addr) now)) now).server), .int .i64 ((Cli.tickC (Cli.start (Cli.takeC (Cli.tickC (Cli.relC c now) now) (Cli.ans (Cli.relP c now) 5 5 c.addr) now)) now).until_), .int .i64 ((Cli.tickC (Cli.start (Cli.takeC (Cli.tickC (Cli.relC c now) now) (Cli.ans (Cli.relP c now) 5 5 c.addr) now)) now).one), .int .i64 ((Cli.tickC (Cli.start (Cli.takeC (Cli.tickC (Cli.relC c now) now) (Cli.ans (Cli.relP c now) 5 5 c.addr) now)) now).two), .bool ((Cli.tickC (Cli.start (Cli.takeC (Cli.tickC (Cli.relC c now) now) (Cli.ans (Cli.relP c now) 5 5 c.addr) now)) now).due), .int .i64 ((Cli.tickC (Cli.start (Cli.takeC (Cli.tickC (Cli.relC c now) now) (Cli.ans (Cli.relP c now) 5 5 c.addr) now)) now).tries), .int .i64 ((Cli.tickC (Cli.start (Cli.takeC (Cli.tickC (Cli.relC c now) now) (Cli.ans (Cli.relP c now) 5 5 c.addr) now)) now).said), .int .i64 ((Cli.tickC (Cli.start (Cli.takeC (Cli.tickC (Cli.relC c now) now) (Cli.ans (Cli.relP c now) 5 5 c.addr) now)) now).asks)] 67 (0, 0))]]) rfl ?_
      refine Run.val (lt rfl) (Y.move rfl) ?_
      refine Run.val (lt rfl) (Y.extract rfl rfl) ?_
      refine Run.val (lt rfl) (Y.extract rfl rfl) ?_
      refine Run.val (lt rfl) (Y.assign rfl) ?_
      refine Run.val (lt rfl) (Y.assign rfl) ?_
      refine Run.to_end ?_
      refine Ex.go ?_
      refine Tr.seq ?_
      refine Tr.region ?_
      have hfz : Pc.few (Cli.sayP (Cli.turn (Cli.start (Cli.takeC (Cli.tickC (Cli.relC c now) now) (Cli.ans (Cli.relP c now) 5 5 c.addr) now)) now)) = true := Cli.few_tick (now := now) hix81 (by rw [x7]; exact List.mem_cons_self ..)
      rw [x7] at hkt85
      obtain ⟨bz, hz1, hz2, rfl, hmz, hRz⟩ := hkt85
      obtain ⟨⟨pz1, cz1, rfl⟩, pz2, nz2, cz2, rfl⟩ := hRz.forms
      refine Run.val (lt rfl) (Y.fieldAddr rfl Law24b_fo36_4) ?_
      refine Run.val (lt rfl) (Y.load rfl Law24b_ts33 (Kn.at 0 rfl) rfl) ?_
      refine Run.val (lt rfl) (Y.move rfl) ?_
      refine Run.val (lt rfl) (Y.int rfl rfl rfl) ?_
      refine Run.val (lt rfl) (Y.move rfl) ?_
      refine Run.on rfl rfl rfl (beq_iff_eq.2 x9) ?_
      refine Run.val (lt rfl) (Y.move rfl) ?_
      refine Run.on rfl rfl rfl (beq_iff_eq.2 x9) ?_
      refine Run.val (lt rfl) (Y.int rfl rfl rfl) ?_
      refine Run.val (lt rfl) (Y.pick_t rfl (beq_iff_eq.2 x9) rfl) ?_
      refine Run.val (lt rfl) (Y.move rfl) ?_
      refine Run.on rfl rfl rfl (bne_iff_ne.2 xa) ?_
      refine Run.val (lt rfl) (Y.move rfl) ?_
      refine Run.on rfl rfl rfl (bne_iff_ne.2 xa) ?_
      refine Run.val (lt rfl) (Y.int rfl rfl rfl) ?_
      refine Run.val (lt rfl) (Y.pick_t rfl (bne_iff_ne.2 xa) rfl) ?_
      refine Run.val (lt rfl) (Y.move rfl) ?_
      refine Run.on rfl rfl rfl (beq_iff_eq.2 x2) ?_
      refine Run.val (lt rfl) (Y.move rfl) ?_
      refine Run.on rfl rfl rfl (beq_iff_eq.2 x2) ?_
      refine Run.val (lt rfl) (Y.lenSl rfl Law24b_es48) ?_
      refine Run.on rfl rfl rfl (beq_iff_eq.2 x2) ?_
      refine Run.val (lt rfl) (Y.int (r := .bool true) rfl rfl rfl) ?_
      refine Run.val (lt rfl) (Y.pick_t rfl (beq_iff_eq.2 x2) rfl) ?_
      refine Run.val (lt rfl) (Y.move rfl) ?_
      refine Run.on rfl rfl rfl rfl ?_
      refine Run.val (lt rfl) (Y.move rfl) ?_
      refine Run.on rfl rfl rfl rfl ?_
      refine Run.val (lt rfl) (Y.int rfl rfl rfl) ?_
      refine Run.val (lt rfl) (Y.pick_t rfl rfl rfl) ?_
      refine Run.val (lt rfl) (Y.move rfl) ?_
      refine Run.on rfl rfl rfl (beq_iff_eq.2 x3) ?_
      refine Run.val (lt rfl) (Y.move rfl) ?_
      refine Run.val (lt rfl) (Y.pick_t rfl (beq_iff_eq.2 x3) rfl) ?_
      refine Run.val (lt rfl) (Y.move rfl) ?_
      refine Run.on rfl rfl rfl (beq_iff_eq.2 x6) ?_
      refine Run.val (lt rfl) (Y.move rfl) ?_
      refine Run.on rfl rfl rfl (beq_iff_eq.2 x6) ?_
      refine Run.val (lt rfl) (Y.lenSl rfl Law24b_es48) ?_
      refine Run.on rfl rfl rfl (beq_iff_eq.2 x6) ?_
      refine Run.val (lt rfl) (Y.int (r := .bool true) rfl rfl rfl) ?_
      refine Run.val (lt rfl) (Y.pick_t rfl (beq_iff_eq.2 x6) rfl) ?_
      refine Run.val (lt rfl) (Y.move rfl) ?_
      refine Run.on rfl rfl rfl rfl ?_
      refine Run.val (lt rfl) (Y.move rfl) ?_
      refine Run.on rfl rfl rfl rfl ?_
      refine Run.val (lt rfl) (Y.idxAddr rfl rfl Law24b_es48 (by omega) (by omega)) ?_
      refine Run.on rfl rfl rfl rfl ?_
      refine Run.val (lt rfl) (Y.loadAgg rfl Law24b_ag36 (.inl hmz) rfl) ?_
      refine Run.on rfl rfl rfl rfl ?_
      refine Run.call0 (l := [.tmp 167]) rfl rfl rfl (lt rfl) (rkind_h hRz hfz) ?_
      refine Run.on rfl rfl rfl rfl ?_
      refine Run.val (lt rfl) (Y.int rfl rfl rfl) ?_
      refine Run.val (lt rfl) (Y.pick_t rfl rfl rfl) ?_
      refine Run.val (lt rfl) (Y.move rfl) ?_
      refine Run.on rfl rfl rfl (beq_iff_eq.2 x8) ?_
      refine Run.val (lt rfl) (Y.loadAgg rfl Law24b_ag36 (Kn.at 0 rfl) rfl) ?_
      refine Run.on rfl rfl rfl (beq_iff_eq.2 x8) ?_
      refine Run.call0 (l := [.tmp 172]) rfl rfl rfl (lt rfl) (rkind_h hRr54 (Cli.few_rel hi now)) ?_
      refine Run.on rfl rfl rfl (beq_iff_eq.2 x8) ?_
      refine Run.val (lt rfl) (Y.int rfl rfl rfl) ?_
      refine Run.val (lt rfl) (Y.pick_t rfl (beq_iff_eq.2 x8) rfl) ?_
      refine Run.val (lt rfl) (Y.assign rfl) ?_
      refine Run.to_end ?_
      refine Ex.go ?_
      refine Tr.to_ret ?_
      refine Ex.keep [] ?_
      exact Ex.ret1 rfl rfl  (congrArg Value.bool (beq_iff_eq.2 xb))
   ·have g23 := h23
    try simp only [kb] at g23
    refine Run.off rfl rfl rfl h23 rfl (lt rfl) ?_
    refine Run.off rfl rfl rfl h23 rfl (lt rfl) ?_
    refine Run.val (lt rfl) (Y.pick_f rfl h23 rfl) ?_
    refine Run.to_end ?_
    refine Ex.go ?_
    refine Tr.cond_f rfl rfl ?_
    refine Tr.to_exit ?_
    refine Ex.exit_then ?_
    refine Ex.exit_then ?_
    refine Ex.exit_in ?_
    refine Ex.go ?_
    refine Tr.seq ?_
    refine Tr.region ?_
    have hm : Con.moment now = true := Con.moment_yes (by omega)
    refine Run.val (lt rfl) (Y.move rfl) ?_
    refine Run.call0 (l := [.tmp 84]) rfl rfl rfl (lt rfl) (addr_c (c := c) (Kn.at 1 rfl)) ?_
    refine Run.val (lt rfl) (Y.assign rfl) ?_
    refine Run.to_end ?_
    refine Ex.go ?_
    refine Tr.seq ?_
    refine Tr.region ?_
    refine Run.val (lt rfl) (Y.move rfl) ?_
    refine Run.val (lt rfl) (Y.move rfl) ?_
    refine Run.call [1] (l := [.tmp 87, .tmp 88]) rfl rfl rfl (lt rfl) (release_c (n := (i : Int)) (c := c) (now := now) hi hha) (fun v90 V2 H2 hle91 hR => ?_)
    obtain ⟨_, rfl, w92, w93, rfl, hRr94⟩ := hR
    obtain ⟨⟨p95, c96, rfl⟩, p97, n98, c99, rfl⟩ := hRr94.forms
    obtain ⟨Vs100, hVe⟩ : ∃ V3 : Vw, V3 = V2 := ⟨_, rfl⟩
    subst hVe
    replace hha := hha.le hle91
    replace hhb := hhb.le hle91
    replace hvs := hvs.le hle91
    replace hrs := hrs.le hle91
    replace hl := hl.le hle91
    replace hVle := Vw.le_trans hVle hle91
    have hix101 : Cli.Inv ((i : Int)) (Cli.relC c now) := hi.rel now
    have hhx102 : Rd Vs100 [] 1 w10 (Cli.hw (Cli.relC c now)).length ((Cli.hw (Cli.relC c now)).map byteV) := by rw [show Cli.hw (Cli.relC c now) = Cli.hw c from (Cli.rel_same _ _).1]; exact hha
    refine Run.heapTo (H' := [[(b22, .cells #[.int .i64 last.op, .int .u32 last.xid, .int .i64 last.secs, .int .i64 last.flags, .int .u32 last.ci, .int .u32 last.yi, .int .u32 last.si, .int .u32 last.gi, .slice pl last.hw.length cl, .slice ql nl kl] 36 (0, 0))], [(b19, .cells #[.string c.name, w20, .int .i64 c.state, .int .u32 c.xid, .int .u32 c.addr, .int .u32 c.server, .int .i64 c.until_, .int .i64 c.one, .int .i64 c.two, .bool c.due, .int .i64 c.tries, .int .i64 c.said, .int .i64 c.asks] 44 (0, 0))], [(b9, .cells #[.string ((Cli.relC c now).name), w10, .int .i64 ((Cli.relC c now).state), .int .u32 ((Cli.relC c now).xid), .int .u32 ((Cli.relC c now).addr), .int .u32 ((Cli.relC c now).server), .int .i64 ((Cli.relC c now).until_), .int .i64 ((Cli.relC c now).one), .int .i64 ((Cli.relC c now).two), .bool ((Cli.relC c now).due), .int .i64 ((Cli.relC c now).tries), .int .i64 ((Cli.relC c now).said), .int .i64 ((Cli.relC c now).asks)] 67 (0, 0))]]) rfl ?_
    refine Run.val (lt rfl) (Y.move rfl) ?_
    refine Run.val (lt rfl) (Y.extract rfl rfl) ?_
    refine Run.val (lt rfl) (Y.extract rfl rfl) ?_
    refine Run.alloc Law24b_zo36 (lt rfl) (fun b103 => ?_)
    refine Run.store (s := [(b103, .cells #[.int .i64 ((Cli.relP c now).op), .int .u32 ((Cli.relP c now).xid), .int .i64 ((Cli.relP c now).secs), .int .i64 ((Cli.relP c now).flags), .int .u32 ((Cli.relP c now).ci), .int .u32 ((Cli.relP c now).yi), .int .u32 ((Cli.relP c now).si), .int .u32 ((Cli.relP c now).gi), .slice p95 (Cli.relP c now).hw.length c96, .slice p97 n98 c99] 36 (0, 0))]) rfl rfl Law24b_sz36 (i := 0) rfl rfl (le rfl) rfl rfl ?_
    refine Run.val (lt rfl) (Y.assign rfl) ?_
    refine Run.to_end ?_
    refine Ex.go ?_
    refine Tr.seq ?_
    refine Tr.seq ?_
    refine Tr.region ?_
    refine Run.val (lt rfl) (Y.move rfl) ?_
    refine Run.val (lt rfl) (Y.int rfl rfl rfl) ?_
    refine Run.to_end ?_
    refine Ex.go ?_
    rcases Bool.eq_false_or_eq_true ((Cli.relE c now) != 0) with h104 | h104
    ·have g104 := h104
     try simp only [kb] at g104
     have hnh : Cli.holding c = false := Cli.rel_ne hm (by simpa using h104)
     refine Tr.cond_t rfl h104 ?_
     refine Tr.seq ?_
     refine Tr.region ?_
     refine Run.val (lt rfl) (Y.move rfl) ?_
     refine Run.val (lt rfl) (Y.int rfl rfl rfl) ?_
     refine Run.val (lt rfl) (Y.move rfl) ?_
     refine Run.on rfl rfl rfl (beq_iff_eq.2 (Cli.rel_still hm hnh).1) ?_
     refine Run.val (lt rfl) (Y.move rfl) ?_
     refine Run.on rfl rfl rfl (beq_iff_eq.2 (Cli.rel_still hm hnh).1) ?_
     refine Run.call0 (l := [.tmp 97]) rfl rfl rfl (lt rfl) (state_c (c := (Cli.relC c now)) (Kn.at 3 rfl)) ?_
     refine Run.on rfl rfl rfl (beq_iff_eq.2 (Cli.rel_still hm hnh).1) ?_
     refine Run.val (lt rfl) (Y.int rfl rfl rfl) ?_
     refine Run.val (lt rfl) (Y.pick_t rfl (beq_iff_eq.2 (Cli.rel_still hm hnh).1) rfl) ?_
     refine Run.val (lt rfl) (Y.assign rfl) ?_
     refine Run.to_end ?_
     refine Ex.go ?_
     refine Tr.to_ret ?_
     refine Ex.ret_then ?_
     refine Ex.keep [] ?_
     exact Ex.ret1 rfl rfl  (congrArg Value.bool (bne_iff_ne.2 (Cli.rel_still hm hnh).2))
    ·have g104 := h104
     try simp only [kb] at g104
     have hho : Cli.holding c = true := Cli.rel_eq hm (by simpa using h104)
     obtain ⟨x1, x2, x3, x4, x5, x6, x7, x8, x9, xa, xb⟩ := Cli.idles hi hj hm hho
     refine Tr.cond_f rfl h104 ?_
     refine Tr.to_end ?_
     refine Ex.go ?_
     refine Tr.seq ?_
     refine Tr.region ?_
     refine Run.val (lt rfl) (Y.move rfl) ?_
     refine Run.val (lt rfl) (Y.move rfl) ?_
     refine Run.call [3] (l := [.tmp 102, .tmp 103]) rfl rfl rfl (lt rfl) (tick_c (n := (i : Int)) (c := (Cli.relC c now)) (now := now) hix101 (by omega) hhx102) (fun v105 V2 H2 hle106 hR => ?_)
     obtain ⟨_, rfl, pst108, rfl, hkt107⟩ := hR
     obtain ⟨Vs109, hVe⟩ : ∃ V3 : Vw, V3 = V2 := ⟨_, rfl⟩
     subst hVe
     replace hhb := hhb.le hle106
     replace hvs := hvs.le hle106
     replace hrs := hrs.le hle106
     replace hl := hl.le hle106
     replace hRr94 := hRr94.le hle106
     replace hhx102 := hhx102.le hle106
     replace hVle := Vw.le_trans hVle hle106
     have hix110 : Cli.Inv ((i : Int) + 1) (Cli.tickC (Cli.relC c now) now) := hix101.tick now
     have hhx111 : Rd Vs109 [] 1 w10 (Cli.hw (Cli.tickC (Cli.relC c now) now)).length ((Cli.hw (Cli.tickC (Cli.relC c now) now)).map byteV) := by rw [show Cli.hw (Cli.tickC (Cli.relC c now) now) = Cli.hw (Cli.relC c now) from (Cli.tick_same _ _).1]; exact hhx102
     refine Run.heapTo (H' := [[(b103, .cells #[.int .i64 ((Cli.relP c now).op), .int .u32 ((Cli.relP c now).xid), .int .i64 ((Cli.relP c now).secs), .int .i64 ((Cli.relP c now).flags), .int .u32 ((Cli.relP c now).ci), .int .u32 ((Cli.relP c now).yi), .int .u32 ((Cli.relP c now).si), .int .u32 ((Cli.relP c now).gi), .slice p95 (Cli.relP c now).hw.length c96, .slice p97 n98 c99] 36 (0, 0))], [(b22, .cells #[.int .i64 last.op, .int .u32 last.xid, .int .i64 last.secs, .int .i64 last.flags, .int .u32 last.ci, .int .u32 last.yi, .int .u32 last.si, .int .u32 last.gi, .slice pl last.hw.length cl, .slice ql nl kl] 36 (0, 0))], [(b19, .cells #[.string c.name, w20, .int .i64 c.state, .int .u32 c.xid, .int .u32 c.addr, .int .u32 c.server, .int .i64 c.until_, .int .i64 c.one, .int .i64 c.two, .bool c.due, .int .i64 c.tries, .int .i64 c.said, .int .i64 c.asks] 44 (0, 0))], [(b9, .cells #[.string ((Cli.tickC (Cli.relC c now) now).name), w10, .int .i64 ((Cli.tickC (Cli.relC c now) now).state), .int .u32 ((Cli.tickC (Cli.relC c now) now).xid), .int .u32 ((Cli.tickC (Cli.relC c now) now).addr), .int .u32 ((Cli.tickC (Cli.relC c now) now).server), .int .i64 ((Cli.tickC (Cli.relC c now) now).until_), .int .i64 ((Cli.tickC (Cli.relC c now) now).one), .int .i64 ((Cli.tickC (Cli.relC c now) now).two), .bool ((Cli.tickC (Cli.relC c now) now).due), .int .i64 ((Cli.tickC (Cli.relC c now) now).tries), .int .i64 ((Cli.tickC (Cli.relC c now) now).said), .int .i64 ((Cli.tickC (Cli.relC c now) now).asks)] 67 (0, 0))]]) rfl ?_
     refine Run.val (lt rfl) (Y.move rfl) ?_
     refine Run.val (lt rfl) (Y.extract rfl rfl) ?_
     refine Run.val (lt rfl) (Y.extract rfl rfl) ?_
     refine Run.val (lt rfl) (Y.assign rfl) ?_
     refine Run.val (lt rfl) (Y.assign rfl) ?_
     refine Run.to_end ?_
     refine Ex.go ?_
     refine Tr.seq ?_
     refine Tr.region ?_
     rw [x1] at hkt107
     have hkt1072 : pst108 = .slice none 0 0 := hkt107
     subst hkt1072
     refine Run.val (lt rfl) (Y.move rfl) ?_
     refine Run.val (lt rfl) (Y.loadAgg rfl Law24b_ag36 (Kn.at 0 rfl) rfl) ?_
     refine Run.val (lt rfl) (Y.move rfl) ?_
     refine Run.val (lt rfl) (Y.buildS (l := [(2, .const (.int .i64 5)), (3, .const (.int .i64 5)), (4, .tmp 109)]) Law24b_zo39 Law24b_pl39 rfl rfl) ?_
     refine Run.call [] (l := [.tmp 108, .tmp 110]) rfl rfl rfl (lt rfl) (answer_c (p := (Cli.relP c now)) (s := (⟨0, 0, 5, 5, c.addr, Cli.zeroP, .slice none 0 0, .slice none 0 0⟩ : CStp)) hRr94 hi.addr) (fun v112 V2 H2 hle113 hR => ?_)
     obtain ⟨_, rfl, w114, rfl, hRn115⟩ := hR
     obtain ⟨Vs116, hVe⟩ : ∃ V3 : Vw, V3 = V2 := ⟨_, rfl⟩
     subst hVe
     replace hhb := hhb.le hle113
     replace hvs := hvs.le hle113
     replace hrs := hrs.le hle113
     replace hl := hl.le hle113
     replace hRr94 := hRr94.le hle113
     replace hhx111 := hhx111.le hle113
     replace hVle := Vw.le_trans hVle hle113
     refine Run.heapTo (H' := [[(b103, .cells #[.int .i64 ((Cli.relP c now).op), .int .u32 ((Cli.relP c now).xid), .int .i64 ((Cli.relP c now).secs), .int .i64 ((Cli.relP c now).flags), .int .u32 ((Cli.relP c now).ci), .int .u32 ((Cli.relP c now).yi), .int .u32 ((Cli.relP c now).si), .int .u32 ((Cli.relP c now).gi), .slice p95 (Cli.relP c now).hw.length c96, .slice p97 n98 c99] 36 (0, 0))], [(b22, .cells #[.int .i64 last.op, .int .u32 last.xid, .int .i64 last.secs, .int .i64 last.flags, .int .u32 last.ci, .int .u32 last.yi, .int .u32 last.si, .int .u32 last.gi, .slice pl last.hw.length cl, .slice ql nl kl] 36 (0, 0))], [(b19, .cells #[.string c.name, w20, .int .i64 c.state, .int .u32 c.xid, .int .u32 c.addr, .int .u32 c.server, .int .i64 c.until_, .int .i64 c.one, .int .i64 c.two, .bool c.due, .int .i64 c.tries, .int .i64 c.said, .int .i64 c.asks] 44 (0, 0))], [(b9, .cells #[.string ((Cli.tickC (Cli.relC c now) now).name), w10, .int .i64 ((Cli.tickC (Cli.relC c now) now).state), .int .u32 ((Cli.tickC (Cli.relC c now) now).xid), .int .u32 ((Cli.tickC (Cli.relC c now) now).addr), .int .u32 ((Cli.tickC (Cli.relC c now) now).server), .int .i64 ((Cli.tickC (Cli.relC c now) now).until_), .int .i64 ((Cli.tickC (Cli.relC c now) now).one), .int .i64 ((Cli.tickC (Cli.relC c now) now).two), .bool ((Cli.tickC (Cli.relC c now) now).due), .int .i64 ((Cli.tickC (Cli.relC c now) now).tries), .int .i64 ((Cli.tickC (Cli.relC c now) now).said), .int .i64 ((Cli.tickC (Cli.relC c now) now).asks)] 67 (0, 0))]]) rfl ?_
     refine Run.val (lt rfl) (Y.move rfl) ?_
     refine Run.call [3] (l := [.tmp 107, .tmp 111, .tmp 112]) rfl rfl rfl (lt rfl) (take_c (n := (i : Int) + 1) (c := (Cli.tickC (Cli.relC c now) now)) (now := now) (p := (Cli.ans (Cli.relP c now) 5 5 c.addr)) hix110 hhx111 hRn115 (Cli.few_ans (Cli.few_rel hi now) _ _ _)) (fun v117 V2 H2 _ hR => ?_)
     obtain ⟨hV, rfl, rfl⟩ := hR; replace hV := hV.symm; subst hV
     have hix118 : Cli.Inv ((i : Int) + 1) (Cli.takeC (Cli.tickC (Cli.relC c now) now) (Cli.ans (Cli.relP c now) 5 5 c.addr) now) := hix110.take hRn115.yi hRn115.si now
     have hhx119 : Rd Vs116 [] 1 w10 (Cli.hw (Cli.takeC (Cli.tickC (Cli.relC c now) now) (Cli.ans (Cli.relP c now) 5 5 c.addr) now)).length ((Cli.hw (Cli.takeC (Cli.tickC (Cli.relC c now) now) (Cli.ans (Cli.relP c now) 5 5 c.addr) now)).map byteV) := by rw [show Cli.hw (Cli.takeC (Cli.tickC (Cli.relC c now) now) (Cli.ans (Cli.relP c now) 5 5 c.addr) now) = Cli.hw (Cli.tickC (Cli.relC c now) now) from (Cli.take_same _ _ _).1]; exact hhx111
     refine Run.heapTo (H' := [[(b103, .cells #[.int .i64 ((Cli.relP c now).op), .int .u32 ((Cli.relP c now).xid), .int .i64 ((Cli.relP c now).secs), .int .i64 ((Cli.relP c now).flags), .int .u32 ((Cli.relP c now).ci), .int .u32 ((Cli.relP c now).yi), .int .u32 ((Cli.relP c now).si), .int .u32 ((Cli.relP c now).gi), .slice p95 (Cli.relP c now).hw.length c96, .slice p97 n98 c99] 36 (0, 0))], [(b22, .cells #[.int .i64 last.op, .int .u32 last.xid, .int .i64 last.secs, .int .i64 last.flags, .int .u32 last.ci, .int .u32 last.yi, .int .u32 last.si, .int .u32 last.gi, .slice pl last.hw.length cl, .slice ql nl kl] 36 (0, 0))], [(b19, .cells #[.string c.name, w20, .int .i64 c.state, .int .u32 c.xid, .int .u32 c.addr, .int .u32 c.server, .int .i64 c.until_, .int .i64 c.one, .int .i64 c.two, .bool c.due, .int .i64 c.tries, .int .i64 c.said, .int .i64 c.asks] 44 (0, 0))], [(b9, .cells #[.string ((Cli.takeC (Cli.tickC (Cli.relC c now) now) (Cli.ans (Cli.relP c now) 5 5 c.addr) now).name), w10, .int .i64 ((Cli.takeC (Cli.tickC (Cli.relC c now) now) (Cli.ans (Cli.relP c now) 5 5 c.addr) now).state), .int .u32 ((Cli.takeC (Cli.tickC (Cli.relC c now) now) (Cli.ans (Cli.relP c now) 5 5 c.addr) now).xid), .int .u32 ((Cli.takeC (Cli.tickC (Cli.relC c now) now) (Cli.ans (Cli.relP c now) 5 5 c.addr) now).addr), .int .u32 ((Cli.takeC (Cli.tickC (Cli.relC c now) now) (Cli.ans (Cli.relP c now) 5 5 c.addr) now).server), .int .i64 ((Cli.takeC (Cli.tickC (Cli.relC c now) now) (Cli.ans (Cli.relP c now) 5 5 c.addr) now).until_), .int .i64 ((Cli.takeC (Cli.tickC (Cli.relC c now) now) (Cli.ans (Cli.relP c now) 5 5 c.addr) now).one), .int .i64 ((Cli.takeC (Cli.tickC (Cli.relC c now) now) (Cli.ans (Cli.relP c now) 5 5 c.addr) now).two), .bool ((Cli.takeC (Cli.tickC (Cli.relC c now) now) (Cli.ans (Cli.relP c now) 5 5 c.addr) now).due), .int .i64 ((Cli.takeC (Cli.tickC (Cli.relC c now) now) (Cli.ans (Cli.relP c now) 5 5 c.addr) now).tries), .int .i64 ((Cli.takeC (Cli.tickC (Cli.relC c now) now) (Cli.ans (Cli.relP c now) 5 5 c.addr) now).said), .int .i64 ((Cli.takeC (Cli.tickC (Cli.relC c now) now) (Cli.ans (Cli.relP c now) 5 5 c.addr) now).asks)] 67 (0, 0))]]) rfl ?_
     refine Run.val (lt rfl) (Y.assign rfl) ?_
     refine Run.to_end ?_
     refine Ex.go ?_
     refine Tr.seq ?_
     refine Tr.region ?_
     refine Run.val (lt rfl) (Y.move rfl) ?_
     refine Run.call0 (l := [.tmp 114]) rfl rfl rfl (lt rfl) (state_c (c := (Cli.takeC (Cli.tickC (Cli.relC c now) now) (Cli.ans (Cli.relP c now) 5 5 c.addr) now)) (Kn.at 3 rfl)) ?_
     refine Run.val (lt rfl) (Y.int rfl rfl rfl) ?_
     refine Run.val (lt rfl) (Y.move rfl) ?_
     refine Run.on rfl rfl rfl (beq_iff_eq.2 x4) ?_
     refine Run.val (lt rfl) (Y.move rfl) ?_
     refine Run.on rfl rfl rfl (beq_iff_eq.2 x4) ?_
     refine Run.call0 (l := [.tmp 118]) rfl rfl rfl (lt rfl) (addr_c (c := (Cli.takeC (Cli.tickC (Cli.relC c now) now) (Cli.ans (Cli.relP c now) 5 5 c.addr) now)) (Kn.at 3 rfl)) ?_
     refine Run.on rfl rfl rfl (beq_iff_eq.2 x4) ?_
     refine Run.val (lt rfl) (Y.int rfl rfl rfl) ?_
     refine Run.val (lt rfl) (Y.pick_t rfl (beq_iff_eq.2 x4) rfl) ?_
     refine Run.val (lt rfl) (Y.move rfl) ?_
     refine Run.on rfl rfl rfl (beq_iff_eq.2 x5) ?_
     refine Run.val (lt rfl) (Y.move rfl) ?_
     refine Run.on rfl rfl rfl (beq_iff_eq.2 x5) ?_
     refine Run.call0 (l := [.tmp 123]) rfl rfl rfl (lt rfl) (until_c (c := (Cli.takeC (Cli.tickC (Cli.relC c now) now) (Cli.ans (Cli.relP c now) 5 5 c.addr) now)) (Kn.at 3 rfl)) ?_
     refine Run.on rfl rfl rfl (beq_iff_eq.2 x5) ?_
     refine Run.val (lt rfl) (Y.int rfl rfl rfl) ?_
     refine Run.val (lt rfl) (Y.pick_t rfl (beq_iff_eq.2 x5) rfl) ?_
     refine Run.val (lt rfl) (Y.assign rfl) ?_
     refine Run.to_end ?_
     refine Ex.go ?_
     refine Tr.seq ?_
     refine Tr.region ?_
     refine Run.val (lt rfl) (Y.move rfl) ?_
     refine Run.call [3] (l := [.tmp 127]) rfl rfl rfl (lt rfl) (start_c (c := (Cli.takeC (Cli.tickC (Cli.relC c now) now) (Cli.ans (Cli.relP c now) 5 5 c.addr) now))) (fun v120 V2 H2 _ hR => ?_)
     obtain ⟨hV, rfl, rfl⟩ := hR; replace hV := hV.symm; subst hV
     have hix121 : Cli.Inv ((i : Int) + 1) (Cli.start (Cli.takeC (Cli.tickC (Cli.relC c now) now) (Cli.ans (Cli.relP c now) 5 5 c.addr) now)) := hix118.start
     have hhx122 : Rd Vs116 [] 1 w10 (Cli.hw (Cli.start (Cli.takeC (Cli.tickC (Cli.relC c now) now) (Cli.ans (Cli.relP c now) 5 5 c.addr) now))).length ((Cli.hw (Cli.start (Cli.takeC (Cli.tickC (Cli.relC c now) now) (Cli.ans (Cli.relP c now) 5 5 c.addr) now))).map byteV) := by rw [show Cli.hw (Cli.start (Cli.takeC (Cli.tickC (Cli.relC c now) now) (Cli.ans (Cli.relP c now) 5 5 c.addr) now)) = Cli.hw (Cli.takeC (Cli.tickC (Cli.relC c now) now) (Cli.ans (Cli.relP c now) 5 5 c.addr) now) from (Cli.start_same _).1]; exact hhx119
     refine Run.heapTo (H' := [[(b103, .cells #[.int .i64 ((Cli.relP c now).op), .int .u32 ((Cli.relP c now).xid), .int .i64 ((Cli.relP c now).secs), .int .i64 ((Cli.relP c now).flags), .int .u32 ((Cli.relP c now).ci), .int .u32 ((Cli.relP c now).yi), .int .u32 ((Cli.relP c now).si), .int .u32 ((Cli.relP c now).gi), .slice p95 (Cli.relP c now).hw.length c96, .slice p97 n98 c99] 36 (0, 0))], [(b22, .cells #[.int .i64 last.op, .int .u32 last.xid, .int .i64 last.secs, .int .i64 last.flags, .int .u32 last.ci, .int .u32 last.yi, .int .u32 last.si, .int .u32 last.gi, .slice pl last.hw.length cl, .slice ql nl kl] 36 (0, 0))], [(b19, .cells #[.string c.name, w20, .int .i64 c.state, .int .u32 c.xid, .int .u32 c.addr, .int .u32 c.server, .int .i64 c.until_, .int .i64 c.one, .int .i64 c.two, .bool c.due, .int .i64 c.tries, .int .i64 c.said, .int .i64 c.asks] 44 (0, 0))], [(b9, .cells #[.string ((Cli.start (Cli.takeC (Cli.tickC (Cli.relC c now) now) (Cli.ans (Cli.relP c now) 5 5 c.addr) now)).name), w10, .int .i64 ((Cli.start (Cli.takeC (Cli.tickC (Cli.relC c now) now) (Cli.ans (Cli.relP c now) 5 5 c.addr) now)).state), .int .u32 ((Cli.start (Cli.takeC (Cli.tickC (Cli.relC c now) now) (Cli.ans (Cli.relP c now) 5 5 c.addr) now)).xid), .int .u32 ((Cli.start (Cli.takeC (Cli.tickC (Cli.relC c now) now) (Cli.ans (Cli.relP c now) 5 5 c.addr) now)).addr), .int .u32 ((Cli.start (Cli.takeC (Cli.tickC (Cli.relC c now) now) (Cli.ans (Cli.relP c now) 5 5 c.addr) now)).server), .int .i64 ((Cli.start (Cli.takeC (Cli.tickC (Cli.relC c now) now) (Cli.ans (Cli.relP c now) 5 5 c.addr) now)).until_), .int .i64 ((Cli.start (Cli.takeC (Cli.tickC (Cli.relC c now) now) (Cli.ans (Cli.relP c now) 5 5 c.addr) now)).one), .int .i64 ((Cli.start (Cli.takeC (Cli.tickC (Cli.relC c now) now) (Cli.ans (Cli.relP c now) 5 5 c.addr) now)).two), .bool ((Cli.start (Cli.takeC (Cli.tickC (Cli.relC c now) now) (Cli.ans (Cli.relP c now) 5 5 c.addr) now)).due), .int .i64 ((Cli.start (Cli.takeC (Cli.tickC (Cli.relC c now) now) (Cli.ans (Cli.relP c now) 5 5 c.addr) now)).tries), .int .i64 ((Cli.start (Cli.takeC (Cli.tickC (Cli.relC c now) now) (Cli.ans (Cli.relP c now) 5 5 c.addr) now)).said), .int .i64 ((Cli.start (Cli.takeC (Cli.tickC (Cli.relC c now) now) (Cli.ans (Cli.relP c now) 5 5 c.addr) now)).asks)] 67 (0, 0))]]) rfl ?_
     refine Run.to_end ?_
     refine Ex.go ?_
     refine Tr.seq ?_
     refine Tr.region ?_
     refine Run.val (lt rfl) (Y.move rfl) ?_
     refine Run.val (lt rfl) (Y.move rfl) ?_
     refine Run.call [3] (l := [.tmp 130, .tmp 131]) rfl rfl rfl (lt rfl) (tick_c (n := (i : Int) + 1) (c := (Cli.start (Cli.takeC (Cli.tickC (Cli.relC c now) now) (Cli.ans (Cli.relP c now) 5 5 c.addr) now))) (now := now) hix121 (by omega) hhx122) (fun v123 V2 H2 hle124 hR => ?_)
     obtain ⟨_, rfl, pst126, rfl, hkt125⟩ := hR
     obtain ⟨Vs127, hVe⟩ : ∃ V3 : Vw, V3 = V2 := ⟨_, rfl⟩
     subst hVe
     replace hhb := hhb.le hle124
     replace hvs := hvs.le hle124
     replace hrs := hrs.le hle124
     replace hl := hl.le hle124
     replace hRr94 := hRr94.le hle124
     replace hRn115 := hRn115.le hle124
     replace hhx122 := hhx122.le hle124
     replace hVle := Vw.le_trans hVle hle124
     have hix128 : Cli.Inv ((i : Int) + 1 + 1) (Cli.tickC (Cli.start (Cli.takeC (Cli.tickC (Cli.relC c now) now) (Cli.ans (Cli.relP c now) 5 5 c.addr) now)) now) := hix121.tick now
     have hhx129 : Rd Vs127 [] 1 w10 (Cli.hw (Cli.tickC (Cli.start (Cli.takeC (Cli.tickC (Cli.relC c now) now) (Cli.ans (Cli.relP c now) 5 5 c.addr) now)) now)).length ((Cli.hw (Cli.tickC (Cli.start (Cli.takeC (Cli.tickC (Cli.relC c now) now) (Cli.ans (Cli.relP c now) 5 5 c.addr) now)) now)).map byteV) := by rw [show Cli.hw (Cli.tickC (Cli.start (Cli.takeC (Cli.tickC (Cli.relC c now) now) (Cli.ans (Cli.relP c now) 5 5 c.addr) now)) now) = Cli.hw (Cli.start (Cli.takeC (Cli.tickC (Cli.relC c now) now) (Cli.ans (Cli.relP c now) 5 5 c.addr) now)) from (Cli.tick_same _ _).1]; exact hhx122
     refine Run.heapTo (H' := [[(b103, .cells #[.int .i64 ((Cli.relP c now).op), .int .u32 ((Cli.relP c now).xid), .int .i64 ((Cli.relP c now).secs), .int .i64 ((Cli.relP c now).flags), .int .u32 ((Cli.relP c now).ci), .int .u32 ((Cli.relP c now).yi), .int .u32 ((Cli.relP c now).si), .int .u32 ((Cli.relP c now).gi), .slice p95 (Cli.relP c now).hw.length c96, .slice p97 n98 c99] 36 (0, 0))], [(b22, .cells #[.int .i64 last.op, .int .u32 last.xid, .int .i64 last.secs, .int .i64 last.flags, .int .u32 last.ci, .int .u32 last.yi, .int .u32 last.si, .int .u32 last.gi, .slice pl last.hw.length cl, .slice ql nl kl] 36 (0, 0))], [(b19, .cells #[.string c.name, w20, .int .i64 c.state, .int .u32 c.xid, .int .u32 c.addr, .int .u32 c.server, .int .i64 c.until_, .int .i64 c.one, .int .i64 c.two, .bool c.due, .int .i64 c.tries, .int .i64 c.said, .int .i64 c.asks] 44 (0, 0))], [(b9, .cells #[.string ((Cli.tickC (Cli.start (Cli.takeC (Cli.tickC (Cli.relC c now) now) (Cli.ans (Cli.relP c now) 5 5 c.addr) now)) now).name), w10, .int .i64 ((Cli.tickC (Cli.start (Cli.takeC (Cli.tickC (Cli.relC c now) now) (Cli.ans (Cli.relP c now) 5 5 c.addr) now)) now).state), .int .u32 ((Cli.tickC (Cli.start (Cli.takeC (Cli.tickC (Cli.relC c now) now) (Cli.ans (Cli.relP c now) 5 5 c.addr) now)) now).xid), .int .u32 ((Cli.tickC (Cli.start (Cli.takeC (Cli.tickC (Cli.relC c now) now) (Cli.ans (Cli.relP c now) 5 5 c.addr) now)) now).addr), .int .u32 ((Cli.tickC (Cli.start (Cli.takeC (Cli.tickC (Cli.relC c now) now) (Cli.ans (Cli.relP c now) 5 5 c.addr) now)) now).server), .int .i64 ((Cli.tickC (Cli.start (Cli.takeC (Cli.tickC (Cli.relC c now) now) (Cli.ans (Cli.relP c now) 5 5 c.addr) now)) now).until_), .int .i64 ((Cli.tickC (Cli.start (Cli.takeC (Cli.tickC (Cli.relC c now) now) (Cli.ans (Cli.relP c now) 5 5 c.addr) now)) now).one), .int .i64 ((Cli.tickC (Cli.start (Cli.takeC (Cli.tickC (Cli.relC c now) now) (Cli.ans (Cli.relP c now) 5 5 c.addr) now)) now).two), .bool ((Cli.tickC (Cli.start (Cli.takeC (Cli.tickC (Cli.relC c now) now) (Cli.ans (Cli.relP c now) 5 5 c.addr) now)) now).due), .int .i64 ((Cli.tickC (Cli.start (Cli.takeC (Cli.tickC (Cli.relC c now) now) (Cli.ans (Cli.relP c now) 5 5 c.addr) now)) now).tries), .int .i64 ((Cli.tickC (Cli.start (Cli.takeC (Cli.tickC (Cli.relC c now) now) (Cli.ans (Cli.relP c now) 5 5 c.addr) now)) now).said), .int .i64 ((Cli.tickC (Cli.start (Cli.takeC (Cli.tickC (Cli.relC c now) now) (Cli.ans (Cli.relP c now) 5 5 c.addr) now)) now).asks)] 67 (0, 0))]]) rfl ?_
     refine Run.val (lt rfl) (Y.move rfl) ?_
     refine Run.val (lt rfl) (Y.extract rfl rfl) ?_
     refine Run.val (lt rfl) (Y.extract rfl rfl) ?_
     refine Run.val (lt rfl) (Y.assign rfl) ?_
     refine Run.val (lt rfl) (Y.assign rfl) ?_
     refine Run.to_end ?_
     refine Ex.go ?_
     refine Tr.seq ?_
     refine Tr.region ?_
     have hfz : Pc.few (Cli.sayP (Cli.turn (Cli.start (Cli.takeC (Cli.tickC (Cli.relC c now) now) (Cli.ans (Cli.relP c now) 5 5 c.addr) now)) now)) = true := Cli.few_tick (now := now) hix121 (by rw [x7]; exact List.mem_cons_self ..)
     rw [x7] at hkt125
     obtain ⟨bz, hz1, hz2, rfl, hmz, hRz⟩ := hkt125
     obtain ⟨⟨pz1, cz1, rfl⟩, pz2, nz2, cz2, rfl⟩ := hRz.forms
     refine Run.val (lt rfl) (Y.fieldAddr rfl Law24b_fo36_4) ?_
     refine Run.val (lt rfl) (Y.load rfl Law24b_ts33 (Kn.at 0 rfl) rfl) ?_
     refine Run.val (lt rfl) (Y.move rfl) ?_
     refine Run.val (lt rfl) (Y.int rfl rfl rfl) ?_
     refine Run.val (lt rfl) (Y.move rfl) ?_
     refine Run.on rfl rfl rfl (beq_iff_eq.2 x9) ?_
     refine Run.val (lt rfl) (Y.move rfl) ?_
     refine Run.on rfl rfl rfl (beq_iff_eq.2 x9) ?_
     refine Run.val (lt rfl) (Y.int rfl rfl rfl) ?_
     refine Run.val (lt rfl) (Y.pick_t rfl (beq_iff_eq.2 x9) rfl) ?_
     refine Run.val (lt rfl) (Y.move rfl) ?_
     refine Run.on rfl rfl rfl (bne_iff_ne.2 xa) ?_
     refine Run.val (lt rfl) (Y.move rfl) ?_
     refine Run.on rfl rfl rfl (bne_iff_ne.2 xa) ?_
     refine Run.val (lt rfl) (Y.int rfl rfl rfl) ?_
     refine Run.val (lt rfl) (Y.pick_t rfl (bne_iff_ne.2 xa) rfl) ?_
     refine Run.val (lt rfl) (Y.move rfl) ?_
     refine Run.on rfl rfl rfl (beq_iff_eq.2 x2) ?_
     refine Run.val (lt rfl) (Y.move rfl) ?_
     refine Run.on rfl rfl rfl (beq_iff_eq.2 x2) ?_
     refine Run.val (lt rfl) (Y.lenSl rfl Law24b_es48) ?_
     refine Run.on rfl rfl rfl (beq_iff_eq.2 x2) ?_
     refine Run.val (lt rfl) (Y.int (r := .bool true) rfl rfl rfl) ?_
     refine Run.val (lt rfl) (Y.pick_t rfl (beq_iff_eq.2 x2) rfl) ?_
     refine Run.val (lt rfl) (Y.move rfl) ?_
     refine Run.on rfl rfl rfl rfl ?_
     refine Run.val (lt rfl) (Y.move rfl) ?_
     refine Run.on rfl rfl rfl rfl ?_
     refine Run.val (lt rfl) (Y.int rfl rfl rfl) ?_
     refine Run.val (lt rfl) (Y.pick_t rfl rfl rfl) ?_
     refine Run.val (lt rfl) (Y.move rfl) ?_
     refine Run.on rfl rfl rfl (beq_iff_eq.2 x3) ?_
     refine Run.val (lt rfl) (Y.move rfl) ?_
     refine Run.val (lt rfl) (Y.pick_t rfl (beq_iff_eq.2 x3) rfl) ?_
     refine Run.val (lt rfl) (Y.move rfl) ?_
     refine Run.on rfl rfl rfl (beq_iff_eq.2 x6) ?_
     refine Run.val (lt rfl) (Y.move rfl) ?_
     refine Run.on rfl rfl rfl (beq_iff_eq.2 x6) ?_
     refine Run.val (lt rfl) (Y.lenSl rfl Law24b_es48) ?_
     refine Run.on rfl rfl rfl (beq_iff_eq.2 x6) ?_
     refine Run.val (lt rfl) (Y.int (r := .bool true) rfl rfl rfl) ?_
     refine Run.val (lt rfl) (Y.pick_t rfl (beq_iff_eq.2 x6) rfl) ?_
     refine Run.val (lt rfl) (Y.move rfl) ?_
     refine Run.on rfl rfl rfl rfl ?_
     refine Run.val (lt rfl) (Y.move rfl) ?_
     refine Run.on rfl rfl rfl rfl ?_
     refine Run.val (lt rfl) (Y.idxAddr rfl rfl Law24b_es48 (by omega) (by omega)) ?_
     refine Run.on rfl rfl rfl rfl ?_
     refine Run.val (lt rfl) (Y.loadAgg rfl Law24b_ag36 (.inl hmz) rfl) ?_
     refine Run.on rfl rfl rfl rfl ?_
     refine Run.call0 (l := [.tmp 167]) rfl rfl rfl (lt rfl) (rkind_h hRz hfz) ?_
     refine Run.on rfl rfl rfl rfl ?_
     refine Run.val (lt rfl) (Y.int rfl rfl rfl) ?_
     refine Run.val (lt rfl) (Y.pick_t rfl rfl rfl) ?_
     refine Run.val (lt rfl) (Y.move rfl) ?_
     refine Run.on rfl rfl rfl (beq_iff_eq.2 x8) ?_
     refine Run.val (lt rfl) (Y.loadAgg rfl Law24b_ag36 (Kn.at 0 rfl) rfl) ?_
     refine Run.on rfl rfl rfl (beq_iff_eq.2 x8) ?_
     refine Run.call0 (l := [.tmp 172]) rfl rfl rfl (lt rfl) (rkind_h hRr94 (Cli.few_rel hi now)) ?_
     refine Run.on rfl rfl rfl (beq_iff_eq.2 x8) ?_
     refine Run.val (lt rfl) (Y.int rfl rfl rfl) ?_
     refine Run.val (lt rfl) (Y.pick_t rfl (beq_iff_eq.2 x8) rfl) ?_
     refine Run.val (lt rfl) (Y.assign rfl) ?_
     refine Run.to_end ?_
     refine Ex.go ?_
     refine Tr.to_ret ?_
     refine Ex.keep [] ?_
     exact Ex.ret1 rfl rfl  (congrArg Value.bool (beq_iff_eq.2 xb))

theorem idles_c {V : Vw} {v1 : Value} {l : List CStp} {now : Int} (hvs : Rd V [] 15 v1 l.length (l.map CStp.cells).flatten) (hl9 : l.length ≤ 9223372036854775807) (hrs : CStp.Rs V l) : Does Try.prog 6 [v1, .int .i64 now] V [] (fun v _ _ => v = .bool true) := by
  obtain ⟨p, c0, rfl, _⟩ := hvs.form
  exact idles_c0 hvs hl9 hrs

set_option maxHeartbeats 2000000 in
theorem holds_c0 {V : Vw} {l : List CStp} {p : Option Addr} {c0 : Nat} (hvs : Rd V [] 15 (.slice p l.length c0) l.length (l.map CStp.cells).flatten) (hl9 : l.length ≤ 9223372036854775807) (hrs : CStp.Rs V l)  : Does Try.prog 4 [.slice p l.length c0] V [] (fun v _ _ => v = .bool true) := by
 refine Does.intro Try.func4 rfl rfl (le rfl) (fun B => ?_)
 refine Tr.seq ?_
 refine Tr.region ?_
 refine Run.val (lt rfl) (Y.assign rfl) ?_
 refine Run.to_end ?_
 refine Ex.go ?_
 refine Tr.seq ?_
 refine Tr.region ?_
 refine Run.call [] (l := []) rfl rfl rfl (lt rfl) awake24_c0 (fun v1 V2 H2 hle2 hR => ?_)
 obtain ⟨_, rfl, rfl⟩ := hR
 obtain ⟨Vs3, hVe⟩ : ∃ V3 : Vw, V3 = V2 := ⟨_, rfl⟩
 subst hVe
 replace hvs := hvs.le hle2
 replace hrs := hrs.le hle2
 have hVle := hle2
 refine Run.heapTo (H' := []) rfl ?_
 refine Run.val (lt rfl) (Y.assign rfl) ?_
 refine Run.to_end ?_
 refine Ex.go ?_
 refine Tr.seq ?_
 refine Tr.region ?_
 refine Run.buildSlice (l := [(0, .const (.int .u8 1))]) Law24b_es22 Law24b_zo5 rfl (by decide) rfl rfl (by decide) (lt rfl) (fun b4 => ?_)
 refine Run.keepTo (H' := [[(b4, .cells #[.int .u8 1] 5 (0, 0))]]) [0] rfl ?_
 refine Run.show (fun V6 hleV6 hshV6 => ?_)
 have hna5 := (Ow.lit (e := 5) (k := 1) (b := b4) (n := 1) (cur := #[.int .u8 1]) rfl (by decide)).shows _ hshV6
 replace hvs := hvs.le hleV6
 replace hrs := hrs.le hleV6
 replace hVle := Vw.le_trans hVle hleV6
 have hna5b : Rd V6 [] 1 (.slice (some ⟨b4, 0, none⟩) 1 1) ([1] : List UInt8).length (([1] : List UInt8).map byteV) := hna5
 refine Run.call [] (l := [.const (.string ⟨#[97]⟩), .tmp 18]) rfl rfl rfl (lt rfl) (new_c_h (s := ⟨#[97]⟩) hna5b Cli.fine_a) (fun v7 V2 H2 hle8 hR => ?_)
 obtain ⟨_, b9, w10, rfl, rfl, hha⟩ := hR
 obtain ⟨Vs11, hVe⟩ : ∃ V3 : Vw, V3 = V2 := ⟨_, rfl⟩
 subst hVe
 replace hvs := hvs.le hle8
 replace hrs := hrs.le hle8
 replace hna5 := hna5.le hle8
 replace hna5b := hna5b.le hle8
 replace hVle := Vw.le_trans hVle hle8
 refine Run.heapTo (H' := [[(b9, .cells #[.string Cli.aw0.name, w10, .int .i64 Cli.aw0.state, .int .u32 Cli.aw0.xid, .int .u32 Cli.aw0.addr, .int .u32 Cli.aw0.server, .int .i64 Cli.aw0.until_, .int .i64 Cli.aw0.one, .int .i64 Cli.aw0.two, .bool Cli.aw0.due, .int .i64 Cli.aw0.tries, .int .i64 Cli.aw0.said, .int .i64 Cli.aw0.asks] 67 (0, 0))]]) rfl ?_
 refine Run.val (lt rfl) (Y.move rfl) ?_
 refine Run.val (lt rfl) (Y.extract rfl rfl) ?_
 refine Run.val (lt rfl) (Y.extract rfl rfl) ?_
 refine Run.val (lt rfl) (Y.assign rfl) ?_
 refine Run.val (lt rfl) (Y.assign rfl) ?_
 refine Run.to_end ?_
 refine Ex.go ?_
 refine Tr.seq ?_
 refine Tr.seq ?_
 refine Tr.region ?_
 refine Run.val (lt rfl) (Y.move rfl) ?_
 refine Run.val (lt rfl) (Y.not rfl) ?_
 refine Run.val (lt rfl) (Y.move rfl) ?_
 refine Run.on rfl rfl rfl rfl ?_
 refine Run.val (lt rfl) (Y.move rfl) ?_
 refine Run.on rfl rfl rfl rfl ?_
 refine Run.val (lt rfl) (Y.int (r := .bool false) rfl rfl rfl) ?_
 refine Run.val (lt rfl) (Y.pick_f rfl rfl rfl) ?_
 refine Run.val (lt rfl) (Y.move rfl) ?_
 refine Run.on rfl rfl rfl rfl ?_
 refine Run.val (lt rfl) (Y.move rfl) ?_
 refine Run.on rfl rfl rfl rfl ?_
 refine Run.val (lt rfl) (Y.eqNil rfl rfl Law24b_pt25) ?_
 refine Run.val (lt rfl) (Y.pick_f rfl rfl rfl) ?_
 refine Run.to_end ?_
 refine Ex.go ?_
 refine Tr.cond_f rfl rfl ?_
 refine Tr.to_end ?_
 refine Ex.go ?_
 refine Tr.seq ?_
 refine Tr.region ?_
 refine Run.alloc Law24b_zo36 (lt rfl) (fun b12 => ?_)
 refine Run.to_end ?_
 refine Ex.go ?_
 refine Tr.seq ?_
 refine Tr.region ?_
 refine Run.buildSlice (l := [(0, .const (.int .u8 1))]) Law24b_es22 Law24b_zo5 rfl (by decide) rfl rfl (by decide) (lt rfl) (fun b13 => ?_)
 refine Run.keepTo (H' := [[(b13, .cells #[.int .u8 1] 5 (0, 0))], [(b12, .cells #[.int .i64 0, .int .u32 0, .int .i64 0, .int .i64 0, .int .u32 0, .int .u32 0, .int .u32 0, .int .u32 0, .slice none 0 0, .slice none 0 0] 36 (0, 0))], [(b9, .cells #[.string Cli.aw0.name, w10, .int .i64 Cli.aw0.state, .int .u32 Cli.aw0.xid, .int .u32 Cli.aw0.addr, .int .u32 Cli.aw0.server, .int .i64 Cli.aw0.until_, .int .i64 Cli.aw0.one, .int .i64 Cli.aw0.two, .bool Cli.aw0.due, .int .i64 Cli.aw0.tries, .int .i64 Cli.aw0.said, .int .i64 Cli.aw0.asks] 67 (0, 0))]]) [0, 0, 0] rfl ?_
 refine Run.show (fun V15 hleV15 hshV15 => ?_)
 have hna14 := (Ow.lit (e := 5) (k := 1) (b := b13) (n := 1) (cur := #[.int .u8 1]) rfl (by decide)).shows _ hshV15
 replace hvs := hvs.le hleV15
 replace hrs := hrs.le hleV15
 replace hna5 := hna5.le hleV15
 replace hna5b := hna5b.le hleV15
 replace hha := hha.le hleV15
 replace hVle := Vw.le_trans hVle hleV15
 have hna14b : Rd V15 [] 1 (.slice (some ⟨b13, 0, none⟩) 1 1) ([1] : List UInt8).length (([1] : List UInt8).map byteV) := hna14
 refine Run.call [] (l := [.const (.string ⟨#[97]⟩), .tmp 38]) rfl rfl rfl (lt rfl) (rnew_c_h (s := ⟨#[97]⟩) hna14b Cli.fine_a) (fun v16 V2 H2 hle17 hR => ?_)
 obtain ⟨_, b18, w19, rfl, rfl, hhb⟩ := hR
 obtain ⟨Vs20, hVe⟩ : ∃ V3 : Vw, V3 = V2 := ⟨_, rfl⟩
 subst hVe
 replace hvs := hvs.le hle17
 replace hrs := hrs.le hle17
 replace hna5 := hna5.le hle17
 replace hna5b := hna5b.le hle17
 replace hha := hha.le hle17
 replace hna14 := hna14.le hle17
 replace hna14b := hna14b.le hle17
 replace hVle := Vw.le_trans hVle hle17
 refine Run.heapTo (H' := [[(b12, .cells #[.int .i64 0, .int .u32 0, .int .i64 0, .int .i64 0, .int .u32 0, .int .u32 0, .int .u32 0, .int .u32 0, .slice none 0 0, .slice none 0 0] 36 (0, 0))], [(b9, .cells #[.string Cli.aw0.name, w10, .int .i64 Cli.aw0.state, .int .u32 Cli.aw0.xid, .int .u32 Cli.aw0.addr, .int .u32 Cli.aw0.server, .int .i64 Cli.aw0.until_, .int .i64 Cli.aw0.one, .int .i64 Cli.aw0.two, .bool Cli.aw0.due, .int .i64 Cli.aw0.tries, .int .i64 Cli.aw0.said, .int .i64 Cli.aw0.asks] 67 (0, 0))], [(b18, .cells #[.string Cli.aw0.name, w19, .int .i64 Cli.aw0.state, .int .u32 Cli.aw0.xid, .int .u32 Cli.aw0.addr, .int .u32 Cli.aw0.server, .int .i64 Cli.aw0.until_, .int .i64 Cli.aw0.one, .int .i64 Cli.aw0.two, .bool Cli.aw0.due, .int .i64 Cli.aw0.tries, .int .i64 Cli.aw0.said, .int .i64 Cli.aw0.asks] 44 (0, 0))]]) rfl ?_
 refine Run.val (lt rfl) (Y.move rfl) ?_
 refine Run.val (lt rfl) (Y.extract rfl rfl) ?_
 refine Run.val (lt rfl) (Y.extract rfl rfl) ?_
 refine Run.val (lt rfl) (Y.assign rfl) ?_
 refine Run.val (lt rfl) (Y.assign rfl) ?_
 refine Run.to_end ?_
 refine Ex.go ?_
 refine Tr.seq ?_
 refine Tr.region ?_
 refine Run.val (lt rfl) (Y.assign rfl) ?_
 refine Run.to_end ?_
 refine Ex.go ?_
 refine Tr.seq ?_
 refine Tr.seq ?_
 refine Tr.region ?_
 refine Run.val (lt rfl) (Y.assign rfl) ?_
 refine Run.to_end ?_
 refine Ex.go ?_
 refine Tr.block ?_
 refine Tr.loop (X := Lh) (fun x => x.V) (fun x => [[(b12, .cells #[.int .i64 x.last.op, .int .u32 x.last.xid, .int .i64 x.last.secs, .int .i64 x.last.flags, .int .u32 x.last.ci, .int .u32 x.last.yi, .int .u32 x.last.si, .int .u32 x.last.gi, x.hv, x.ov] 36 (0, 0))], [(b9, .cells #[.string x.c.name, w10, .int .i64 x.c.state, .int .u32 x.c.xid, .int .u32 x.c.addr, .int .u32 x.c.server, .int .i64 x.c.until_, .int .i64 x.c.one, .int .i64 x.c.two, .bool x.c.due, .int .i64 x.c.tries, .int .i64 x.c.said, .int .i64 x.c.asks] 67 (0, 0))], [(b18, .cells #[.string x.c.name, w19, .int .i64 x.c.state, .int .u32 x.c.xid, .int .u32 x.c.addr, .int .u32 x.c.server, .int .i64 x.c.until_, .int .i64 x.c.one, .int .i64 x.c.two, .bool x.c.due, .int .i64 x.c.tries, .int .i64 x.c.said, .int .i64 x.c.asks] 44 (0, 0))]]) (fun x => [(0, .slice p l.length c0), (4, .pointer (some ⟨b9, 0, none⟩)), (7, .pointer (some ⟨b18, 0, none⟩)), (6, .pointer (some ⟨b12, 0, none⟩)), (10, .int .i64 (x.i : Int)), (9, .int .i64 x.now)]) (fun x => Cli.Inv x.i x.c ∧ x.c.hw = ([1] : List UInt8) ∧ Vw.le Vs20 x.V ∧ Pc.R x.V x.last x.hv x.ov ∧ Pc.few x.last = true ∧ x.i ≤ l.length ∧ x.i ≤ 150 ∧ Cli.J x.c x.now ∧ x.now ≤ 549755813888) (fun x => l.length - x.i) (⟨Cli.aw0, Vs20, Cli.zeroP, .slice none 0 0, .slice none 0 0, 0, 0⟩ : Lh) ⟨Cli.inv0, rfl, Vw.le_refl _, Pc.zero_R _, Cli.few_zero, Nat.zero_le _, Nat.zero_le _, Cli.J.new, (show (0 : Int) ≤ 549755813888 by decide)⟩ (fun a w i => ⟨i.1.sub (subB_cons (by first | rfl | exact congrArg (fun z => some (Value.int _ z)) (by omega)) (subB_cons (by first | rfl | exact congrArg (fun z => some (Value.int _ z)) (by omega)) (subB_cons (by first | rfl | exact congrArg (fun z => some (Value.int _ z)) (by omega)) (subB_cons (by first | rfl | exact congrArg (fun z => some (Value.int _ z)) (by omega)) (subB_cons (by first | rfl | exact congrArg (fun z => some (Value.int _ z)) (by omega)) (subB_cons (by first | rfl | exact congrArg (fun z => some (Value.int _ z)) (by omega)) (subB_nil _))))))), i.2⟩) ?_
 rintro ⟨c, Vn, last, hvl, ovl, i, now⟩ ⟨hi, hhw, hVle, hl, hlf, hil, hi9, hJ, hnw⟩
 dsimp only at hi hhw hVle hl hlf hil hi9 hJ hnw ⊢
 replace hha : Rd Vn [] 1 w10 c.hw.length (c.hw.map byteV) := by rw [hhw]; exact hha.le hVle
 replace hhb : Rd Vn [] 1 w19 c.hw.length (c.hw.map byteV) := by rw [hhw]; exact hhb.le hVle
 replace hvs := hvs.le hVle
 replace hrs := hrs.le hVle
 obtain ⟨⟨pl, cl, rfl⟩, ql, nl, kl, rfl⟩ := hl.forms
 refine Tr.seq ?_
 refine Tr.seq ?_
 refine Tr.region ?_
 refine Run.val (lt rfl) (Y.move rfl) ?_
 refine Run.val (lt rfl) (Y.move rfl) ?_
 refine Run.val (lt rfl) (Y.lenSl rfl Law24b_es23) ?_
 refine Run.val (lt rfl) (Y.int rfl rfl rfl) ?_
 refine Run.val (lt rfl) (Y.move rfl) ?_
 rcases Bool.eq_false_or_eq_true (decide ((i : Int) < ((l.length : Nat) : Int))) with h21 | h21
 ·have g21 := h21
  try simp only [kb] at g21
  obtain ⟨b, off, c2, cs, et, fz, hw, hc, hk, hcs⟩ := hvs.opened (by omega)
  obtain ⟨rfl, rfl⟩ : p = some ⟨b, off, none⟩ ∧ c0 = c2 := by cases hw; exact ⟨rfl, rfl⟩
  clear hw
  have hrow := row_at (f := CStp.cells) CStp.len hcs (i := i) (by omega) (Nat.le_refl _) CStp.dflt
  have hmem := getD_mem (l := l) (j := i) (by omega) CStp.dflt
  generalize hse : l.getD i CStp.dflt = s at hrow hmem
  have hsR := hrs.at hmem
  have hsa := (hrs s hmem).2.1
  refine Run.on rfl rfl rfl h21 ?_
  refine Run.val (lt rfl) (Y.move rfl) ?_
  refine Run.on rfl rfl rfl h21 ?_
  refine Run.val (lt rfl) (Y.int rfl rfl rfl) ?_
  refine Run.val (lt rfl) (Y.pick_t rfl h21 rfl) ?_
  refine Run.to_end ?_
  refine Ex.go ?_
  rcases Bool.eq_false_or_eq_true (decide ((i : Int) < 150)) with h22 | h22
  ·have g22 := h22
   try simp only [kb] at g22
   refine Tr.cond_t rfl h22 ?_
   refine Tr.to_end ?_
   refine Ex.go ?_
   refine Tr.seq ?_
   refine Tr.block ?_
   refine Tr.seq ?_
   refine Tr.region ?_
   refine Run.val (lt rfl) (Y.move rfl) ?_
   refine Run.val (lt rfl) (Y.move rfl) ?_
   refine Run.val (lt rfl) (Y.idxAddr rfl rfl Law24b_es23 (by omega) (by omega)) ?_
   refine Run.val (lt rfl) (Y.loadAgg rfl Law24b_ag39 hk.of_nil (cellsAt_of (CStp.cells s) _ hrow)) ?_
   refine Run.alloc Law24b_zo39 (lt rfl) (fun b23 => ?_)
   refine Run.store (s := [(b23, .cells #[.int .i64 s.do_, .int .i64 s.now, .int .i64 s.kind, .int .i64 s.time, .int .u32 s.addr, .int .i64 s.p.op, .int .u32 s.p.xid, .int .i64 s.p.secs, .int .i64 s.p.flags, .int .u32 s.p.ci, .int .u32 s.p.yi, .int .u32 s.p.si, .int .u32 s.p.gi, s.hv, s.ov] 39 (0, 0))]) rfl rfl Law24b_sz39 (i := 0) rfl rfl (le rfl) (CStp.one hsR) rfl ?_
   refine Run.to_end ?_
   refine Ex.go ?_
   refine Tr.seq ?_
   refine Tr.seq ?_
   refine Tr.region ?_
   refine Run.val (lt rfl) (Y.loadAgg rfl Law24b_ag39 (Kn.at 0 rfl) rfl) ?_
   refine Run.call0 (l := [.tmp 56]) rfl rfl rfl (lt rfl) ((long24_c hsR.hw hsR.os).frame) ?_
   refine Run.val (lt rfl) (Y.move rfl) ?_
   rcases Bool.eq_false_or_eq_true (Pc.few s.p) with h24 | h24
   ·have g24 := h24
    try simp only [kb] at g24
    refine Run.on rfl rfl rfl (congrArg Bool.not h24) ?_
    refine Run.val (lt rfl) (Y.fieldAddr rfl Law24b_fo39_1) ?_
    refine Run.on rfl rfl rfl (congrArg Bool.not h24) ?_
    refine Run.val (lt rfl) (Y.load rfl Law24b_ts3 (Kn.at 0 rfl) rfl) ?_
    refine Run.on rfl rfl rfl (congrArg Bool.not h24) ?_
    refine Run.val (lt rfl) (Y.move rfl) ?_
    refine Run.on rfl rfl rfl (congrArg Bool.not h24) ?_
    refine Run.val (lt rfl) (Y.int rfl rfl rfl) ?_
    refine Run.val (lt rfl) (Y.pick_f rfl (congrArg Bool.not h24) rfl) ?_
    refine Run.val (lt rfl) (Y.move rfl) ?_
    rcases Bool.eq_false_or_eq_true (decide (s.now < now)) with h25 | h25
    ·have g25 := h25
     try simp only [kb] at g25
     refine Run.off rfl rfl rfl h25 rfl (lt rfl) ?_
     refine Run.off rfl rfl rfl h25 rfl (lt rfl) ?_
     refine Run.off rfl rfl rfl h25 rfl (lt rfl) ?_
     refine Run.val (lt rfl) (Y.pick_t rfl h25 rfl) ?_
     refine Run.to_end ?_
     refine Ex.go ?_
     refine Tr.cond_t rfl rfl ?_
     refine Tr.seq ?_
     refine Tr.region ?_
     refine Run.val (lt rfl) (Y.assign rfl) ?_
     refine Run.to_end ?_
     refine Ex.go ?_
     refine Tr.to_ret ?_
     refine Ex.ret_then ?_
     refine Ex.ret_block ?_
     refine Ex.ret_then ?_
     refine Ex.ret_then ?_
     refine Ex.ret_block ?_
     refine Ex.ret_then ?_
     refine Ex.keep [] ?_
     exact Ex.ret1 rfl rfl  rfl
    ·have g25 := h25
     try simp only [kb] at g25
     refine Run.on rfl rfl rfl h25 ?_
     refine Run.val (lt rfl) (Y.fieldAddr rfl Law24b_fo39_1) ?_
     refine Run.on rfl rfl rfl h25 ?_
     refine Run.val (lt rfl) (Y.load rfl Law24b_ts3 (Kn.at 0 rfl) rfl) ?_
     refine Run.on rfl rfl rfl h25 ?_
     refine Run.val (lt rfl) (Y.int rfl rfl rfl) ?_
     refine Run.val (lt rfl) (Y.pick_f rfl h25 rfl) ?_
     refine Run.to_end ?_
     refine Ex.go ?_
     rcases Bool.eq_false_or_eq_true (decide (s.now > 549755813888)) with h26 | h26
     ·have g26 := h26
      try simp only [kb] at g26
      refine Tr.cond_t rfl h26 ?_
      refine Tr.seq ?_
      refine Tr.region ?_
      refine Run.val (lt rfl) (Y.assign rfl) ?_
      refine Run.to_end ?_
      refine Ex.go ?_
      refine Tr.to_ret ?_
      refine Ex.ret_then ?_
      refine Ex.ret_block ?_
      refine Ex.ret_then ?_
      refine Ex.ret_then ?_
      refine Ex.ret_block ?_
      refine Ex.ret_then ?_
      refine Ex.keep [] ?_
      exact Ex.ret1 rfl rfl  rfl
     ·have g26 := h26
      try simp only [kb] at g26
      refine Tr.cond_f rfl h26 ?_
      refine Tr.to_end ?_
      refine Ex.go ?_
      refine Tr.seq ?_
      refine Tr.region ?_
      refine Run.val (lt rfl) (Y.fieldAddr rfl Law24b_fo39_1) ?_
      refine Run.val (lt rfl) (Y.load rfl Law24b_ts3 (Kn.at 0 rfl) rfl) ?_
      refine Run.val (lt rfl) (Y.assign rfl) ?_
      refine Run.to_end ?_
      refine Ex.go ?_
      refine Tr.seq ?_
      refine Tr.seq ?_
      refine Tr.region ?_
      refine Run.val (lt rfl) (Y.fieldAddr rfl Law24b_fo39_0) ?_
      refine Run.val (lt rfl) (Y.load rfl Law24b_ts3 (Kn.at 0 rfl) rfl) ?_
      refine Run.val (lt rfl) (Y.int rfl rfl rfl) ?_
      refine Run.to_end ?_
      refine Ex.go ?_
      rcases Bool.eq_false_or_eq_true (s.do_ == 1) with h27 | h27
      ·have g27 := h27
       try simp only [kb] at g27
       refine Tr.cond_t rfl h27 ?_
       refine Tr.to_exit ?_
       refine Ex.exit_then ?_
       refine Ex.exit_in ?_
       refine Ex.go ?_
       refine Tr.region ?_
       refine Run.val (lt rfl) (Y.move rfl) ?_
       refine Run.val (lt rfl) (Y.add rfl rfl (by omega)) ?_
       refine Run.val (lt rfl) (Y.assign rfl) ?_
       refine Run.to_end ?_
       refine Ex.keep [1, 1, 1] ?_
       exact Ex.round (⟨c, Vn, last, .slice pl last.hw.length cl, .slice ql nl kl, i + 1, s.now⟩ : Lh) ⟨hi.more (show (i : Int) ≤ ((i + 1 : Nat) : Int) by omega), hhw, hVle, hl, hlf, by show i + 1 ≤ l.length; omega, by show i + 1 ≤ 150; omega, hJ.later (by omega), by show s.now ≤ 549755813888; omega⟩ (by show l.length - (i + 1) < l.length - i; omega) rfl rfl (subB_cons (by first | rfl | exact congrArg (fun z => some (Value.int _ z)) (by omega)) (subB_cons (by first | rfl | exact congrArg (fun z => some (Value.int _ z)) (by omega)) (subB_cons (by first | rfl | exact congrArg (fun z => some (Value.int _ z)) (by omega)) (subB_cons (by first | rfl | exact congrArg (fun z => some (Value.int _ z)) (by omega)) (subB_cons (by first | rfl | exact congrArg (fun z => some (Value.int _ z)) (by omega)) (subB_cons (by first | rfl | exact congrArg (fun z => some (Value.int _ z)) (by omega)) (subB_nil _)))))))
      ·have g27 := h27
       try simp only [kb] at g27
       have hd1 : ¬ s.do_ = 1 := by simpa using h27
       refine Tr.cond_f rfl h27 ?_
       refine Tr.to_end ?_
       refine Ex.go ?_
       refine Tr.seq ?_
       refine Tr.region ?_
       refine Run.val (lt rfl) (Y.move rfl) ?_
       refine Run.call0 (l := [.tmp 74]) rfl rfl rfl (lt rfl) (until_c (c := c) (Kn.at 2 rfl)) ?_
       refine Run.val (lt rfl) (Y.assign rfl) ?_
       refine Run.to_end ?_
       refine Ex.go ?_
       refine Tr.seq ?_
       refine Tr.region ?_
       refine Run.val (lt rfl) (Y.move rfl) ?_
       refine Run.val (lt rfl) (Y.move rfl) ?_
       refine Run.val (lt rfl) (Y.loadAgg rfl Law24b_ag39 (Kn.at 0 rfl) rfl) ?_
       refine Run.val (lt rfl) (Y.loadAgg rfl Law24b_ag36 (Kn.at 1 rfl) rfl) ?_
       refine Run.call [2, 2] (l := [.tmp 77, .tmp 78, .tmp 79, .tmp 80]) rfl rfl rfl (lt rfl) (step_c (n := i) (c := c) (s := s) (last := last) hi (by omega) hha hhb hl hlf hsR (by simpa using h24) hsa) (fun v28 V2 H2 hle29 hR => ?_)
       obtain ⟨_, rfl, w30, w31, rfl, hRs32⟩ := hR
       obtain ⟨⟨p33, c34, rfl⟩, p35, n36, c37, rfl⟩ := hRs32.forms
       obtain ⟨Vs38, hVe⟩ : ∃ V3 : Vw, V3 = V2 := ⟨_, rfl⟩
       subst hVe
       replace hha := hha.le hle29
       replace hhb := hhb.le hle29
       replace hrs := hrs.le hle29
       replace hl := hl.le hle29
       replace hsR := hsR.le hle29
       replace hk := hk.le hle29
       replace hVle := Vw.le_trans hVle hle29
       refine Run.heapTo (H' := [[(b23, .cells #[.int .i64 s.do_, .int .i64 s.now, .int .i64 s.kind, .int .i64 s.time, .int .u32 s.addr, .int .i64 s.p.op, .int .u32 s.p.xid, .int .i64 s.p.secs, .int .i64 s.p.flags, .int .u32 s.p.ci, .int .u32 s.p.yi, .int .u32 s.p.si, .int .u32 s.p.gi, s.hv, s.ov] 39 (0, 0))], [(b12, .cells #[.int .i64 last.op, .int .u32 last.xid, .int .i64 last.secs, .int .i64 last.flags, .int .u32 last.ci, .int .u32 last.yi, .int .u32 last.si, .int .u32 last.gi, .slice pl last.hw.length cl, .slice ql nl kl] 36 (0, 0))], [(b9, .cells #[.string ((Cli.stepC c s last).name), w10, .int .i64 ((Cli.stepC c s last).state), .int .u32 ((Cli.stepC c s last).xid), .int .u32 ((Cli.stepC c s last).addr), .int .u32 ((Cli.stepC c s last).server), .int .i64 ((Cli.stepC c s last).until_), .int .i64 ((Cli.stepC c s last).one), .int .i64 ((Cli.stepC c s last).two), .bool ((Cli.stepC c s last).due), .int .i64 ((Cli.stepC c s last).tries), .int .i64 ((Cli.stepC c s last).said), .int .i64 ((Cli.stepC c s last).asks)] 67 (0, 0))], [(b18, .cells #[.string ((Cli.stepC c s last).name), w19, .int .i64 ((Cli.stepC c s last).state), .int .u32 ((Cli.stepC c s last).xid), .int .u32 ((Cli.stepC c s last).addr), .int .u32 ((Cli.stepC c s last).server), .int .i64 ((Cli.stepC c s last).until_), .int .i64 ((Cli.stepC c s last).one), .int .i64 ((Cli.stepC c s last).two), .bool ((Cli.stepC c s last).due), .int .i64 ((Cli.stepC c s last).tries), .int .i64 ((Cli.stepC c s last).said), .int .i64 ((Cli.stepC c s last).asks)] 44 (0, 0))]]) rfl ?_
       refine Run.val (lt rfl) (Y.move rfl) ?_
       refine Run.val (lt rfl) (Y.extract rfl rfl) ?_
       refine Run.val (lt rfl) (Y.extract rfl rfl) ?_
       refine Run.alloc Law24b_zo36 (lt rfl) (fun b39 => ?_)
       refine Run.store (s := [(b39, .cells #[.int .i64 ((Cli.stepL c s last).op), .int .u32 ((Cli.stepL c s last).xid), .int .i64 ((Cli.stepL c s last).secs), .int .i64 ((Cli.stepL c s last).flags), .int .u32 ((Cli.stepL c s last).ci), .int .u32 ((Cli.stepL c s last).yi), .int .u32 ((Cli.stepL c s last).si), .int .u32 ((Cli.stepL c s last).gi), .slice p33 (Cli.stepL c s last).hw.length c34, .slice p35 n36 c37] 36 (0, 0))]) rfl rfl Law24b_sz36 (i := 0) rfl rfl (le rfl) rfl rfl ?_
       refine Run.val (lt rfl) (Y.assign rfl) ?_
       refine Run.to_end ?_
       refine Ex.go ?_
       refine Tr.seq ?_
       refine Tr.region ?_
       have hn0 := hJ.now
       have hJ2 := hJ.step (s := s) (last := last) hi hd1 (by omega) (by omega)
       refine Run.val (lt rfl) (Y.loadAgg rfl Law24b_ag36 (Kn.at 0 rfl) rfl) ?_
       refine Run.store (s := [(b12, .cells #[.int .i64 ((Cli.stepL c s last).op), .int .u32 ((Cli.stepL c s last).xid), .int .i64 ((Cli.stepL c s last).secs), .int .i64 ((Cli.stepL c s last).flags), .int .u32 ((Cli.stepL c s last).ci), .int .u32 ((Cli.stepL c s last).yi), .int .u32 ((Cli.stepL c s last).si), .int .u32 ((Cli.stepL c s last).gi), .slice p33 (Cli.stepL c s last).hw.length c34, .slice p35 n36 c37] 36 (0, 0))]) rfl rfl Law24b_sz36 (i := 2) rfl rfl (le rfl) rfl rfl ?_
       refine Run.to_end ?_
       refine Ex.go ?_
       refine Tr.cut Vs38 [[(b39, .cells #[.int .i64 ((Cli.stepL c s last).op), .int .u32 ((Cli.stepL c s last).xid), .int .i64 ((Cli.stepL c s last).secs), .int .i64 ((Cli.stepL c s last).flags), .int .u32 ((Cli.stepL c s last).ci), .int .u32 ((Cli.stepL c s last).yi), .int .u32 ((Cli.stepL c s last).si), .int .u32 ((Cli.stepL c s last).gi), .slice p33 (Cli.stepL c s last).hw.length c34, .slice p35 n36 c37] 36 (0, 0))], [(b23, .cells #[.int .i64 s.do_, .int .i64 s.now, .int .i64 s.kind, .int .i64 s.time, .int .u32 s.addr, .int .i64 s.p.op, .int .u32 s.p.xid, .int .i64 s.p.secs, .int .i64 s.p.flags, .int .u32 s.p.ci, .int .u32 s.p.yi, .int .u32 s.p.si, .int .u32 s.p.gi, s.hv, s.ov] 39 (0, 0))], [(b12, .cells #[.int .i64 ((Cli.stepL c s last).op), .int .u32 ((Cli.stepL c s last).xid), .int .i64 ((Cli.stepL c s last).secs), .int .i64 ((Cli.stepL c s last).flags), .int .u32 ((Cli.stepL c s last).ci), .int .u32 ((Cli.stepL c s last).yi), .int .u32 ((Cli.stepL c s last).si), .int .u32 ((Cli.stepL c s last).gi), .slice p33 (Cli.stepL c s last).hw.length c34, .slice p35 n36 c37] 36 (0, 0))], [(b9, .cells #[.string ((Cli.stepC c s last).name), w10, .int .i64 ((Cli.stepC c s last).state), .int .u32 ((Cli.stepC c s last).xid), .int .u32 ((Cli.stepC c s last).addr), .int .u32 ((Cli.stepC c s last).server), .int .i64 ((Cli.stepC c s last).until_), .int .i64 ((Cli.stepC c s last).one), .int .i64 ((Cli.stepC c s last).two), .bool ((Cli.stepC c s last).due), .int .i64 ((Cli.stepC c s last).tries), .int .i64 ((Cli.stepC c s last).said), .int .i64 ((Cli.stepC c s last).asks)] 67 (0, 0))], [(b18, .cells #[.string ((Cli.stepC c s last).name), w19, .int .i64 ((Cli.stepC c s last).state), .int .u32 ((Cli.stepC c s last).xid), .int .u32 ((Cli.stepC c s last).addr), .int .u32 ((Cli.stepC c s last).server), .int .i64 ((Cli.stepC c s last).until_), .int .i64 ((Cli.stepC c s last).one), .int .i64 ((Cli.stepC c s last).two), .bool ((Cli.stepC c s last).due), .int .i64 ((Cli.stepC c s last).tries), .int .i64 ((Cli.stepC c s last).said), .int .i64 ((Cli.stepC c s last).asks)] 44 (0, 0))]] [(0, .slice (some ⟨b, off, none⟩) l.length c0), (4, .pointer (some ⟨b9, 0, none⟩)), (6, .pointer (some ⟨b12, 0, none⟩)), (7, .pointer (some ⟨b18, 0, none⟩)), (9, .int .i64 s.now), (10, .int .i64 (i : Int)), (11, .pointer (some ⟨b23, 0, none⟩)), (12, .int .i64 (Cli.until0 c)), (15, .bool (Cli.holding (Cli.stepC c s last)))] ?_ ?_
       ·refine Tr.region ?_
        refine Run.val (lt rfl) (Y.move rfl) ?_
        refine Run.call0 (l := [.tmp 85]) rfl rfl rfl (lt rfl) (state_c (c := (Cli.stepC c s last)) (Kn.at 3 rfl)) ?_
        refine Run.val (lt rfl) (Y.int rfl rfl rfl) ?_
        refine Run.val (lt rfl) (Y.move rfl) ?_
        rcases Bool.eq_false_or_eq_true (decide (((Cli.stepC c s last).state) ≥ 3)) with h40 | h40
        ·have g40 := h40
         try simp only [kb] at g40
         refine Run.on rfl rfl rfl h40 ?_
         refine Run.val (lt rfl) (Y.move rfl) ?_
         refine Run.on rfl rfl rfl h40 ?_
         refine Run.call0 (l := [.tmp 89]) rfl rfl rfl (lt rfl) (state_c (c := (Cli.stepC c s last)) (Kn.at 3 rfl)) ?_
         refine Run.on rfl rfl rfl h40 ?_
         refine Run.val (lt rfl) (Y.int rfl rfl rfl) ?_
         refine Run.val (lt rfl) (Y.pick_t rfl h40 rfl) ?_
         refine Run.val (lt rfl) (Y.assign rfl) ?_
         refine Run.to_end ?_
         exact Ex.cut rfl (subB_cons (by first | rfl | exact congrArg (fun z => some (Value.int _ z)) (by omega) | exact congrArg (fun b => some (Value.bool b)) (by rw [Bool.eq_iff_iff, decide_eq_true_eq, Cli.hold_iff]; omega)) (subB_cons (by first | rfl | exact congrArg (fun z => some (Value.int _ z)) (by omega) | exact congrArg (fun b => some (Value.bool b)) (by rw [Bool.eq_iff_iff, decide_eq_true_eq, Cli.hold_iff]; omega)) (subB_cons (by first | rfl | exact congrArg (fun z => some (Value.int _ z)) (by omega) | exact congrArg (fun b => some (Value.bool b)) (by rw [Bool.eq_iff_iff, decide_eq_true_eq, Cli.hold_iff]; omega)) (subB_cons (by first | rfl | exact congrArg (fun z => some (Value.int _ z)) (by omega) | exact congrArg (fun b => some (Value.bool b)) (by rw [Bool.eq_iff_iff, decide_eq_true_eq, Cli.hold_iff]; omega)) (subB_cons (by first | rfl | exact congrArg (fun z => some (Value.int _ z)) (by omega) | exact congrArg (fun b => some (Value.bool b)) (by rw [Bool.eq_iff_iff, decide_eq_true_eq, Cli.hold_iff]; omega)) (subB_cons (by first | rfl | exact congrArg (fun z => some (Value.int _ z)) (by omega) | exact congrArg (fun b => some (Value.bool b)) (by rw [Bool.eq_iff_iff, decide_eq_true_eq, Cli.hold_iff]; omega)) (subB_cons (by first | rfl | exact congrArg (fun z => some (Value.int _ z)) (by omega) | exact congrArg (fun b => some (Value.bool b)) (by rw [Bool.eq_iff_iff, decide_eq_true_eq, Cli.hold_iff]; omega)) (subB_cons (by first | rfl | exact congrArg (fun z => some (Value.int _ z)) (by omega) | exact congrArg (fun b => some (Value.bool b)) (by rw [Bool.eq_iff_iff, decide_eq_true_eq, Cli.hold_iff]; omega)) (subB_cons (by first | rfl | exact congrArg (fun z => some (Value.int _ z)) (by omega) | exact congrArg (fun b => some (Value.bool b)) (by rw [Bool.eq_iff_iff, decide_eq_true_eq, Cli.hold_iff]; omega)) (subB_nil _))))))))))
        ·have g40 := h40
         try simp only [kb] at g40
         refine Run.off rfl rfl rfl h40 rfl (lt rfl) ?_
         refine Run.off rfl rfl rfl h40 rfl (lt rfl) ?_
         refine Run.off rfl rfl rfl h40 rfl (lt rfl) ?_
         refine Run.val (lt rfl) (Y.pick_f rfl h40 rfl) ?_
         refine Run.val (lt rfl) (Y.assign rfl) ?_
         refine Run.to_end ?_
         exact Ex.cut rfl (subB_cons (by first | rfl | exact congrArg (fun z => some (Value.int _ z)) (by omega) | exact congrArg (fun b => some (Value.bool b)) (Cli.hold_n (by omega)).symm) (subB_cons (by first | rfl | exact congrArg (fun z => some (Value.int _ z)) (by omega) | exact congrArg (fun b => some (Value.bool b)) (Cli.hold_n (by omega)).symm) (subB_cons (by first | rfl | exact congrArg (fun z => some (Value.int _ z)) (by omega) | exact congrArg (fun b => some (Value.bool b)) (Cli.hold_n (by omega)).symm) (subB_cons (by first | rfl | exact congrArg (fun z => some (Value.int _ z)) (by omega) | exact congrArg (fun b => some (Value.bool b)) (Cli.hold_n (by omega)).symm) (subB_cons (by first | rfl | exact congrArg (fun z => some (Value.int _ z)) (by omega) | exact congrArg (fun b => some (Value.bool b)) (Cli.hold_n (by omega)).symm) (subB_cons (by first | rfl | exact congrArg (fun z => some (Value.int _ z)) (by omega) | exact congrArg (fun b => some (Value.bool b)) (Cli.hold_n (by omega)).symm) (subB_cons (by first | rfl | exact congrArg (fun z => some (Value.int _ z)) (by omega) | exact congrArg (fun b => some (Value.bool b)) (Cli.hold_n (by omega)).symm) (subB_cons (by first | rfl | exact congrArg (fun z => some (Value.int _ z)) (by omega) | exact congrArg (fun b => some (Value.bool b)) (Cli.hold_n (by omega)).symm) (subB_cons (by first | rfl | exact congrArg (fun z => some (Value.int _ z)) (by omega) | exact congrArg (fun b => some (Value.bool b)) (Cli.hold_n (by omega)).symm) (subB_nil _))))))))))
       ·refine Tr.seq ?_
        refine Tr.seq ?_
        refine Tr.quiet Law24b_mo (by kernel_rfl) ?_
        refine RunQ.val (lt rfl) (Y.move rfl) ?_
        refine RunQ.call0 (l := [.tmp 93]) rfl rfl rfl (lt rfl) (addr_c (c := (Cli.stepC c s last)) (Kn.at 3 rfl)) ?_
        refine RunQ.val (lt rfl) (Y.int rfl rfl rfl) ?_
        refine RunQ.val (lt rfl) (Y.move rfl) ?_
        rcases Bool.eq_false_or_eq_true (((Cli.stepC c s last).addr) != 0) with h41 | h41
        ·have g41 := h41
         try simp only [kb] at g41
         refine RunQ.on rfl rfl rfl h41 ?_
         refine RunQ.val (lt rfl) (Y.move rfl) ?_
         refine RunQ.on rfl rfl rfl h41 ?_
         refine RunQ.val (lt rfl) (Y.not rfl) ?_
         refine RunQ.val (lt rfl) (Y.pick_t rfl h41 rfl) ?_
         refine RunQ.val (lt rfl) (Y.move rfl) ?_
         rcases Bool.eq_false_or_eq_true (Cli.holding (Cli.stepC c s last)) with h42 | h42
         ·have g42 := h42
          try simp only [kb] at g42
          refine RunQ.off rfl rfl rfl (congrArg Bool.not h42) rfl (lt rfl) ?_
          refine RunQ.off rfl rfl rfl (congrArg Bool.not h42) rfl (lt rfl) ?_
          refine RunQ.off rfl rfl rfl (congrArg Bool.not h42) rfl (lt rfl) ?_
          refine RunQ.val (lt rfl) (Y.pick_f rfl (congrArg Bool.not h42) rfl) ?_
          refine RunQ.val (lt rfl) (Y.move rfl) ?_
          refine RunQ.on rfl rfl rfl rfl ?_
          refine RunQ.val (lt rfl) (Y.move rfl) ?_
          refine RunQ.on rfl rfl rfl rfl ?_
          refine RunQ.val (lt rfl) (Y.move rfl) ?_
          refine RunQ.on rfl rfl rfl rfl ?_
          refine RunQ.call0 (l := [.tmp 107]) rfl rfl rfl (lt rfl) (until_c (c := (Cli.stepC c s last)) (Kn.at 3 rfl)) ?_
          refine RunQ.on rfl rfl rfl rfl ?_
          refine RunQ.val (lt rfl) (Y.int rfl rfl rfl) ?_
          refine RunQ.on rfl rfl rfl rfl ?_
          refine RunQ.val (lt rfl) (Y.neB rfl rfl Law24b_tg4) ?_
          refine RunQ.val (lt rfl) (Y.pick_f rfl rfl rfl) ?_
          refine RunQ.val (lt rfl) (Y.move rfl) ?_
          refine RunQ.on rfl rfl rfl (by rw [Cli.until_pos hJ2.1]; simp) ?_
          refine RunQ.val (lt rfl) (Y.move rfl) ?_
          refine RunQ.on rfl rfl rfl (by rw [Cli.until_pos hJ2.1]; simp) ?_
          refine RunQ.call0 (l := [.tmp 113]) rfl rfl rfl (lt rfl) (until_c (c := (Cli.stepC c s last)) (Kn.at 3 rfl)) ?_
          refine RunQ.on rfl rfl rfl (by rw [Cli.until_pos hJ2.1]; simp) ?_
          refine RunQ.val (lt rfl) (Y.move rfl) ?_
          refine RunQ.on rfl rfl rfl (by rw [Cli.until_pos hJ2.1]; simp) ?_
          refine RunQ.val (lt rfl) (Y.move rfl) ?_
          refine RunQ.on rfl rfl rfl (by rw [Cli.until_pos hJ2.1]; simp) ?_
          refine RunQ.val (lt rfl) (Y.fieldAddr rfl Law24b_fo39_3) ?_
          refine RunQ.on rfl rfl rfl (by rw [Cli.until_pos hJ2.1]; simp) ?_
          refine RunQ.val (lt rfl) (Y.load rfl Law24b_ts3 (Kn.at 1 rfl) rfl) ?_
          refine RunQ.on rfl rfl rfl (by rw [Cli.until_pos hJ2.1]; simp) ?_
          refine RunQ.val (lt rfl) (Y.int (r := .int .i64 (s.time % 65536)) rfl rfl (by simp only [intRes]; rw [and_low s.time 65535 65536 16 (by decide) rfl rfl])) ?_
          refine RunQ.on rfl rfl rfl (by rw [Cli.until_pos hJ2.1]; simp) ?_
          refine RunQ.val (lt rfl) (Y.add rfl rfl (by omega)) ?_
          refine RunQ.on rfl rfl rfl (by rw [Cli.until_pos hJ2.1]; simp) ?_
          refine RunQ.val (lt rfl) (Y.max2 rfl rfl) ?_
          refine RunQ.on rfl rfl rfl (by rw [Cli.until_pos hJ2.1]; simp) ?_
          refine RunQ.val (lt rfl) (Y.int rfl rfl rfl) ?_
          refine RunQ.val (lt rfl) (Y.pick_f rfl (by rw [Cli.until_pos hJ2.1]; simp) rfl) ?_
          refine RunQ.to_end ?_
          refine Ex.go ?_
          refine Tr.cond_f rfl (decide_eq_false (by have := hJ2.2.1; omega)) ?_
          refine Tr.to_end ?_
          refine Ex.go ?_
          refine Tr.seq ?_
          refine Tr.region ?_
          refine Run.val (lt rfl) (Y.fieldAddr rfl Law24b_fo39_0) ?_
          refine Run.val (lt rfl) (Y.load rfl Law24b_ts3 (Kn.at 1 rfl) rfl) ?_
          refine Run.val (lt rfl) (Y.int rfl rfl rfl) ?_
          refine Run.val (lt rfl) (Y.move rfl) ?_
          rcases Bool.eq_false_or_eq_true (s.do_ == 0) with h43 | h43
          ·have g43 := h43
           try simp only [kb] at g43
           refine Run.on rfl rfl rfl h43 ?_
           refine Run.val (lt rfl) (Y.move rfl) ?_
           refine Run.val (lt rfl) (Y.pick_t rfl h43 rfl) ?_
           refine Run.val (lt rfl) (Y.move rfl) ?_
           refine Run.on rfl rfl rfl h42 ?_
           refine Run.val (lt rfl) (Y.move rfl) ?_
           refine Run.on rfl rfl rfl h42 ?_
           refine Run.val (lt rfl) (Y.move rfl) ?_
           refine Run.on rfl rfl rfl h42 ?_
           refine Run.call0 (l := [.tmp 132]) rfl rfl rfl (lt rfl) (until_c (c := (Cli.stepC c s last)) (Kn.at 3 rfl)) ?_
           refine Run.on rfl rfl rfl h42 ?_
           refine Run.val (lt rfl) (Y.int rfl rfl rfl) ?_
           refine Run.val (lt rfl) (Y.pick_t rfl h42 rfl) ?_
           refine Run.to_end ?_
           refine Ex.go ?_
           rcases Bool.eq_false_or_eq_true (decide (s.now > (Cli.until0 (Cli.stepC c s last)))) with h44 | h44
           ·have g44 := h44
            try simp only [kb] at g44
            exact absurd (hJ2.2.2 (by omega) (by assumption)) (by omega)
           ·have g44 := h44
            try simp only [kb] at g44
            refine Tr.cond_f rfl h44 ?_
            refine Tr.to_end ?_
            refine Ex.end_block ?_
            refine Ex.go ?_
            refine Tr.region ?_
            refine Run.val (lt rfl) (Y.move rfl) ?_
            refine Run.val (lt rfl) (Y.add rfl rfl (by omega)) ?_
            refine Run.val (lt rfl) (Y.assign rfl) ?_
            refine Run.to_end ?_
            refine Ex.keep [2, 2, 2] ?_
            exact Ex.round (⟨Cli.stepC c s last, Vs38, Cli.stepL c s last, .slice p33 (Cli.stepL c s last).hw.length c34, .slice p35 n36 c37, i + 1, s.now⟩ : Lh) ⟨hi.step s ⟨hsR.yi, hsR.si⟩ hsa, (Cli.step_same c s last).1.trans hhw, hVle, hRs32, Cli.few_stepL hi s hlf, by show i + 1 ≤ l.length; omega, by show i + 1 ≤ 150; omega, hJ2.1, by show s.now ≤ 549755813888; omega⟩ (by show l.length - (i + 1) < l.length - i; omega) rfl rfl (subB_cons (by first | rfl | exact congrArg (fun z => some (Value.int _ z)) (by omega)) (subB_cons (by first | rfl | exact congrArg (fun z => some (Value.int _ z)) (by omega)) (subB_cons (by first | rfl | exact congrArg (fun z => some (Value.int _ z)) (by omega)) (subB_cons (by first | rfl | exact congrArg (fun z => some (Value.int _ z)) (by omega)) (subB_cons (by first | rfl | exact congrArg (fun z => some (Value.int _ z)) (by omega)) (subB_cons (by first | rfl | exact congrArg (fun z => some (Value.int _ z)) (by omega)) (subB_nil _)))))))
          ·have g43 := h43
           try simp only [kb] at g43
           refine Run.off rfl rfl rfl h43 rfl (lt rfl) ?_
           refine Run.val (lt rfl) (Y.pick_f rfl h43 rfl) ?_
           refine Run.val (lt rfl) (Y.move rfl) ?_
           refine Run.off rfl rfl rfl rfl rfl (lt rfl) ?_
           refine Run.off rfl rfl rfl rfl rfl (lt rfl) ?_
           refine Run.off rfl rfl rfl rfl rfl (lt rfl) ?_
           refine Run.off rfl rfl rfl rfl rfl (lt rfl) ?_
           refine Run.val (lt rfl) (Y.pick_f rfl rfl rfl) ?_
           refine Run.to_end ?_
           refine Ex.go ?_
           refine Tr.cond_f rfl rfl ?_
           refine Tr.to_end ?_
           refine Ex.end_block ?_
           refine Ex.go ?_
           refine Tr.region ?_
           refine Run.val (lt rfl) (Y.move rfl) ?_
           refine Run.val (lt rfl) (Y.add rfl rfl (by omega)) ?_
           refine Run.val (lt rfl) (Y.assign rfl) ?_
           refine Run.to_end ?_
           refine Ex.keep [2, 2, 2] ?_
           exact Ex.round (⟨Cli.stepC c s last, Vs38, Cli.stepL c s last, .slice p33 (Cli.stepL c s last).hw.length c34, .slice p35 n36 c37, i + 1, s.now⟩ : Lh) ⟨hi.step s ⟨hsR.yi, hsR.si⟩ hsa, (Cli.step_same c s last).1.trans hhw, hVle, hRs32, Cli.few_stepL hi s hlf, by show i + 1 ≤ l.length; omega, by show i + 1 ≤ 150; omega, hJ2.1, by show s.now ≤ 549755813888; omega⟩ (by show l.length - (i + 1) < l.length - i; omega) rfl rfl (subB_cons (by first | rfl | exact congrArg (fun z => some (Value.int _ z)) (by omega)) (subB_cons (by first | rfl | exact congrArg (fun z => some (Value.int _ z)) (by omega)) (subB_cons (by first | rfl | exact congrArg (fun z => some (Value.int _ z)) (by omega)) (subB_cons (by first | rfl | exact congrArg (fun z => some (Value.int _ z)) (by omega)) (subB_cons (by first | rfl | exact congrArg (fun z => some (Value.int _ z)) (by omega)) (subB_cons (by first | rfl | exact congrArg (fun z => some (Value.int _ z)) (by omega)) (subB_nil _)))))))
         ·have g42 := h42
          try simp only [kb] at g42
          refine RunQ.on rfl rfl rfl (congrArg Bool.not h42) ?_
          refine RunQ.val (lt rfl) (Y.move rfl) ?_
          refine RunQ.on rfl rfl rfl (congrArg Bool.not h42) ?_
          refine RunQ.call0 (l := [.tmp 101]) rfl rfl rfl (lt rfl) (state_c (c := (Cli.stepC c s last)) (Kn.at 3 rfl)) ?_
          refine RunQ.on rfl rfl rfl (congrArg Bool.not h42) ?_
          refine RunQ.val (lt rfl) (Y.int rfl rfl rfl) ?_
          refine RunQ.val (lt rfl) (Y.pick_t rfl (congrArg Bool.not h42) rfl) ?_
          refine RunQ.val (lt rfl) (Y.move rfl) ?_
          rcases Bool.eq_false_or_eq_true (((Cli.stepC c s last).state) != 2) with h45 | h45
          ·have g45 := h45
           try simp only [kb] at g45
           exact absurd (Cli.hold_y (c := (Cli.stepC c s last)) (by have := hJ2.1.only (by omega); omega)) (by simp_all)
          ·have g45 := h45
           try simp only [kb] at g45
           refine RunQ.on rfl rfl rfl h45 ?_
           refine RunQ.val (lt rfl) (Y.move rfl) ?_
           refine RunQ.on rfl rfl rfl h45 ?_
           refine RunQ.val (lt rfl) (Y.move rfl) ?_
           refine RunQ.on rfl rfl rfl h45 ?_
           refine RunQ.call0 (l := [.tmp 107]) rfl rfl rfl (lt rfl) (until_c (c := (Cli.stepC c s last)) (Kn.at 3 rfl)) ?_
           refine RunQ.on rfl rfl rfl h45 ?_
           refine RunQ.val (lt rfl) (Y.int rfl rfl rfl) ?_
           refine RunQ.on rfl rfl rfl h45 ?_
           refine RunQ.val (lt rfl) (Y.neB rfl rfl Law24b_tg4) ?_
           refine RunQ.val (lt rfl) (Y.pick_f rfl h45 rfl) ?_
           refine RunQ.val (lt rfl) (Y.move rfl) ?_
           refine RunQ.on rfl rfl rfl (by rw [Cli.until_pos hJ2.1]; simp) ?_
           refine RunQ.val (lt rfl) (Y.move rfl) ?_
           refine RunQ.on rfl rfl rfl (by rw [Cli.until_pos hJ2.1]; simp) ?_
           refine RunQ.call0 (l := [.tmp 113]) rfl rfl rfl (lt rfl) (until_c (c := (Cli.stepC c s last)) (Kn.at 3 rfl)) ?_
           refine RunQ.on rfl rfl rfl (by rw [Cli.until_pos hJ2.1]; simp) ?_
           refine RunQ.val (lt rfl) (Y.move rfl) ?_
           refine RunQ.on rfl rfl rfl (by rw [Cli.until_pos hJ2.1]; simp) ?_
           refine RunQ.val (lt rfl) (Y.move rfl) ?_
           refine RunQ.on rfl rfl rfl (by rw [Cli.until_pos hJ2.1]; simp) ?_
           refine RunQ.val (lt rfl) (Y.fieldAddr rfl Law24b_fo39_3) ?_
           refine RunQ.on rfl rfl rfl (by rw [Cli.until_pos hJ2.1]; simp) ?_
           refine RunQ.val (lt rfl) (Y.load rfl Law24b_ts3 (Kn.at 1 rfl) rfl) ?_
           refine RunQ.on rfl rfl rfl (by rw [Cli.until_pos hJ2.1]; simp) ?_
           refine RunQ.val (lt rfl) (Y.int (r := .int .i64 (s.time % 65536)) rfl rfl (by simp only [intRes]; rw [and_low s.time 65535 65536 16 (by decide) rfl rfl])) ?_
           refine RunQ.on rfl rfl rfl (by rw [Cli.until_pos hJ2.1]; simp) ?_
           refine RunQ.val (lt rfl) (Y.add rfl rfl (by omega)) ?_
           refine RunQ.on rfl rfl rfl (by rw [Cli.until_pos hJ2.1]; simp) ?_
           refine RunQ.val (lt rfl) (Y.max2 rfl rfl) ?_
           refine RunQ.on rfl rfl rfl (by rw [Cli.until_pos hJ2.1]; simp) ?_
           refine RunQ.val (lt rfl) (Y.int rfl rfl rfl) ?_
           refine RunQ.val (lt rfl) (Y.pick_f rfl (by rw [Cli.until_pos hJ2.1]; simp) rfl) ?_
           refine RunQ.to_end ?_
           refine Ex.go ?_
           refine Tr.cond_f rfl (decide_eq_false (by have := hJ2.2.1; omega)) ?_
           refine Tr.to_end ?_
           refine Ex.go ?_
           refine Tr.seq ?_
           refine Tr.region ?_
           refine Run.val (lt rfl) (Y.fieldAddr rfl Law24b_fo39_0) ?_
           refine Run.val (lt rfl) (Y.load rfl Law24b_ts3 (Kn.at 1 rfl) rfl) ?_
           refine Run.val (lt rfl) (Y.int rfl rfl rfl) ?_
           refine Run.val (lt rfl) (Y.move rfl) ?_
           rcases Bool.eq_false_or_eq_true (s.do_ == 0) with h46 | h46
           ·have g46 := h46
            try simp only [kb] at g46
            refine Run.on rfl rfl rfl h46 ?_
            refine Run.val (lt rfl) (Y.move rfl) ?_
            refine Run.val (lt rfl) (Y.pick_t rfl h46 rfl) ?_
            refine Run.val (lt rfl) (Y.move rfl) ?_
            refine Run.off rfl rfl rfl h42 rfl (lt rfl) ?_
            refine Run.off rfl rfl rfl h42 rfl (lt rfl) ?_
            refine Run.off rfl rfl rfl h42 rfl (lt rfl) ?_
            refine Run.off rfl rfl rfl h42 rfl (lt rfl) ?_
            refine Run.val (lt rfl) (Y.pick_f rfl h42 rfl) ?_
            refine Run.to_end ?_
            refine Ex.go ?_
            refine Tr.cond_f rfl rfl ?_
            refine Tr.to_end ?_
            refine Ex.end_block ?_
            refine Ex.go ?_
            refine Tr.region ?_
            refine Run.val (lt rfl) (Y.move rfl) ?_
            refine Run.val (lt rfl) (Y.add rfl rfl (by omega)) ?_
            refine Run.val (lt rfl) (Y.assign rfl) ?_
            refine Run.to_end ?_
            refine Ex.keep [2, 2, 2] ?_
            exact Ex.round (⟨Cli.stepC c s last, Vs38, Cli.stepL c s last, .slice p33 (Cli.stepL c s last).hw.length c34, .slice p35 n36 c37, i + 1, s.now⟩ : Lh) ⟨hi.step s ⟨hsR.yi, hsR.si⟩ hsa, (Cli.step_same c s last).1.trans hhw, hVle, hRs32, Cli.few_stepL hi s hlf, by show i + 1 ≤ l.length; omega, by show i + 1 ≤ 150; omega, hJ2.1, by show s.now ≤ 549755813888; omega⟩ (by show l.length - (i + 1) < l.length - i; omega) rfl rfl (subB_cons (by first | rfl | exact congrArg (fun z => some (Value.int _ z)) (by omega)) (subB_cons (by first | rfl | exact congrArg (fun z => some (Value.int _ z)) (by omega)) (subB_cons (by first | rfl | exact congrArg (fun z => some (Value.int _ z)) (by omega)) (subB_cons (by first | rfl | exact congrArg (fun z => some (Value.int _ z)) (by omega)) (subB_cons (by first | rfl | exact congrArg (fun z => some (Value.int _ z)) (by omega)) (subB_cons (by first | rfl | exact congrArg (fun z => some (Value.int _ z)) (by omega)) (subB_nil _)))))))
           ·have g46 := h46
            try simp only [kb] at g46
            refine Run.off rfl rfl rfl h46 rfl (lt rfl) ?_
            refine Run.val (lt rfl) (Y.pick_f rfl h46 rfl) ?_
            refine Run.val (lt rfl) (Y.move rfl) ?_
            refine Run.off rfl rfl rfl rfl rfl (lt rfl) ?_
            refine Run.off rfl rfl rfl rfl rfl (lt rfl) ?_
            refine Run.off rfl rfl rfl rfl rfl (lt rfl) ?_
            refine Run.off rfl rfl rfl rfl rfl (lt rfl) ?_
            refine Run.val (lt rfl) (Y.pick_f rfl rfl rfl) ?_
            refine Run.to_end ?_
            refine Ex.go ?_
            refine Tr.cond_f rfl rfl ?_
            refine Tr.to_end ?_
            refine Ex.end_block ?_
            refine Ex.go ?_
            refine Tr.region ?_
            refine Run.val (lt rfl) (Y.move rfl) ?_
            refine Run.val (lt rfl) (Y.add rfl rfl (by omega)) ?_
            refine Run.val (lt rfl) (Y.assign rfl) ?_
            refine Run.to_end ?_
            refine Ex.keep [2, 2, 2] ?_
            exact Ex.round (⟨Cli.stepC c s last, Vs38, Cli.stepL c s last, .slice p33 (Cli.stepL c s last).hw.length c34, .slice p35 n36 c37, i + 1, s.now⟩ : Lh) ⟨hi.step s ⟨hsR.yi, hsR.si⟩ hsa, (Cli.step_same c s last).1.trans hhw, hVle, hRs32, Cli.few_stepL hi s hlf, by show i + 1 ≤ l.length; omega, by show i + 1 ≤ 150; omega, hJ2.1, by show s.now ≤ 549755813888; omega⟩ (by show l.length - (i + 1) < l.length - i; omega) rfl rfl (subB_cons (by first | rfl | exact congrArg (fun z => some (Value.int _ z)) (by omega)) (subB_cons (by first | rfl | exact congrArg (fun z => some (Value.int _ z)) (by omega)) (subB_cons (by first | rfl | exact congrArg (fun z => some (Value.int _ z)) (by omega)) (subB_cons (by first | rfl | exact congrArg (fun z => some (Value.int _ z)) (by omega)) (subB_cons (by first | rfl | exact congrArg (fun z => some (Value.int _ z)) (by omega)) (subB_cons (by first | rfl | exact congrArg (fun z => some (Value.int _ z)) (by omega)) (subB_nil _)))))))
        ·have g41 := h41
         try simp only [kb] at g41
         refine RunQ.off rfl rfl rfl h41 rfl (lt rfl) ?_
         refine RunQ.off rfl rfl rfl h41 rfl (lt rfl) ?_
         refine RunQ.val (lt rfl) (Y.pick_f rfl h41 rfl) ?_
         refine RunQ.val (lt rfl) (Y.move rfl) ?_
         refine RunQ.off rfl rfl rfl rfl rfl (lt rfl) ?_
         refine RunQ.off rfl rfl rfl rfl rfl (lt rfl) ?_
         refine RunQ.off rfl rfl rfl rfl rfl (lt rfl) ?_
         refine RunQ.val (lt rfl) (Y.pick_f rfl rfl rfl) ?_
         refine RunQ.val (lt rfl) (Y.move rfl) ?_
         refine RunQ.on rfl rfl rfl rfl ?_
         refine RunQ.val (lt rfl) (Y.move rfl) ?_
         refine RunQ.on rfl rfl rfl rfl ?_
         refine RunQ.val (lt rfl) (Y.move rfl) ?_
         refine RunQ.on rfl rfl rfl rfl ?_
         refine RunQ.call0 (l := [.tmp 107]) rfl rfl rfl (lt rfl) (until_c (c := (Cli.stepC c s last)) (Kn.at 3 rfl)) ?_
         refine RunQ.on rfl rfl rfl rfl ?_
         refine RunQ.val (lt rfl) (Y.int rfl rfl rfl) ?_
         refine RunQ.on rfl rfl rfl rfl ?_
         refine RunQ.val (lt rfl) (Y.neB rfl rfl Law24b_tg4) ?_
         refine RunQ.val (lt rfl) (Y.pick_f rfl rfl rfl) ?_
         refine RunQ.val (lt rfl) (Y.move rfl) ?_
         refine RunQ.on rfl rfl rfl (by rw [Cli.until_pos hJ2.1]; simp) ?_
         refine RunQ.val (lt rfl) (Y.move rfl) ?_
         refine RunQ.on rfl rfl rfl (by rw [Cli.until_pos hJ2.1]; simp) ?_
         refine RunQ.call0 (l := [.tmp 113]) rfl rfl rfl (lt rfl) (until_c (c := (Cli.stepC c s last)) (Kn.at 3 rfl)) ?_
         refine RunQ.on rfl rfl rfl (by rw [Cli.until_pos hJ2.1]; simp) ?_
         refine RunQ.val (lt rfl) (Y.move rfl) ?_
         refine RunQ.on rfl rfl rfl (by rw [Cli.until_pos hJ2.1]; simp) ?_
         refine RunQ.val (lt rfl) (Y.move rfl) ?_
         refine RunQ.on rfl rfl rfl (by rw [Cli.until_pos hJ2.1]; simp) ?_
         refine RunQ.val (lt rfl) (Y.fieldAddr rfl Law24b_fo39_3) ?_
         refine RunQ.on rfl rfl rfl (by rw [Cli.until_pos hJ2.1]; simp) ?_
         refine RunQ.val (lt rfl) (Y.load rfl Law24b_ts3 (Kn.at 1 rfl) rfl) ?_
         refine RunQ.on rfl rfl rfl (by rw [Cli.until_pos hJ2.1]; simp) ?_
         refine RunQ.val (lt rfl) (Y.int (r := .int .i64 (s.time % 65536)) rfl rfl (by simp only [intRes]; rw [and_low s.time 65535 65536 16 (by decide) rfl rfl])) ?_
         refine RunQ.on rfl rfl rfl (by rw [Cli.until_pos hJ2.1]; simp) ?_
         refine RunQ.val (lt rfl) (Y.add rfl rfl (by omega)) ?_
         refine RunQ.on rfl rfl rfl (by rw [Cli.until_pos hJ2.1]; simp) ?_
         refine RunQ.val (lt rfl) (Y.max2 rfl rfl) ?_
         refine RunQ.on rfl rfl rfl (by rw [Cli.until_pos hJ2.1]; simp) ?_
         refine RunQ.val (lt rfl) (Y.int rfl rfl rfl) ?_
         refine RunQ.val (lt rfl) (Y.pick_f rfl (by rw [Cli.until_pos hJ2.1]; simp) rfl) ?_
         refine RunQ.to_end ?_
         refine Ex.go ?_
         refine Tr.cond_f rfl (decide_eq_false (by have := hJ2.2.1; omega)) ?_
         refine Tr.to_end ?_
         refine Ex.go ?_
         refine Tr.seq ?_
         refine Tr.region ?_
         refine Run.val (lt rfl) (Y.fieldAddr rfl Law24b_fo39_0) ?_
         refine Run.val (lt rfl) (Y.load rfl Law24b_ts3 (Kn.at 1 rfl) rfl) ?_
         refine Run.val (lt rfl) (Y.int rfl rfl rfl) ?_
         refine Run.val (lt rfl) (Y.move rfl) ?_
         rcases Bool.eq_false_or_eq_true (s.do_ == 0) with h47 | h47
         ·have g47 := h47
          try simp only [kb] at g47
          refine Run.on rfl rfl rfl h47 ?_
          refine Run.val (lt rfl) (Y.move rfl) ?_
          refine Run.val (lt rfl) (Y.pick_t rfl h47 rfl) ?_
          refine Run.val (lt rfl) (Y.move rfl) ?_
          rcases Bool.eq_false_or_eq_true (Cli.holding (Cli.stepC c s last)) with h48 | h48
          ·have g48 := h48
           try simp only [kb] at g48
           refine Run.on rfl rfl rfl h48 ?_
           refine Run.val (lt rfl) (Y.move rfl) ?_
           refine Run.on rfl rfl rfl h48 ?_
           refine Run.val (lt rfl) (Y.move rfl) ?_
           refine Run.on rfl rfl rfl h48 ?_
           refine Run.call0 (l := [.tmp 132]) rfl rfl rfl (lt rfl) (until_c (c := (Cli.stepC c s last)) (Kn.at 3 rfl)) ?_
           refine Run.on rfl rfl rfl h48 ?_
           refine Run.val (lt rfl) (Y.int rfl rfl rfl) ?_
           refine Run.val (lt rfl) (Y.pick_t rfl h48 rfl) ?_
           refine Run.to_end ?_
           refine Ex.go ?_
           rcases Bool.eq_false_or_eq_true (decide (s.now > (Cli.until0 (Cli.stepC c s last)))) with h49 | h49
           ·have g49 := h49
            try simp only [kb] at g49
            exact absurd (hJ2.2.2 (by omega) (by assumption)) (by omega)
           ·have g49 := h49
            try simp only [kb] at g49
            refine Tr.cond_f rfl h49 ?_
            refine Tr.to_end ?_
            refine Ex.end_block ?_
            refine Ex.go ?_
            refine Tr.region ?_
            refine Run.val (lt rfl) (Y.move rfl) ?_
            refine Run.val (lt rfl) (Y.add rfl rfl (by omega)) ?_
            refine Run.val (lt rfl) (Y.assign rfl) ?_
            refine Run.to_end ?_
            refine Ex.keep [2, 2, 2] ?_
            exact Ex.round (⟨Cli.stepC c s last, Vs38, Cli.stepL c s last, .slice p33 (Cli.stepL c s last).hw.length c34, .slice p35 n36 c37, i + 1, s.now⟩ : Lh) ⟨hi.step s ⟨hsR.yi, hsR.si⟩ hsa, (Cli.step_same c s last).1.trans hhw, hVle, hRs32, Cli.few_stepL hi s hlf, by show i + 1 ≤ l.length; omega, by show i + 1 ≤ 150; omega, hJ2.1, by show s.now ≤ 549755813888; omega⟩ (by show l.length - (i + 1) < l.length - i; omega) rfl rfl (subB_cons (by first | rfl | exact congrArg (fun z => some (Value.int _ z)) (by omega)) (subB_cons (by first | rfl | exact congrArg (fun z => some (Value.int _ z)) (by omega)) (subB_cons (by first | rfl | exact congrArg (fun z => some (Value.int _ z)) (by omega)) (subB_cons (by first | rfl | exact congrArg (fun z => some (Value.int _ z)) (by omega)) (subB_cons (by first | rfl | exact congrArg (fun z => some (Value.int _ z)) (by omega)) (subB_cons (by first | rfl | exact congrArg (fun z => some (Value.int _ z)) (by omega)) (subB_nil _)))))))
          ·have g48 := h48
           try simp only [kb] at g48
           refine Run.off rfl rfl rfl h48 rfl (lt rfl) ?_
           refine Run.off rfl rfl rfl h48 rfl (lt rfl) ?_
           refine Run.off rfl rfl rfl h48 rfl (lt rfl) ?_
           refine Run.off rfl rfl rfl h48 rfl (lt rfl) ?_
           refine Run.val (lt rfl) (Y.pick_f rfl h48 rfl) ?_
           refine Run.to_end ?_
           refine Ex.go ?_
           refine Tr.cond_f rfl rfl ?_
           refine Tr.to_end ?_
           refine Ex.end_block ?_
           refine Ex.go ?_
           refine Tr.region ?_
           refine Run.val (lt rfl) (Y.move rfl) ?_
           refine Run.val (lt rfl) (Y.add rfl rfl (by omega)) ?_
           refine Run.val (lt rfl) (Y.assign rfl) ?_
           refine Run.to_end ?_
           refine Ex.keep [2, 2, 2] ?_
           exact Ex.round (⟨Cli.stepC c s last, Vs38, Cli.stepL c s last, .slice p33 (Cli.stepL c s last).hw.length c34, .slice p35 n36 c37, i + 1, s.now⟩ : Lh) ⟨hi.step s ⟨hsR.yi, hsR.si⟩ hsa, (Cli.step_same c s last).1.trans hhw, hVle, hRs32, Cli.few_stepL hi s hlf, by show i + 1 ≤ l.length; omega, by show i + 1 ≤ 150; omega, hJ2.1, by show s.now ≤ 549755813888; omega⟩ (by show l.length - (i + 1) < l.length - i; omega) rfl rfl (subB_cons (by first | rfl | exact congrArg (fun z => some (Value.int _ z)) (by omega)) (subB_cons (by first | rfl | exact congrArg (fun z => some (Value.int _ z)) (by omega)) (subB_cons (by first | rfl | exact congrArg (fun z => some (Value.int _ z)) (by omega)) (subB_cons (by first | rfl | exact congrArg (fun z => some (Value.int _ z)) (by omega)) (subB_cons (by first | rfl | exact congrArg (fun z => some (Value.int _ z)) (by omega)) (subB_cons (by first | rfl | exact congrArg (fun z => some (Value.int _ z)) (by omega)) (subB_nil _)))))))
         ·have g47 := h47
          try simp only [kb] at g47
          refine Run.off rfl rfl rfl h47 rfl (lt rfl) ?_
          refine Run.val (lt rfl) (Y.pick_f rfl h47 rfl) ?_
          refine Run.val (lt rfl) (Y.move rfl) ?_
          refine Run.off rfl rfl rfl rfl rfl (lt rfl) ?_
          refine Run.off rfl rfl rfl rfl rfl (lt rfl) ?_
          refine Run.off rfl rfl rfl rfl rfl (lt rfl) ?_
          refine Run.off rfl rfl rfl rfl rfl (lt rfl) ?_
          refine Run.val (lt rfl) (Y.pick_f rfl rfl rfl) ?_
          refine Run.to_end ?_
          refine Ex.go ?_
          refine Tr.cond_f rfl rfl ?_
          refine Tr.to_end ?_
          refine Ex.end_block ?_
          refine Ex.go ?_
          refine Tr.region ?_
          refine Run.val (lt rfl) (Y.move rfl) ?_
          refine Run.val (lt rfl) (Y.add rfl rfl (by omega)) ?_
          refine Run.val (lt rfl) (Y.assign rfl) ?_
          refine Run.to_end ?_
          refine Ex.keep [2, 2, 2] ?_
          exact Ex.round (⟨Cli.stepC c s last, Vs38, Cli.stepL c s last, .slice p33 (Cli.stepL c s last).hw.length c34, .slice p35 n36 c37, i + 1, s.now⟩ : Lh) ⟨hi.step s ⟨hsR.yi, hsR.si⟩ hsa, (Cli.step_same c s last).1.trans hhw, hVle, hRs32, Cli.few_stepL hi s hlf, by show i + 1 ≤ l.length; omega, by show i + 1 ≤ 150; omega, hJ2.1, by show s.now ≤ 549755813888; omega⟩ (by show l.length - (i + 1) < l.length - i; omega) rfl rfl (subB_cons (by first | rfl | exact congrArg (fun z => some (Value.int _ z)) (by omega)) (subB_cons (by first | rfl | exact congrArg (fun z => some (Value.int _ z)) (by omega)) (subB_cons (by first | rfl | exact congrArg (fun z => some (Value.int _ z)) (by omega)) (subB_cons (by first | rfl | exact congrArg (fun z => some (Value.int _ z)) (by omega)) (subB_cons (by first | rfl | exact congrArg (fun z => some (Value.int _ z)) (by omega)) (subB_cons (by first | rfl | exact congrArg (fun z => some (Value.int _ z)) (by omega)) (subB_nil _)))))))
   ·have g24 := h24
    try simp only [kb] at g24
    refine Run.off rfl rfl rfl (congrArg Bool.not h24) rfl (lt rfl) ?_
    refine Run.off rfl rfl rfl (congrArg Bool.not h24) rfl (lt rfl) ?_
    refine Run.off rfl rfl rfl (congrArg Bool.not h24) rfl (lt rfl) ?_
    refine Run.off rfl rfl rfl (congrArg Bool.not h24) rfl (lt rfl) ?_
    refine Run.val (lt rfl) (Y.pick_t rfl (congrArg Bool.not h24) rfl) ?_
    refine Run.val (lt rfl) (Y.move rfl) ?_
    refine Run.off rfl rfl rfl rfl rfl (lt rfl) ?_
    refine Run.off rfl rfl rfl rfl rfl (lt rfl) ?_
    refine Run.off rfl rfl rfl rfl rfl (lt rfl) ?_
    refine Run.val (lt rfl) (Y.pick_t rfl rfl rfl) ?_
    refine Run.to_end ?_
    refine Ex.go ?_
    refine Tr.cond_t rfl rfl ?_
    refine Tr.seq ?_
    refine Tr.region ?_
    refine Run.val (lt rfl) (Y.assign rfl) ?_
    refine Run.to_end ?_
    refine Ex.go ?_
    refine Tr.to_ret ?_
    refine Ex.ret_then ?_
    refine Ex.ret_block ?_
    refine Ex.ret_then ?_
    refine Ex.ret_then ?_
    refine Ex.ret_block ?_
    refine Ex.ret_then ?_
    refine Ex.keep [] ?_
    exact Ex.ret1 rfl rfl  rfl
  ·have g22 := h22
   try simp only [kb] at g22
   refine Tr.cond_f rfl h22 ?_
   refine Tr.to_exit ?_
   refine Ex.exit_then ?_
   refine Ex.exit_then ?_
   refine Ex.exit_in ?_
   refine Ex.go ?_
   refine Tr.seq ?_
   refine Tr.region ?_
   refine Run.val (lt rfl) (Y.assign rfl) ?_
   refine Run.to_end ?_
   refine Ex.go ?_
   refine Tr.to_ret ?_
   refine Ex.keep [] ?_
   exact Ex.ret1 rfl rfl  rfl
 ·have g21 := h21
  try simp only [kb] at g21
  refine Run.off rfl rfl rfl h21 rfl (lt rfl) ?_
  refine Run.off rfl rfl rfl h21 rfl (lt rfl) ?_
  refine Run.val (lt rfl) (Y.pick_f rfl h21 rfl) ?_
  refine Run.to_end ?_
  refine Ex.go ?_
  refine Tr.cond_f rfl rfl ?_
  refine Tr.to_exit ?_
  refine Ex.exit_then ?_
  refine Ex.exit_then ?_
  refine Ex.exit_in ?_
  refine Ex.go ?_
  refine Tr.seq ?_
  refine Tr.region ?_
  refine Run.val (lt rfl) (Y.assign rfl) ?_
  refine Run.to_end ?_
  refine Ex.go ?_
  refine Tr.to_ret ?_
  refine Ex.keep [] ?_
  exact Ex.ret1 rfl rfl  rfl

theorem holds_c {V : Vw} {v1 : Value} {l : List CStp} (hvs : Rd V [] 15 v1 l.length (l.map CStp.cells).flatten) (hl9 : l.length ≤ 9223372036854775807) (hrs : CStp.Rs V l) : Does Try.prog 4 [v1] V [] (fun v _ _ => v = .bool true) := by
  obtain ⟨p, c0, rfl, _⟩ := hvs.form
  exact holds_c0 hvs hl9 hrs
end Go.Proofs.Ytelahacalnmilaa
