/- What comes of a tick, and of a release.
Conditions: as each theorem names them. -/
import Derived.Test.YtelahacalnmilaaProg
import Derived.Test.YtelahacalnmilaaClsay
import Derived.Test.YtelahacalnmilaaClturn
set_option linter.unusedSimpArgs false
set_option linter.unusedVariables false
set_option maxRecDepth 4000
namespace Go.Proofs.Ytelahacalnmilaa
open Go Go.K
attribute [local irreducible] Code.wp wpList Calls wpQuiet
theorem Cltick_fo67_2 : fieldOff Try.prog 67 2 = some 2 := by kernel_rfl
theorem Cltick_ts3 : scal Try.prog 3 = true := by kernel_rfl
theorem Cltick_fo67_9 : fieldOff Try.prog 67 9 = some 9 := by kernel_rfl
theorem Cltick_ts4 : scal Try.prog 4 = true := by kernel_rfl
theorem Cltick_sz4 : sizeT Try.prog 4 = some 1 := by kernel_rfl
theorem Cltick_fo67_11 : fieldOff Try.prog 67 11 = some 11 := by kernel_rfl
theorem Cltick_sz3 : sizeT Try.prog 3 = some 1 := by kernel_rfl
theorem Cltick_fo67_10 : fieldOff Try.prog 67 10 = some 10 := by kernel_rfl
theorem Cltick_zo36 : zeroOf Try.prog 36 = some (.agg #[.int .i64 0, .int .u32 0, .int .i64 0, .int .i64 0, .int .u32 0, .int .u32 0, .int .u32 0, .int .u32 0, .slice none 0 0, .slice none 0 0]) := by kernel_rfl
theorem Cltick_sz36 : sizeT Try.prog 36 = some 10 := by kernel_rfl
theorem Cltick_ag36 : aggsz Try.prog 36 = some 10 := by kernel_rfl
theorem Cltick_es48 : elemS Try.prog 48 = some (36, 10) := by kernel_rfl
theorem Cltick_fo67_12 : fieldOff Try.prog 67 12 = some 12 := by kernel_rfl
theorem Cltick_mo : Try.prog.follows .mixedOrders = true := by kernel_rfl
theorem Cltick_fo67_4 : fieldOff Try.prog 67 4 = some 4 := by kernel_rfl
theorem Cltick_ts33 : scal Try.prog 33 = true := by kernel_rfl
theorem Cltick_fo67_5 : fieldOff Try.prog 67 5 = some 5 := by kernel_rfl
theorem Cltick_es34 : elemS Try.prog 34 = some (76, 2) := by kernel_rfl
theorem Cltick_zo76 : zeroOf Try.prog 76 = some (.agg #[.int .i64 0, .slice none 0 0]) := by kernel_rfl
theorem Cltick_fo36_4 : fieldOff Try.prog 36 4 = some 4 := by kernel_rfl
theorem Cltick_sz33 : sizeT Try.prog 33 = some 1 := by kernel_rfl
theorem Cltick_fo44_2 : fieldOff Try.prog 44 2 = some 2 := by kernel_rfl
theorem Cltick_fo44_9 : fieldOff Try.prog 44 9 = some 9 := by kernel_rfl
theorem Cltick_fo44_11 : fieldOff Try.prog 44 11 = some 11 := by kernel_rfl
theorem Cltick_fo44_10 : fieldOff Try.prog 44 10 = some 10 := by kernel_rfl
theorem Cltick_fo44_12 : fieldOff Try.prog 44 12 = some 12 := by kernel_rfl
theorem Cltick_fo36_9 : fieldOff Try.prog 36 9 = some 9 := by kernel_rfl
theorem Cltick_ts34 : scal Try.prog 34 = true := by kernel_rfl
theorem Cltick_fo44_4 : fieldOff Try.prog 44 4 = some 4 := by kernel_rfl
theorem Cltick_it33_3 : intT Try.prog 33 3 = some .i64 := by kernel_rfl
theorem Cltick_fo44_5 : fieldOff Try.prog 44 5 = some 5 := by kernel_rfl
theorem Cltick_pl76 : placesS Try.prog 76 = some [(0, 1), (1, 1)] := by kernel_rfl
theorem Cltick_zi76 : zeroInfo Try.prog 76 = some (2, 32, .agg #[.int .i64 0, .slice none 0 0]) := by kernel_rfl
theorem Cltick_sz34 : sizeT Try.prog 34 = some 1 := by kernel_rfl
theorem Cltick_fo67_3 : fieldOff Try.prog 67 3 = some 3 := by kernel_rfl
theorem Cltick_ts32 : scal Try.prog 32 = true := by kernel_rfl
theorem Cltick_sz32 : sizeT Try.prog 32 = some 1 := by kernel_rfl
theorem Cltick_pl36 : placesS Try.prog 36 = some [(0, 1), (1, 1), (2, 1), (3, 1), (4, 1), (5, 1), (6, 1), (7, 1), (8, 1), (9, 1)] := by kernel_rfl
theorem Cltick_fo44_3 : fieldOff Try.prog 44 3 = some 3 := by kernel_rfl

theorem says_c_h {V : Vw} {bc : Nat} {c : Cli} {hv : Value} {kind : Int} (hh : Rd V [] 1 hv c.hw.length (c.hw.map byteV)) (hl : c.hw.length ≤ 16) : Does Try.prog 38 [.pointer (some ⟨bc, 0, none⟩), .int .i64 kind] V [[(bc, .cells (Cli.cells c hv) 67 (0, 0))]] (fun u V' H' => V.le V' ∧ ∃ q, H' = [[(bc, .cells (Cli.cells c hv) 67 (0, 0))], q] ∧ Cli.Said 76 V' c kind u q) := by
  obtain ⟨p, k, rfl, _⟩ := hh.form
  exact says_c hh hl
theorem rsays_c_h {V : Vw} {bc : Nat} {c : Cli} {hv : Value} {kind : Int} (hh : Rd V [] 1 hv c.hw.length (c.hw.map byteV)) (hl : c.hw.length ≤ 16) : Does Try.prog 43 [.pointer (some ⟨bc, 0, none⟩), .int .i64 kind] V [[(bc, .cells (Cli.cells c hv) 44 (0, 0))]] (fun u V' H' => V.le V' ∧ ∃ q, H' = [[(bc, .cells (Cli.cells c hv) 44 (0, 0))], q] ∧ Cli.Said 76 V' c kind u q) := by
  obtain ⟨p, k, rfl, _⟩ := hh.form
  exact rsays_c hh hl

set_option maxHeartbeats 1000000 in
theorem tick_c {V : Vw} {bc : Nat} {c : Cli} {hv : Value} {n now : Int} (hi : Cli.Inv n c) (hn : n ≤ 1000000) (hh : Rd V [] 1 hv c.hw.length (c.hw.map byteV))  : Does Try.prog 16 [.pointer (some ⟨bc, 0, none⟩), .int .i64 now] V [[(bc, .cells (Cli.cells c hv) 67 (0, 0))]] (fun u V' H' => V.le V' ∧ H' = [[(bc, .cells (Cli.cells (Cli.tickC c now) hv) 67 (0, 0))]] ∧ ∃ ps, u = .tuple #[ps, .int .i64 (Cli.tickE now)] ∧ Pc.Rk 36 V' ps (Cli.tickP c now)) := by
 refine Does.intro Try.func16 rfl rfl (le rfl) (fun B => ?_)
 refine Tr.seq ?_
 refine Tr.region ?_
 refine Run.val (lt rfl) (Y.assign rfl) ?_
 refine Run.val (lt rfl) (Y.assign rfl) ?_
 refine Run.to_end ?_
 refine Ex.go ?_
 refine Tr.seq ?_
 refine Tr.seq ?_
 refine Tr.region ?_
 refine Run.val (lt rfl) (Y.move rfl) ?_
 refine Run.call0 (l := [.tmp 7]) rfl rfl rfl (lt rfl) moment_c_h ?_
 refine Run.val (lt rfl) (Y.not rfl) ?_
 refine Run.to_end ?_
 refine Ex.go ?_
 rcases Bool.eq_false_or_eq_true (Con.moment now) with h1 | h1
 ·have g1 := h1
  try simp only [kb] at g1
  have hm := (Con.moment_iff now).1 h1
  refine Tr.cond_f rfl (congrArg Bool.not h1) ?_
  refine Tr.to_end ?_
  refine Ex.go ?_
  refine Tr.seq ?_
  refine Tr.seq ?_
  refine Tr.region ?_
  refine Run.val (lt rfl) (Y.move rfl) ?_
  refine Run.val (lt rfl) (Y.nilCheck rfl) ?_
  refine Run.val (lt rfl) (Y.fieldAddr rfl Cltick_fo67_2) ?_
  refine Run.val (lt rfl) (Y.load rfl Cltick_ts3 (Kn.at 0 rfl) rfl) ?_
  refine Run.val (lt rfl) (Y.int rfl rfl rfl) ?_
  refine Run.to_end ?_
  refine Ex.go ?_
  rcases Bool.eq_false_or_eq_true (c.state == 6) with h2 | h2
  ·have g2 := h2
   try simp only [kb] at g2
   refine Tr.cond_t rfl h2 ?_
   refine Tr.seq ?_
   refine Tr.region ?_
   refine Run.val (lt rfl) (Y.assign rfl) ?_
   refine Run.val (lt rfl) (Y.assign rfl) ?_
   refine Run.to_end ?_
   refine Ex.go ?_
   refine Tr.to_ret ?_
   refine Ex.ret_then ?_
   refine Ex.keep [0] ?_
   exact Ex.ret2 rfl rfl rfl  ⟨Vw.le_refl _, by rw [(Cli.tick_6 (c := c) h1 g2).1]; try rfl, _, by rw [(Cli.tick_6 (c := c) h1 g2).2.1], by rw [(Cli.tick_6 (c := c) h1 g2).2.2]; rfl⟩
  ·have g2 := h2
   try simp only [kb] at g2
   refine Tr.cond_f rfl h2 ?_
   refine Tr.to_end ?_
   refine Ex.go ?_
   refine Tr.seq ?_
   refine Tr.seq ?_
   refine Tr.region ?_
   refine Run.val (lt rfl) (Y.move rfl) ?_
   refine Run.val (lt rfl) (Y.move rfl) ?_
   refine Run.call [0] (l := [.tmp 15, .tmp 16]) rfl rfl rfl (lt rfl) (turn_c (n := n) (c := c) (now := now) hi g2 hm) (fun v3 V2 H2 _ hR => ?_)
   obtain ⟨hV, rfl, rfl⟩ := hR; replace hV := hV.symm; subst hV
   refine Run.heapTo (H' := [[(bc, .cells #[.string ((Cli.turn c now).name), hv, .int .i64 ((Cli.turn c now).state), .int .u32 ((Cli.turn c now).xid), .int .u32 ((Cli.turn c now).addr), .int .u32 ((Cli.turn c now).server), .int .i64 ((Cli.turn c now).until_), .int .i64 ((Cli.turn c now).one), .int .i64 ((Cli.turn c now).two), .bool ((Cli.turn c now).due), .int .i64 ((Cli.turn c now).tries), .int .i64 ((Cli.turn c now).said), .int .i64 ((Cli.turn c now).asks)] 67 (0, 0))]]) rfl ?_
   refine Run.to_end ?_
   refine Ex.go ?_
   refine Tr.seq ?_
   refine Tr.region ?_
   obtain ⟨t, ht⟩ : ∃ t, t = Cli.turn c now := ⟨_, rfl⟩
   rw [← ht]
   have hit : Cli.Inv n t := by rw [ht]; exact hi.turn hm
   have hts := Cli.turn_same c now
   rw [← ht] at hts
   have hht : Rd V [] 1 hv t.hw.length (t.hw.map byteV) := by rw [hts.1]; exact hh
   have hhl := hit.hw
   have htr := hit.tries
   have hta := hit.addr
   have htv := hit.server
   refine Run.val (lt rfl) (Y.move rfl) ?_
   refine Run.val (lt rfl) (Y.nilCheck rfl) ?_
   refine Run.val (lt rfl) (Y.fieldAddr rfl Cltick_fo67_9) ?_
   refine Run.val (lt rfl) (Y.load rfl Cltick_ts4 (Kn.at 0 rfl) rfl) ?_
   refine Run.val (lt rfl) (Y.not rfl) ?_
   refine Run.to_end ?_
   refine Ex.go ?_
   rcases Bool.eq_false_or_eq_true (t.due) with h4 | h4
   ·have g4 := h4
    try simp only [kb] at g4
    refine Tr.cond_f rfl (congrArg Bool.not h4) ?_
    refine Tr.to_end ?_
    refine Ex.go ?_
    refine Tr.seq ?_
    refine Tr.region ?_
    refine Run.val (lt rfl) (Y.move rfl) ?_
    refine Run.val (lt rfl) (Y.move rfl) ?_
    refine Run.val (lt rfl) (Y.move rfl) ?_
    refine Run.val (lt rfl) (Y.nilCheck rfl) ?_
    refine Run.val (lt rfl) (Y.fieldAddr rfl Cltick_fo67_9) ?_
    refine Run.store (s := [(bc, .cells #[.string t.name, hv, .int .i64 t.state, .int .u32 t.xid, .int .u32 t.addr, .int .u32 t.server, .int .i64 t.until_, .int .i64 t.one, .int .i64 t.two, .bool false, .int .i64 t.tries, .int .i64 t.said, .int .i64 t.asks] 67 (0, 0))]) rfl rfl Cltick_sz4 (i := 0) rfl rfl (le rfl) rfl rfl ?_
    refine Run.val (lt rfl) (Y.nilCheck rfl) ?_
    refine Run.val (lt rfl) (Y.fieldAddr rfl Cltick_fo67_11) ?_
    refine Run.store (s := [(bc, .cells #[.string t.name, hv, .int .i64 t.state, .int .u32 t.xid, .int .u32 t.addr, .int .u32 t.server, .int .i64 t.until_, .int .i64 t.one, .int .i64 t.two, .bool false, .int .i64 t.tries, .int .i64 now, .int .i64 t.asks] 67 (0, 0))]) rfl rfl Cltick_sz3 (i := 0) rfl rfl (le rfl) rfl rfl ?_
    refine Run.to_end ?_
    refine Ex.go ?_
    refine Tr.seq ?_
    refine Tr.region ?_
    refine Run.val (lt rfl) (Y.move rfl) ?_
    refine Run.val (lt rfl) (Y.nilCheck rfl) ?_
    refine Run.val (lt rfl) (Y.fieldAddr rfl Cltick_fo67_10) ?_
    refine Run.val (lt rfl) (Y.load rfl Cltick_ts3 (Kn.at 0 rfl) rfl) ?_
    refine Run.val (lt rfl) (Y.add rfl rfl (by omega)) ?_
    refine Run.val (lt rfl) (Y.nilCheck rfl) ?_
    refine Run.val (lt rfl) (Y.fieldAddr rfl Cltick_fo67_10) ?_
    refine Run.store (s := [(bc, .cells #[.string t.name, hv, .int .i64 t.state, .int .u32 t.xid, .int .u32 t.addr, .int .u32 t.server, .int .i64 t.until_, .int .i64 t.one, .int .i64 t.two, .bool false, .int .i64 (t.tries + 1), .int .i64 now, .int .i64 t.asks] 67 (0, 0))]) rfl rfl Cltick_sz3 (i := 0) rfl rfl (le rfl) rfl rfl ?_
    refine Run.to_end ?_
    refine Ex.go ?_
    refine Tr.seq ?_
    refine Tr.region ?_
    refine Run.alloc Cltick_zo36 (lt rfl) (fun b5 => ?_)
    refine Run.to_end ?_
    refine Ex.go ?_
    refine Tr.seq ?_
    refine Tr.seq ?_
    refine Tr.region ?_
    refine Run.val (lt rfl) (Y.move rfl) ?_
    refine Run.val (lt rfl) (Y.nilCheck rfl) ?_
    refine Run.val (lt rfl) (Y.fieldAddr rfl Cltick_fo67_2) ?_
    refine Run.val (lt rfl) (Y.load rfl Cltick_ts3 (Kn.at 1 rfl) rfl) ?_
    refine Run.to_end ?_
    refine Ex.go ?_
    refine Tr.block ?_
    refine Tr.seq ?_
    refine Tr.region ?_
    refine Run.val (lt rfl) (Y.int rfl rfl rfl) ?_
    refine Run.val (lt rfl) (Y.assign rfl) ?_
    refine Run.to_end ?_
    refine Ex.go ?_
    rcases Bool.eq_false_or_eq_true (t.state == 1) with h6 | h6
    ·have g6 := h6
     try simp only [kb] at g6
     refine Tr.cond_t rfl h6 ?_
     refine Tr.region ?_
     refine Run.val (lt rfl) (Y.move rfl) ?_
     refine Run.call [1] (l := [.tmp 50, .const (.int .i64 1)]) rfl rfl rfl (lt rfl) (says_c_h (c := (⟨t.name, t.hw, t.state, t.xid, t.addr, t.server, t.until_, t.one, t.two, false, t.tries + 1, now, t.asks⟩ : Cli)) (kind := 1) hht hhl.2) (fun v7 V2 H2 hle18 hR => ?_)
     obtain ⟨_, s8, rfl, w20, p10, c11, d12, d13, rfl, hsx14, hox15, hsa16, hsb17⟩ := hR
     obtain ⟨p21, c22, rfl, _⟩ := hsx14.form
     obtain ⟨Vs19, hVe⟩ : ∃ V3 : Vw, V3 = V2 := ⟨_, rfl⟩
     subst hVe
     replace hht := hht.le hle18
     have hVle := hle18
     refine Run.heapTo (H' := [[(b5, .cells #[.int .i64 0, .int .u32 0, .int .i64 0, .int .i64 0, .int .u32 0, .int .u32 0, .int .u32 0, .int .u32 0, .slice none 0 0, .slice none 0 0] 36 (0, 0))], [(bc, .cells #[.string t.name, hv, .int .i64 t.state, .int .u32 t.xid, .int .u32 t.addr, .int .u32 t.server, .int .i64 t.until_, .int .i64 t.one, .int .i64 t.two, .bool false, .int .i64 (t.tries + 1), .int .i64 now, .int .i64 t.asks] 67 (0, 0))], s8]) rfl ?_
     refine Run.store (s := [(b5, .cells #[.int .i64 1, .int .u32 t.xid, .int .i64 0, .int .i64 0, .int .u32 0, .int .u32 0, .int .u32 0, .int .u32 0, .slice p21 t.hw.length c22, .slice p10 2 c11] 36 (0, 0))]) rfl rfl Cltick_sz36 (i := 0) rfl rfl (le rfl) rfl rfl ?_
     refine Run.to_end ?_
     refine Ex.end_block ?_
     refine Ex.go ?_
     refine Tr.seq ?_
     refine Tr.region ?_
     refine Run.val (lt rfl) (Y.loadAgg rfl Cltick_ag36 (Kn.at 0 rfl) rfl) ?_
     refine Run.buildSlice (l := [(0, .tmp 77)]) (r := [.int .i64 1, .int .u32 t.xid, .int .i64 0, .int .i64 0, .int .u32 0, .int .u32 0, .int .u32 0, .int .u32 0, .slice p21 t.hw.length c22, .slice p10 2 c11]) Cltick_es48 Cltick_zo36 rfl (by decide) rfl rfl (by decide) (lt rfl) (fun b23 => ?_)
     refine Run.val (lt rfl) (Y.assign rfl) ?_
     refine Run.val (lt rfl) (Y.assign rfl) ?_
     refine Run.to_end ?_
     refine Ex.go ?_
     refine Tr.to_ret ?_
     refine Ex.keepTo (H' := [s8, [(b23, .cells #[.int .i64 1, .int .u32 t.xid, .int .i64 0, .int .i64 0, .int .u32 0, .int .u32 0, .int .u32 0, .int .u32 0, .slice p21 t.hw.length c22, .slice p10 2 c11] 36 (0, 0))], [(b5, .cells #[.int .i64 1, .int .u32 t.xid, .int .i64 0, .int .i64 0, .int .u32 0, .int .u32 0, .int .u32 0, .int .u32 0, .slice p21 t.hw.length c22, .slice p10 2 c11] 36 (0, 0))], [(bc, .cells #[.string t.name, hv, .int .i64 t.state, .int .u32 t.xid, .int .u32 t.addr, .int .u32 t.server, .int .i64 t.until_, .int .i64 t.one, .int .i64 t.two, .bool false, .int .i64 (t.tries + 1), .int .i64 now, .int .i64 t.asks] 67 (0, 0))]]) [3, 0, 0, 0] rfl ?_
     refine Ex.show (fun V24 hleV24 hshV24 => ?_)
     have hso := hox15.shows _ hshV24
     replace hht := hht.le hleV24
     replace hsx14 := hsx14.le hleV24
     replace hsa16 := hsa16.le hleV24
     replace hsb17 := hsb17.le hleV24
     replace hVle := Vw.le_trans hVle hleV24
     refine Ex.keepTo (H' := [[(b23, .cells #[.int .i64 1, .int .u32 t.xid, .int .i64 0, .int .i64 0, .int .u32 0, .int .u32 0, .int .u32 0, .int .u32 0, .slice p21 t.hw.length c22, .slice p10 2 c11] 36 (0, 0))], [(b5, .cells #[.int .i64 1, .int .u32 t.xid, .int .i64 0, .int .i64 0, .int .u32 0, .int .u32 0, .int .u32 0, .int .u32 0, .slice p21 t.hw.length c22, .slice p10 2 c11] 36 (0, 0))], [(bc, .cells #[.string t.name, hv, .int .i64 t.state, .int .u32 t.xid, .int .u32 t.addr, .int .u32 t.server, .int .i64 t.until_, .int .i64 t.one, .int .i64 t.two, .bool false, .int .i64 (t.tries + 1), .int .i64 now, .int .i64 t.asks] 67 (0, 0))]]) [0, 0, 0] rfl ?_
     refine Ex.show (fun V25 hleV25 hshV25 => ?_)
     have hpk := (Ow.lit (e := 36) (k := 10) (b := b23) (n := 1) (cur := #[.int .i64 1, .int .u32 t.xid, .int .i64 0, .int .i64 0, .int .u32 0, .int .u32 0, .int .u32 0, .int .u32 0, .slice p21 t.hw.length c22, .slice p10 2 c11]) rfl (by decide)).shows _ hshV25
     replace hht := hht.le hleV25
     replace hsx14 := hsx14.le hleV25
     replace hsa16 := hsa16.le hleV25
     replace hsb17 := hsb17.le hleV25
     replace hso := hso.le hleV25
     replace hVle := Vw.le_trans hVle hleV25
     have hpb := hshV25 _ _ lookup_one
     refine Ex.keep [1] ?_
     have hkp : Pc.Rk 36 V25 (.slice (some ⟨b23, 0, none⟩) 1 1) [Cli.sayP t] := by
       rw [Cli.sayP_1 g6]
       exact ⟨_, .slice p21 t.hw.length c22, .slice p10 2 c11, rfl, hpb, Cli.Said_R (c := t) (kind := 1) hsx14 hso hsa16 hsb17 hit.xid⟩
     exact Ex.ret2 rfl rfl rfl  ⟨hVle, by rw [(Cli.tick_y (c := c) h1 g2 (by rw [← ht]; exact h4)).1, ← ht, Cli.sayC_n (by omega)]; try rfl, _, by rw [(Cli.tick_y (c := c) h1 g2 (by rw [← ht]; exact h4)).2.1], by rw [(Cli.tick_y (c := c) h1 g2 (by rw [← ht]; exact h4)).2.2, ← ht]; exact hkp⟩
    ·have g6 := h6
     try simp only [kb] at g6
     refine Tr.cond_f rfl h6 ?_
     refine Tr.seq ?_
     refine Tr.region ?_
     refine Run.val (lt rfl) (Y.int rfl rfl rfl) ?_
     refine Run.val (lt rfl) (Y.assign rfl) ?_
     refine Run.to_end ?_
     refine Ex.go ?_
     rcases Bool.eq_false_or_eq_true (t.state == 2) with h26 | h26
     ·have g26 := h26
      try simp only [kb] at g26
      refine Tr.cond_t rfl h26 ?_
      refine Tr.seq ?_
      refine Tr.seq ?_
      refine Tr.region ?_
      refine Run.val (lt rfl) (Y.move rfl) ?_
      refine Run.val (lt rfl) (Y.nilCheck rfl) ?_
      refine Run.val (lt rfl) (Y.fieldAddr rfl Cltick_fo67_10) ?_
      refine Run.val (lt rfl) (Y.load rfl Cltick_ts3 (Kn.at 1 rfl) rfl) ?_
      refine Run.val (lt rfl) (Y.int rfl rfl rfl) ?_
      refine Run.to_end ?_
      refine Ex.go ?_
      rcases Bool.eq_false_or_eq_true ((t.tries + 1) == 1) with h27 | h27
      ·have g27 := h27
       try simp only [kb] at g27
       refine Tr.cond_t rfl h27 ?_
       refine Tr.region ?_
       refine Run.val (lt rfl) (Y.move rfl) ?_
       refine Run.val (lt rfl) (Y.move rfl) ?_
       refine Run.val (lt rfl) (Y.nilCheck rfl) ?_
       refine Run.val (lt rfl) (Y.fieldAddr rfl Cltick_fo67_12) ?_
       refine Run.store (s := [(bc, .cells #[.string t.name, hv, .int .i64 t.state, .int .u32 t.xid, .int .u32 t.addr, .int .u32 t.server, .int .i64 t.until_, .int .i64 t.one, .int .i64 t.two, .bool false, .int .i64 (t.tries + 1), .int .i64 now, .int .i64 now] 67 (0, 0))]) rfl rfl Cltick_sz3 (i := 1) rfl rfl (le rfl) rfl rfl ?_
       refine Run.to_end ?_
       refine Ex.go ?_
       refine Tr.seq ?_
       refine Tr.region ?_
       refine Run.val (lt rfl) (Y.move rfl) ?_
       refine Run.call [1] (l := [.tmp 63, .const (.int .i64 3)]) rfl rfl rfl (lt rfl) (says_c_h (c := (⟨t.name, t.hw, t.state, t.xid, t.addr, t.server, t.until_, t.one, t.two, false, t.tries + 1, now, now⟩ : Cli)) (kind := 3) hht hhl.2) (fun v28 V2 H2 hle39 hR => ?_)
       obtain ⟨_, s29, rfl, w41, p31, c32, d33, d34, rfl, hsx35, hox36, hsa37, hsb38⟩ := hR
       obtain ⟨p42, c43, rfl, _⟩ := hsx35.form
       obtain ⟨Vs40, hVe⟩ : ∃ V3 : Vw, V3 = V2 := ⟨_, rfl⟩
       subst hVe
       replace hht := hht.le hle39
       have hVle := hle39
       refine Run.heapTo (H' := [[(b5, .cells #[.int .i64 0, .int .u32 0, .int .i64 0, .int .i64 0, .int .u32 0, .int .u32 0, .int .u32 0, .int .u32 0, .slice none 0 0, .slice none 0 0] 36 (0, 0))], [(bc, .cells #[.string t.name, hv, .int .i64 t.state, .int .u32 t.xid, .int .u32 t.addr, .int .u32 t.server, .int .i64 t.until_, .int .i64 t.one, .int .i64 t.two, .bool false, .int .i64 (t.tries + 1), .int .i64 now, .int .i64 now] 67 (0, 0))], s29]) rfl ?_
       refine Run.store (s := [(b5, .cells #[.int .i64 1, .int .u32 t.xid, .int .i64 0, .int .i64 0, .int .u32 0, .int .u32 0, .int .u32 0, .int .u32 0, .slice p42 t.hw.length c43, .slice p31 2 c32] 36 (0, 0))]) rfl rfl Cltick_sz36 (i := 0) rfl rfl (le rfl) rfl rfl ?_
       refine Run.to_end ?_
       refine Ex.go ?_
       refine Tr.anyD [(bc, .cells #[.string t.name, hv, .int .i64 t.state, .int .u32 t.xid, .int .u32 t.addr, .int .u32 t.server, .int .i64 t.until_, .int .i64 t.one, .int .i64 t.two, .bool false, .int .i64 (t.tries + 1), .int .i64 now, .int .i64 now] 67 (0, 0))] Cltick_mo ?_
       refine RunD.pure (i := 0) rfl (by kernel_rfl) (by kernel_rfl) (by kernel_rfl) (fun _ _ _ h => h) (lt rfl) (KnAll.cons (Kn.at 1 rfl) KnAll.nil) (fun _ => (Y.move rfl)) ?_
       refine RunD.pure (i := 1) rfl (by kernel_rfl) (by kernel_rfl) (by kernel_rfl) (fun _ _ _ h => h) (lt rfl) (KnAll.cons (Kn.at 1 rfl) KnAll.nil) (fun _ => (Y.nilCheck rfl)) ?_
       refine RunD.pure (i := 2) rfl (by kernel_rfl) (by kernel_rfl) (by kernel_rfl) (fun _ _ _ h => h) (lt rfl) (KnAll.cons (Kn.at 1 rfl) KnAll.nil) (fun _ => (Y.fieldAddr rfl Cltick_fo67_4)) ?_
       refine RunD.take (i := 3) 0 rfl rfl (by kernel_rfl) (by kernel_rfl) (by kernel_rfl) (fun _ _ _ h => h) (lt rfl) (KnAll.cons (Kn.at 1 rfl) KnAll.nil) (fun _ => (Y.load rfl Cltick_ts33 Kn.vk1 rfl)) ?_
       refine RunD.pure (i := 5) rfl (by kernel_rfl) (by kernel_rfl) (by kernel_rfl) (fun _ _ _ h => h) (lt rfl) (KnAll.cons (Kn.at 1 rfl) KnAll.nil) (fun _ => (Y.move rfl)) ?_
       refine RunD.pure (i := 6) rfl (by kernel_rfl) (by kernel_rfl) (by kernel_rfl) (fun _ _ _ h => h) (lt rfl) (KnAll.cons (Kn.at 1 rfl) KnAll.nil) (fun _ => (Y.nilCheck rfl)) ?_
       refine RunD.pure (i := 7) rfl (by kernel_rfl) (by kernel_rfl) (by kernel_rfl) (fun _ _ _ h => h) (lt rfl) (KnAll.cons (Kn.at 1 rfl) KnAll.nil) (fun _ => (Y.fieldAddr rfl Cltick_fo67_5)) ?_
       refine RunD.take (i := 8) 0 rfl rfl (by kernel_rfl) (by kernel_rfl) (by kernel_rfl) (fun _ _ _ h => h) (lt rfl) (KnAll.cons (Kn.at 1 rfl) KnAll.nil) (fun _ => (Y.load rfl Cltick_ts33 Kn.vk1 rfl)) ?_
       refine RunD.one (i := 4) (by kernel_rfl) rfl  ?_ 
       refine Run.call [] (l := [.const (.int .i64 50), .tmp 68]) rfl rfl rfl (lt rfl) (long_c (n := t.addr) (code := 50) hit.addr) (fun v44 V2 H2 _ hR => ?_)
       obtain ⟨hV, z45, s46, rfl, rfl, hol47⟩ := hR; replace hV := hV.symm; subst hV; obtain ⟨p48, c49, rfl⟩ := hol47.form
       refine Run.heapTo (H' := [[(b5, .cells #[.int .i64 1, .int .u32 t.xid, .int .i64 0, .int .i64 0, .int .u32 0, .int .u32 0, .int .u32 0, .int .u32 0, .slice p42 t.hw.length c43, .slice p31 2 c32] 36 (0, 0))], [(bc, .cells #[.string t.name, hv, .int .i64 t.state, .int .u32 t.xid, .int .u32 t.addr, .int .u32 t.server, .int .i64 t.until_, .int .i64 t.one, .int .i64 t.two, .bool false, .int .i64 (t.tries + 1), .int .i64 now, .int .i64 now] 67 (0, 0))], s29, s46]) rfl ?_
       refine Run.to_end ?_
       refine Ex.anyD (KnAll.cons (Kn.at 1 rfl) KnAll.nil) ?_
       refine RunD.one (i := 9) (by kernel_rfl) rfl  ?_ 
       refine Run.call [] (l := [.const (.int .i64 54), .tmp 73]) rfl rfl rfl (lt rfl) (long_c (n := t.server) (code := 54) hit.server) (fun v50 V2 H2 _ hR => ?_)
       obtain ⟨hV, z51, s52, rfl, rfl, hol53⟩ := hR; replace hV := hV.symm; subst hV; obtain ⟨p54, c55, rfl⟩ := hol53.form
       refine Run.heapTo (H' := [[(b5, .cells #[.int .i64 1, .int .u32 t.xid, .int .i64 0, .int .i64 0, .int .u32 0, .int .u32 0, .int .u32 0, .int .u32 0, .slice p42 t.hw.length c43, .slice p31 2 c32] 36 (0, 0))], [(bc, .cells #[.string t.name, hv, .int .i64 t.state, .int .u32 t.xid, .int .u32 t.addr, .int .u32 t.server, .int .i64 t.until_, .int .i64 t.one, .int .i64 t.two, .bool false, .int .i64 (t.tries + 1), .int .i64 now, .int .i64 now] 67 (0, 0))], s29, s46, s52]) rfl ?_
       refine Run.to_end ?_
       refine Ex.anyD (KnAll.cons (Kn.at 1 rfl) KnAll.nil) ?_
       refine RunD.one (i := 10) (by kernel_rfl) rfl  ?_ 
       refine Run.buildSlice (l := [(0, .tmp 69), (1, .tmp 74)]) (r := [.int .i64 50, .slice p48 4 c49, .int .i64 54, .slice p54 4 c55]) Cltick_es34 Cltick_zo76 rfl (by decide) rfl rfl (by decide) (lt rfl) (fun b56 => ?_)
       refine Run.to_end ?_
       refine Ex.anyD (KnAll.cons (Kn.at 2 rfl) KnAll.nil) ?_
       refine RunD.one (i := 11) (by kernel_rfl) rfl  ?_ 
       refine Run.call [1, 2, 0] (l := [.tmp 6, .tmp 75]) rfl rfl rfl (lt rfl) (put_c (n := 2) (xs := [.int .i64 53, d33, .int .i64 61, d34]) hox36 (by omega)) (fun v57 V2 H2 _ hR => ?_)
       obtain ⟨hV, rfl, p58, c59, s60, rfl, ho61⟩ := hR; replace hV := hV.symm; subst hV
       refine Run.heapTo (H' := [[(bc, .cells #[.string t.name, hv, .int .i64 t.state, .int .u32 t.xid, .int .u32 t.addr, .int .u32 t.server, .int .i64 t.until_, .int .i64 t.one, .int .i64 t.two, .bool false, .int .i64 (t.tries + 1), .int .i64 now, .int .i64 now] 67 (0, 0))], s46, s52, [(b5, .cells #[.int .i64 1, .int .u32 t.xid, .int .i64 0, .int .i64 0, .int .u32 0, .int .u32 0, .int .u32 0, .int .u32 0, .slice p42 t.hw.length c43, .slice p58 (2 + 2) c59] 36 (0, 0))], s60]) rfl ?_
       refine Run.to_end ?_
       refine Ex.anyD (KnAll.cons (Kn.at 0 rfl) KnAll.nil) ?_
       refine RunD.done (by kernel_rfl) ?_
       refine Ex.end_block ?_
       refine Ex.go ?_
       refine Tr.seq ?_
       refine Tr.region ?_
       refine Run.val (lt rfl) (Y.loadAgg rfl Cltick_ag36 (Kn.at 3 rfl) rfl) ?_
       refine Run.buildSlice (l := [(0, .tmp 77)]) (r := [.int .i64 1, .int .u32 t.xid, .int .i64 0, .int .i64 0, .int .u32 0, .int .u32 0, .int .u32 0, .int .u32 0, .slice p42 t.hw.length c43, .slice p58 (2 + 2) c59]) Cltick_es48 Cltick_zo36 rfl (by decide) rfl rfl (by decide) (lt rfl) (fun b62 => ?_)
       refine Run.val (lt rfl) (Y.assign rfl) ?_
       refine Run.val (lt rfl) (Y.assign rfl) ?_
       refine Run.to_end ?_
       refine Ex.go ?_
       refine Tr.to_ret ?_
       refine Ex.keepTo (H' := [s46, [(b62, .cells #[.int .i64 1, .int .u32 t.xid, .int .i64 0, .int .i64 0, .int .u32 0, .int .u32 0, .int .u32 0, .int .u32 0, .slice p42 t.hw.length c43, .slice p58 (2 + 2) c59] 36 (0, 0))], [(bc, .cells #[.string t.name, hv, .int .i64 t.state, .int .u32 t.xid, .int .u32 t.addr, .int .u32 t.server, .int .i64 t.until_, .int .i64 t.one, .int .i64 t.two, .bool false, .int .i64 (t.tries + 1), .int .i64 now, .int .i64 now] 67 (0, 0))], s52, [(b5, .cells #[.int .i64 1, .int .u32 t.xid, .int .i64 0, .int .i64 0, .int .u32 0, .int .u32 0, .int .u32 0, .int .u32 0, .slice p42 t.hw.length c43, .slice p58 (2 + 2) c59] 36 (0, 0))], s60]) [2, 0, 0, 0, 0, 0] rfl ?_
       refine Ex.show (fun V63 hleV63 hshV63 => ?_)
       have hn3 := hol47.shows _ hshV63
       replace hht := hht.le hleV63
       replace hsx35 := hsx35.le hleV63
       replace hsa37 := hsa37.le hleV63
       replace hsb38 := hsb38.le hleV63
       replace hVle := Vw.le_trans hVle hleV63
       refine Ex.keepTo (H' := [s52, [(b62, .cells #[.int .i64 1, .int .u32 t.xid, .int .i64 0, .int .i64 0, .int .u32 0, .int .u32 0, .int .u32 0, .int .u32 0, .slice p42 t.hw.length c43, .slice p58 (2 + 2) c59] 36 (0, 0))], [(bc, .cells #[.string t.name, hv, .int .i64 t.state, .int .u32 t.xid, .int .u32 t.addr, .int .u32 t.server, .int .i64 t.until_, .int .i64 t.one, .int .i64 t.two, .bool false, .int .i64 (t.tries + 1), .int .i64 now, .int .i64 now] 67 (0, 0))], [(b5, .cells #[.int .i64 1, .int .u32 t.xid, .int .i64 0, .int .i64 0, .int .u32 0, .int .u32 0, .int .u32 0, .int .u32 0, .slice p42 t.hw.length c43, .slice p58 (2 + 2) c59] 36 (0, 0))], s60]) [2, 0, 0, 0, 0] rfl ?_
       refine Ex.show (fun V64 hleV64 hshV64 => ?_)
       have hn4 := hol53.shows _ hshV64
       replace hht := hht.le hleV64
       replace hsx35 := hsx35.le hleV64
       replace hsa37 := hsa37.le hleV64
       replace hsb38 := hsb38.le hleV64
       replace hn3 := hn3.le hleV64
       replace hVle := Vw.le_trans hVle hleV64
       refine Ex.keepTo (H' := [s60, [(b62, .cells #[.int .i64 1, .int .u32 t.xid, .int .i64 0, .int .i64 0, .int .u32 0, .int .u32 0, .int .u32 0, .int .u32 0, .slice p42 t.hw.length c43, .slice p58 (2 + 2) c59] 36 (0, 0))], [(bc, .cells #[.string t.name, hv, .int .i64 t.state, .int .u32 t.xid, .int .u32 t.addr, .int .u32 t.server, .int .i64 t.until_, .int .i64 t.one, .int .i64 t.two, .bool false, .int .i64 (t.tries + 1), .int .i64 now, .int .i64 now] 67 (0, 0))], [(b5, .cells #[.int .i64 1, .int .u32 t.xid, .int .i64 0, .int .i64 0, .int .u32 0, .int .u32 0, .int .u32 0, .int .u32 0, .slice p42 t.hw.length c43, .slice p58 (2 + 2) c59] 36 (0, 0))]]) [3, 0, 0, 0] rfl ?_
       refine Ex.show (fun V65 hleV65 hshV65 => ?_)
       have hso := ho61.shows _ hshV65
       replace hht := hht.le hleV65
       replace hsx35 := hsx35.le hleV65
       replace hsa37 := hsa37.le hleV65
       replace hsb38 := hsb38.le hleV65
       replace hn3 := hn3.le hleV65
       replace hn4 := hn4.le hleV65
       replace hVle := Vw.le_trans hVle hleV65
       refine Ex.keepTo (H' := [[(b62, .cells #[.int .i64 1, .int .u32 t.xid, .int .i64 0, .int .i64 0, .int .u32 0, .int .u32 0, .int .u32 0, .int .u32 0, .slice p42 t.hw.length c43, .slice p58 (2 + 2) c59] 36 (0, 0))], [(bc, .cells #[.string t.name, hv, .int .i64 t.state, .int .u32 t.xid, .int .u32 t.addr, .int .u32 t.server, .int .i64 t.until_, .int .i64 t.one, .int .i64 t.two, .bool false, .int .i64 (t.tries + 1), .int .i64 now, .int .i64 now] 67 (0, 0))], [(b5, .cells #[.int .i64 1, .int .u32 t.xid, .int .i64 0, .int .i64 0, .int .u32 0, .int .u32 0, .int .u32 0, .int .u32 0, .slice p42 t.hw.length c43, .slice p58 (2 + 2) c59] 36 (0, 0))]]) [0, 0, 0] rfl ?_
       refine Ex.show (fun V66 hleV66 hshV66 => ?_)
       have hpk := (Ow.lit (e := 36) (k := 10) (b := b62) (n := 1) (cur := #[.int .i64 1, .int .u32 t.xid, .int .i64 0, .int .i64 0, .int .u32 0, .int .u32 0, .int .u32 0, .int .u32 0, .slice p42 t.hw.length c43, .slice p58 (2 + 2) c59]) rfl (by decide)).shows _ hshV66
       replace hht := hht.le hleV66
       replace hsx35 := hsx35.le hleV66
       replace hsa37 := hsa37.le hleV66
       replace hsb38 := hsb38.le hleV66
       replace hn3 := hn3.le hleV66
       replace hn4 := hn4.le hleV66
       replace hso := hso.le hleV66
       replace hVle := Vw.le_trans hVle hleV66
       have hpb := hshV66 _ _ lookup_one
       refine Ex.keep [0] ?_
       have hkp : Pc.Rk 36 V66 (.slice (some ⟨b62, 0, none⟩) 1 1) [Cli.sayP t] := by
         rw [Cli.sayP_2 g6 g26]
         exact ⟨_, .slice p42 t.hw.length c43, .slice p58 (2 + 2) c59, rfl, hpb, Cli.Said_R4 (c := t) (kind := 3) hsx35 hso hsa37 hsb38 hn3 hn4 hit.xid⟩
       exact Ex.ret2 rfl rfl rfl  ⟨hVle, by rw [(Cli.tick_y (c := c) h1 g2 (by rw [← ht]; exact h4)).1, ← ht, Cli.sayC_y ⟨g26, g27⟩]; try rfl, _, by rw [(Cli.tick_y (c := c) h1 g2 (by rw [← ht]; exact h4)).2.1], by rw [(Cli.tick_y (c := c) h1 g2 (by rw [← ht]; exact h4)).2.2, ← ht]; exact hkp⟩
      ·have g27 := h27
       try simp only [kb] at g27
       refine Tr.cond_f rfl h27 ?_
       refine Tr.to_end ?_
       refine Ex.go ?_
       refine Tr.seq ?_
       refine Tr.region ?_
       refine Run.val (lt rfl) (Y.move rfl) ?_
       refine Run.call [1] (l := [.tmp 63, .const (.int .i64 3)]) rfl rfl rfl (lt rfl) (says_c_h (c := (⟨t.name, t.hw, t.state, t.xid, t.addr, t.server, t.until_, t.one, t.two, false, t.tries + 1, now, t.asks⟩ : Cli)) (kind := 3) hht hhl.2) (fun v67 V2 H2 hle78 hR => ?_)
       obtain ⟨_, s68, rfl, w80, p70, c71, d72, d73, rfl, hsx74, hox75, hsa76, hsb77⟩ := hR
       obtain ⟨p81, c82, rfl, _⟩ := hsx74.form
       obtain ⟨Vs79, hVe⟩ : ∃ V3 : Vw, V3 = V2 := ⟨_, rfl⟩
       subst hVe
       replace hht := hht.le hle78
       have hVle := hle78
       refine Run.heapTo (H' := [[(b5, .cells #[.int .i64 0, .int .u32 0, .int .i64 0, .int .i64 0, .int .u32 0, .int .u32 0, .int .u32 0, .int .u32 0, .slice none 0 0, .slice none 0 0] 36 (0, 0))], [(bc, .cells #[.string t.name, hv, .int .i64 t.state, .int .u32 t.xid, .int .u32 t.addr, .int .u32 t.server, .int .i64 t.until_, .int .i64 t.one, .int .i64 t.two, .bool false, .int .i64 (t.tries + 1), .int .i64 now, .int .i64 t.asks] 67 (0, 0))], s68]) rfl ?_
       refine Run.store (s := [(b5, .cells #[.int .i64 1, .int .u32 t.xid, .int .i64 0, .int .i64 0, .int .u32 0, .int .u32 0, .int .u32 0, .int .u32 0, .slice p81 t.hw.length c82, .slice p70 2 c71] 36 (0, 0))]) rfl rfl Cltick_sz36 (i := 0) rfl rfl (le rfl) rfl rfl ?_
       refine Run.to_end ?_
       refine Ex.go ?_
       refine Tr.anyD [(bc, .cells #[.string t.name, hv, .int .i64 t.state, .int .u32 t.xid, .int .u32 t.addr, .int .u32 t.server, .int .i64 t.until_, .int .i64 t.one, .int .i64 t.two, .bool false, .int .i64 (t.tries + 1), .int .i64 now, .int .i64 t.asks] 67 (0, 0))] Cltick_mo ?_
       refine RunD.pure (i := 0) rfl (by kernel_rfl) (by kernel_rfl) (by kernel_rfl) (fun _ _ _ h => h) (lt rfl) (KnAll.cons (Kn.at 1 rfl) KnAll.nil) (fun _ => (Y.move rfl)) ?_
       refine RunD.pure (i := 1) rfl (by kernel_rfl) (by kernel_rfl) (by kernel_rfl) (fun _ _ _ h => h) (lt rfl) (KnAll.cons (Kn.at 1 rfl) KnAll.nil) (fun _ => (Y.nilCheck rfl)) ?_
       refine RunD.pure (i := 2) rfl (by kernel_rfl) (by kernel_rfl) (by kernel_rfl) (fun _ _ _ h => h) (lt rfl) (KnAll.cons (Kn.at 1 rfl) KnAll.nil) (fun _ => (Y.fieldAddr rfl Cltick_fo67_4)) ?_
       refine RunD.take (i := 3) 0 rfl rfl (by kernel_rfl) (by kernel_rfl) (by kernel_rfl) (fun _ _ _ h => h) (lt rfl) (KnAll.cons (Kn.at 1 rfl) KnAll.nil) (fun _ => (Y.load rfl Cltick_ts33 Kn.vk1 rfl)) ?_
       refine RunD.pure (i := 5) rfl (by kernel_rfl) (by kernel_rfl) (by kernel_rfl) (fun _ _ _ h => h) (lt rfl) (KnAll.cons (Kn.at 1 rfl) KnAll.nil) (fun _ => (Y.move rfl)) ?_
       refine RunD.pure (i := 6) rfl (by kernel_rfl) (by kernel_rfl) (by kernel_rfl) (fun _ _ _ h => h) (lt rfl) (KnAll.cons (Kn.at 1 rfl) KnAll.nil) (fun _ => (Y.nilCheck rfl)) ?_
       refine RunD.pure (i := 7) rfl (by kernel_rfl) (by kernel_rfl) (by kernel_rfl) (fun _ _ _ h => h) (lt rfl) (KnAll.cons (Kn.at 1 rfl) KnAll.nil) (fun _ => (Y.fieldAddr rfl Cltick_fo67_5)) ?_
       refine RunD.take (i := 8) 0 rfl rfl (by kernel_rfl) (by kernel_rfl) (by kernel_rfl) (fun _ _ _ h => h) (lt rfl) (KnAll.cons (Kn.at 1 rfl) KnAll.nil) (fun _ => (Y.load rfl Cltick_ts33 Kn.vk1 rfl)) ?_
       refine RunD.one (i := 4) (by kernel_rfl) rfl  ?_ 
       refine Run.call [] (l := [.const (.int .i64 50), .tmp 68]) rfl rfl rfl (lt rfl) (long_c (n := t.addr) (code := 50) hit.addr) (fun v83 V2 H2 _ hR => ?_)
       obtain ⟨hV, z84, s85, rfl, rfl, hol86⟩ := hR; replace hV := hV.symm; subst hV; obtain ⟨p87, c88, rfl⟩ := hol86.form
       refine Run.heapTo (H' := [[(b5, .cells #[.int .i64 1, .int .u32 t.xid, .int .i64 0, .int .i64 0, .int .u32 0, .int .u32 0, .int .u32 0, .int .u32 0, .slice p81 t.hw.length c82, .slice p70 2 c71] 36 (0, 0))], [(bc, .cells #[.string t.name, hv, .int .i64 t.state, .int .u32 t.xid, .int .u32 t.addr, .int .u32 t.server, .int .i64 t.until_, .int .i64 t.one, .int .i64 t.two, .bool false, .int .i64 (t.tries + 1), .int .i64 now, .int .i64 t.asks] 67 (0, 0))], s68, s85]) rfl ?_
       refine Run.to_end ?_
       refine Ex.anyD (KnAll.cons (Kn.at 1 rfl) KnAll.nil) ?_
       refine RunD.one (i := 9) (by kernel_rfl) rfl  ?_ 
       refine Run.call [] (l := [.const (.int .i64 54), .tmp 73]) rfl rfl rfl (lt rfl) (long_c (n := t.server) (code := 54) hit.server) (fun v89 V2 H2 _ hR => ?_)
       obtain ⟨hV, z90, s91, rfl, rfl, hol92⟩ := hR; replace hV := hV.symm; subst hV; obtain ⟨p93, c94, rfl⟩ := hol92.form
       refine Run.heapTo (H' := [[(b5, .cells #[.int .i64 1, .int .u32 t.xid, .int .i64 0, .int .i64 0, .int .u32 0, .int .u32 0, .int .u32 0, .int .u32 0, .slice p81 t.hw.length c82, .slice p70 2 c71] 36 (0, 0))], [(bc, .cells #[.string t.name, hv, .int .i64 t.state, .int .u32 t.xid, .int .u32 t.addr, .int .u32 t.server, .int .i64 t.until_, .int .i64 t.one, .int .i64 t.two, .bool false, .int .i64 (t.tries + 1), .int .i64 now, .int .i64 t.asks] 67 (0, 0))], s68, s85, s91]) rfl ?_
       refine Run.to_end ?_
       refine Ex.anyD (KnAll.cons (Kn.at 1 rfl) KnAll.nil) ?_
       refine RunD.one (i := 10) (by kernel_rfl) rfl  ?_ 
       refine Run.buildSlice (l := [(0, .tmp 69), (1, .tmp 74)]) (r := [.int .i64 50, .slice p87 4 c88, .int .i64 54, .slice p93 4 c94]) Cltick_es34 Cltick_zo76 rfl (by decide) rfl rfl (by decide) (lt rfl) (fun b95 => ?_)
       refine Run.to_end ?_
       refine Ex.anyD (KnAll.cons (Kn.at 2 rfl) KnAll.nil) ?_
       refine RunD.one (i := 11) (by kernel_rfl) rfl  ?_ 
       refine Run.call [1, 2, 0] (l := [.tmp 6, .tmp 75]) rfl rfl rfl (lt rfl) (put_c (n := 2) (xs := [.int .i64 53, d72, .int .i64 61, d73]) hox75 (by omega)) (fun v96 V2 H2 _ hR => ?_)
       obtain ⟨hV, rfl, p97, c98, s99, rfl, ho100⟩ := hR; replace hV := hV.symm; subst hV
       refine Run.heapTo (H' := [[(bc, .cells #[.string t.name, hv, .int .i64 t.state, .int .u32 t.xid, .int .u32 t.addr, .int .u32 t.server, .int .i64 t.until_, .int .i64 t.one, .int .i64 t.two, .bool false, .int .i64 (t.tries + 1), .int .i64 now, .int .i64 t.asks] 67 (0, 0))], s85, s91, [(b5, .cells #[.int .i64 1, .int .u32 t.xid, .int .i64 0, .int .i64 0, .int .u32 0, .int .u32 0, .int .u32 0, .int .u32 0, .slice p81 t.hw.length c82, .slice p97 (2 + 2) c98] 36 (0, 0))], s99]) rfl ?_
       refine Run.to_end ?_
       refine Ex.anyD (KnAll.cons (Kn.at 0 rfl) KnAll.nil) ?_
       refine RunD.done (by kernel_rfl) ?_
       refine Ex.end_block ?_
       refine Ex.go ?_
       refine Tr.seq ?_
       refine Tr.region ?_
       refine Run.val (lt rfl) (Y.loadAgg rfl Cltick_ag36 (Kn.at 3 rfl) rfl) ?_
       refine Run.buildSlice (l := [(0, .tmp 77)]) (r := [.int .i64 1, .int .u32 t.xid, .int .i64 0, .int .i64 0, .int .u32 0, .int .u32 0, .int .u32 0, .int .u32 0, .slice p81 t.hw.length c82, .slice p97 (2 + 2) c98]) Cltick_es48 Cltick_zo36 rfl (by decide) rfl rfl (by decide) (lt rfl) (fun b101 => ?_)
       refine Run.val (lt rfl) (Y.assign rfl) ?_
       refine Run.val (lt rfl) (Y.assign rfl) ?_
       refine Run.to_end ?_
       refine Ex.go ?_
       refine Tr.to_ret ?_
       refine Ex.keepTo (H' := [s85, [(b101, .cells #[.int .i64 1, .int .u32 t.xid, .int .i64 0, .int .i64 0, .int .u32 0, .int .u32 0, .int .u32 0, .int .u32 0, .slice p81 t.hw.length c82, .slice p97 (2 + 2) c98] 36 (0, 0))], [(bc, .cells #[.string t.name, hv, .int .i64 t.state, .int .u32 t.xid, .int .u32 t.addr, .int .u32 t.server, .int .i64 t.until_, .int .i64 t.one, .int .i64 t.two, .bool false, .int .i64 (t.tries + 1), .int .i64 now, .int .i64 t.asks] 67 (0, 0))], s91, [(b5, .cells #[.int .i64 1, .int .u32 t.xid, .int .i64 0, .int .i64 0, .int .u32 0, .int .u32 0, .int .u32 0, .int .u32 0, .slice p81 t.hw.length c82, .slice p97 (2 + 2) c98] 36 (0, 0))], s99]) [2, 0, 0, 0, 0, 0] rfl ?_
       refine Ex.show (fun V102 hleV102 hshV102 => ?_)
       have hn3 := hol86.shows _ hshV102
       replace hht := hht.le hleV102
       replace hsx74 := hsx74.le hleV102
       replace hsa76 := hsa76.le hleV102
       replace hsb77 := hsb77.le hleV102
       replace hVle := Vw.le_trans hVle hleV102
       refine Ex.keepTo (H' := [s91, [(b101, .cells #[.int .i64 1, .int .u32 t.xid, .int .i64 0, .int .i64 0, .int .u32 0, .int .u32 0, .int .u32 0, .int .u32 0, .slice p81 t.hw.length c82, .slice p97 (2 + 2) c98] 36 (0, 0))], [(bc, .cells #[.string t.name, hv, .int .i64 t.state, .int .u32 t.xid, .int .u32 t.addr, .int .u32 t.server, .int .i64 t.until_, .int .i64 t.one, .int .i64 t.two, .bool false, .int .i64 (t.tries + 1), .int .i64 now, .int .i64 t.asks] 67 (0, 0))], [(b5, .cells #[.int .i64 1, .int .u32 t.xid, .int .i64 0, .int .i64 0, .int .u32 0, .int .u32 0, .int .u32 0, .int .u32 0, .slice p81 t.hw.length c82, .slice p97 (2 + 2) c98] 36 (0, 0))], s99]) [2, 0, 0, 0, 0] rfl ?_
       refine Ex.show (fun V103 hleV103 hshV103 => ?_)
       have hn4 := hol92.shows _ hshV103
       replace hht := hht.le hleV103
       replace hsx74 := hsx74.le hleV103
       replace hsa76 := hsa76.le hleV103
       replace hsb77 := hsb77.le hleV103
       replace hn3 := hn3.le hleV103
       replace hVle := Vw.le_trans hVle hleV103
       refine Ex.keepTo (H' := [s99, [(b101, .cells #[.int .i64 1, .int .u32 t.xid, .int .i64 0, .int .i64 0, .int .u32 0, .int .u32 0, .int .u32 0, .int .u32 0, .slice p81 t.hw.length c82, .slice p97 (2 + 2) c98] 36 (0, 0))], [(bc, .cells #[.string t.name, hv, .int .i64 t.state, .int .u32 t.xid, .int .u32 t.addr, .int .u32 t.server, .int .i64 t.until_, .int .i64 t.one, .int .i64 t.two, .bool false, .int .i64 (t.tries + 1), .int .i64 now, .int .i64 t.asks] 67 (0, 0))], [(b5, .cells #[.int .i64 1, .int .u32 t.xid, .int .i64 0, .int .i64 0, .int .u32 0, .int .u32 0, .int .u32 0, .int .u32 0, .slice p81 t.hw.length c82, .slice p97 (2 + 2) c98] 36 (0, 0))]]) [3, 0, 0, 0] rfl ?_
       refine Ex.show (fun V104 hleV104 hshV104 => ?_)
       have hso := ho100.shows _ hshV104
       replace hht := hht.le hleV104
       replace hsx74 := hsx74.le hleV104
       replace hsa76 := hsa76.le hleV104
       replace hsb77 := hsb77.le hleV104
       replace hn3 := hn3.le hleV104
       replace hn4 := hn4.le hleV104
       replace hVle := Vw.le_trans hVle hleV104
       refine Ex.keepTo (H' := [[(b101, .cells #[.int .i64 1, .int .u32 t.xid, .int .i64 0, .int .i64 0, .int .u32 0, .int .u32 0, .int .u32 0, .int .u32 0, .slice p81 t.hw.length c82, .slice p97 (2 + 2) c98] 36 (0, 0))], [(bc, .cells #[.string t.name, hv, .int .i64 t.state, .int .u32 t.xid, .int .u32 t.addr, .int .u32 t.server, .int .i64 t.until_, .int .i64 t.one, .int .i64 t.two, .bool false, .int .i64 (t.tries + 1), .int .i64 now, .int .i64 t.asks] 67 (0, 0))], [(b5, .cells #[.int .i64 1, .int .u32 t.xid, .int .i64 0, .int .i64 0, .int .u32 0, .int .u32 0, .int .u32 0, .int .u32 0, .slice p81 t.hw.length c82, .slice p97 (2 + 2) c98] 36 (0, 0))]]) [0, 0, 0] rfl ?_
       refine Ex.show (fun V105 hleV105 hshV105 => ?_)
       have hpk := (Ow.lit (e := 36) (k := 10) (b := b101) (n := 1) (cur := #[.int .i64 1, .int .u32 t.xid, .int .i64 0, .int .i64 0, .int .u32 0, .int .u32 0, .int .u32 0, .int .u32 0, .slice p81 t.hw.length c82, .slice p97 (2 + 2) c98]) rfl (by decide)).shows _ hshV105
       replace hht := hht.le hleV105
       replace hsx74 := hsx74.le hleV105
       replace hsa76 := hsa76.le hleV105
       replace hsb77 := hsb77.le hleV105
       replace hn3 := hn3.le hleV105
       replace hn4 := hn4.le hleV105
       replace hso := hso.le hleV105
       replace hVle := Vw.le_trans hVle hleV105
       have hpb := hshV105 _ _ lookup_one
       refine Ex.keep [0] ?_
       have hkp : Pc.Rk 36 V105 (.slice (some ⟨b101, 0, none⟩) 1 1) [Cli.sayP t] := by
         rw [Cli.sayP_2 g6 g26]
         exact ⟨_, .slice p81 t.hw.length c82, .slice p97 (2 + 2) c98, rfl, hpb, Cli.Said_R4 (c := t) (kind := 3) hsx74 hso hsa76 hsb77 hn3 hn4 hit.xid⟩
       exact Ex.ret2 rfl rfl rfl  ⟨hVle, by rw [(Cli.tick_y (c := c) h1 g2 (by rw [← ht]; exact h4)).1, ← ht, Cli.sayC_n (by omega)]; try rfl, _, by rw [(Cli.tick_y (c := c) h1 g2 (by rw [← ht]; exact h4)).2.1], by rw [(Cli.tick_y (c := c) h1 g2 (by rw [← ht]; exact h4)).2.2, ← ht]; exact hkp⟩
     ·have g26 := h26
      try simp only [kb] at g26
      refine Tr.cond_f rfl h26 ?_
      refine Tr.seq ?_
      refine Tr.region ?_
      refine Run.val (lt rfl) (Y.move rfl) ?_
      refine Run.call [1] (l := [.tmp 41, .const (.int .i64 3)]) rfl rfl rfl (lt rfl) (says_c_h (c := (⟨t.name, t.hw, t.state, t.xid, t.addr, t.server, t.until_, t.one, t.two, false, t.tries + 1, now, t.asks⟩ : Cli)) (kind := 3) hht hhl.2) (fun v106 V2 H2 hle117 hR => ?_)
      obtain ⟨_, s107, rfl, w119, p109, c110, d111, d112, rfl, hsx113, hox114, hsa115, hsb116⟩ := hR
      obtain ⟨p120, c121, rfl, _⟩ := hsx113.form
      obtain ⟨Vs118, hVe⟩ : ∃ V3 : Vw, V3 = V2 := ⟨_, rfl⟩
      subst hVe
      replace hht := hht.le hle117
      have hVle := hle117
      refine Run.heapTo (H' := [[(b5, .cells #[.int .i64 0, .int .u32 0, .int .i64 0, .int .i64 0, .int .u32 0, .int .u32 0, .int .u32 0, .int .u32 0, .slice none 0 0, .slice none 0 0] 36 (0, 0))], [(bc, .cells #[.string t.name, hv, .int .i64 t.state, .int .u32 t.xid, .int .u32 t.addr, .int .u32 t.server, .int .i64 t.until_, .int .i64 t.one, .int .i64 t.two, .bool false, .int .i64 (t.tries + 1), .int .i64 now, .int .i64 t.asks] 67 (0, 0))], s107]) rfl ?_
      refine Run.store (s := [(b5, .cells #[.int .i64 1, .int .u32 t.xid, .int .i64 0, .int .i64 0, .int .u32 0, .int .u32 0, .int .u32 0, .int .u32 0, .slice p120 t.hw.length c121, .slice p109 2 c110] 36 (0, 0))]) rfl rfl Cltick_sz36 (i := 0) rfl rfl (le rfl) rfl rfl ?_
      refine Run.to_end ?_
      refine Ex.go ?_
      refine Tr.region ?_
      refine Run.val (lt rfl) (Y.move rfl) ?_
      refine Run.val (lt rfl) (Y.nilCheck rfl) ?_
      refine Run.val (lt rfl) (Y.fieldAddr rfl Cltick_fo67_4) ?_
      refine Run.val (lt rfl) (Y.load rfl Cltick_ts33 (Kn.at 1 rfl) rfl) ?_
      refine Run.val (lt rfl) (Y.fieldAddr rfl Cltick_fo36_4) ?_
      refine Run.store (s := [(b5, .cells #[.int .i64 1, .int .u32 t.xid, .int .i64 0, .int .i64 0, .int .u32 t.addr, .int .u32 0, .int .u32 0, .int .u32 0, .slice p120 t.hw.length c121, .slice p109 2 c110] 36 (0, 0))]) rfl rfl Cltick_sz33 (i := 0) rfl rfl (le rfl) rfl rfl ?_
      refine Run.to_end ?_
      refine Ex.end_block ?_
      refine Ex.go ?_
      refine Tr.seq ?_
      refine Tr.region ?_
      refine Run.val (lt rfl) (Y.loadAgg rfl Cltick_ag36 (Kn.at 0 rfl) rfl) ?_
      refine Run.buildSlice (l := [(0, .tmp 77)]) (r := [.int .i64 1, .int .u32 t.xid, .int .i64 0, .int .i64 0, .int .u32 t.addr, .int .u32 0, .int .u32 0, .int .u32 0, .slice p120 t.hw.length c121, .slice p109 2 c110]) Cltick_es48 Cltick_zo36 rfl (by decide) rfl rfl (by decide) (lt rfl) (fun b122 => ?_)
      refine Run.val (lt rfl) (Y.assign rfl) ?_
      refine Run.val (lt rfl) (Y.assign rfl) ?_
      refine Run.to_end ?_
      refine Ex.go ?_
      refine Tr.to_ret ?_
      refine Ex.keepTo (H' := [s107, [(b122, .cells #[.int .i64 1, .int .u32 t.xid, .int .i64 0, .int .i64 0, .int .u32 t.addr, .int .u32 0, .int .u32 0, .int .u32 0, .slice p120 t.hw.length c121, .slice p109 2 c110] 36 (0, 0))], [(b5, .cells #[.int .i64 1, .int .u32 t.xid, .int .i64 0, .int .i64 0, .int .u32 t.addr, .int .u32 0, .int .u32 0, .int .u32 0, .slice p120 t.hw.length c121, .slice p109 2 c110] 36 (0, 0))], [(bc, .cells #[.string t.name, hv, .int .i64 t.state, .int .u32 t.xid, .int .u32 t.addr, .int .u32 t.server, .int .i64 t.until_, .int .i64 t.one, .int .i64 t.two, .bool false, .int .i64 (t.tries + 1), .int .i64 now, .int .i64 t.asks] 67 (0, 0))]]) [3, 0, 0, 0] rfl ?_
      refine Ex.show (fun V123 hleV123 hshV123 => ?_)
      have hso := hox114.shows _ hshV123
      replace hht := hht.le hleV123
      replace hsx113 := hsx113.le hleV123
      replace hsa115 := hsa115.le hleV123
      replace hsb116 := hsb116.le hleV123
      replace hVle := Vw.le_trans hVle hleV123
      refine Ex.keepTo (H' := [[(b122, .cells #[.int .i64 1, .int .u32 t.xid, .int .i64 0, .int .i64 0, .int .u32 t.addr, .int .u32 0, .int .u32 0, .int .u32 0, .slice p120 t.hw.length c121, .slice p109 2 c110] 36 (0, 0))], [(b5, .cells #[.int .i64 1, .int .u32 t.xid, .int .i64 0, .int .i64 0, .int .u32 t.addr, .int .u32 0, .int .u32 0, .int .u32 0, .slice p120 t.hw.length c121, .slice p109 2 c110] 36 (0, 0))], [(bc, .cells #[.string t.name, hv, .int .i64 t.state, .int .u32 t.xid, .int .u32 t.addr, .int .u32 t.server, .int .i64 t.until_, .int .i64 t.one, .int .i64 t.two, .bool false, .int .i64 (t.tries + 1), .int .i64 now, .int .i64 t.asks] 67 (0, 0))]]) [0, 0, 0] rfl ?_
      refine Ex.show (fun V124 hleV124 hshV124 => ?_)
      have hpk := (Ow.lit (e := 36) (k := 10) (b := b122) (n := 1) (cur := #[.int .i64 1, .int .u32 t.xid, .int .i64 0, .int .i64 0, .int .u32 t.addr, .int .u32 0, .int .u32 0, .int .u32 0, .slice p120 t.hw.length c121, .slice p109 2 c110]) rfl (by decide)).shows _ hshV124
      replace hht := hht.le hleV124
      replace hsx113 := hsx113.le hleV124
      replace hsa115 := hsa115.le hleV124
      replace hsb116 := hsb116.le hleV124
      replace hso := hso.le hleV124
      replace hVle := Vw.le_trans hVle hleV124
      have hpb := hshV124 _ _ lookup_one
      refine Ex.keep [1] ?_
      have hkp : Pc.Rk 36 V124 (.slice (some ⟨b122, 0, none⟩) 1 1) [Cli.sayP t] := by
        rw [Cli.sayP_d g6 g26]
        exact ⟨_, .slice p120 t.hw.length c121, .slice p109 2 c110, rfl, hpb, Cli.R_ci (Cli.Said_R (c := t) (kind := 3) hsx113 hso hsa115 hsb116 hit.xid) t.addr⟩
      exact Ex.ret2 rfl rfl rfl  ⟨hVle, by rw [(Cli.tick_y (c := c) h1 g2 (by rw [← ht]; exact h4)).1, ← ht, Cli.sayC_n (by omega)]; try rfl, _, by rw [(Cli.tick_y (c := c) h1 g2 (by rw [← ht]; exact h4)).2.1], by rw [(Cli.tick_y (c := c) h1 g2 (by rw [← ht]; exact h4)).2.2, ← ht]; exact hkp⟩
   ·have g4 := h4
    try simp only [kb] at g4
    refine Tr.cond_t rfl (congrArg Bool.not h4) ?_
    refine Tr.seq ?_
    refine Tr.region ?_
    refine Run.val (lt rfl) (Y.assign rfl) ?_
    refine Run.val (lt rfl) (Y.assign rfl) ?_
    refine Run.to_end ?_
    refine Ex.go ?_
    refine Tr.to_ret ?_
    refine Ex.ret_then ?_
    refine Ex.keep [0] ?_
    exact Ex.ret2 rfl rfl rfl  ⟨Vw.le_refl _, by rw [(Cli.tick_n (c := c) h1 g2 (by rw [← ht]; exact h4)).1, ← ht]; try rfl, _, by rw [(Cli.tick_n (c := c) h1 g2 (by rw [← ht]; exact h4)).2.1], by rw [(Cli.tick_n (c := c) h1 g2 (by rw [← ht]; exact h4)).2.2]; rfl⟩
 ·have g1 := h1
  try simp only [kb] at g1
  refine Tr.cond_t rfl (congrArg Bool.not h1) ?_
  refine Tr.seq ?_
  refine Tr.region ?_
  refine Run.val (lt rfl) (Y.assign rfl) ?_
  refine Run.val (lt rfl) (Y.assign rfl) ?_
  refine Run.to_end ?_
  refine Ex.go ?_
  refine Tr.to_ret ?_
  refine Ex.ret_then ?_
  refine Ex.keep [0] ?_
  exact Ex.ret2 rfl rfl rfl  ⟨Vw.le_refl _, by rw [(Cli.tick_m (c := c) h1).1]; try rfl, _, by rw [(Cli.tick_m (c := c) h1).2.1], by rw [(Cli.tick_m (c := c) h1).2.2]; rfl⟩

set_option maxHeartbeats 1000000 in
theorem rtick_c {V : Vw} {bc : Nat} {c : Cli} {hv : Value} {n now : Int} (hi : Cli.Inv n c) (hn : n ≤ 1000000) (hh : Rd V [] 1 hv c.hw.length (c.hw.map byteV))  : Does Try.prog 17 [.pointer (some ⟨bc, 0, none⟩), .int .i64 now] V [[(bc, .cells (Cli.cells c hv) 44 (0, 0))]] (fun u V' H' => V.le V' ∧ H' = [[(bc, .cells (Cli.cells (Cli.tickC c now) hv) 44 (0, 0))]] ∧ ∃ ps, u = .tuple #[ps, .int .i64 (Cli.tickE now)] ∧ Pc.Rk 36 V' ps (Cli.tickP c now)) := by
 refine Does.intro Try.func17 rfl rfl (le rfl) (fun B => ?_)
 refine Tr.seq ?_
 refine Tr.region ?_
 refine Run.val (lt rfl) (Y.assign rfl) ?_
 refine Run.val (lt rfl) (Y.assign rfl) ?_
 refine Run.to_end ?_
 refine Ex.go ?_
 refine Tr.seq ?_
 refine Tr.region ?_
 refine Run.val (lt rfl) (Y.move rfl) ?_
 refine Run.call0 (l := [.tmp 8]) rfl rfl rfl (lt rfl) rmoment_c_h ?_
 refine Run.val (lt rfl) (Y.assign rfl) ?_
 refine Run.to_end ?_
 refine Ex.go ?_
 refine Tr.seq ?_
 refine Tr.seq ?_
 refine Tr.region ?_
 refine Run.val (lt rfl) (Y.move rfl) ?_
 refine Run.val (lt rfl) (Y.not rfl) ?_
 refine Run.to_end ?_
 refine Ex.go ?_
 rcases Bool.eq_false_or_eq_true (Con.moment now) with h1 | h1
 ·have g1 := h1
  try simp only [kb] at g1
  have hm := (Con.moment_iff now).1 h1
  refine Tr.cond_f rfl (congrArg Bool.not h1) ?_
  refine Tr.to_end ?_
  refine Ex.go ?_
  refine Tr.seq ?_
  refine Tr.seq ?_
  refine Tr.region ?_
  refine Run.val (lt rfl) (Y.move rfl) ?_
  refine Run.val (lt rfl) (Y.nilCheck rfl) ?_
  refine Run.val (lt rfl) (Y.fieldAddr rfl Cltick_fo44_2) ?_
  refine Run.val (lt rfl) (Y.load rfl Cltick_ts3 (Kn.at 0 rfl) rfl) ?_
  refine Run.val (lt rfl) (Y.int rfl rfl rfl) ?_
  refine Run.to_end ?_
  refine Ex.go ?_
  rcases Bool.eq_false_or_eq_true (c.state == 6) with h2 | h2
  ·have g2 := h2
   try simp only [kb] at g2
   refine Tr.cond_t rfl h2 ?_
   refine Tr.seq ?_
   refine Tr.region ?_
   refine Run.val (lt rfl) (Y.assign rfl) ?_
   refine Run.val (lt rfl) (Y.assign rfl) ?_
   refine Run.to_end ?_
   refine Ex.go ?_
   refine Tr.to_ret ?_
   refine Ex.ret_then ?_
   refine Ex.keep [0] ?_
   exact Ex.ret2 rfl rfl rfl  ⟨Vw.le_refl _, by rw [(Cli.tick_6 (c := c) h1 g2).1]; try rfl, _, by rw [(Cli.tick_6 (c := c) h1 g2).2.1], by rw [(Cli.tick_6 (c := c) h1 g2).2.2]; rfl⟩
  ·have g2 := h2
   try simp only [kb] at g2
   refine Tr.cond_f rfl h2 ?_
   refine Tr.to_end ?_
   refine Ex.go ?_
   refine Tr.seq ?_
   refine Tr.region ?_
   refine Run.val (lt rfl) (Y.move rfl) ?_
   refine Run.val (lt rfl) (Y.move rfl) ?_
   refine Run.call [0] (l := [.tmp 17, .tmp 18]) rfl rfl rfl (lt rfl) (rturn_c (n := n) (c := c) (now := now) hi g2 hm) (fun v3 V2 H2 _ hR => ?_)
   obtain ⟨hV, rfl, rfl⟩ := hR; replace hV := hV.symm; subst hV
   refine Run.heapTo (H' := [[(bc, .cells #[.string ((Cli.turn c now).name), hv, .int .i64 ((Cli.turn c now).state), .int .u32 ((Cli.turn c now).xid), .int .u32 ((Cli.turn c now).addr), .int .u32 ((Cli.turn c now).server), .int .i64 ((Cli.turn c now).until_), .int .i64 ((Cli.turn c now).one), .int .i64 ((Cli.turn c now).two), .bool ((Cli.turn c now).due), .int .i64 ((Cli.turn c now).tries), .int .i64 ((Cli.turn c now).said), .int .i64 ((Cli.turn c now).asks)] 44 (0, 0))]]) rfl ?_
   refine Run.to_end ?_
   refine Ex.go ?_
   refine Tr.seq ?_
   refine Tr.seq ?_
   refine Tr.region ?_
   obtain ⟨t, ht⟩ : ∃ t, t = Cli.turn c now := ⟨_, rfl⟩
   rw [← ht]
   have hit : Cli.Inv n t := by rw [ht]; exact hi.turn hm
   have hts := Cli.turn_same c now
   rw [← ht] at hts
   have hht : Rd V [] 1 hv t.hw.length (t.hw.map byteV) := by rw [hts.1]; exact hh
   have hhl := hit.hw
   have htr := hit.tries
   have hta := hit.addr
   have htv := hit.server
   refine Run.val (lt rfl) (Y.move rfl) ?_
   refine Run.val (lt rfl) (Y.nilCheck rfl) ?_
   refine Run.val (lt rfl) (Y.fieldAddr rfl Cltick_fo44_9) ?_
   refine Run.val (lt rfl) (Y.load rfl Cltick_ts4 (Kn.at 0 rfl) rfl) ?_
   refine Run.val (lt rfl) (Y.not rfl) ?_
   refine Run.to_end ?_
   refine Ex.go ?_
   rcases Bool.eq_false_or_eq_true (t.due) with h4 | h4
   ·have g4 := h4
    try simp only [kb] at g4
    refine Tr.cond_f rfl (congrArg Bool.not h4) ?_
    refine Tr.to_end ?_
    refine Ex.go ?_
    refine Tr.seq ?_
    refine Tr.region ?_
    refine Run.val (lt rfl) (Y.move rfl) ?_
    refine Run.val (lt rfl) (Y.nilCheck rfl) ?_
    refine Run.val (lt rfl) (Y.fieldAddr rfl Cltick_fo44_9) ?_
    refine Run.store (s := [(bc, .cells #[.string t.name, hv, .int .i64 t.state, .int .u32 t.xid, .int .u32 t.addr, .int .u32 t.server, .int .i64 t.until_, .int .i64 t.one, .int .i64 t.two, .bool false, .int .i64 t.tries, .int .i64 t.said, .int .i64 t.asks] 44 (0, 0))]) rfl rfl Cltick_sz4 (i := 0) rfl rfl (le rfl) rfl rfl ?_
    refine Run.to_end ?_
    refine Ex.go ?_
    refine Tr.seq ?_
    refine Tr.region ?_
    refine Run.val (lt rfl) (Y.move rfl) ?_
    refine Run.val (lt rfl) (Y.move rfl) ?_
    refine Run.val (lt rfl) (Y.nilCheck rfl) ?_
    refine Run.val (lt rfl) (Y.fieldAddr rfl Cltick_fo44_11) ?_
    refine Run.store (s := [(bc, .cells #[.string t.name, hv, .int .i64 t.state, .int .u32 t.xid, .int .u32 t.addr, .int .u32 t.server, .int .i64 t.until_, .int .i64 t.one, .int .i64 t.two, .bool false, .int .i64 t.tries, .int .i64 now, .int .i64 t.asks] 44 (0, 0))]) rfl rfl Cltick_sz3 (i := 0) rfl rfl (le rfl) rfl rfl ?_
    refine Run.to_end ?_
    refine Ex.go ?_
    refine Tr.seq ?_
    refine Tr.region ?_
    refine Run.val (lt rfl) (Y.move rfl) ?_
    refine Run.val (lt rfl) (Y.nilCheck rfl) ?_
    refine Run.val (lt rfl) (Y.fieldAddr rfl Cltick_fo44_10) ?_
    refine Run.val (lt rfl) (Y.load rfl Cltick_ts3 (Kn.at 0 rfl) rfl) ?_
    refine Run.val (lt rfl) (Y.add rfl rfl (by omega)) ?_
    refine Run.val (lt rfl) (Y.nilCheck rfl) ?_
    refine Run.val (lt rfl) (Y.fieldAddr rfl Cltick_fo44_10) ?_
    refine Run.store (s := [(bc, .cells #[.string t.name, hv, .int .i64 t.state, .int .u32 t.xid, .int .u32 t.addr, .int .u32 t.server, .int .i64 t.until_, .int .i64 t.one, .int .i64 t.two, .bool false, .int .i64 (t.tries + 1), .int .i64 now, .int .i64 t.asks] 44 (0, 0))]) rfl rfl Cltick_sz3 (i := 0) rfl rfl (le rfl) rfl rfl ?_
    refine Run.to_end ?_
    refine Ex.go ?_
    refine Tr.seq ?_
    refine Tr.region ?_
    refine Run.val (lt rfl) (Y.move rfl) ?_
    refine Run.call [0] (l := [.tmp 39, .const (.int .i64 3)]) rfl rfl rfl (lt rfl) (rsays_c_h (c := (⟨t.name, t.hw, t.state, t.xid, t.addr, t.server, t.until_, t.one, t.two, false, t.tries + 1, now, t.asks⟩ : Cli)) (kind := 3) hht hhl.2) (fun v5 V2 H2 hle16 hR => ?_)
    obtain ⟨_, s6, rfl, w18, p8, c9, d10, d11, rfl, hsx12, hox13, hsa14, hsb15⟩ := hR
    obtain ⟨p19, c20, rfl, _⟩ := hsx12.form
    obtain ⟨Vs17, hVe⟩ : ∃ V3 : Vw, V3 = V2 := ⟨_, rfl⟩
    subst hVe
    replace hht := hht.le hle16
    have hVle := hle16
    refine Run.heapTo (H' := [[(bc, .cells #[.string t.name, hv, .int .i64 t.state, .int .u32 t.xid, .int .u32 t.addr, .int .u32 t.server, .int .i64 t.until_, .int .i64 t.one, .int .i64 t.two, .bool false, .int .i64 (t.tries + 1), .int .i64 now, .int .i64 t.asks] 44 (0, 0))], s6]) rfl ?_
    refine Run.alloc Cltick_zo36 (lt rfl) (fun b21 => ?_)
    refine Run.store (s := [(b21, .cells #[.int .i64 1, .int .u32 t.xid, .int .i64 0, .int .i64 0, .int .u32 0, .int .u32 0, .int .u32 0, .int .u32 0, .slice p19 t.hw.length c20, .slice p8 2 c9] 36 (0, 0))]) rfl rfl Cltick_sz36 (i := 0) rfl rfl (le rfl) rfl rfl ?_
    refine Run.to_end ?_
    refine Ex.go ?_
    refine Tr.seq ?_
    refine Tr.seq ?_
    refine Tr.region ?_
    refine Run.val (lt rfl) (Y.move rfl) ?_
    refine Run.val (lt rfl) (Y.nilCheck rfl) ?_
    refine Run.val (lt rfl) (Y.fieldAddr rfl Cltick_fo44_2) ?_
    refine Run.val (lt rfl) (Y.load rfl Cltick_ts3 (Kn.at 1 rfl) rfl) ?_
    refine Run.to_end ?_
    refine Ex.go ?_
    refine Tr.block ?_
    refine Tr.seq ?_
    refine Tr.region ?_
    refine Run.val (lt rfl) (Y.int rfl rfl rfl) ?_
    refine Run.val (lt rfl) (Y.assign rfl) ?_
    refine Run.to_end ?_
    refine Ex.go ?_
    rcases Bool.eq_false_or_eq_true (t.state == 1) with h22 | h22
    ·have g22 := h22
     try simp only [kb] at g22
     refine Tr.cond_t rfl h22 ?_
     refine Tr.region ?_
     refine Run.val (lt rfl) (Y.move rfl) ?_
     refine Run.call [1] (l := [.tmp 52, .const (.int .i64 1)]) rfl rfl rfl (lt rfl) (rsays_c_h (c := (⟨t.name, t.hw, t.state, t.xid, t.addr, t.server, t.until_, t.one, t.two, false, t.tries + 1, now, t.asks⟩ : Cli)) (kind := 1) hht hhl.2) (fun v23 V2 H2 hle34 hR => ?_)
     obtain ⟨_, s24, rfl, w36, p26, c27, d28, d29, rfl, hsx30, hox31, hsa32, hsb33⟩ := hR
     obtain ⟨p37, c38, rfl, _⟩ := hsx30.form
     obtain ⟨Vs35, hVe⟩ : ∃ V3 : Vw, V3 = V2 := ⟨_, rfl⟩
     subst hVe
     replace hht := hht.le hle34
     replace hsx12 := hsx12.le hle34
     replace hsa14 := hsa14.le hle34
     replace hsb15 := hsb15.le hle34
     replace hVle := Vw.le_trans hVle hle34
     refine Run.heapTo (H' := [[(b21, .cells #[.int .i64 1, .int .u32 t.xid, .int .i64 0, .int .i64 0, .int .u32 0, .int .u32 0, .int .u32 0, .int .u32 0, .slice p19 t.hw.length c20, .slice p8 2 c9] 36 (0, 0))], s6, [(bc, .cells #[.string t.name, hv, .int .i64 t.state, .int .u32 t.xid, .int .u32 t.addr, .int .u32 t.server, .int .i64 t.until_, .int .i64 t.one, .int .i64 t.two, .bool false, .int .i64 (t.tries + 1), .int .i64 now, .int .i64 t.asks] 44 (0, 0))], s24]) rfl ?_
     refine Run.store (s := [(b21, .cells #[.int .i64 1, .int .u32 t.xid, .int .i64 0, .int .i64 0, .int .u32 0, .int .u32 0, .int .u32 0, .int .u32 0, .slice p37 t.hw.length c38, .slice p26 2 c27] 36 (0, 0))]) rfl rfl Cltick_sz36 (i := 0) rfl rfl (le rfl) rfl rfl ?_
     refine Run.to_end ?_
     refine Ex.end_block ?_
     refine Ex.go ?_
     refine Tr.seq ?_
     refine Tr.region ?_
     refine Run.val (lt rfl) (Y.loadAgg rfl Cltick_ag36 (Kn.at 0 rfl) rfl) ?_
     refine Run.buildSlice (l := [(0, .tmp 84)]) (r := [.int .i64 1, .int .u32 t.xid, .int .i64 0, .int .i64 0, .int .u32 0, .int .u32 0, .int .u32 0, .int .u32 0, .slice p37 t.hw.length c38, .slice p26 2 c27]) Cltick_es48 Cltick_zo36 rfl (by decide) rfl rfl (by decide) (lt rfl) (fun b39 => ?_)
     refine Run.val (lt rfl) (Y.assign rfl) ?_
     refine Run.val (lt rfl) (Y.assign rfl) ?_
     refine Run.to_end ?_
     refine Ex.go ?_
     refine Tr.to_ret ?_
     refine Ex.keepTo (H' := [s24, [(b39, .cells #[.int .i64 1, .int .u32 t.xid, .int .i64 0, .int .i64 0, .int .u32 0, .int .u32 0, .int .u32 0, .int .u32 0, .slice p37 t.hw.length c38, .slice p26 2 c27] 36 (0, 0))], [(b21, .cells #[.int .i64 1, .int .u32 t.xid, .int .i64 0, .int .i64 0, .int .u32 0, .int .u32 0, .int .u32 0, .int .u32 0, .slice p37 t.hw.length c38, .slice p26 2 c27] 36 (0, 0))], s6, [(bc, .cells #[.string t.name, hv, .int .i64 t.state, .int .u32 t.xid, .int .u32 t.addr, .int .u32 t.server, .int .i64 t.until_, .int .i64 t.one, .int .i64 t.two, .bool false, .int .i64 (t.tries + 1), .int .i64 now, .int .i64 t.asks] 44 (0, 0))]]) [4, 0, 0, 0, 0] rfl ?_
     refine Ex.show (fun V40 hleV40 hshV40 => ?_)
     have hso := hox31.shows _ hshV40
     replace hht := hht.le hleV40
     replace hsx12 := hsx12.le hleV40
     replace hsa14 := hsa14.le hleV40
     replace hsb15 := hsb15.le hleV40
     replace hsx30 := hsx30.le hleV40
     replace hsa32 := hsa32.le hleV40
     replace hsb33 := hsb33.le hleV40
     replace hVle := Vw.le_trans hVle hleV40
     refine Ex.keepTo (H' := [[(b39, .cells #[.int .i64 1, .int .u32 t.xid, .int .i64 0, .int .i64 0, .int .u32 0, .int .u32 0, .int .u32 0, .int .u32 0, .slice p37 t.hw.length c38, .slice p26 2 c27] 36 (0, 0))], [(b21, .cells #[.int .i64 1, .int .u32 t.xid, .int .i64 0, .int .i64 0, .int .u32 0, .int .u32 0, .int .u32 0, .int .u32 0, .slice p37 t.hw.length c38, .slice p26 2 c27] 36 (0, 0))], s6, [(bc, .cells #[.string t.name, hv, .int .i64 t.state, .int .u32 t.xid, .int .u32 t.addr, .int .u32 t.server, .int .i64 t.until_, .int .i64 t.one, .int .i64 t.two, .bool false, .int .i64 (t.tries + 1), .int .i64 now, .int .i64 t.asks] 44 (0, 0))]]) [0, 0, 0, 0] rfl ?_
     refine Ex.show (fun V41 hleV41 hshV41 => ?_)
     have hpk := (Ow.lit (e := 36) (k := 10) (b := b39) (n := 1) (cur := #[.int .i64 1, .int .u32 t.xid, .int .i64 0, .int .i64 0, .int .u32 0, .int .u32 0, .int .u32 0, .int .u32 0, .slice p37 t.hw.length c38, .slice p26 2 c27]) rfl (by decide)).shows _ hshV41
     replace hht := hht.le hleV41
     replace hsx12 := hsx12.le hleV41
     replace hsa14 := hsa14.le hleV41
     replace hsb15 := hsb15.le hleV41
     replace hsx30 := hsx30.le hleV41
     replace hsa32 := hsa32.le hleV41
     replace hsb33 := hsb33.le hleV41
     replace hso := hso.le hleV41
     replace hVle := Vw.le_trans hVle hleV41
     have hpb := hshV41 _ _ lookup_one
     refine Ex.keep [2] ?_
     have hkp : Pc.Rk 36 V41 (.slice (some ⟨b39, 0, none⟩) 1 1) [Cli.sayP t] := by
       rw [Cli.sayP_1 g22]
       exact ⟨_, .slice p37 t.hw.length c38, .slice p26 2 c27, rfl, hpb, Cli.Said_R (c := t) (kind := 1) hsx30 hso hsa32 hsb33 hit.xid⟩
     exact Ex.ret2 rfl rfl rfl  ⟨hVle, by rw [(Cli.tick_y (c := c) h1 g2 (by rw [← ht]; exact h4)).1, ← ht, Cli.sayC_n (by omega)]; try rfl, _, by rw [(Cli.tick_y (c := c) h1 g2 (by rw [← ht]; exact h4)).2.1], by rw [(Cli.tick_y (c := c) h1 g2 (by rw [← ht]; exact h4)).2.2, ← ht]; exact hkp⟩
    ·have g22 := h22
     try simp only [kb] at g22
     refine Tr.cond_f rfl h22 ?_
     refine Tr.seq ?_
     refine Tr.region ?_
     refine Run.val (lt rfl) (Y.int rfl rfl rfl) ?_
     refine Run.val (lt rfl) (Y.assign rfl) ?_
     refine Run.to_end ?_
     refine Ex.go ?_
     rcases Bool.eq_false_or_eq_true (t.state == 2) with h42 | h42
     ·have g42 := h42
      try simp only [kb] at g42
      refine Tr.cond_t rfl h42 ?_
      refine Tr.seq ?_
      refine Tr.seq ?_
      refine Tr.region ?_
      refine Run.val (lt rfl) (Y.move rfl) ?_
      refine Run.val (lt rfl) (Y.nilCheck rfl) ?_
      refine Run.val (lt rfl) (Y.fieldAddr rfl Cltick_fo44_10) ?_
      refine Run.val (lt rfl) (Y.load rfl Cltick_ts3 (Kn.at 1 rfl) rfl) ?_
      refine Run.val (lt rfl) (Y.int rfl rfl rfl) ?_
      refine Run.to_end ?_
      refine Ex.go ?_
      rcases Bool.eq_false_or_eq_true ((t.tries + 1) == 1) with h43 | h43
      ·have g43 := h43
       try simp only [kb] at g43
       refine Tr.cond_t rfl h43 ?_
       refine Tr.region ?_
       refine Run.val (lt rfl) (Y.move rfl) ?_
       refine Run.val (lt rfl) (Y.move rfl) ?_
       refine Run.val (lt rfl) (Y.nilCheck rfl) ?_
       refine Run.val (lt rfl) (Y.fieldAddr rfl Cltick_fo44_12) ?_
       refine Run.store (s := [(bc, .cells #[.string t.name, hv, .int .i64 t.state, .int .u32 t.xid, .int .u32 t.addr, .int .u32 t.server, .int .i64 t.until_, .int .i64 t.one, .int .i64 t.two, .bool false, .int .i64 (t.tries + 1), .int .i64 now, .int .i64 now] 44 (0, 0))]) rfl rfl Cltick_sz3 (i := 1) rfl rfl (le rfl) rfl rfl ?_
       refine Run.to_end ?_
       refine Ex.go ?_
       refine Tr.anyL [(bc, .cells #[.string t.name, hv, .int .i64 t.state, .int .u32 t.xid, .int .u32 t.addr, .int .u32 t.server, .int .i64 t.until_, .int .i64 t.one, .int .i64 t.two, .bool false, .int .i64 (t.tries + 1), .int .i64 now, .int .i64 now] 44 (0, 0)), (b21, .cells #[.int .i64 1, .int .u32 t.xid, .int .i64 0, .int .i64 0, .int .u32 0, .int .u32 0, .int .u32 0, .int .u32 0, .slice p19 t.hw.length c20, .slice p8 2 c9] 36 (0, 0))] 19 Cltick_mo ?_
       refine RunL.pure (i := 0) rfl (by kernel_rfl) (by kernel_rfl) (by kernel_rfl) (by kernel_rfl) (fun _ _ _ h => h) (lt rfl) (KnAll.cons (Kn.at 1 rfl) (KnAll.cons (Kn.at 0 rfl) KnAll.nil)) (fun _ => (Y.fieldAddr rfl Cltick_fo36_9)) ?_
       refine RunL.take (i := 1) 1 rfl rfl (by kernel_rfl) (by kernel_rfl) (by kernel_rfl) (by kernel_rfl) (fun _ _ _ h => h) (lt rfl) (KnAll.cons (Kn.at 1 rfl) (KnAll.cons (Kn.at 0 rfl) KnAll.nil)) (fun _ => (Y.load rfl Cltick_ts34 Kn.vk1 rfl)) ?_
       refine RunL.pure (i := 2) rfl (by kernel_rfl) (by kernel_rfl) (by kernel_rfl) (by kernel_rfl) (fun _ _ _ h => h) (lt rfl) (KnAll.cons (Kn.at 1 rfl) (KnAll.cons (Kn.at 0 rfl) KnAll.nil)) (fun _ => (Y.move rfl)) ?_
       refine RunL.pure (i := 3) rfl (by kernel_rfl) (by kernel_rfl) (by kernel_rfl) (by kernel_rfl) (fun _ _ _ h => h) (lt rfl) (KnAll.cons (Kn.at 1 rfl) (KnAll.cons (Kn.at 0 rfl) KnAll.nil)) (fun _ => (Y.nilCheck rfl)) ?_
       refine RunL.pure (i := 4) rfl (by kernel_rfl) (by kernel_rfl) (by kernel_rfl) (by kernel_rfl) (fun _ _ _ h => h) (lt rfl) (KnAll.cons (Kn.at 1 rfl) (KnAll.cons (Kn.at 0 rfl) KnAll.nil)) (fun _ => (Y.fieldAddr rfl Cltick_fo44_4)) ?_
       refine RunL.take (i := 5) 0 rfl rfl (by kernel_rfl) (by kernel_rfl) (by kernel_rfl) (by kernel_rfl) (fun _ _ _ h => h) (lt rfl) (KnAll.cons (Kn.at 1 rfl) (KnAll.cons (Kn.at 0 rfl) KnAll.nil)) (fun _ => (Y.load rfl Cltick_ts33 Kn.vk1 rfl)) ?_
       refine RunL.pure (i := 6) rfl (by kernel_rfl) (by kernel_rfl) (by kernel_rfl) (by kernel_rfl) (fun _ _ _ h => h) (lt rfl) (KnAll.cons (Kn.at 1 rfl) (KnAll.cons (Kn.at 0 rfl) KnAll.nil)) (fun _ => (Y.conv (t.addr) rfl Cltick_it33_3 (wrap_i64 (by omega)))) ?_
       refine RunL.pure (i := 9) rfl (by kernel_rfl) (by kernel_rfl) (by kernel_rfl) (by kernel_rfl) (fun _ _ _ h => h) (lt rfl) (KnAll.cons (Kn.at 1 rfl) (KnAll.cons (Kn.at 0 rfl) KnAll.nil)) (fun _ => (Y.move rfl)) ?_
       refine RunL.pure (i := 10) rfl (by kernel_rfl) (by kernel_rfl) (by kernel_rfl) (by kernel_rfl) (fun _ _ _ h => h) (lt rfl) (KnAll.cons (Kn.at 1 rfl) (KnAll.cons (Kn.at 0 rfl) KnAll.nil)) (fun _ => (Y.nilCheck rfl)) ?_
       refine RunL.pure (i := 11) rfl (by kernel_rfl) (by kernel_rfl) (by kernel_rfl) (by kernel_rfl) (fun _ _ _ h => h) (lt rfl) (KnAll.cons (Kn.at 1 rfl) (KnAll.cons (Kn.at 0 rfl) KnAll.nil)) (fun _ => (Y.fieldAddr rfl Cltick_fo44_5)) ?_
       refine RunL.take (i := 12) 0 rfl rfl (by kernel_rfl) (by kernel_rfl) (by kernel_rfl) (by kernel_rfl) (fun _ _ _ h => h) (lt rfl) (KnAll.cons (Kn.at 1 rfl) (KnAll.cons (Kn.at 0 rfl) KnAll.nil)) (fun _ => (Y.load rfl Cltick_ts33 Kn.vk1 rfl)) ?_
       refine RunL.pure (i := 13) rfl (by kernel_rfl) (by kernel_rfl) (by kernel_rfl) (by kernel_rfl) (fun _ _ _ h => h) (lt rfl) (KnAll.cons (Kn.at 1 rfl) (KnAll.cons (Kn.at 0 rfl) KnAll.nil)) (fun _ => (Y.conv (t.server) rfl Cltick_it33_3 (wrap_i64 (by omega)))) ?_
       refine RunL.one (i := 7) (by kernel_rfl) rfl  ?_ 
       refine Run.call [] (l := [.tmp 71]) rfl rfl rfl (lt rfl) (four_c (n := t.addr) hit.addr) (fun v44 V2 H2 _ hR => ?_)
       obtain ⟨hV, s45, rfl, hol46⟩ := hR; replace hV := hV.symm; subst hV; obtain ⟨p47, c48, rfl⟩ := hol46.form
       refine Run.heapTo (H' := [[(b21, .cells #[.int .i64 1, .int .u32 t.xid, .int .i64 0, .int .i64 0, .int .u32 0, .int .u32 0, .int .u32 0, .int .u32 0, .slice p19 t.hw.length c20, .slice p8 2 c9] 36 (0, 0))], [(bc, .cells #[.string t.name, hv, .int .i64 t.state, .int .u32 t.xid, .int .u32 t.addr, .int .u32 t.server, .int .i64 t.until_, .int .i64 t.one, .int .i64 t.two, .bool false, .int .i64 (t.tries + 1), .int .i64 now, .int .i64 now] 44 (0, 0))], s6, s45]) rfl ?_
       refine Run.to_end ?_
       refine Ex.anyL (KnAll.cons (Kn.at 1 rfl) (KnAll.cons (Kn.at 0 rfl) KnAll.nil)) ?_
       refine RunL.pure (i := 8) rfl (by kernel_rfl) (by kernel_rfl) (by kernel_rfl) (by kernel_rfl) (fun _ _ _ h => h) (lt rfl) (KnAll.cons (Kn.at 1 rfl) (KnAll.cons (Kn.at 0 rfl) KnAll.nil)) (fun _ => (Y.buildS (l := [(0, .const (.int .i64 50)), (1, .tmp 72)]) Cltick_zo76 Cltick_pl76 rfl rfl)) ?_
       refine RunL.one (i := 14) (by kernel_rfl) rfl  ?_ 
       refine Run.call [] (l := [.tmp 78]) rfl rfl rfl (lt rfl) (four_c (n := t.server) hit.server) (fun v49 V2 H2 _ hR => ?_)
       obtain ⟨hV, s50, rfl, hol51⟩ := hR; replace hV := hV.symm; subst hV; obtain ⟨p52, c53, rfl⟩ := hol51.form
       refine Run.heapTo (H' := [[(b21, .cells #[.int .i64 1, .int .u32 t.xid, .int .i64 0, .int .i64 0, .int .u32 0, .int .u32 0, .int .u32 0, .int .u32 0, .slice p19 t.hw.length c20, .slice p8 2 c9] 36 (0, 0))], [(bc, .cells #[.string t.name, hv, .int .i64 t.state, .int .u32 t.xid, .int .u32 t.addr, .int .u32 t.server, .int .i64 t.until_, .int .i64 t.one, .int .i64 t.two, .bool false, .int .i64 (t.tries + 1), .int .i64 now, .int .i64 now] 44 (0, 0))], s6, s45, s50]) rfl ?_
       refine Run.to_end ?_
       refine Ex.anyL (KnAll.cons (Kn.at 1 rfl) (KnAll.cons (Kn.at 0 rfl) KnAll.nil)) ?_
       refine RunL.pure (i := 15) rfl (by kernel_rfl) (by kernel_rfl) (by kernel_rfl) (by kernel_rfl) (fun _ _ _ h => h) (lt rfl) (KnAll.cons (Kn.at 1 rfl) (KnAll.cons (Kn.at 0 rfl) KnAll.nil)) (fun _ => (Y.buildS (l := [(0, .const (.int .i64 54)), (1, .tmp 79)]) Cltick_zo76 Cltick_pl76 rfl rfl)) ?_
       refine RunL.one (i := 16) (by kernel_rfl) rfl  ?_ 
       refine Run.buildSlice (l := [(0, .tmp 73), (1, .tmp 80)]) (r := [.int .i64 50, .slice p47 4 c48, .int .i64 54, .slice p52 4 c53]) Cltick_es34 Cltick_zo76 rfl (by decide) rfl rfl (by decide) (lt rfl) (fun b54 => ?_)
       refine Run.to_end ?_
       refine Ex.anyL (KnAll.cons (Kn.at 2 rfl) (KnAll.cons (Kn.at 1 rfl) KnAll.nil)) ?_
       refine RunL.one (i := 17) (by kernel_rfl) rfl  ?_ 
       refine Run.append (n := 2) (m := 2) (xs := [.int .i64 53, d10, .int .i64 61, d11]) (ys := [.int .i64 50, .slice p47 4 c48, .int .i64 54, .slice p52 4 c53]) rfl rfl Cltick_es34 Cltick_zi76 (by decide) (j := 3) rfl hox13 (Src.of_rd Cltick_es34 (Rd.one (Kn.at 0 rfl) rfl)) (by omega) (by omega) rfl (lt rfl) (fun v55 s56 ho57 hf => ?_)
       obtain ⟨p55, c55, rfl⟩ := hf
       refine Run.to_end ?_
       refine Ex.anyL (KnAll.cons (Kn.at 2 rfl) (KnAll.cons (Kn.at 1 rfl) KnAll.nil)) ?_
       refine RunL.pure (i := 18) rfl (by kernel_rfl) (by kernel_rfl) (by kernel_rfl) (by kernel_rfl) (fun _ _ _ h => h) (lt rfl) (KnAll.cons (Kn.at 2 rfl) (KnAll.cons (Kn.at 1 rfl) KnAll.nil)) (fun _ => (Y.fieldAddr rfl Cltick_fo36_9)) ?_
       refine RunL.one (i := 19) (by kernel_rfl) rfl  ?_ 
       refine Run.store (s := [(b21, .cells #[.int .i64 1, .int .u32 t.xid, .int .i64 0, .int .i64 0, .int .u32 0, .int .u32 0, .int .u32 0, .int .u32 0, .slice p19 t.hw.length c20, .slice p55 (2 + 2) c55] 36 (0, 0))]) rfl rfl Cltick_sz34 (i := 1) rfl rfl (le rfl) rfl rfl ?_
       refine Run.to_end ?_
       refine Ex.anyLz rfl ?_
       refine RunL.done (by kernel_rfl) ?_
       refine Ex.end_block ?_
       refine Ex.go ?_
       refine Tr.seq ?_
       refine Tr.region ?_
       refine Run.val (lt rfl) (Y.loadAgg rfl Cltick_ag36 (Kn.at 1 rfl) rfl) ?_
       refine Run.buildSlice (l := [(0, .tmp 84)]) (r := [.int .i64 1, .int .u32 t.xid, .int .i64 0, .int .i64 0, .int .u32 0, .int .u32 0, .int .u32 0, .int .u32 0, .slice p19 t.hw.length c20, .slice p55 (2 + 2) c55]) Cltick_es48 Cltick_zo36 rfl (by decide) rfl rfl (by decide) (lt rfl) (fun b58 => ?_)
       refine Run.val (lt rfl) (Y.assign rfl) ?_
       refine Run.val (lt rfl) (Y.assign rfl) ?_
       refine Run.to_end ?_
       refine Ex.go ?_
       refine Tr.to_ret ?_
       refine Ex.keepTo (H' := [s45, [(b58, .cells #[.int .i64 1, .int .u32 t.xid, .int .i64 0, .int .i64 0, .int .u32 0, .int .u32 0, .int .u32 0, .int .u32 0, .slice p19 t.hw.length c20, .slice p55 (2 + 2) c55] 36 (0, 0))], [(b54, .cells #[.int .i64 50, .slice p47 4 c48, .int .i64 54, .slice p52 4 c53] 76 (0, 0))], [(b21, .cells #[.int .i64 1, .int .u32 t.xid, .int .i64 0, .int .i64 0, .int .u32 0, .int .u32 0, .int .u32 0, .int .u32 0, .slice p19 t.hw.length c20, .slice p55 (2 + 2) c55] 36 (0, 0))], [(bc, .cells #[.string t.name, hv, .int .i64 t.state, .int .u32 t.xid, .int .u32 t.addr, .int .u32 t.server, .int .i64 t.until_, .int .i64 t.one, .int .i64 t.two, .bool false, .int .i64 (t.tries + 1), .int .i64 now, .int .i64 now] 44 (0, 0))], s56, s50]) [5, 0, 0, 0, 0, 0, 0] rfl ?_
       refine Ex.show (fun V59 hleV59 hshV59 => ?_)
       have hn3 := hol46.shows _ hshV59
       replace hht := hht.le hleV59
       replace hsx12 := hsx12.le hleV59
       replace hsa14 := hsa14.le hleV59
       replace hsb15 := hsb15.le hleV59
       replace hVle := Vw.le_trans hVle hleV59
       refine Ex.keepTo (H' := [s50, [(b58, .cells #[.int .i64 1, .int .u32 t.xid, .int .i64 0, .int .i64 0, .int .u32 0, .int .u32 0, .int .u32 0, .int .u32 0, .slice p19 t.hw.length c20, .slice p55 (2 + 2) c55] 36 (0, 0))], [(b54, .cells #[.int .i64 50, .slice p47 4 c48, .int .i64 54, .slice p52 4 c53] 76 (0, 0))], [(b21, .cells #[.int .i64 1, .int .u32 t.xid, .int .i64 0, .int .i64 0, .int .u32 0, .int .u32 0, .int .u32 0, .int .u32 0, .slice p19 t.hw.length c20, .slice p55 (2 + 2) c55] 36 (0, 0))], [(bc, .cells #[.string t.name, hv, .int .i64 t.state, .int .u32 t.xid, .int .u32 t.addr, .int .u32 t.server, .int .i64 t.until_, .int .i64 t.one, .int .i64 t.two, .bool false, .int .i64 (t.tries + 1), .int .i64 now, .int .i64 now] 44 (0, 0))], s56]) [5, 0, 0, 0, 0, 0] rfl ?_
       refine Ex.show (fun V60 hleV60 hshV60 => ?_)
       have hn4 := hol51.shows _ hshV60
       replace hht := hht.le hleV60
       replace hsx12 := hsx12.le hleV60
       replace hsa14 := hsa14.le hleV60
       replace hsb15 := hsb15.le hleV60
       replace hn3 := hn3.le hleV60
       replace hVle := Vw.le_trans hVle hleV60
       refine Ex.keepTo (H' := [s56, [(b58, .cells #[.int .i64 1, .int .u32 t.xid, .int .i64 0, .int .i64 0, .int .u32 0, .int .u32 0, .int .u32 0, .int .u32 0, .slice p19 t.hw.length c20, .slice p55 (2 + 2) c55] 36 (0, 0))], [(b54, .cells #[.int .i64 50, .slice p47 4 c48, .int .i64 54, .slice p52 4 c53] 76 (0, 0))], [(b21, .cells #[.int .i64 1, .int .u32 t.xid, .int .i64 0, .int .i64 0, .int .u32 0, .int .u32 0, .int .u32 0, .int .u32 0, .slice p19 t.hw.length c20, .slice p55 (2 + 2) c55] 36 (0, 0))], [(bc, .cells #[.string t.name, hv, .int .i64 t.state, .int .u32 t.xid, .int .u32 t.addr, .int .u32 t.server, .int .i64 t.until_, .int .i64 t.one, .int .i64 t.two, .bool false, .int .i64 (t.tries + 1), .int .i64 now, .int .i64 now] 44 (0, 0))]]) [4, 0, 0, 0, 0] rfl ?_
       refine Ex.show (fun V61 hleV61 hshV61 => ?_)
       have hso := ho57.shows _ hshV61
       replace hht := hht.le hleV61
       replace hsx12 := hsx12.le hleV61
       replace hsa14 := hsa14.le hleV61
       replace hsb15 := hsb15.le hleV61
       replace hn3 := hn3.le hleV61
       replace hn4 := hn4.le hleV61
       replace hVle := Vw.le_trans hVle hleV61
       refine Ex.keepTo (H' := [[(b58, .cells #[.int .i64 1, .int .u32 t.xid, .int .i64 0, .int .i64 0, .int .u32 0, .int .u32 0, .int .u32 0, .int .u32 0, .slice p19 t.hw.length c20, .slice p55 (2 + 2) c55] 36 (0, 0))], [(b54, .cells #[.int .i64 50, .slice p47 4 c48, .int .i64 54, .slice p52 4 c53] 76 (0, 0))], [(b21, .cells #[.int .i64 1, .int .u32 t.xid, .int .i64 0, .int .i64 0, .int .u32 0, .int .u32 0, .int .u32 0, .int .u32 0, .slice p19 t.hw.length c20, .slice p55 (2 + 2) c55] 36 (0, 0))], [(bc, .cells #[.string t.name, hv, .int .i64 t.state, .int .u32 t.xid, .int .u32 t.addr, .int .u32 t.server, .int .i64 t.until_, .int .i64 t.one, .int .i64 t.two, .bool false, .int .i64 (t.tries + 1), .int .i64 now, .int .i64 now] 44 (0, 0))]]) [0, 0, 0, 0] rfl ?_
       refine Ex.show (fun V62 hleV62 hshV62 => ?_)
       have hpk := (Ow.lit (e := 36) (k := 10) (b := b58) (n := 1) (cur := #[.int .i64 1, .int .u32 t.xid, .int .i64 0, .int .i64 0, .int .u32 0, .int .u32 0, .int .u32 0, .int .u32 0, .slice p19 t.hw.length c20, .slice p55 (2 + 2) c55]) rfl (by decide)).shows _ hshV62
       replace hht := hht.le hleV62
       replace hsx12 := hsx12.le hleV62
       replace hsa14 := hsa14.le hleV62
       replace hsb15 := hsb15.le hleV62
       replace hn3 := hn3.le hleV62
       replace hn4 := hn4.le hleV62
       replace hso := hso.le hleV62
       replace hVle := Vw.le_trans hVle hleV62
       have hpb := hshV62 _ _ lookup_one
       refine Ex.keep [2] ?_
       have hkp : Pc.Rk 36 V62 (.slice (some ⟨b58, 0, none⟩) 1 1) [Cli.sayP t] := by
         rw [Cli.sayP_2 g22 g42]
         exact ⟨_, .slice p19 t.hw.length c20, .slice p55 (2 + 2) c55, rfl, hpb, Cli.Said_R4 (c := t) (kind := 3) hsx12 hso hsa14 hsb15 hn3 hn4 hit.xid⟩
       exact Ex.ret2 rfl rfl rfl  ⟨hVle, by rw [(Cli.tick_y (c := c) h1 g2 (by rw [← ht]; exact h4)).1, ← ht, Cli.sayC_y ⟨g42, g43⟩]; try rfl, _, by rw [(Cli.tick_y (c := c) h1 g2 (by rw [← ht]; exact h4)).2.1], by rw [(Cli.tick_y (c := c) h1 g2 (by rw [← ht]; exact h4)).2.2, ← ht]; exact hkp⟩
      ·have g43 := h43
       try simp only [kb] at g43
       refine Tr.cond_f rfl h43 ?_
       refine Tr.to_end ?_
       refine Ex.go ?_
       refine Tr.anyL [(bc, .cells #[.string t.name, hv, .int .i64 t.state, .int .u32 t.xid, .int .u32 t.addr, .int .u32 t.server, .int .i64 t.until_, .int .i64 t.one, .int .i64 t.two, .bool false, .int .i64 (t.tries + 1), .int .i64 now, .int .i64 t.asks] 44 (0, 0)), (b21, .cells #[.int .i64 1, .int .u32 t.xid, .int .i64 0, .int .i64 0, .int .u32 0, .int .u32 0, .int .u32 0, .int .u32 0, .slice p19 t.hw.length c20, .slice p8 2 c9] 36 (0, 0))] 19 Cltick_mo ?_
       refine RunL.pure (i := 0) rfl (by kernel_rfl) (by kernel_rfl) (by kernel_rfl) (by kernel_rfl) (fun _ _ _ h => h) (lt rfl) (KnAll.cons (Kn.at 1 rfl) (KnAll.cons (Kn.at 0 rfl) KnAll.nil)) (fun _ => (Y.fieldAddr rfl Cltick_fo36_9)) ?_
       refine RunL.take (i := 1) 1 rfl rfl (by kernel_rfl) (by kernel_rfl) (by kernel_rfl) (by kernel_rfl) (fun _ _ _ h => h) (lt rfl) (KnAll.cons (Kn.at 1 rfl) (KnAll.cons (Kn.at 0 rfl) KnAll.nil)) (fun _ => (Y.load rfl Cltick_ts34 Kn.vk1 rfl)) ?_
       refine RunL.pure (i := 2) rfl (by kernel_rfl) (by kernel_rfl) (by kernel_rfl) (by kernel_rfl) (fun _ _ _ h => h) (lt rfl) (KnAll.cons (Kn.at 1 rfl) (KnAll.cons (Kn.at 0 rfl) KnAll.nil)) (fun _ => (Y.move rfl)) ?_
       refine RunL.pure (i := 3) rfl (by kernel_rfl) (by kernel_rfl) (by kernel_rfl) (by kernel_rfl) (fun _ _ _ h => h) (lt rfl) (KnAll.cons (Kn.at 1 rfl) (KnAll.cons (Kn.at 0 rfl) KnAll.nil)) (fun _ => (Y.nilCheck rfl)) ?_
       refine RunL.pure (i := 4) rfl (by kernel_rfl) (by kernel_rfl) (by kernel_rfl) (by kernel_rfl) (fun _ _ _ h => h) (lt rfl) (KnAll.cons (Kn.at 1 rfl) (KnAll.cons (Kn.at 0 rfl) KnAll.nil)) (fun _ => (Y.fieldAddr rfl Cltick_fo44_4)) ?_
       refine RunL.take (i := 5) 0 rfl rfl (by kernel_rfl) (by kernel_rfl) (by kernel_rfl) (by kernel_rfl) (fun _ _ _ h => h) (lt rfl) (KnAll.cons (Kn.at 1 rfl) (KnAll.cons (Kn.at 0 rfl) KnAll.nil)) (fun _ => (Y.load rfl Cltick_ts33 Kn.vk1 rfl)) ?_
       refine RunL.pure (i := 6) rfl (by kernel_rfl) (by kernel_rfl) (by kernel_rfl) (by kernel_rfl) (fun _ _ _ h => h) (lt rfl) (KnAll.cons (Kn.at 1 rfl) (KnAll.cons (Kn.at 0 rfl) KnAll.nil)) (fun _ => (Y.conv (t.addr) rfl Cltick_it33_3 (wrap_i64 (by omega)))) ?_
       refine RunL.pure (i := 9) rfl (by kernel_rfl) (by kernel_rfl) (by kernel_rfl) (by kernel_rfl) (fun _ _ _ h => h) (lt rfl) (KnAll.cons (Kn.at 1 rfl) (KnAll.cons (Kn.at 0 rfl) KnAll.nil)) (fun _ => (Y.move rfl)) ?_
       refine RunL.pure (i := 10) rfl (by kernel_rfl) (by kernel_rfl) (by kernel_rfl) (by kernel_rfl) (fun _ _ _ h => h) (lt rfl) (KnAll.cons (Kn.at 1 rfl) (KnAll.cons (Kn.at 0 rfl) KnAll.nil)) (fun _ => (Y.nilCheck rfl)) ?_
       refine RunL.pure (i := 11) rfl (by kernel_rfl) (by kernel_rfl) (by kernel_rfl) (by kernel_rfl) (fun _ _ _ h => h) (lt rfl) (KnAll.cons (Kn.at 1 rfl) (KnAll.cons (Kn.at 0 rfl) KnAll.nil)) (fun _ => (Y.fieldAddr rfl Cltick_fo44_5)) ?_
       refine RunL.take (i := 12) 0 rfl rfl (by kernel_rfl) (by kernel_rfl) (by kernel_rfl) (by kernel_rfl) (fun _ _ _ h => h) (lt rfl) (KnAll.cons (Kn.at 1 rfl) (KnAll.cons (Kn.at 0 rfl) KnAll.nil)) (fun _ => (Y.load rfl Cltick_ts33 Kn.vk1 rfl)) ?_
       refine RunL.pure (i := 13) rfl (by kernel_rfl) (by kernel_rfl) (by kernel_rfl) (by kernel_rfl) (fun _ _ _ h => h) (lt rfl) (KnAll.cons (Kn.at 1 rfl) (KnAll.cons (Kn.at 0 rfl) KnAll.nil)) (fun _ => (Y.conv (t.server) rfl Cltick_it33_3 (wrap_i64 (by omega)))) ?_
       refine RunL.one (i := 7) (by kernel_rfl) rfl  ?_ 
       refine Run.call [] (l := [.tmp 71]) rfl rfl rfl (lt rfl) (four_c (n := t.addr) hit.addr) (fun v63 V2 H2 _ hR => ?_)
       obtain ⟨hV, s64, rfl, hol65⟩ := hR; replace hV := hV.symm; subst hV; obtain ⟨p66, c67, rfl⟩ := hol65.form
       refine Run.heapTo (H' := [[(b21, .cells #[.int .i64 1, .int .u32 t.xid, .int .i64 0, .int .i64 0, .int .u32 0, .int .u32 0, .int .u32 0, .int .u32 0, .slice p19 t.hw.length c20, .slice p8 2 c9] 36 (0, 0))], [(bc, .cells #[.string t.name, hv, .int .i64 t.state, .int .u32 t.xid, .int .u32 t.addr, .int .u32 t.server, .int .i64 t.until_, .int .i64 t.one, .int .i64 t.two, .bool false, .int .i64 (t.tries + 1), .int .i64 now, .int .i64 t.asks] 44 (0, 0))], s6, s64]) rfl ?_
       refine Run.to_end ?_
       refine Ex.anyL (KnAll.cons (Kn.at 1 rfl) (KnAll.cons (Kn.at 0 rfl) KnAll.nil)) ?_
       refine RunL.pure (i := 8) rfl (by kernel_rfl) (by kernel_rfl) (by kernel_rfl) (by kernel_rfl) (fun _ _ _ h => h) (lt rfl) (KnAll.cons (Kn.at 1 rfl) (KnAll.cons (Kn.at 0 rfl) KnAll.nil)) (fun _ => (Y.buildS (l := [(0, .const (.int .i64 50)), (1, .tmp 72)]) Cltick_zo76 Cltick_pl76 rfl rfl)) ?_
       refine RunL.one (i := 14) (by kernel_rfl) rfl  ?_ 
       refine Run.call [] (l := [.tmp 78]) rfl rfl rfl (lt rfl) (four_c (n := t.server) hit.server) (fun v68 V2 H2 _ hR => ?_)
       obtain ⟨hV, s69, rfl, hol70⟩ := hR; replace hV := hV.symm; subst hV; obtain ⟨p71, c72, rfl⟩ := hol70.form
       refine Run.heapTo (H' := [[(b21, .cells #[.int .i64 1, .int .u32 t.xid, .int .i64 0, .int .i64 0, .int .u32 0, .int .u32 0, .int .u32 0, .int .u32 0, .slice p19 t.hw.length c20, .slice p8 2 c9] 36 (0, 0))], [(bc, .cells #[.string t.name, hv, .int .i64 t.state, .int .u32 t.xid, .int .u32 t.addr, .int .u32 t.server, .int .i64 t.until_, .int .i64 t.one, .int .i64 t.two, .bool false, .int .i64 (t.tries + 1), .int .i64 now, .int .i64 t.asks] 44 (0, 0))], s6, s64, s69]) rfl ?_
       refine Run.to_end ?_
       refine Ex.anyL (KnAll.cons (Kn.at 1 rfl) (KnAll.cons (Kn.at 0 rfl) KnAll.nil)) ?_
       refine RunL.pure (i := 15) rfl (by kernel_rfl) (by kernel_rfl) (by kernel_rfl) (by kernel_rfl) (fun _ _ _ h => h) (lt rfl) (KnAll.cons (Kn.at 1 rfl) (KnAll.cons (Kn.at 0 rfl) KnAll.nil)) (fun _ => (Y.buildS (l := [(0, .const (.int .i64 54)), (1, .tmp 79)]) Cltick_zo76 Cltick_pl76 rfl rfl)) ?_
       refine RunL.one (i := 16) (by kernel_rfl) rfl  ?_ 
       refine Run.buildSlice (l := [(0, .tmp 73), (1, .tmp 80)]) (r := [.int .i64 50, .slice p66 4 c67, .int .i64 54, .slice p71 4 c72]) Cltick_es34 Cltick_zo76 rfl (by decide) rfl rfl (by decide) (lt rfl) (fun b73 => ?_)
       refine Run.to_end ?_
       refine Ex.anyL (KnAll.cons (Kn.at 2 rfl) (KnAll.cons (Kn.at 1 rfl) KnAll.nil)) ?_
       refine RunL.one (i := 17) (by kernel_rfl) rfl  ?_ 
       refine Run.append (n := 2) (m := 2) (xs := [.int .i64 53, d10, .int .i64 61, d11]) (ys := [.int .i64 50, .slice p66 4 c67, .int .i64 54, .slice p71 4 c72]) rfl rfl Cltick_es34 Cltick_zi76 (by decide) (j := 3) rfl hox13 (Src.of_rd Cltick_es34 (Rd.one (Kn.at 0 rfl) rfl)) (by omega) (by omega) rfl (lt rfl) (fun v74 s75 ho76 hf => ?_)
       obtain ⟨p74, c74, rfl⟩ := hf
       refine Run.to_end ?_
       refine Ex.anyL (KnAll.cons (Kn.at 2 rfl) (KnAll.cons (Kn.at 1 rfl) KnAll.nil)) ?_
       refine RunL.pure (i := 18) rfl (by kernel_rfl) (by kernel_rfl) (by kernel_rfl) (by kernel_rfl) (fun _ _ _ h => h) (lt rfl) (KnAll.cons (Kn.at 2 rfl) (KnAll.cons (Kn.at 1 rfl) KnAll.nil)) (fun _ => (Y.fieldAddr rfl Cltick_fo36_9)) ?_
       refine RunL.one (i := 19) (by kernel_rfl) rfl  ?_ 
       refine Run.store (s := [(b21, .cells #[.int .i64 1, .int .u32 t.xid, .int .i64 0, .int .i64 0, .int .u32 0, .int .u32 0, .int .u32 0, .int .u32 0, .slice p19 t.hw.length c20, .slice p74 (2 + 2) c74] 36 (0, 0))]) rfl rfl Cltick_sz34 (i := 1) rfl rfl (le rfl) rfl rfl ?_
       refine Run.to_end ?_
       refine Ex.anyLz rfl ?_
       refine RunL.done (by kernel_rfl) ?_
       refine Ex.end_block ?_
       refine Ex.go ?_
       refine Tr.seq ?_
       refine Tr.region ?_
       refine Run.val (lt rfl) (Y.loadAgg rfl Cltick_ag36 (Kn.at 1 rfl) rfl) ?_
       refine Run.buildSlice (l := [(0, .tmp 84)]) (r := [.int .i64 1, .int .u32 t.xid, .int .i64 0, .int .i64 0, .int .u32 0, .int .u32 0, .int .u32 0, .int .u32 0, .slice p19 t.hw.length c20, .slice p74 (2 + 2) c74]) Cltick_es48 Cltick_zo36 rfl (by decide) rfl rfl (by decide) (lt rfl) (fun b77 => ?_)
       refine Run.val (lt rfl) (Y.assign rfl) ?_
       refine Run.val (lt rfl) (Y.assign rfl) ?_
       refine Run.to_end ?_
       refine Ex.go ?_
       refine Tr.to_ret ?_
       refine Ex.keepTo (H' := [s64, [(b77, .cells #[.int .i64 1, .int .u32 t.xid, .int .i64 0, .int .i64 0, .int .u32 0, .int .u32 0, .int .u32 0, .int .u32 0, .slice p19 t.hw.length c20, .slice p74 (2 + 2) c74] 36 (0, 0))], [(b73, .cells #[.int .i64 50, .slice p66 4 c67, .int .i64 54, .slice p71 4 c72] 76 (0, 0))], [(b21, .cells #[.int .i64 1, .int .u32 t.xid, .int .i64 0, .int .i64 0, .int .u32 0, .int .u32 0, .int .u32 0, .int .u32 0, .slice p19 t.hw.length c20, .slice p74 (2 + 2) c74] 36 (0, 0))], [(bc, .cells #[.string t.name, hv, .int .i64 t.state, .int .u32 t.xid, .int .u32 t.addr, .int .u32 t.server, .int .i64 t.until_, .int .i64 t.one, .int .i64 t.two, .bool false, .int .i64 (t.tries + 1), .int .i64 now, .int .i64 t.asks] 44 (0, 0))], s75, s69]) [5, 0, 0, 0, 0, 0, 0] rfl ?_
       refine Ex.show (fun V78 hleV78 hshV78 => ?_)
       have hn3 := hol65.shows _ hshV78
       replace hht := hht.le hleV78
       replace hsx12 := hsx12.le hleV78
       replace hsa14 := hsa14.le hleV78
       replace hsb15 := hsb15.le hleV78
       replace hVle := Vw.le_trans hVle hleV78
       refine Ex.keepTo (H' := [s69, [(b77, .cells #[.int .i64 1, .int .u32 t.xid, .int .i64 0, .int .i64 0, .int .u32 0, .int .u32 0, .int .u32 0, .int .u32 0, .slice p19 t.hw.length c20, .slice p74 (2 + 2) c74] 36 (0, 0))], [(b73, .cells #[.int .i64 50, .slice p66 4 c67, .int .i64 54, .slice p71 4 c72] 76 (0, 0))], [(b21, .cells #[.int .i64 1, .int .u32 t.xid, .int .i64 0, .int .i64 0, .int .u32 0, .int .u32 0, .int .u32 0, .int .u32 0, .slice p19 t.hw.length c20, .slice p74 (2 + 2) c74] 36 (0, 0))], [(bc, .cells #[.string t.name, hv, .int .i64 t.state, .int .u32 t.xid, .int .u32 t.addr, .int .u32 t.server, .int .i64 t.until_, .int .i64 t.one, .int .i64 t.two, .bool false, .int .i64 (t.tries + 1), .int .i64 now, .int .i64 t.asks] 44 (0, 0))], s75]) [5, 0, 0, 0, 0, 0] rfl ?_
       refine Ex.show (fun V79 hleV79 hshV79 => ?_)
       have hn4 := hol70.shows _ hshV79
       replace hht := hht.le hleV79
       replace hsx12 := hsx12.le hleV79
       replace hsa14 := hsa14.le hleV79
       replace hsb15 := hsb15.le hleV79
       replace hn3 := hn3.le hleV79
       replace hVle := Vw.le_trans hVle hleV79
       refine Ex.keepTo (H' := [s75, [(b77, .cells #[.int .i64 1, .int .u32 t.xid, .int .i64 0, .int .i64 0, .int .u32 0, .int .u32 0, .int .u32 0, .int .u32 0, .slice p19 t.hw.length c20, .slice p74 (2 + 2) c74] 36 (0, 0))], [(b73, .cells #[.int .i64 50, .slice p66 4 c67, .int .i64 54, .slice p71 4 c72] 76 (0, 0))], [(b21, .cells #[.int .i64 1, .int .u32 t.xid, .int .i64 0, .int .i64 0, .int .u32 0, .int .u32 0, .int .u32 0, .int .u32 0, .slice p19 t.hw.length c20, .slice p74 (2 + 2) c74] 36 (0, 0))], [(bc, .cells #[.string t.name, hv, .int .i64 t.state, .int .u32 t.xid, .int .u32 t.addr, .int .u32 t.server, .int .i64 t.until_, .int .i64 t.one, .int .i64 t.two, .bool false, .int .i64 (t.tries + 1), .int .i64 now, .int .i64 t.asks] 44 (0, 0))]]) [4, 0, 0, 0, 0] rfl ?_
       refine Ex.show (fun V80 hleV80 hshV80 => ?_)
       have hso := ho76.shows _ hshV80
       replace hht := hht.le hleV80
       replace hsx12 := hsx12.le hleV80
       replace hsa14 := hsa14.le hleV80
       replace hsb15 := hsb15.le hleV80
       replace hn3 := hn3.le hleV80
       replace hn4 := hn4.le hleV80
       replace hVle := Vw.le_trans hVle hleV80
       refine Ex.keepTo (H' := [[(b77, .cells #[.int .i64 1, .int .u32 t.xid, .int .i64 0, .int .i64 0, .int .u32 0, .int .u32 0, .int .u32 0, .int .u32 0, .slice p19 t.hw.length c20, .slice p74 (2 + 2) c74] 36 (0, 0))], [(b73, .cells #[.int .i64 50, .slice p66 4 c67, .int .i64 54, .slice p71 4 c72] 76 (0, 0))], [(b21, .cells #[.int .i64 1, .int .u32 t.xid, .int .i64 0, .int .i64 0, .int .u32 0, .int .u32 0, .int .u32 0, .int .u32 0, .slice p19 t.hw.length c20, .slice p74 (2 + 2) c74] 36 (0, 0))], [(bc, .cells #[.string t.name, hv, .int .i64 t.state, .int .u32 t.xid, .int .u32 t.addr, .int .u32 t.server, .int .i64 t.until_, .int .i64 t.one, .int .i64 t.two, .bool false, .int .i64 (t.tries + 1), .int .i64 now, .int .i64 t.asks] 44 (0, 0))]]) [0, 0, 0, 0] rfl ?_
       refine Ex.show (fun V81 hleV81 hshV81 => ?_)
       have hpk := (Ow.lit (e := 36) (k := 10) (b := b77) (n := 1) (cur := #[.int .i64 1, .int .u32 t.xid, .int .i64 0, .int .i64 0, .int .u32 0, .int .u32 0, .int .u32 0, .int .u32 0, .slice p19 t.hw.length c20, .slice p74 (2 + 2) c74]) rfl (by decide)).shows _ hshV81
       replace hht := hht.le hleV81
       replace hsx12 := hsx12.le hleV81
       replace hsa14 := hsa14.le hleV81
       replace hsb15 := hsb15.le hleV81
       replace hn3 := hn3.le hleV81
       replace hn4 := hn4.le hleV81
       replace hso := hso.le hleV81
       replace hVle := Vw.le_trans hVle hleV81
       have hpb := hshV81 _ _ lookup_one
       refine Ex.keep [2] ?_
       have hkp : Pc.Rk 36 V81 (.slice (some ⟨b77, 0, none⟩) 1 1) [Cli.sayP t] := by
         rw [Cli.sayP_2 g22 g42]
         exact ⟨_, .slice p19 t.hw.length c20, .slice p74 (2 + 2) c74, rfl, hpb, Cli.Said_R4 (c := t) (kind := 3) hsx12 hso hsa14 hsb15 hn3 hn4 hit.xid⟩
       exact Ex.ret2 rfl rfl rfl  ⟨hVle, by rw [(Cli.tick_y (c := c) h1 g2 (by rw [← ht]; exact h4)).1, ← ht, Cli.sayC_n (by omega)]; try rfl, _, by rw [(Cli.tick_y (c := c) h1 g2 (by rw [← ht]; exact h4)).2.1], by rw [(Cli.tick_y (c := c) h1 g2 (by rw [← ht]; exact h4)).2.2, ← ht]; exact hkp⟩
     ·have g42 := h42
      try simp only [kb] at g42
      refine Tr.cond_f rfl h42 ?_
      refine Tr.region ?_
      refine Run.val (lt rfl) (Y.move rfl) ?_
      refine Run.val (lt rfl) (Y.nilCheck rfl) ?_
      refine Run.val (lt rfl) (Y.fieldAddr rfl Cltick_fo44_4) ?_
      refine Run.val (lt rfl) (Y.load rfl Cltick_ts33 (Kn.at 1 rfl) rfl) ?_
      refine Run.val (lt rfl) (Y.fieldAddr rfl Cltick_fo36_4) ?_
      refine Run.store (s := [(b21, .cells #[.int .i64 1, .int .u32 t.xid, .int .i64 0, .int .i64 0, .int .u32 t.addr, .int .u32 0, .int .u32 0, .int .u32 0, .slice p19 t.hw.length c20, .slice p8 2 c9] 36 (0, 0))]) rfl rfl Cltick_sz33 (i := 0) rfl rfl (le rfl) rfl rfl ?_
      refine Run.to_end ?_
      refine Ex.end_block ?_
      refine Ex.go ?_
      refine Tr.seq ?_
      refine Tr.region ?_
      refine Run.val (lt rfl) (Y.loadAgg rfl Cltick_ag36 (Kn.at 0 rfl) rfl) ?_
      refine Run.buildSlice (l := [(0, .tmp 84)]) (r := [.int .i64 1, .int .u32 t.xid, .int .i64 0, .int .i64 0, .int .u32 t.addr, .int .u32 0, .int .u32 0, .int .u32 0, .slice p19 t.hw.length c20, .slice p8 2 c9]) Cltick_es48 Cltick_zo36 rfl (by decide) rfl rfl (by decide) (lt rfl) (fun b82 => ?_)
      refine Run.val (lt rfl) (Y.assign rfl) ?_
      refine Run.val (lt rfl) (Y.assign rfl) ?_
      refine Run.to_end ?_
      refine Ex.go ?_
      refine Tr.to_ret ?_
      refine Ex.keepTo (H' := [s6, [(b82, .cells #[.int .i64 1, .int .u32 t.xid, .int .i64 0, .int .i64 0, .int .u32 t.addr, .int .u32 0, .int .u32 0, .int .u32 0, .slice p19 t.hw.length c20, .slice p8 2 c9] 36 (0, 0))], [(b21, .cells #[.int .i64 1, .int .u32 t.xid, .int .i64 0, .int .i64 0, .int .u32 t.addr, .int .u32 0, .int .u32 0, .int .u32 0, .slice p19 t.hw.length c20, .slice p8 2 c9] 36 (0, 0))], [(bc, .cells #[.string t.name, hv, .int .i64 t.state, .int .u32 t.xid, .int .u32 t.addr, .int .u32 t.server, .int .i64 t.until_, .int .i64 t.one, .int .i64 t.two, .bool false, .int .i64 (t.tries + 1), .int .i64 now, .int .i64 t.asks] 44 (0, 0))]]) [3, 0, 0, 0] rfl ?_
      refine Ex.show (fun V83 hleV83 hshV83 => ?_)
      have hso := hox13.shows _ hshV83
      replace hht := hht.le hleV83
      replace hsx12 := hsx12.le hleV83
      replace hsa14 := hsa14.le hleV83
      replace hsb15 := hsb15.le hleV83
      replace hVle := Vw.le_trans hVle hleV83
      refine Ex.keepTo (H' := [[(b82, .cells #[.int .i64 1, .int .u32 t.xid, .int .i64 0, .int .i64 0, .int .u32 t.addr, .int .u32 0, .int .u32 0, .int .u32 0, .slice p19 t.hw.length c20, .slice p8 2 c9] 36 (0, 0))], [(b21, .cells #[.int .i64 1, .int .u32 t.xid, .int .i64 0, .int .i64 0, .int .u32 t.addr, .int .u32 0, .int .u32 0, .int .u32 0, .slice p19 t.hw.length c20, .slice p8 2 c9] 36 (0, 0))], [(bc, .cells #[.string t.name, hv, .int .i64 t.state, .int .u32 t.xid, .int .u32 t.addr, .int .u32 t.server, .int .i64 t.until_, .int .i64 t.one, .int .i64 t.two, .bool false, .int .i64 (t.tries + 1), .int .i64 now, .int .i64 t.asks] 44 (0, 0))]]) [0, 0, 0] rfl ?_
      refine Ex.show (fun V84 hleV84 hshV84 => ?_)
      have hpk := (Ow.lit (e := 36) (k := 10) (b := b82) (n := 1) (cur := #[.int .i64 1, .int .u32 t.xid, .int .i64 0, .int .i64 0, .int .u32 t.addr, .int .u32 0, .int .u32 0, .int .u32 0, .slice p19 t.hw.length c20, .slice p8 2 c9]) rfl (by decide)).shows _ hshV84
      replace hht := hht.le hleV84
      replace hsx12 := hsx12.le hleV84
      replace hsa14 := hsa14.le hleV84
      replace hsb15 := hsb15.le hleV84
      replace hso := hso.le hleV84
      replace hVle := Vw.le_trans hVle hleV84
      have hpb := hshV84 _ _ lookup_one
      refine Ex.keep [1] ?_
      have hkp : Pc.Rk 36 V84 (.slice (some ⟨b82, 0, none⟩) 1 1) [Cli.sayP t] := by
        rw [Cli.sayP_d g22 g42]
        exact ⟨_, .slice p19 t.hw.length c20, .slice p8 2 c9, rfl, hpb, Cli.R_ci (Cli.Said_R (c := t) (kind := 3) hsx12 hso hsa14 hsb15 hit.xid) t.addr⟩
      exact Ex.ret2 rfl rfl rfl  ⟨hVle, by rw [(Cli.tick_y (c := c) h1 g2 (by rw [← ht]; exact h4)).1, ← ht, Cli.sayC_n (by omega)]; try rfl, _, by rw [(Cli.tick_y (c := c) h1 g2 (by rw [← ht]; exact h4)).2.1], by rw [(Cli.tick_y (c := c) h1 g2 (by rw [← ht]; exact h4)).2.2, ← ht]; exact hkp⟩
   ·have g4 := h4
    try simp only [kb] at g4
    refine Tr.cond_t rfl (congrArg Bool.not h4) ?_
    refine Tr.seq ?_
    refine Tr.region ?_
    refine Run.val (lt rfl) (Y.assign rfl) ?_
    refine Run.val (lt rfl) (Y.assign rfl) ?_
    refine Run.to_end ?_
    refine Ex.go ?_
    refine Tr.to_ret ?_
    refine Ex.ret_then ?_
    refine Ex.keep [0] ?_
    exact Ex.ret2 rfl rfl rfl  ⟨Vw.le_refl _, by rw [(Cli.tick_n (c := c) h1 g2 (by rw [← ht]; exact h4)).1, ← ht]; try rfl, _, by rw [(Cli.tick_n (c := c) h1 g2 (by rw [← ht]; exact h4)).2.1], by rw [(Cli.tick_n (c := c) h1 g2 (by rw [← ht]; exact h4)).2.2]; rfl⟩
 ·have g1 := h1
  try simp only [kb] at g1
  refine Tr.cond_t rfl (congrArg Bool.not h1) ?_
  refine Tr.seq ?_
  refine Tr.region ?_
  refine Run.val (lt rfl) (Y.assign rfl) ?_
  refine Run.val (lt rfl) (Y.assign rfl) ?_
  refine Run.to_end ?_
  refine Ex.go ?_
  refine Tr.to_ret ?_
  refine Ex.ret_then ?_
  refine Ex.keep [0] ?_
  exact Ex.ret2 rfl rfl rfl  ⟨Vw.le_refl _, by rw [(Cli.tick_m (c := c) h1).1]; try rfl, _, by rw [(Cli.tick_m (c := c) h1).2.1], by rw [(Cli.tick_m (c := c) h1).2.2]; rfl⟩

set_option maxHeartbeats 1000000 in
theorem release_c {V : Vw} {bc : Nat} {c : Cli} {hv : Value} {n now : Int} (hi : Cli.Inv n c) (hh : Rd V [] 1 hv c.hw.length (c.hw.map byteV))  : Does Try.prog 24 [.pointer (some ⟨bc, 0, none⟩), .int .i64 now] V [[(bc, .cells (Cli.cells c hv) 67 (0, 0))]] (fun u V' H' => V.le V' ∧ H' = [[(bc, .cells (Cli.cells (Cli.relC c now) hv) 67 (0, 0))]] ∧ ∃ hv2 ov, u = .tuple #[.agg ((Cli.relP c now).cells hv2 ov), .int .i64 (Cli.relE c now)] ∧ Pc.R V' (Cli.relP c now) hv2 ov) := by
 have hhl := hi.hw
 have hxid : 0 ≤ (c.xid + 1) % 4294967296 ∧ (c.xid + 1) % 4294967296 ≤ 4294967295 := by omega
 refine Does.intro Try.func24 rfl rfl (le rfl) (fun B => ?_)
 refine Tr.seq ?_
 refine Tr.region ?_
 refine Run.alloc Cltick_zo36 (lt rfl) (fun b1 => ?_)
 refine Run.val (lt rfl) (Y.assign rfl) ?_
 refine Run.to_end ?_
 refine Ex.go ?_
 refine Tr.seq ?_
 refine Tr.block ?_
 refine Tr.seq ?_
 refine Tr.region ?_
 refine Run.val (lt rfl) (Y.move rfl) ?_
 refine Run.call0 (l := [.tmp 8]) rfl rfl rfl (lt rfl) moment_c_h ?_
 refine Run.val (lt rfl) (Y.not rfl) ?_
 refine Run.val (lt rfl) (Y.assign rfl) ?_
 refine Run.to_end ?_
 refine Ex.go ?_
 rcases Bool.eq_false_or_eq_true (Con.moment now) with h2 | h2
 ·have g2 := h2
  try simp only [kb] at g2
  refine Tr.cond_f rfl (congrArg Bool.not h2) ?_
  refine Tr.seq ?_
  refine Tr.region ?_
  refine Run.val (lt rfl) (Y.move rfl) ?_
  refine Run.call0 (l := [.tmp 13]) rfl rfl rfl (lt rfl) (hold_c (c := c) (Kn.at 1 rfl)) ?_
  refine Run.val (lt rfl) (Y.not rfl) ?_
  refine Run.val (lt rfl) (Y.assign rfl) ?_
  refine Run.to_end ?_
  refine Ex.go ?_
  rcases Bool.eq_false_or_eq_true (Cli.holding c) with h3 | h3
  ·have g3 := h3
   try simp only [kb] at g3
   refine Tr.cond_f rfl (congrArg Bool.not h3) ?_
   refine Tr.to_end ?_
   refine Ex.end_block ?_
   refine Ex.go ?_
   refine Tr.seq ?_
   refine Tr.region ?_
   refine Run.val (lt rfl) (Y.move rfl) ?_
   refine Run.val (lt rfl) (Y.nilCheck rfl) ?_
   refine Run.val (lt rfl) (Y.fieldAddr rfl Cltick_fo67_3) ?_
   refine Run.val (lt rfl) (Y.load rfl Cltick_ts32 (Kn.at 1 rfl) rfl) ?_
   refine Run.val (lt rfl) (Y.int (r := .int .u32 ((c.xid + 1) % 4294967296)) rfl rfl (by simp only [intRes]; rw [Cli.wrap_u32m])) ?_
   refine Run.val (lt rfl) (Y.nilCheck rfl) ?_
   refine Run.val (lt rfl) (Y.fieldAddr rfl Cltick_fo67_3) ?_
   refine Run.store (s := [(bc, .cells #[.string c.name, hv, .int .i64 c.state, .int .u32 ((c.xid + 1) % 4294967296), .int .u32 c.addr, .int .u32 c.server, .int .i64 c.until_, .int .i64 c.one, .int .i64 c.two, .bool c.due, .int .i64 c.tries, .int .i64 c.said, .int .i64 c.asks] 67 (0, 0))]) rfl rfl Cltick_sz32 (i := 1) rfl rfl (le rfl) rfl rfl ?_
   refine Run.to_end ?_
   refine Ex.go ?_
   refine Tr.seq ?_
   refine Tr.region ?_
   refine Run.val (lt rfl) (Y.move rfl) ?_
   refine Run.call [1] (l := [.tmp 24, .const (.int .i64 7)]) rfl rfl rfl (lt rfl) (says_c_h (c := (⟨c.name, c.hw, c.state, (c.xid + 1) % 4294967296, c.addr, c.server, c.until_, c.one, c.two, c.due, c.tries, c.said, c.asks⟩ : Cli)) (kind := 7) hh hhl.2) (fun v4 V2 H2 hle15 hR => ?_)
   obtain ⟨_, s5, rfl, w17, p7, c8, d9, d10, rfl, hsx11, hox12, hsa13, hsb14⟩ := hR
   obtain ⟨p18, c19, rfl, _⟩ := hsx11.form
   obtain ⟨Vs16, hVe⟩ : ∃ V3 : Vw, V3 = V2 := ⟨_, rfl⟩
   subst hVe
   replace hh := hh.le hle15
   have hVle := hle15
   refine Run.heapTo (H' := [[(b1, .cells #[.int .i64 0, .int .u32 0, .int .i64 0, .int .i64 0, .int .u32 0, .int .u32 0, .int .u32 0, .int .u32 0, .slice none 0 0, .slice none 0 0] 36 (0, 0))], [(bc, .cells #[.string c.name, hv, .int .i64 c.state, .int .u32 ((c.xid + 1) % 4294967296), .int .u32 c.addr, .int .u32 c.server, .int .i64 c.until_, .int .i64 c.one, .int .i64 c.two, .bool c.due, .int .i64 c.tries, .int .i64 c.said, .int .i64 c.asks] 67 (0, 0))], s5]) rfl ?_
   refine Run.alloc Cltick_zo36 (lt rfl) (fun b20 => ?_)
   refine Run.store (s := [(b20, .cells #[.int .i64 1, .int .u32 ((c.xid + 1) % 4294967296), .int .i64 0, .int .i64 0, .int .u32 0, .int .u32 0, .int .u32 0, .int .u32 0, .slice p18 c.hw.length c19, .slice p7 2 c8] 36 (0, 0))]) rfl rfl Cltick_sz36 (i := 0) rfl rfl (le rfl) rfl rfl ?_
   refine Run.to_end ?_
   refine Ex.go ?_
   refine Tr.seq ?_
   refine Tr.region ?_
   refine Run.val (lt rfl) (Y.move rfl) ?_
   refine Run.val (lt rfl) (Y.nilCheck rfl) ?_
   refine Run.val (lt rfl) (Y.fieldAddr rfl Cltick_fo67_4) ?_
   refine Run.val (lt rfl) (Y.load rfl Cltick_ts33 (Kn.at 2 rfl) rfl) ?_
   refine Run.val (lt rfl) (Y.fieldAddr rfl Cltick_fo36_4) ?_
   refine Run.store (s := [(b20, .cells #[.int .i64 1, .int .u32 ((c.xid + 1) % 4294967296), .int .i64 0, .int .i64 0, .int .u32 c.addr, .int .u32 0, .int .u32 0, .int .u32 0, .slice p18 c.hw.length c19, .slice p7 2 c8] 36 (0, 0))]) rfl rfl Cltick_sz33 (i := 0) rfl rfl (le rfl) rfl rfl ?_
   refine Run.to_end ?_
   refine Ex.go ?_
   refine Tr.seq ?_
   refine Tr.region ?_
   refine Run.val (lt rfl) (Y.move rfl) ?_
   refine Run.call [2] (l := [.tmp 31, .const (.int .i64 6)]) rfl rfl rfl (lt rfl) (drop_c (c := (⟨c.name, c.hw, c.state, (c.xid + 1) % 4294967296, c.addr, c.server, c.until_, c.one, c.two, c.due, c.tries, c.said, c.asks⟩ : Cli))) (fun v21 V2 H2 _ hR => ?_)
   obtain ⟨hV, rfl, rfl⟩ := hR; replace hV := hV.symm; subst hV
   refine Run.heapTo (H' := [[(b20, .cells #[.int .i64 1, .int .u32 ((c.xid + 1) % 4294967296), .int .i64 0, .int .i64 0, .int .u32 c.addr, .int .u32 0, .int .u32 0, .int .u32 0, .slice p18 c.hw.length c19, .slice p7 2 c8] 36 (0, 0))], [(b1, .cells #[.int .i64 0, .int .u32 0, .int .i64 0, .int .i64 0, .int .u32 0, .int .u32 0, .int .u32 0, .int .u32 0, .slice none 0 0, .slice none 0 0] 36 (0, 0))], s5, [(bc, .cells #[.string ((Cli.drop (⟨c.name, c.hw, c.state, (c.xid + 1) % 4294967296, c.addr, c.server, c.until_, c.one, c.two, c.due, c.tries, c.said, c.asks⟩ : Cli) 6).name), hv, .int .i64 ((Cli.drop (⟨c.name, c.hw, c.state, (c.xid + 1) % 4294967296, c.addr, c.server, c.until_, c.one, c.two, c.due, c.tries, c.said, c.asks⟩ : Cli) 6).state), .int .u32 ((Cli.drop (⟨c.name, c.hw, c.state, (c.xid + 1) % 4294967296, c.addr, c.server, c.until_, c.one, c.two, c.due, c.tries, c.said, c.asks⟩ : Cli) 6).xid), .int .u32 ((Cli.drop (⟨c.name, c.hw, c.state, (c.xid + 1) % 4294967296, c.addr, c.server, c.until_, c.one, c.two, c.due, c.tries, c.said, c.asks⟩ : Cli) 6).addr), .int .u32 ((Cli.drop (⟨c.name, c.hw, c.state, (c.xid + 1) % 4294967296, c.addr, c.server, c.until_, c.one, c.two, c.due, c.tries, c.said, c.asks⟩ : Cli) 6).server), .int .i64 ((Cli.drop (⟨c.name, c.hw, c.state, (c.xid + 1) % 4294967296, c.addr, c.server, c.until_, c.one, c.two, c.due, c.tries, c.said, c.asks⟩ : Cli) 6).until_), .int .i64 ((Cli.drop (⟨c.name, c.hw, c.state, (c.xid + 1) % 4294967296, c.addr, c.server, c.until_, c.one, c.two, c.due, c.tries, c.said, c.asks⟩ : Cli) 6).one), .int .i64 ((Cli.drop (⟨c.name, c.hw, c.state, (c.xid + 1) % 4294967296, c.addr, c.server, c.until_, c.one, c.two, c.due, c.tries, c.said, c.asks⟩ : Cli) 6).two), .bool ((Cli.drop (⟨c.name, c.hw, c.state, (c.xid + 1) % 4294967296, c.addr, c.server, c.until_, c.one, c.two, c.due, c.tries, c.said, c.asks⟩ : Cli) 6).due), .int .i64 ((Cli.drop (⟨c.name, c.hw, c.state, (c.xid + 1) % 4294967296, c.addr, c.server, c.until_, c.one, c.two, c.due, c.tries, c.said, c.asks⟩ : Cli) 6).tries), .int .i64 ((Cli.drop (⟨c.name, c.hw, c.state, (c.xid + 1) % 4294967296, c.addr, c.server, c.until_, c.one, c.two, c.due, c.tries, c.said, c.asks⟩ : Cli) 6).said), .int .i64 ((Cli.drop (⟨c.name, c.hw, c.state, (c.xid + 1) % 4294967296, c.addr, c.server, c.until_, c.one, c.two, c.due, c.tries, c.said, c.asks⟩ : Cli) 6).asks)] 67 (0, 0))]]) rfl ?_
   refine Run.to_end ?_
   refine Ex.go ?_
   refine Tr.seq ?_
   refine Tr.region ?_
   refine Run.val (lt rfl) (Y.loadAgg rfl Cltick_ag36 (Kn.at 0 rfl) rfl) ?_
   refine Run.store (s := [(b1, .cells #[.int .i64 1, .int .u32 ((c.xid + 1) % 4294967296), .int .i64 0, .int .i64 0, .int .u32 c.addr, .int .u32 0, .int .u32 0, .int .u32 0, .slice p18 c.hw.length c19, .slice p7 2 c8] 36 (0, 0))]) rfl rfl Cltick_sz36 (i := 1) rfl rfl (le rfl) rfl rfl ?_
   refine Run.val (lt rfl) (Y.assign rfl) ?_
   refine Run.to_end ?_
   refine Ex.go ?_
   refine Tr.to_ret ?_
   refine Ex.keepTo (H' := [s5, [(b20, .cells #[.int .i64 1, .int .u32 ((c.xid + 1) % 4294967296), .int .i64 0, .int .i64 0, .int .u32 c.addr, .int .u32 0, .int .u32 0, .int .u32 0, .slice p18 c.hw.length c19, .slice p7 2 c8] 36 (0, 0))], [(b1, .cells #[.int .i64 1, .int .u32 ((c.xid + 1) % 4294967296), .int .i64 0, .int .i64 0, .int .u32 c.addr, .int .u32 0, .int .u32 0, .int .u32 0, .slice p18 c.hw.length c19, .slice p7 2 c8] 36 (0, 0))], [(bc, .cells #[.string ((Cli.drop (⟨c.name, c.hw, c.state, (c.xid + 1) % 4294967296, c.addr, c.server, c.until_, c.one, c.two, c.due, c.tries, c.said, c.asks⟩ : Cli) 6).name), hv, .int .i64 ((Cli.drop (⟨c.name, c.hw, c.state, (c.xid + 1) % 4294967296, c.addr, c.server, c.until_, c.one, c.two, c.due, c.tries, c.said, c.asks⟩ : Cli) 6).state), .int .u32 ((Cli.drop (⟨c.name, c.hw, c.state, (c.xid + 1) % 4294967296, c.addr, c.server, c.until_, c.one, c.two, c.due, c.tries, c.said, c.asks⟩ : Cli) 6).xid), .int .u32 ((Cli.drop (⟨c.name, c.hw, c.state, (c.xid + 1) % 4294967296, c.addr, c.server, c.until_, c.one, c.two, c.due, c.tries, c.said, c.asks⟩ : Cli) 6).addr), .int .u32 ((Cli.drop (⟨c.name, c.hw, c.state, (c.xid + 1) % 4294967296, c.addr, c.server, c.until_, c.one, c.two, c.due, c.tries, c.said, c.asks⟩ : Cli) 6).server), .int .i64 ((Cli.drop (⟨c.name, c.hw, c.state, (c.xid + 1) % 4294967296, c.addr, c.server, c.until_, c.one, c.two, c.due, c.tries, c.said, c.asks⟩ : Cli) 6).until_), .int .i64 ((Cli.drop (⟨c.name, c.hw, c.state, (c.xid + 1) % 4294967296, c.addr, c.server, c.until_, c.one, c.two, c.due, c.tries, c.said, c.asks⟩ : Cli) 6).one), .int .i64 ((Cli.drop (⟨c.name, c.hw, c.state, (c.xid + 1) % 4294967296, c.addr, c.server, c.until_, c.one, c.two, c.due, c.tries, c.said, c.asks⟩ : Cli) 6).two), .bool ((Cli.drop (⟨c.name, c.hw, c.state, (c.xid + 1) % 4294967296, c.addr, c.server, c.until_, c.one, c.two, c.due, c.tries, c.said, c.asks⟩ : Cli) 6).due), .int .i64 ((Cli.drop (⟨c.name, c.hw, c.state, (c.xid + 1) % 4294967296, c.addr, c.server, c.until_, c.one, c.two, c.due, c.tries, c.said, c.asks⟩ : Cli) 6).tries), .int .i64 ((Cli.drop (⟨c.name, c.hw, c.state, (c.xid + 1) % 4294967296, c.addr, c.server, c.until_, c.one, c.two, c.due, c.tries, c.said, c.asks⟩ : Cli) 6).said), .int .i64 ((Cli.drop (⟨c.name, c.hw, c.state, (c.xid + 1) % 4294967296, c.addr, c.server, c.until_, c.one, c.two, c.due, c.tries, c.said, c.asks⟩ : Cli) 6).asks)] 67 (0, 0))]]) [2, 0, 0, 0] rfl ?_
   refine Ex.show (fun V22 hleV22 hshV22 => ?_)
   have hso := hox12.shows _ hshV22
   replace hh := hh.le hleV22
   replace hsx11 := hsx11.le hleV22
   replace hsa13 := hsa13.le hleV22
   replace hsb14 := hsb14.le hleV22
   replace hVle := Vw.le_trans hVle hleV22
   have hkp : Pc.R V22 { Cli.says { c with xid := (c.xid + 1) % 4294967296 } 7 with ci := c.addr } (.slice p18 c.hw.length c19) (.slice p7 2 c8) := Cli.R_ci (Cli.Said_R (c := { c with xid := (c.xid + 1) % 4294967296 }) (kind := 7) hsx11 hso hsa13 hsb14 hxid) c.addr
   exact Ex.retCell2 [2] rfl rfl rfl Cltick_ag36 (Kn.at 1 rfl) rfl ⟨hVle, by rw [(Cli.rel_0 h2 h3).2.1]; try rfl, .slice p18 c.hw.length c19, .slice p7 2 c8, by rw [(Cli.rel_0 h2 h3).1, (Cli.rel_0 h2 h3).2.2]; rfl, by rw [(Cli.rel_0 h2 h3).2.2]; exact hkp⟩
  ·have g3 := h3
   try simp only [kb] at g3
   refine Tr.cond_t rfl (congrArg Bool.not h3) ?_
   refine Tr.seq ?_
   refine Tr.region ?_
   refine Run.val (lt rfl) (Y.buildS (l := []) Cltick_zo36 Cltick_pl36 rfl rfl) ?_
   refine Run.store (s := [(b1, .cells #[.int .i64 0, .int .u32 0, .int .i64 0, .int .i64 0, .int .u32 0, .int .u32 0, .int .u32 0, .int .u32 0, .slice none 0 0, .slice none 0 0] 36 (0, 0))]) rfl rfl Cltick_sz36 (i := 0) rfl rfl (le rfl) rfl rfl ?_
   refine Run.val (lt rfl) (Y.assign rfl) ?_
   refine Run.to_end ?_
   refine Ex.go ?_
   refine Tr.to_ret ?_
   refine Ex.ret_block ?_
   refine Ex.ret_then ?_
   exact Ex.retCell2 [1] rfl rfl rfl Cltick_ag36 (Kn.at 0 rfl) rfl ⟨Vw.le_refl _, by rw [(Cli.rel_6 h2 h3).2.1]; rfl, .slice none 0 0, .slice none 0 0, by rw [(Cli.rel_6 h2 h3).1, (Cli.rel_6 h2 h3).2.2]; rfl, by rw [(Cli.rel_6 h2 h3).2.2]; exact ⟨Rd.nil _ _ _, Pc.Rs0 _, (show (0 : Int) ≤ 0 ∧ (0 : Int) ≤ 4294967295 by decide), (show (0 : Int) ≤ 0 ∧ (0 : Int) ≤ 4294967295 by decide), (show (0 : Int) ≤ 0 ∧ (0 : Int) ≤ 4294967295 by decide)⟩⟩
 ·have g2 := h2
  try simp only [kb] at g2
  refine Tr.cond_t rfl (congrArg Bool.not h2) ?_
  refine Tr.seq ?_
  refine Tr.region ?_
  refine Run.val (lt rfl) (Y.buildS (l := []) Cltick_zo36 Cltick_pl36 rfl rfl) ?_
  refine Run.store (s := [(b1, .cells #[.int .i64 0, .int .u32 0, .int .i64 0, .int .i64 0, .int .u32 0, .int .u32 0, .int .u32 0, .int .u32 0, .slice none 0 0, .slice none 0 0] 36 (0, 0))]) rfl rfl Cltick_sz36 (i := 0) rfl rfl (le rfl) rfl rfl ?_
  refine Run.val (lt rfl) (Y.assign rfl) ?_
  refine Run.to_end ?_
  refine Ex.go ?_
  refine Tr.to_ret ?_
  refine Ex.ret_block ?_
  refine Ex.ret_then ?_
  exact Ex.retCell2 [1] rfl rfl rfl Cltick_ag36 (Kn.at 0 rfl) rfl ⟨Vw.le_refl _, by rw [(Cli.rel_1 (c := c) h2).2.1]; rfl, .slice none 0 0, .slice none 0 0, by rw [(Cli.rel_1 (c := c) h2).1, (Cli.rel_1 (c := c) h2).2.2]; rfl, by rw [(Cli.rel_1 (c := c) h2).2.2]; exact ⟨Rd.nil _ _ _, Pc.Rs0 _, (show (0 : Int) ≤ 0 ∧ (0 : Int) ≤ 4294967295 by decide), (show (0 : Int) ≤ 0 ∧ (0 : Int) ≤ 4294967295 by decide), (show (0 : Int) ≤ 0 ∧ (0 : Int) ≤ 4294967295 by decide)⟩⟩

set_option maxHeartbeats 1000000 in
theorem rrelease_c {V : Vw} {bc : Nat} {c : Cli} {hv : Value} {n now : Int} (hi : Cli.Inv n c) (hh : Rd V [] 1 hv c.hw.length (c.hw.map byteV))  : Does Try.prog 32 [.pointer (some ⟨bc, 0, none⟩), .int .i64 now] V [[(bc, .cells (Cli.cells c hv) 44 (0, 0))]] (fun u V' H' => V.le V' ∧ H' = [[(bc, .cells (Cli.cells (Cli.relC c now) hv) 44 (0, 0))]] ∧ ∃ hv2 ov, u = .tuple #[.agg ((Cli.relP c now).cells hv2 ov), .int .i64 (Cli.relE c now)] ∧ Pc.R V' (Cli.relP c now) hv2 ov) := by
 have hhl := hi.hw
 have hxid : 0 ≤ (c.xid + 1) % 4294967296 ∧ (c.xid + 1) % 4294967296 ≤ 4294967295 := by omega
 refine Does.intro Try.func32 rfl rfl (le rfl) (fun B => ?_)
 refine Tr.seq ?_
 refine Tr.region ?_
 refine Run.alloc Cltick_zo36 (lt rfl) (fun b1 => ?_)
 refine Run.val (lt rfl) (Y.assign rfl) ?_
 refine Run.to_end ?_
 refine Ex.go ?_
 refine Tr.seq ?_
 refine Tr.region ?_
 refine Run.val (lt rfl) (Y.move rfl) ?_
 refine Run.call0 (l := [.tmp 8]) rfl rfl rfl (lt rfl) rmoment_c_h ?_
 refine Run.val (lt rfl) (Y.assign rfl) ?_
 refine Run.to_end ?_
 refine Ex.go ?_
 refine Tr.seq ?_
 refine Tr.seq ?_
 refine Tr.region ?_
 refine Run.val (lt rfl) (Y.move rfl) ?_
 refine Run.val (lt rfl) (Y.not rfl) ?_
 refine Run.to_end ?_
 refine Ex.go ?_
 rcases Bool.eq_false_or_eq_true (Con.moment now) with h2 | h2
 ·have g2 := h2
  try simp only [kb] at g2
  refine Tr.cond_f rfl (congrArg Bool.not h2) ?_
  refine Tr.to_end ?_
  refine Ex.go ?_
  refine Tr.seq ?_
  refine Tr.seq ?_
  refine Tr.region ?_
  refine Run.val (lt rfl) (Y.move rfl) ?_
  refine Run.call0 (l := [.tmp 13]) rfl rfl rfl (lt rfl) (rhold_c (c := c) (Kn.at 1 rfl)) ?_
  refine Run.val (lt rfl) (Y.not rfl) ?_
  refine Run.to_end ?_
  refine Ex.go ?_
  rcases Bool.eq_false_or_eq_true (Cli.holding c) with h3 | h3
  ·have g3 := h3
   try simp only [kb] at g3
   refine Tr.cond_f rfl (congrArg Bool.not h3) ?_
   refine Tr.to_end ?_
   refine Ex.go ?_
   refine Tr.seq ?_
   refine Tr.region ?_
   refine Run.val (lt rfl) (Y.move rfl) ?_
   refine Run.val (lt rfl) (Y.nilCheck rfl) ?_
   refine Run.val (lt rfl) (Y.fieldAddr rfl Cltick_fo44_3) ?_
   refine Run.val (lt rfl) (Y.load rfl Cltick_ts32 (Kn.at 1 rfl) rfl) ?_
   refine Run.val (lt rfl) (Y.int (r := .int .u32 ((c.xid + 1) % 4294967296)) rfl rfl (by simp only [intRes]; rw [Cli.wrap_u32m])) ?_
   refine Run.val (lt rfl) (Y.nilCheck rfl) ?_
   refine Run.val (lt rfl) (Y.fieldAddr rfl Cltick_fo44_3) ?_
   refine Run.store (s := [(bc, .cells #[.string c.name, hv, .int .i64 c.state, .int .u32 ((c.xid + 1) % 4294967296), .int .u32 c.addr, .int .u32 c.server, .int .i64 c.until_, .int .i64 c.one, .int .i64 c.two, .bool c.due, .int .i64 c.tries, .int .i64 c.said, .int .i64 c.asks] 44 (0, 0))]) rfl rfl Cltick_sz32 (i := 1) rfl rfl (le rfl) rfl rfl ?_
   refine Run.to_end ?_
   refine Ex.go ?_
   refine Tr.seq ?_
   refine Tr.region ?_
   refine Run.val (lt rfl) (Y.move rfl) ?_
   refine Run.call [1] (l := [.tmp 24, .const (.int .i64 7)]) rfl rfl rfl (lt rfl) (rsays_c_h (c := (⟨c.name, c.hw, c.state, (c.xid + 1) % 4294967296, c.addr, c.server, c.until_, c.one, c.two, c.due, c.tries, c.said, c.asks⟩ : Cli)) (kind := 7) hh hhl.2) (fun v4 V2 H2 hle15 hR => ?_)
   obtain ⟨_, s5, rfl, w17, p7, c8, d9, d10, rfl, hsx11, hox12, hsa13, hsb14⟩ := hR
   obtain ⟨p18, c19, rfl, _⟩ := hsx11.form
   obtain ⟨Vs16, hVe⟩ : ∃ V3 : Vw, V3 = V2 := ⟨_, rfl⟩
   subst hVe
   replace hh := hh.le hle15
   have hVle := hle15
   refine Run.heapTo (H' := [[(b1, .cells #[.int .i64 0, .int .u32 0, .int .i64 0, .int .i64 0, .int .u32 0, .int .u32 0, .int .u32 0, .int .u32 0, .slice none 0 0, .slice none 0 0] 36 (0, 0))], [(bc, .cells #[.string c.name, hv, .int .i64 c.state, .int .u32 ((c.xid + 1) % 4294967296), .int .u32 c.addr, .int .u32 c.server, .int .i64 c.until_, .int .i64 c.one, .int .i64 c.two, .bool c.due, .int .i64 c.tries, .int .i64 c.said, .int .i64 c.asks] 44 (0, 0))], s5]) rfl ?_
   refine Run.alloc Cltick_zo36 (lt rfl) (fun b20 => ?_)
   refine Run.store (s := [(b20, .cells #[.int .i64 1, .int .u32 ((c.xid + 1) % 4294967296), .int .i64 0, .int .i64 0, .int .u32 0, .int .u32 0, .int .u32 0, .int .u32 0, .slice p18 c.hw.length c19, .slice p7 2 c8] 36 (0, 0))]) rfl rfl Cltick_sz36 (i := 0) rfl rfl (le rfl) rfl rfl ?_
   refine Run.to_end ?_
   refine Ex.go ?_
   refine Tr.seq ?_
   refine Tr.region ?_
   refine Run.val (lt rfl) (Y.move rfl) ?_
   refine Run.val (lt rfl) (Y.nilCheck rfl) ?_
   refine Run.val (lt rfl) (Y.fieldAddr rfl Cltick_fo44_4) ?_
   refine Run.val (lt rfl) (Y.load rfl Cltick_ts33 (Kn.at 2 rfl) rfl) ?_
   refine Run.val (lt rfl) (Y.fieldAddr rfl Cltick_fo36_4) ?_
   refine Run.store (s := [(b20, .cells #[.int .i64 1, .int .u32 ((c.xid + 1) % 4294967296), .int .i64 0, .int .i64 0, .int .u32 c.addr, .int .u32 0, .int .u32 0, .int .u32 0, .slice p18 c.hw.length c19, .slice p7 2 c8] 36 (0, 0))]) rfl rfl Cltick_sz33 (i := 0) rfl rfl (le rfl) rfl rfl ?_
   refine Run.to_end ?_
   refine Ex.go ?_
   refine Tr.seq ?_
   refine Tr.region ?_
   refine Run.val (lt rfl) (Y.move rfl) ?_
   refine Run.call [2] (l := [.tmp 31, .const (.int .i64 6)]) rfl rfl rfl (lt rfl) (rdrop_c (c := (⟨c.name, c.hw, c.state, (c.xid + 1) % 4294967296, c.addr, c.server, c.until_, c.one, c.two, c.due, c.tries, c.said, c.asks⟩ : Cli))) (fun v21 V2 H2 _ hR => ?_)
   obtain ⟨hV, rfl, rfl⟩ := hR; replace hV := hV.symm; subst hV
   refine Run.heapTo (H' := [[(b20, .cells #[.int .i64 1, .int .u32 ((c.xid + 1) % 4294967296), .int .i64 0, .int .i64 0, .int .u32 c.addr, .int .u32 0, .int .u32 0, .int .u32 0, .slice p18 c.hw.length c19, .slice p7 2 c8] 36 (0, 0))], [(b1, .cells #[.int .i64 0, .int .u32 0, .int .i64 0, .int .i64 0, .int .u32 0, .int .u32 0, .int .u32 0, .int .u32 0, .slice none 0 0, .slice none 0 0] 36 (0, 0))], s5, [(bc, .cells #[.string ((Cli.drop (⟨c.name, c.hw, c.state, (c.xid + 1) % 4294967296, c.addr, c.server, c.until_, c.one, c.two, c.due, c.tries, c.said, c.asks⟩ : Cli) 6).name), hv, .int .i64 ((Cli.drop (⟨c.name, c.hw, c.state, (c.xid + 1) % 4294967296, c.addr, c.server, c.until_, c.one, c.two, c.due, c.tries, c.said, c.asks⟩ : Cli) 6).state), .int .u32 ((Cli.drop (⟨c.name, c.hw, c.state, (c.xid + 1) % 4294967296, c.addr, c.server, c.until_, c.one, c.two, c.due, c.tries, c.said, c.asks⟩ : Cli) 6).xid), .int .u32 ((Cli.drop (⟨c.name, c.hw, c.state, (c.xid + 1) % 4294967296, c.addr, c.server, c.until_, c.one, c.two, c.due, c.tries, c.said, c.asks⟩ : Cli) 6).addr), .int .u32 ((Cli.drop (⟨c.name, c.hw, c.state, (c.xid + 1) % 4294967296, c.addr, c.server, c.until_, c.one, c.two, c.due, c.tries, c.said, c.asks⟩ : Cli) 6).server), .int .i64 ((Cli.drop (⟨c.name, c.hw, c.state, (c.xid + 1) % 4294967296, c.addr, c.server, c.until_, c.one, c.two, c.due, c.tries, c.said, c.asks⟩ : Cli) 6).until_), .int .i64 ((Cli.drop (⟨c.name, c.hw, c.state, (c.xid + 1) % 4294967296, c.addr, c.server, c.until_, c.one, c.two, c.due, c.tries, c.said, c.asks⟩ : Cli) 6).one), .int .i64 ((Cli.drop (⟨c.name, c.hw, c.state, (c.xid + 1) % 4294967296, c.addr, c.server, c.until_, c.one, c.two, c.due, c.tries, c.said, c.asks⟩ : Cli) 6).two), .bool ((Cli.drop (⟨c.name, c.hw, c.state, (c.xid + 1) % 4294967296, c.addr, c.server, c.until_, c.one, c.two, c.due, c.tries, c.said, c.asks⟩ : Cli) 6).due), .int .i64 ((Cli.drop (⟨c.name, c.hw, c.state, (c.xid + 1) % 4294967296, c.addr, c.server, c.until_, c.one, c.two, c.due, c.tries, c.said, c.asks⟩ : Cli) 6).tries), .int .i64 ((Cli.drop (⟨c.name, c.hw, c.state, (c.xid + 1) % 4294967296, c.addr, c.server, c.until_, c.one, c.two, c.due, c.tries, c.said, c.asks⟩ : Cli) 6).said), .int .i64 ((Cli.drop (⟨c.name, c.hw, c.state, (c.xid + 1) % 4294967296, c.addr, c.server, c.until_, c.one, c.two, c.due, c.tries, c.said, c.asks⟩ : Cli) 6).asks)] 44 (0, 0))]]) rfl ?_
   refine Run.to_end ?_
   refine Ex.go ?_
   refine Tr.seq ?_
   refine Tr.region ?_
   refine Run.val (lt rfl) (Y.loadAgg rfl Cltick_ag36 (Kn.at 0 rfl) rfl) ?_
   refine Run.store (s := [(b1, .cells #[.int .i64 1, .int .u32 ((c.xid + 1) % 4294967296), .int .i64 0, .int .i64 0, .int .u32 c.addr, .int .u32 0, .int .u32 0, .int .u32 0, .slice p18 c.hw.length c19, .slice p7 2 c8] 36 (0, 0))]) rfl rfl Cltick_sz36 (i := 1) rfl rfl (le rfl) rfl rfl ?_
   refine Run.val (lt rfl) (Y.assign rfl) ?_
   refine Run.to_end ?_
   refine Ex.go ?_
   refine Tr.to_ret ?_
   refine Ex.keepTo (H' := [s5, [(b20, .cells #[.int .i64 1, .int .u32 ((c.xid + 1) % 4294967296), .int .i64 0, .int .i64 0, .int .u32 c.addr, .int .u32 0, .int .u32 0, .int .u32 0, .slice p18 c.hw.length c19, .slice p7 2 c8] 36 (0, 0))], [(b1, .cells #[.int .i64 1, .int .u32 ((c.xid + 1) % 4294967296), .int .i64 0, .int .i64 0, .int .u32 c.addr, .int .u32 0, .int .u32 0, .int .u32 0, .slice p18 c.hw.length c19, .slice p7 2 c8] 36 (0, 0))], [(bc, .cells #[.string ((Cli.drop (⟨c.name, c.hw, c.state, (c.xid + 1) % 4294967296, c.addr, c.server, c.until_, c.one, c.two, c.due, c.tries, c.said, c.asks⟩ : Cli) 6).name), hv, .int .i64 ((Cli.drop (⟨c.name, c.hw, c.state, (c.xid + 1) % 4294967296, c.addr, c.server, c.until_, c.one, c.two, c.due, c.tries, c.said, c.asks⟩ : Cli) 6).state), .int .u32 ((Cli.drop (⟨c.name, c.hw, c.state, (c.xid + 1) % 4294967296, c.addr, c.server, c.until_, c.one, c.two, c.due, c.tries, c.said, c.asks⟩ : Cli) 6).xid), .int .u32 ((Cli.drop (⟨c.name, c.hw, c.state, (c.xid + 1) % 4294967296, c.addr, c.server, c.until_, c.one, c.two, c.due, c.tries, c.said, c.asks⟩ : Cli) 6).addr), .int .u32 ((Cli.drop (⟨c.name, c.hw, c.state, (c.xid + 1) % 4294967296, c.addr, c.server, c.until_, c.one, c.two, c.due, c.tries, c.said, c.asks⟩ : Cli) 6).server), .int .i64 ((Cli.drop (⟨c.name, c.hw, c.state, (c.xid + 1) % 4294967296, c.addr, c.server, c.until_, c.one, c.two, c.due, c.tries, c.said, c.asks⟩ : Cli) 6).until_), .int .i64 ((Cli.drop (⟨c.name, c.hw, c.state, (c.xid + 1) % 4294967296, c.addr, c.server, c.until_, c.one, c.two, c.due, c.tries, c.said, c.asks⟩ : Cli) 6).one), .int .i64 ((Cli.drop (⟨c.name, c.hw, c.state, (c.xid + 1) % 4294967296, c.addr, c.server, c.until_, c.one, c.two, c.due, c.tries, c.said, c.asks⟩ : Cli) 6).two), .bool ((Cli.drop (⟨c.name, c.hw, c.state, (c.xid + 1) % 4294967296, c.addr, c.server, c.until_, c.one, c.two, c.due, c.tries, c.said, c.asks⟩ : Cli) 6).due), .int .i64 ((Cli.drop (⟨c.name, c.hw, c.state, (c.xid + 1) % 4294967296, c.addr, c.server, c.until_, c.one, c.two, c.due, c.tries, c.said, c.asks⟩ : Cli) 6).tries), .int .i64 ((Cli.drop (⟨c.name, c.hw, c.state, (c.xid + 1) % 4294967296, c.addr, c.server, c.until_, c.one, c.two, c.due, c.tries, c.said, c.asks⟩ : Cli) 6).said), .int .i64 ((Cli.drop (⟨c.name, c.hw, c.state, (c.xid + 1) % 4294967296, c.addr, c.server, c.until_, c.one, c.two, c.due, c.tries, c.said, c.asks⟩ : Cli) 6).asks)] 44 (0, 0))]]) [2, 0, 0, 0] rfl ?_
   refine Ex.show (fun V22 hleV22 hshV22 => ?_)
   have hso := hox12.shows _ hshV22
   replace hh := hh.le hleV22
   replace hsx11 := hsx11.le hleV22
   replace hsa13 := hsa13.le hleV22
   replace hsb14 := hsb14.le hleV22
   replace hVle := Vw.le_trans hVle hleV22
   have hkp : Pc.R V22 { Cli.says { c with xid := (c.xid + 1) % 4294967296 } 7 with ci := c.addr } (.slice p18 c.hw.length c19) (.slice p7 2 c8) := Cli.R_ci (Cli.Said_R (c := { c with xid := (c.xid + 1) % 4294967296 }) (kind := 7) hsx11 hso hsa13 hsb14 hxid) c.addr
   exact Ex.retCell2 [2] rfl rfl rfl Cltick_ag36 (Kn.at 1 rfl) rfl ⟨hVle, by rw [(Cli.rel_0 h2 h3).2.1]; try rfl, .slice p18 c.hw.length c19, .slice p7 2 c8, by rw [(Cli.rel_0 h2 h3).1, (Cli.rel_0 h2 h3).2.2]; rfl, by rw [(Cli.rel_0 h2 h3).2.2]; exact hkp⟩
  ·have g3 := h3
   try simp only [kb] at g3
   refine Tr.cond_t rfl (congrArg Bool.not h3) ?_
   refine Tr.seq ?_
   refine Tr.region ?_
   refine Run.val (lt rfl) (Y.buildS (l := []) Cltick_zo36 Cltick_pl36 rfl rfl) ?_
   refine Run.store (s := [(b1, .cells #[.int .i64 0, .int .u32 0, .int .i64 0, .int .i64 0, .int .u32 0, .int .u32 0, .int .u32 0, .int .u32 0, .slice none 0 0, .slice none 0 0] 36 (0, 0))]) rfl rfl Cltick_sz36 (i := 0) rfl rfl (le rfl) rfl rfl ?_
   refine Run.val (lt rfl) (Y.assign rfl) ?_
   refine Run.to_end ?_
   refine Ex.go ?_
   refine Tr.to_ret ?_
   refine Ex.ret_then ?_
   exact Ex.retCell2 [1] rfl rfl rfl Cltick_ag36 (Kn.at 0 rfl) rfl ⟨Vw.le_refl _, by rw [(Cli.rel_6 h2 h3).2.1]; rfl, .slice none 0 0, .slice none 0 0, by rw [(Cli.rel_6 h2 h3).1, (Cli.rel_6 h2 h3).2.2]; rfl, by rw [(Cli.rel_6 h2 h3).2.2]; exact ⟨Rd.nil _ _ _, Pc.Rs0 _, (show (0 : Int) ≤ 0 ∧ (0 : Int) ≤ 4294967295 by decide), (show (0 : Int) ≤ 0 ∧ (0 : Int) ≤ 4294967295 by decide), (show (0 : Int) ≤ 0 ∧ (0 : Int) ≤ 4294967295 by decide)⟩⟩
 ·have g2 := h2
  try simp only [kb] at g2
  refine Tr.cond_t rfl (congrArg Bool.not h2) ?_
  refine Tr.seq ?_
  refine Tr.region ?_
  refine Run.val (lt rfl) (Y.buildS (l := []) Cltick_zo36 Cltick_pl36 rfl rfl) ?_
  refine Run.store (s := [(b1, .cells #[.int .i64 0, .int .u32 0, .int .i64 0, .int .i64 0, .int .u32 0, .int .u32 0, .int .u32 0, .int .u32 0, .slice none 0 0, .slice none 0 0] 36 (0, 0))]) rfl rfl Cltick_sz36 (i := 0) rfl rfl (le rfl) rfl rfl ?_
  refine Run.val (lt rfl) (Y.assign rfl) ?_
  refine Run.to_end ?_
  refine Ex.go ?_
  refine Tr.to_ret ?_
  refine Ex.ret_then ?_
  exact Ex.retCell2 [1] rfl rfl rfl Cltick_ag36 (Kn.at 0 rfl) rfl ⟨Vw.le_refl _, by rw [(Cli.rel_1 (c := c) h2).2.1]; rfl, .slice none 0 0, .slice none 0 0, by rw [(Cli.rel_1 (c := c) h2).1, (Cli.rel_1 (c := c) h2).2.2]; rfl, by rw [(Cli.rel_1 (c := c) h2).2.2]; exact ⟨Rd.nil _ _ _, Pc.Rs0 _, (show (0 : Int) ≤ 0 ∧ (0 : Int) ≤ 4294967295 by decide), (show (0 : Int) ≤ 0 ∧ (0 : Int) ≤ 4294967295 by decide), (show (0 : Int) ≤ 0 ∧ (0 : Int) ≤ 4294967295 by decide)⟩⟩
end Go.Proofs.Ytelahacalnmilaa
