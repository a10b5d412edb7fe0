/- What a client comes to at a moment.
Conditions: as each theorem names them. -/
import Derived.Test.YtelahacalnmilaaProg
import Derived.Test.YtelahacalnmilaaClient
set_option linter.unusedSimpArgs false
set_option linter.unusedVariables false
set_option maxRecDepth 4000
namespace Go.Proofs.Ytelahacalnmilaa
open Go Go.K
attribute [local irreducible] Code.wp wpList Calls wpQuiet
theorem Clturn_fo67_6 : fieldOff Try.prog 67 6 = some 6 := by kernel_rfl
theorem Clturn_ts3 : scal Try.prog 3 = true := by kernel_rfl
theorem Clturn_fo67_2 : fieldOff Try.prog 67 2 = some 2 := by kernel_rfl
theorem Clturn_fo67_7 : fieldOff Try.prog 67 7 = some 7 := by kernel_rfl
theorem Clturn_fo67_3 : fieldOff Try.prog 67 3 = some 3 := by kernel_rfl
theorem Clturn_ts32 : scal Try.prog 32 = true := by kernel_rfl
theorem Clturn_sz32 : sizeT Try.prog 32 = some 1 := by kernel_rfl
theorem Clturn_fo67_12 : fieldOff Try.prog 67 12 = some 12 := by kernel_rfl
theorem Clturn_sz3 : sizeT Try.prog 3 = some 1 := by kernel_rfl
theorem Clturn_fo67_8 : fieldOff Try.prog 67 8 = some 8 := by kernel_rfl
theorem Clturn_fo67_9 : fieldOff Try.prog 67 9 = some 9 := by kernel_rfl
theorem Clturn_sz4 : sizeT Try.prog 4 = some 1 := by kernel_rfl
theorem Clturn_ts4 : scal Try.prog 4 = true := by kernel_rfl
theorem Clturn_fo67_11 : fieldOff Try.prog 67 11 = some 11 := by kernel_rfl
theorem Clturn_fo67_10 : fieldOff Try.prog 67 10 = some 10 := by kernel_rfl
theorem Clturn_fo44_6 : fieldOff Try.prog 44 6 = some 6 := by kernel_rfl
theorem Clturn_fo44_2 : fieldOff Try.prog 44 2 = some 2 := by kernel_rfl
theorem Clturn_fo44_7 : fieldOff Try.prog 44 7 = some 7 := by kernel_rfl
theorem Clturn_fo44_3 : fieldOff Try.prog 44 3 = some 3 := by kernel_rfl
theorem Clturn_fo44_10 : fieldOff Try.prog 44 10 = some 10 := by kernel_rfl
theorem Clturn_fo44_9 : fieldOff Try.prog 44 9 = some 9 := by kernel_rfl
theorem Clturn_fo44_12 : fieldOff Try.prog 44 12 = some 12 := by kernel_rfl
theorem Clturn_fo44_8 : fieldOff Try.prog 44 8 = some 8 := by kernel_rfl
theorem Clturn_fo44_11 : fieldOff Try.prog 44 11 = some 11 := by kernel_rfl

set_option maxHeartbeats 4000000 in
theorem turn_c {V : Vw} {bc : Nat} {c : Cli} {hv : Value} {n now : Int} (hi : Cli.Inv n c) (hs : ¬ c.state = 6) (hm : 0 ≤ now ∧ now ≤ 1099511627776)  : Does Try.prog 37 [.pointer (some ⟨bc, 0, none⟩), .int .i64 now] V [[(bc, .cells (Cli.cells c hv) 67 (0, 0))]] (fun u V' H' => V' = V ∧ u = .tuple #[] ∧ H' = [[(bc, .cells (Cli.cells (Cli.turn c now) hv) 67 (0, 0))]]) := by
 refine Does.intro Try.func37 rfl rfl (le rfl) (fun B => ?_)
 refine Tr.cutx (X := Cli) (fun cx => V) (fun cx => [[(bc, .cells #[.string cx.name, hv, .int .i64 cx.state, .int .u32 cx.xid, .int .u32 cx.addr, .int .u32 cx.server, .int .i64 cx.until_, .int .i64 cx.one, .int .i64 cx.two, .bool cx.due, .int .i64 cx.tries, .int .i64 cx.said, .int .i64 cx.asks] 67 (0, 0))]]) (fun cx => [(0, .pointer (some ⟨bc, 0, none⟩)), (1, .int .i64 now)]) (fun cx => cx = Cli.turn1 c now ∧ Cli.Inv n cx ∧ ¬ cx.state = 6) ?_ ?_
 ·refine Tr.seq ?_
  refine Tr.region ?_
  refine Run.val (lt rfl) (Y.move rfl) ?_
  refine Run.call0 (l := [.tmp 5]) rfl rfl rfl (lt rfl) (hold_c (c := c) (Kn.at 0 rfl)) ?_
  refine Run.val (lt rfl) (Y.move rfl) ?_
  rcases Bool.eq_false_or_eq_true (Cli.holding c) with h1 | h1
  ·have g1 := h1
   try simp only [kb] at g1
   refine Run.on rfl rfl rfl h1 ?_
   refine Run.val (lt rfl) (Y.move rfl) ?_
   refine Run.on rfl rfl rfl h1 ?_
   refine Run.val (lt rfl) (Y.move rfl) ?_
   refine Run.on rfl rfl rfl h1 ?_
   refine Run.val (lt rfl) (Y.nilCheck rfl) ?_
   refine Run.on rfl rfl rfl h1 ?_
   refine Run.val (lt rfl) (Y.fieldAddr rfl Clturn_fo67_6) ?_
   refine Run.on rfl rfl rfl h1 ?_
   refine Run.val (lt rfl) (Y.load rfl Clturn_ts3 (Kn.at 0 rfl) rfl) ?_
   refine Run.on rfl rfl rfl h1 ?_
   refine Run.val (lt rfl) (Y.int rfl rfl rfl) ?_
   refine Run.val (lt rfl) (Y.pick_t rfl h1 rfl) ?_
   refine Run.to_end ?_
   refine Ex.go ?_
   rcases Bool.eq_false_or_eq_true (decide (now > c.until_)) with h2 | h2
   ·have g2 := h2
    try simp only [kb] at g2
    refine Tr.cond_t rfl h2 ?_
    refine Tr.region ?_
    refine Run.val (lt rfl) (Y.move rfl) ?_
    refine Run.call [0] (l := [.tmp 15, .const (.int .i64 0)]) rfl rfl rfl (lt rfl) (drop_c (c := c)) (fun v3 V2 H2 _ hR => ?_)
    obtain ⟨hV, rfl, rfl⟩ := hR; replace hV := hV.symm; subst hV
    refine Run.to_end ?_
    exact Ex.cutx (Cli.turn1 c now) ⟨rfl, hi.turn1 now, Cli.turn1_ne hs⟩ rfl (by rw [Cli.turn1_y h1 (by omega)]; try rfl) (subB_cons (by first | rfl | exact congrArg (fun z => some (Value.int _ z)) (by omega)) (subB_cons (by first | rfl | exact congrArg (fun z => some (Value.int _ z)) (by omega)) (subB_nil _)))
   ·have g2 := h2
    try simp only [kb] at g2
    refine Tr.cond_f rfl h2 ?_
    refine Tr.to_end ?_
    exact Ex.cutx (Cli.turn1 c now) ⟨rfl, hi.turn1 now, Cli.turn1_ne hs⟩ rfl (by rw [Cli.turn1_n (.inr (by omega))]; try rfl) (subB_cons (by first | rfl | exact congrArg (fun z => some (Value.int _ z)) (by omega)) (subB_cons (by first | rfl | exact congrArg (fun z => some (Value.int _ z)) (by omega)) (subB_nil _)))
  ·have g1 := h1
   try simp only [kb] at g1
   refine Run.off rfl rfl rfl h1 rfl (lt rfl) ?_
   refine Run.off rfl rfl rfl h1 rfl (lt rfl) ?_
   refine Run.off rfl rfl rfl h1 rfl (lt rfl) ?_
   refine Run.off rfl rfl rfl h1 rfl (lt rfl) ?_
   refine Run.off rfl rfl rfl h1 rfl (lt rfl) ?_
   refine Run.off rfl rfl rfl h1 rfl (lt rfl) ?_
   refine Run.val (lt rfl) (Y.pick_f rfl h1 rfl) ?_
   refine Run.to_end ?_
   refine Ex.go ?_
   refine Tr.cond_f rfl rfl ?_
   refine Tr.to_end ?_
   exact Ex.cutx (Cli.turn1 c now) ⟨rfl, hi.turn1 now, Cli.turn1_ne hs⟩ rfl (by rw [Cli.turn1_n (.inl h1)]; try rfl) (subB_cons (by first | rfl | exact congrArg (fun z => some (Value.int _ z)) (by omega)) (subB_cons (by first | rfl | exact congrArg (fun z => some (Value.int _ z)) (by omega)) (subB_nil _)))
 ·rintro cx ⟨hcx, hix, hsx⟩
  have hsdcx := hix.said
  refine Tr.cutx (X := Cli) (fun cy => V) (fun cy => [[(bc, .cells #[.string cy.name, hv, .int .i64 cy.state, .int .u32 cy.xid, .int .u32 cy.addr, .int .u32 cy.server, .int .i64 cy.until_, .int .i64 cy.one, .int .i64 cy.two, .bool cy.due, .int .i64 cy.tries, .int .i64 cy.said, .int .i64 cy.asks] 67 (0, 0))]]) (fun cy => [(0, .pointer (some ⟨bc, 0, none⟩)), (1, .int .i64 now)]) (fun cy => cy = Cli.turn2 cx now ∧ Cli.Inv n cy ∧ ¬ cy.state = 6) ?_ ?_
  ·refine Tr.seq ?_
   refine Tr.region ?_
   refine Run.val (lt rfl) (Y.move rfl) ?_
   refine Run.val (lt rfl) (Y.nilCheck rfl) ?_
   refine Run.val (lt rfl) (Y.fieldAddr rfl Clturn_fo67_2) ?_
   refine Run.val (lt rfl) (Y.load rfl Clturn_ts3 (Kn.at 0 rfl) rfl) ?_
   refine Run.val (lt rfl) (Y.int rfl rfl rfl) ?_
   refine Run.val (lt rfl) (Y.move rfl) ?_
   rcases Bool.eq_false_or_eq_true (cx.state == 3) with h4 | h4
   ·have g4 := h4
    try simp only [kb] at g4
    refine Run.on rfl rfl rfl h4 ?_
    refine Run.val (lt rfl) (Y.move rfl) ?_
    refine Run.on rfl rfl rfl h4 ?_
    refine Run.val (lt rfl) (Y.move rfl) ?_
    refine Run.on rfl rfl rfl h4 ?_
    refine Run.val (lt rfl) (Y.nilCheck rfl) ?_
    refine Run.on rfl rfl rfl h4 ?_
    refine Run.val (lt rfl) (Y.fieldAddr rfl Clturn_fo67_7) ?_
    refine Run.on rfl rfl rfl h4 ?_
    refine Run.val (lt rfl) (Y.load rfl Clturn_ts3 (Kn.at 0 rfl) rfl) ?_
    refine Run.on rfl rfl rfl h4 ?_
    refine Run.val (lt rfl) (Y.int rfl rfl rfl) ?_
    refine Run.val (lt rfl) (Y.pick_t rfl h4 rfl) ?_
    refine Run.to_end ?_
    refine Ex.go ?_
    rcases Bool.eq_false_or_eq_true (decide (now ≥ cx.one)) with h5 | h5
    ·have g5 := h5
     try simp only [kb] at g5
     refine Tr.cond_t rfl h5 ?_
     refine Tr.seq ?_
     refine Tr.region ?_
     refine Run.val (lt rfl) (Y.move rfl) ?_
     refine Run.val (lt rfl) (Y.nilCheck rfl) ?_
     refine Run.val (lt rfl) (Y.fieldAddr rfl Clturn_fo67_3) ?_
     refine Run.val (lt rfl) (Y.load rfl Clturn_ts32 (Kn.at 0 rfl) rfl) ?_
     refine Run.val (lt rfl) (Y.int (r := .int .u32 ((cx.xid + 1) % 4294967296)) rfl rfl (by simp only [intRes]; rw [Cli.wrap_u32m])) ?_
     refine Run.val (lt rfl) (Y.nilCheck rfl) ?_
     refine Run.val (lt rfl) (Y.fieldAddr rfl Clturn_fo67_3) ?_
     refine Run.store (s := [(bc, .cells #[.string cx.name, hv, .int .i64 cx.state, .int .u32 ((cx.xid + 1) % 4294967296), .int .u32 cx.addr, .int .u32 cx.server, .int .i64 cx.until_, .int .i64 cx.one, .int .i64 cx.two, .bool cx.due, .int .i64 cx.tries, .int .i64 cx.said, .int .i64 cx.asks] 67 (0, 0))]) rfl rfl Clturn_sz32 (i := 0) rfl rfl (le rfl) rfl rfl ?_
     refine Run.to_end ?_
     refine Ex.go ?_
     refine Tr.seq ?_
     refine Tr.region ?_
     refine Run.val (lt rfl) (Y.move rfl) ?_
     refine Run.call [0] (l := [.tmp 37, .const (.int .i64 4)]) rfl rfl rfl (lt rfl) (speak_c (c := (⟨cx.name, cx.hw, cx.state, (cx.xid + 1) % 4294967296, cx.addr, cx.server, cx.until_, cx.one, cx.two, cx.due, cx.tries, cx.said, cx.asks⟩ : Cli))) (fun v6 V2 H2 _ hR => ?_)
     obtain ⟨hV, rfl, rfl⟩ := hR; replace hV := hV.symm; subst hV
     refine Run.to_end ?_
     refine Ex.go ?_
     refine Tr.region ?_
     refine Run.val (lt rfl) (Y.move rfl) ?_
     refine Run.val (lt rfl) (Y.move rfl) ?_
     refine Run.val (lt rfl) (Y.nilCheck rfl) ?_
     refine Run.val (lt rfl) (Y.fieldAddr rfl Clturn_fo67_12) ?_
     refine Run.store (s := [(bc, .cells #[.string ((Cli.speak (⟨cx.name, cx.hw, cx.state, (cx.xid + 1) % 4294967296, cx.addr, cx.server, cx.until_, cx.one, cx.two, cx.due, cx.tries, cx.said, cx.asks⟩ : Cli) 4).name), hv, .int .i64 ((Cli.speak (⟨cx.name, cx.hw, cx.state, (cx.xid + 1) % 4294967296, cx.addr, cx.server, cx.until_, cx.one, cx.two, cx.due, cx.tries, cx.said, cx.asks⟩ : Cli) 4).state), .int .u32 ((Cli.speak (⟨cx.name, cx.hw, cx.state, (cx.xid + 1) % 4294967296, cx.addr, cx.server, cx.until_, cx.one, cx.two, cx.due, cx.tries, cx.said, cx.asks⟩ : Cli) 4).xid), .int .u32 ((Cli.speak (⟨cx.name, cx.hw, cx.state, (cx.xid + 1) % 4294967296, cx.addr, cx.server, cx.until_, cx.one, cx.two, cx.due, cx.tries, cx.said, cx.asks⟩ : Cli) 4).addr), .int .u32 ((Cli.speak (⟨cx.name, cx.hw, cx.state, (cx.xid + 1) % 4294967296, cx.addr, cx.server, cx.until_, cx.one, cx.two, cx.due, cx.tries, cx.said, cx.asks⟩ : Cli) 4).server), .int .i64 ((Cli.speak (⟨cx.name, cx.hw, cx.state, (cx.xid + 1) % 4294967296, cx.addr, cx.server, cx.until_, cx.one, cx.two, cx.due, cx.tries, cx.said, cx.asks⟩ : Cli) 4).until_), .int .i64 ((Cli.speak (⟨cx.name, cx.hw, cx.state, (cx.xid + 1) % 4294967296, cx.addr, cx.server, cx.until_, cx.one, cx.two, cx.due, cx.tries, cx.said, cx.asks⟩ : Cli) 4).one), .int .i64 ((Cli.speak (⟨cx.name, cx.hw, cx.state, (cx.xid + 1) % 4294967296, cx.addr, cx.server, cx.until_, cx.one, cx.two, cx.due, cx.tries, cx.said, cx.asks⟩ : Cli) 4).two), .bool ((Cli.speak (⟨cx.name, cx.hw, cx.state, (cx.xid + 1) % 4294967296, cx.addr, cx.server, cx.until_, cx.one, cx.two, cx.due, cx.tries, cx.said, cx.asks⟩ : Cli) 4).due), .int .i64 ((Cli.speak (⟨cx.name, cx.hw, cx.state, (cx.xid + 1) % 4294967296, cx.addr, cx.server, cx.until_, cx.one, cx.two, cx.due, cx.tries, cx.said, cx.asks⟩ : Cli) 4).tries), .int .i64 ((Cli.speak (⟨cx.name, cx.hw, cx.state, (cx.xid + 1) % 4294967296, cx.addr, cx.server, cx.until_, cx.one, cx.two, cx.due, cx.tries, cx.said, cx.asks⟩ : Cli) 4).said), .int .i64 now] 67 (0, 0))]) rfl rfl Clturn_sz3 (i := 0) rfl rfl (le rfl) rfl rfl ?_
     refine Run.to_end ?_
     exact Ex.cutx (Cli.turn2 cx now) ⟨rfl, hix.turn2 hm, Cli.turn2_ne hsx⟩ rfl (by rw [Cli.turn2_y g4 (by omega)]; try rfl) (subB_cons (by first | rfl | exact congrArg (fun z => some (Value.int _ z)) (by omega)) (subB_cons (by first | rfl | exact congrArg (fun z => some (Value.int _ z)) (by omega)) (subB_nil _)))
    ·have g5 := h5
     try simp only [kb] at g5
     refine Tr.cond_f rfl h5 ?_
     refine Tr.to_end ?_
     exact Ex.cutx (Cli.turn2 cx now) ⟨rfl, hix.turn2 hm, Cli.turn2_ne hsx⟩ rfl (by rw [Cli.turn2_n (.inr (by omega))]; try rfl) (subB_cons (by first | rfl | exact congrArg (fun z => some (Value.int _ z)) (by omega)) (subB_cons (by first | rfl | exact congrArg (fun z => some (Value.int _ z)) (by omega)) (subB_nil _)))
   ·have g4 := h4
    try simp only [kb] at g4
    refine Run.off rfl rfl rfl h4 rfl (lt rfl) ?_
    refine Run.off rfl rfl rfl h4 rfl (lt rfl) ?_
    refine Run.off rfl rfl rfl h4 rfl (lt rfl) ?_
    refine Run.off rfl rfl rfl h4 rfl (lt rfl) ?_
    refine Run.off rfl rfl rfl h4 rfl (lt rfl) ?_
    refine Run.off rfl rfl rfl h4 rfl (lt rfl) ?_
    refine Run.val (lt rfl) (Y.pick_f rfl h4 rfl) ?_
    refine Run.to_end ?_
    refine Ex.go ?_
    refine Tr.cond_f rfl rfl ?_
    refine Tr.to_end ?_
    exact Ex.cutx (Cli.turn2 cx now) ⟨rfl, hix.turn2 hm, Cli.turn2_ne hsx⟩ rfl (by rw [Cli.turn2_n (.inl g4)]; try rfl) (subB_cons (by first | rfl | exact congrArg (fun z => some (Value.int _ z)) (by omega)) (subB_cons (by first | rfl | exact congrArg (fun z => some (Value.int _ z)) (by omega)) (subB_nil _)))
  ·rintro cy ⟨hcy, hiy, hsy⟩
   have hsdcy := hiy.said
   refine Tr.cutx (X := Cli) (fun cz => V) (fun cz => [[(bc, .cells #[.string cz.name, hv, .int .i64 cz.state, .int .u32 cz.xid, .int .u32 cz.addr, .int .u32 cz.server, .int .i64 cz.until_, .int .i64 cz.one, .int .i64 cz.two, .bool cz.due, .int .i64 cz.tries, .int .i64 cz.said, .int .i64 cz.asks] 67 (0, 0))]]) (fun cz => [(0, .pointer (some ⟨bc, 0, none⟩)), (1, .int .i64 now)]) (fun cz => cz = Cli.turn3 cy now ∧ Cli.Inv n cz ∧ ¬ cz.state = 6) ?_ ?_
   ·refine Tr.seq ?_
    refine Tr.region ?_
    refine Run.val (lt rfl) (Y.move rfl) ?_
    refine Run.val (lt rfl) (Y.nilCheck rfl) ?_
    refine Run.val (lt rfl) (Y.fieldAddr rfl Clturn_fo67_2) ?_
    refine Run.val (lt rfl) (Y.load rfl Clturn_ts3 (Kn.at 0 rfl) rfl) ?_
    refine Run.val (lt rfl) (Y.int rfl rfl rfl) ?_
    refine Run.val (lt rfl) (Y.move rfl) ?_
    rcases Bool.eq_false_or_eq_true (cy.state == 4) with h7 | h7
    ·have g7 := h7
     try simp only [kb] at g7
     refine Run.on rfl rfl rfl h7 ?_
     refine Run.val (lt rfl) (Y.move rfl) ?_
     refine Run.on rfl rfl rfl h7 ?_
     refine Run.val (lt rfl) (Y.move rfl) ?_
     refine Run.on rfl rfl rfl h7 ?_
     refine Run.val (lt rfl) (Y.nilCheck rfl) ?_
     refine Run.on rfl rfl rfl h7 ?_
     refine Run.val (lt rfl) (Y.fieldAddr rfl Clturn_fo67_8) ?_
     refine Run.on rfl rfl rfl h7 ?_
     refine Run.val (lt rfl) (Y.load rfl Clturn_ts3 (Kn.at 0 rfl) rfl) ?_
     refine Run.on rfl rfl rfl h7 ?_
     refine Run.val (lt rfl) (Y.int rfl rfl rfl) ?_
     refine Run.val (lt rfl) (Y.pick_t rfl h7 rfl) ?_
     refine Run.to_end ?_
     refine Ex.go ?_
     rcases Bool.eq_false_or_eq_true (decide (now ≥ cy.two)) with h8 | h8
     ·have g8 := h8
      try simp only [kb] at g8
      refine Tr.cond_t rfl h8 ?_
      refine Tr.region ?_
      refine Run.val (lt rfl) (Y.move rfl) ?_
      refine Run.val (lt rfl) (Y.move rfl) ?_
      refine Run.val (lt rfl) (Y.nilCheck rfl) ?_
      refine Run.val (lt rfl) (Y.fieldAddr rfl Clturn_fo67_2) ?_
      refine Run.store (s := [(bc, .cells #[.string cy.name, hv, .int .i64 5, .int .u32 cy.xid, .int .u32 cy.addr, .int .u32 cy.server, .int .i64 cy.until_, .int .i64 cy.one, .int .i64 cy.two, .bool cy.due, .int .i64 cy.tries, .int .i64 cy.said, .int .i64 cy.asks] 67 (0, 0))]) rfl rfl Clturn_sz3 (i := 0) rfl rfl (le rfl) rfl rfl ?_
      refine Run.val (lt rfl) (Y.nilCheck rfl) ?_
      refine Run.val (lt rfl) (Y.fieldAddr rfl Clturn_fo67_9) ?_
      refine Run.store (s := [(bc, .cells #[.string cy.name, hv, .int .i64 5, .int .u32 cy.xid, .int .u32 cy.addr, .int .u32 cy.server, .int .i64 cy.until_, .int .i64 cy.one, .int .i64 cy.two, .bool true, .int .i64 cy.tries, .int .i64 cy.said, .int .i64 cy.asks] 67 (0, 0))]) rfl rfl Clturn_sz4 (i := 0) rfl rfl (le rfl) rfl rfl ?_
      refine Run.to_end ?_
      exact Ex.cutx (Cli.turn3 cy now) ⟨rfl, hiy.turn3 now, Cli.turn3_ne hsy⟩ rfl (by rw [Cli.turn3_y g7 (by omega)]; try rfl) (subB_cons (by first | rfl | exact congrArg (fun z => some (Value.int _ z)) (by omega)) (subB_cons (by first | rfl | exact congrArg (fun z => some (Value.int _ z)) (by omega)) (subB_nil _)))
     ·have g8 := h8
      try simp only [kb] at g8
      refine Tr.cond_f rfl h8 ?_
      refine Tr.to_end ?_
      exact Ex.cutx (Cli.turn3 cy now) ⟨rfl, hiy.turn3 now, Cli.turn3_ne hsy⟩ rfl (by rw [Cli.turn3_n (.inr (by omega))]; try rfl) (subB_cons (by first | rfl | exact congrArg (fun z => some (Value.int _ z)) (by omega)) (subB_cons (by first | rfl | exact congrArg (fun z => some (Value.int _ z)) (by omega)) (subB_nil _)))
    ·have g7 := h7
     try simp only [kb] at g7
     refine Run.off rfl rfl rfl h7 rfl (lt rfl) ?_
     refine Run.off rfl rfl rfl h7 rfl (lt rfl) ?_
     refine Run.off rfl rfl rfl h7 rfl (lt rfl) ?_
     refine Run.off rfl rfl rfl h7 rfl (lt rfl) ?_
     refine Run.off rfl rfl rfl h7 rfl (lt rfl) ?_
     refine Run.off rfl rfl rfl h7 rfl (lt rfl) ?_
     refine Run.val (lt rfl) (Y.pick_f rfl h7 rfl) ?_
     refine Run.to_end ?_
     refine Ex.go ?_
     refine Tr.cond_f rfl rfl ?_
     refine Tr.to_end ?_
     exact Ex.cutx (Cli.turn3 cy now) ⟨rfl, hiy.turn3 now, Cli.turn3_ne hsy⟩ rfl (by rw [Cli.turn3_n (.inl g7)]; try rfl) (subB_cons (by first | rfl | exact congrArg (fun z => some (Value.int _ z)) (by omega)) (subB_cons (by first | rfl | exact congrArg (fun z => some (Value.int _ z)) (by omega)) (subB_nil _)))
   ·rintro cz ⟨hcz, hiz, hsz⟩
    have hsdcz := hiz.said
    refine Tr.seq ?_
    refine Tr.region ?_
    refine Run.val (lt rfl) (Y.move rfl) ?_
    refine Run.val (lt rfl) (Y.nilCheck rfl) ?_
    refine Run.val (lt rfl) (Y.fieldAddr rfl Clturn_fo67_9) ?_
    refine Run.val (lt rfl) (Y.load rfl Clturn_ts4 (Kn.at 0 rfl) rfl) ?_
    refine Run.val (lt rfl) (Y.not rfl) ?_
    refine Run.val (lt rfl) (Y.move rfl) ?_
    rcases Bool.eq_false_or_eq_true (cz.due) with h9 | h9
    ·have g9 := h9
     try simp only [kb] at g9
     refine Run.off rfl rfl rfl (congrArg Bool.not h9) rfl (lt rfl) ?_
     refine Run.off rfl rfl rfl (congrArg Bool.not h9) rfl (lt rfl) ?_
     refine Run.off rfl rfl rfl (congrArg Bool.not h9) rfl (lt rfl) ?_
     refine Run.off rfl rfl rfl (congrArg Bool.not h9) rfl (lt rfl) ?_
     refine Run.off rfl rfl rfl (congrArg Bool.not h9) rfl (lt rfl) ?_
     refine Run.off rfl rfl rfl (congrArg Bool.not h9) rfl (lt rfl) ?_
     refine Run.off rfl rfl rfl (congrArg Bool.not h9) rfl (lt rfl) ?_
     refine Run.val (lt rfl) (Y.pick_f rfl (congrArg Bool.not h9) rfl) ?_
     refine Run.val (lt rfl) (Y.assign rfl) ?_
     refine Run.to_end ?_
     refine Ex.go ?_
     refine Tr.block ?_
     refine Tr.seq ?_
     refine Tr.region ?_
     refine Run.val (lt rfl) (Y.move rfl) ?_
     refine Run.val (lt rfl) (Y.nilCheck rfl) ?_
     refine Run.val (lt rfl) (Y.fieldAddr rfl Clturn_fo67_2) ?_
     refine Run.val (lt rfl) (Y.load rfl Clturn_ts3 (Kn.at 0 rfl) rfl) ?_
     refine Run.val (lt rfl) (Y.int rfl rfl rfl) ?_
     refine Run.val (lt rfl) (Y.assign rfl) ?_
     refine Run.to_end ?_
     refine Ex.go ?_
     rcases Bool.eq_false_or_eq_true (cz.state == 0) with h10 | h10
     ·have g10 := h10
      try simp only [kb] at g10
      refine Tr.cond_t rfl h10 ?_
      refine Tr.region ?_
      refine Run.val (lt rfl) (Y.move rfl) ?_
      refine Run.call [0] (l := [.tmp 84]) rfl rfl rfl (lt rfl) (anew_c (c := cz)) (fun v11 V2 H2 _ hR => ?_)
      obtain ⟨hV, rfl, rfl⟩ := hR; replace hV := hV.symm; subst hV
      refine Run.to_end ?_
      refine Ex.end_block ?_
      refine Ex.keep [0] ?_
      exact Ex.end0 rfl ⟨rfl, rfl, by rw [((by rw [hcz, hcy, hcx]; rfl : Cli.turn c now = Cli.turn4 cz now).trans (Cli.turn4_0 g10))]; try rfl⟩
     ·have g10 := h10
      try simp only [kb] at g10
      refine Tr.cond_f rfl h10 ?_
      refine Tr.seq ?_
      refine Tr.region ?_
      refine Run.val (lt rfl) (Y.move rfl) ?_
      refine Run.val (lt rfl) (Y.not rfl) ?_
      refine Run.val (lt rfl) (Y.move rfl) ?_
      refine Run.off rfl rfl rfl rfl rfl (lt rfl) ?_
      refine Run.off rfl rfl rfl rfl rfl (lt rfl) ?_
      refine Run.off rfl rfl rfl rfl rfl (lt rfl) ?_
      refine Run.off rfl rfl rfl rfl rfl (lt rfl) ?_
      refine Run.off rfl rfl rfl rfl rfl (lt rfl) ?_
      refine Run.val (lt rfl) (Y.pick_t rfl rfl rfl) ?_
      refine Run.val (lt rfl) (Y.assign rfl) ?_
      refine Run.to_end ?_
      refine Ex.go ?_
      refine Tr.cond_t rfl rfl ?_
      refine Tr.to_end ?_
      refine Ex.end_block ?_
      refine Ex.keep [0] ?_
      exact Ex.end0 rfl ⟨rfl, rfl, by rw [((by rw [hcz, hcy, hcx]; rfl : Cli.turn c now = Cli.turn4 cz now).trans (Cli.turn4_n g10 (.inl (by simp only [Cli.late, h9]; rfl))))]; try rfl⟩
    ·have g9 := h9
     try simp only [kb] at g9
     refine Run.on rfl rfl rfl (congrArg Bool.not h9) ?_
     refine Run.val (lt rfl) (Y.move rfl) ?_
     refine Run.on rfl rfl rfl (congrArg Bool.not h9) ?_
     refine Run.val (lt rfl) (Y.move rfl) ?_
     refine Run.on rfl rfl rfl (congrArg Bool.not h9) ?_
     refine Run.val (lt rfl) (Y.nilCheck rfl) ?_
     refine Run.on rfl rfl rfl (congrArg Bool.not h9) ?_
     refine Run.val (lt rfl) (Y.fieldAddr rfl Clturn_fo67_11) ?_
     refine Run.on rfl rfl rfl (congrArg Bool.not h9) ?_
     refine Run.val (lt rfl) (Y.load rfl Clturn_ts3 (Kn.at 0 rfl) rfl) ?_
     refine Run.on rfl rfl rfl (congrArg Bool.not h9) ?_
     refine Run.val (lt rfl) (Y.sub rfl rfl (by omega)) ?_
     refine Run.on rfl rfl rfl (congrArg Bool.not h9) ?_
     refine Run.val (lt rfl) (Y.int rfl rfl rfl) ?_
     refine Run.val (lt rfl) (Y.pick_t rfl (congrArg Bool.not h9) rfl) ?_
     refine Run.val (lt rfl) (Y.assign rfl) ?_
     refine Run.to_end ?_
     refine Ex.go ?_
     refine Tr.block ?_
     refine Tr.seq ?_
     refine Tr.region ?_
     refine Run.val (lt rfl) (Y.move rfl) ?_
     refine Run.val (lt rfl) (Y.nilCheck rfl) ?_
     refine Run.val (lt rfl) (Y.fieldAddr rfl Clturn_fo67_2) ?_
     refine Run.val (lt rfl) (Y.load rfl Clturn_ts3 (Kn.at 0 rfl) rfl) ?_
     refine Run.val (lt rfl) (Y.int rfl rfl rfl) ?_
     refine Run.val (lt rfl) (Y.assign rfl) ?_
     refine Run.to_end ?_
     refine Ex.go ?_
     rcases Bool.eq_false_or_eq_true (cz.state == 0) with h12 | h12
     ·have g12 := h12
      try simp only [kb] at g12
      refine Tr.cond_t rfl h12 ?_
      refine Tr.region ?_
      refine Run.val (lt rfl) (Y.move rfl) ?_
      refine Run.call [0] (l := [.tmp 84]) rfl rfl rfl (lt rfl) (anew_c (c := cz)) (fun v13 V2 H2 _ hR => ?_)
      obtain ⟨hV, rfl, rfl⟩ := hR; replace hV := hV.symm; subst hV
      refine Run.to_end ?_
      refine Ex.end_block ?_
      refine Ex.keep [0] ?_
      exact Ex.end0 rfl ⟨rfl, rfl, by rw [((by rw [hcz, hcy, hcx]; rfl : Cli.turn c now = Cli.turn4 cz now).trans (Cli.turn4_0 g12))]; try rfl⟩
     ·have g12 := h12
      try simp only [kb] at g12
      refine Tr.cond_f rfl h12 ?_
      refine Tr.seq ?_
      refine Tr.region ?_
      refine Run.val (lt rfl) (Y.move rfl) ?_
      refine Run.val (lt rfl) (Y.not rfl) ?_
      refine Run.val (lt rfl) (Y.move rfl) ?_
      rcases Bool.eq_false_or_eq_true (decide ((now - cz.said) ≥ 4)) with h14 | h14
      ·have g14 := h14
       try simp only [kb] at g14
       refine Run.on rfl rfl rfl (congrArg Bool.not h14) ?_
       refine Run.val (lt rfl) (Y.move rfl) ?_
       refine Run.on rfl rfl rfl (congrArg Bool.not h14) ?_
       refine Run.val (lt rfl) (Y.nilCheck rfl) ?_
       refine Run.on rfl rfl rfl (congrArg Bool.not h14) ?_
       refine Run.val (lt rfl) (Y.fieldAddr rfl Clturn_fo67_2) ?_
       refine Run.on rfl rfl rfl (congrArg Bool.not h14) ?_
       refine Run.val (lt rfl) (Y.load rfl Clturn_ts3 (Kn.at 0 rfl) rfl) ?_
       refine Run.on rfl rfl rfl (congrArg Bool.not h14) ?_
       refine Run.val (lt rfl) (Y.int rfl rfl rfl) ?_
       refine Run.val (lt rfl) (Y.pick_f rfl (congrArg Bool.not h14) rfl) ?_
       refine Run.val (lt rfl) (Y.assign rfl) ?_
       refine Run.to_end ?_
       refine Ex.go ?_
       rcases Bool.eq_false_or_eq_true (cz.state == 3) with h15 | h15
       ·have g15 := h15
        try simp only [kb] at g15
        refine Tr.cond_t rfl h15 ?_
        refine Tr.to_end ?_
        refine Ex.end_block ?_
        refine Ex.keep [0] ?_
        exact Ex.end0 rfl ⟨rfl, rfl, by rw [((by rw [hcz, hcy, hcx]; rfl : Cli.turn c now = Cli.turn4 cz now).trans (Cli.turn4_n g12 (.inr g15)))]; try rfl⟩
       ·have g15 := h15
        try simp only [kb] at g15
        refine Tr.cond_f rfl h15 ?_
        refine Tr.seq ?_
        refine Tr.region ?_
        refine Run.val (lt rfl) (Y.move rfl) ?_
        refine Run.call0 (l := [.tmp 97]) rfl rfl rfl (lt rfl) (hold_c (c := cz) (Kn.at 0 rfl)) ?_
        refine Run.val (lt rfl) (Y.move rfl) ?_
        rcases Bool.eq_false_or_eq_true (Cli.holding cz) with h16 | h16
        ·have g16 := h16
         try simp only [kb] at g16
         refine Run.off rfl rfl rfl h16 rfl (lt rfl) ?_
         refine Run.off rfl rfl rfl h16 rfl (lt rfl) ?_
         refine Run.off rfl rfl rfl h16 rfl (lt rfl) ?_
         refine Run.off rfl rfl rfl h16 rfl (lt rfl) ?_
         refine Run.off rfl rfl rfl h16 rfl (lt rfl) ?_
         refine Run.val (lt rfl) (Y.pick_t rfl h16 rfl) ?_
         refine Run.val (lt rfl) (Y.assign rfl) ?_
         refine Run.to_end ?_
         refine Ex.go ?_
         refine Tr.cond_t rfl rfl ?_
         refine Tr.region ?_
         refine Run.val (lt rfl) (Y.move rfl) ?_
         refine Run.val (lt rfl) (Y.nilCheck rfl) ?_
         refine Run.val (lt rfl) (Y.fieldAddr rfl Clturn_fo67_9) ?_
         refine Run.store (s := [(bc, .cells #[.string cz.name, hv, .int .i64 cz.state, .int .u32 cz.xid, .int .u32 cz.addr, .int .u32 cz.server, .int .i64 cz.until_, .int .i64 cz.one, .int .i64 cz.two, .bool true, .int .i64 cz.tries, .int .i64 cz.said, .int .i64 cz.asks] 67 (0, 0))]) rfl rfl Clturn_sz4 (i := 0) rfl rfl (le rfl) rfl rfl ?_
         refine Run.to_end ?_
         refine Ex.end_block ?_
         refine Ex.keep [0] ?_
         exact Ex.end0 rfl ⟨rfl, rfl, by rw [((by rw [hcz, hcy, hcx]; rfl : Cli.turn c now = Cli.turn4 cz now).trans (Cli.turn4_d g12 (by simp only [Cli.late, h9, h14]; rfl) g15 (.inl h16)))]; try rfl⟩
        ·have g16 := h16
         try simp only [kb] at g16
         refine Run.on rfl rfl rfl h16 ?_
         refine Run.val (lt rfl) (Y.move rfl) ?_
         refine Run.on rfl rfl rfl h16 ?_
         refine Run.val (lt rfl) (Y.nilCheck rfl) ?_
         refine Run.on rfl rfl rfl h16 ?_
         refine Run.val (lt rfl) (Y.fieldAddr rfl Clturn_fo67_10) ?_
         refine Run.on rfl rfl rfl h16 ?_
         refine Run.val (lt rfl) (Y.load rfl Clturn_ts3 (Kn.at 0 rfl) rfl) ?_
         refine Run.on rfl rfl rfl h16 ?_
         refine Run.val (lt rfl) (Y.int rfl rfl rfl) ?_
         refine Run.val (lt rfl) (Y.pick_f rfl h16 rfl) ?_
         refine Run.val (lt rfl) (Y.assign rfl) ?_
         refine Run.to_end ?_
         refine Ex.go ?_
         rcases Bool.eq_false_or_eq_true (decide (cz.tries < 4)) with h17 | h17
         ·have g17 := h17
          try simp only [kb] at g17
          refine Tr.cond_t rfl h17 ?_
          refine Tr.region ?_
          refine Run.val (lt rfl) (Y.move rfl) ?_
          refine Run.val (lt rfl) (Y.nilCheck rfl) ?_
          refine Run.val (lt rfl) (Y.fieldAddr rfl Clturn_fo67_9) ?_
          refine Run.store (s := [(bc, .cells #[.string cz.name, hv, .int .i64 cz.state, .int .u32 cz.xid, .int .u32 cz.addr, .int .u32 cz.server, .int .i64 cz.until_, .int .i64 cz.one, .int .i64 cz.two, .bool true, .int .i64 cz.tries, .int .i64 cz.said, .int .i64 cz.asks] 67 (0, 0))]) rfl rfl Clturn_sz4 (i := 0) rfl rfl (le rfl) rfl rfl ?_
          refine Run.to_end ?_
          refine Ex.end_block ?_
          refine Ex.keep [0] ?_
          exact Ex.end0 rfl ⟨rfl, rfl, by rw [((by rw [hcz, hcy, hcx]; rfl : Cli.turn c now = Cli.turn4 cz now).trans (Cli.turn4_d g12 (by simp only [Cli.late, h9, h14]; rfl) g15 (.inr (by omega))))]; try rfl⟩
         ·have g17 := h17
          try simp only [kb] at g17
          refine Tr.cond_f rfl h17 ?_
          refine Tr.region ?_
          refine Run.val (lt rfl) (Y.move rfl) ?_
          refine Run.call [0] (l := [.tmp 76]) rfl rfl rfl (lt rfl) (anew_c (c := cz)) (fun v18 V2 H2 _ hR => ?_)
          obtain ⟨hV, rfl, rfl⟩ := hR; replace hV := hV.symm; subst hV
          refine Run.to_end ?_
          refine Ex.end_block ?_
          refine Ex.keep [0] ?_
          exact Ex.end0 rfl ⟨rfl, rfl, by rw [((by rw [hcz, hcy, hcx]; rfl : Cli.turn c now = Cli.turn4 cz now).trans (Cli.turn4_a g12 (by simp only [Cli.late, h9, h14]; rfl) g15 h16 (by omega)))]; try rfl⟩
      ·have g14 := h14
       try simp only [kb] at g14
       refine Run.off rfl rfl rfl (congrArg Bool.not h14) rfl (lt rfl) ?_
       refine Run.off rfl rfl rfl (congrArg Bool.not h14) rfl (lt rfl) ?_
       refine Run.off rfl rfl rfl (congrArg Bool.not h14) rfl (lt rfl) ?_
       refine Run.off rfl rfl rfl (congrArg Bool.not h14) rfl (lt rfl) ?_
       refine Run.off rfl rfl rfl (congrArg Bool.not h14) rfl (lt rfl) ?_
       refine Run.val (lt rfl) (Y.pick_t rfl (congrArg Bool.not h14) rfl) ?_
       refine Run.val (lt rfl) (Y.assign rfl) ?_
       refine Run.to_end ?_
       refine Ex.go ?_
       refine Tr.cond_t rfl rfl ?_
       refine Tr.to_end ?_
       refine Ex.end_block ?_
       refine Ex.keep [0] ?_
       exact Ex.end0 rfl ⟨rfl, rfl, by rw [((by rw [hcz, hcy, hcx]; rfl : Cli.turn c now = Cli.turn4 cz now).trans (Cli.turn4_n g12 (.inl (by simp only [Cli.late, h9, h14]; rfl))))]; try rfl⟩

set_option maxHeartbeats 4000000 in
theorem rturn_c {V : Vw} {bc : Nat} {c : Cli} {hv : Value} {n now : Int} (hi : Cli.Inv n c) (hs : ¬ c.state = 6) (hm : 0 ≤ now ∧ now ≤ 1099511627776)  : Does Try.prog 42 [.pointer (some ⟨bc, 0, none⟩), .int .i64 now] V [[(bc, .cells (Cli.cells c hv) 44 (0, 0))]] (fun u V' H' => V' = V ∧ u = .tuple #[] ∧ H' = [[(bc, .cells (Cli.cells (Cli.turn c now) hv) 44 (0, 0))]]) := by
 refine Does.intro Try.func42 rfl rfl (le rfl) (fun B => ?_)
 refine Tr.cutx (X := Cli) (fun cx => V) (fun cx => [[(bc, .cells #[.string cx.name, hv, .int .i64 cx.state, .int .u32 cx.xid, .int .u32 cx.addr, .int .u32 cx.server, .int .i64 cx.until_, .int .i64 cx.one, .int .i64 cx.two, .bool cx.due, .int .i64 cx.tries, .int .i64 cx.said, .int .i64 cx.asks] 44 (0, 0))]]) (fun cx => [(0, .pointer (some ⟨bc, 0, none⟩)), (1, .int .i64 now)]) (fun cx => cx = Cli.turn1 c now ∧ Cli.Inv n cx ∧ ¬ cx.state = 6) ?_ ?_
 ·refine Tr.seq ?_
  refine Tr.region ?_
  refine Run.val (lt rfl) (Y.move rfl) ?_
  refine Run.call0 (l := [.tmp 5]) rfl rfl rfl (lt rfl) (rhold_c (c := c) (Kn.at 0 rfl)) ?_
  refine Run.val (lt rfl) (Y.move rfl) ?_
  rcases Bool.eq_false_or_eq_true (Cli.holding c) with h1 | h1
  ·have g1 := h1
   try simp only [kb] at g1
   refine Run.on rfl rfl rfl h1 ?_
   refine Run.val (lt rfl) (Y.move rfl) ?_
   refine Run.on rfl rfl rfl h1 ?_
   refine Run.val (lt rfl) (Y.move rfl) ?_
   refine Run.on rfl rfl rfl h1 ?_
   refine Run.val (lt rfl) (Y.nilCheck rfl) ?_
   refine Run.on rfl rfl rfl h1 ?_
   refine Run.val (lt rfl) (Y.fieldAddr rfl Clturn_fo44_6) ?_
   refine Run.on rfl rfl rfl h1 ?_
   refine Run.val (lt rfl) (Y.load rfl Clturn_ts3 (Kn.at 0 rfl) rfl) ?_
   refine Run.on rfl rfl rfl h1 ?_
   refine Run.val (lt rfl) (Y.int rfl rfl rfl) ?_
   refine Run.val (lt rfl) (Y.pick_t rfl h1 rfl) ?_
   refine Run.to_end ?_
   refine Ex.go ?_
   rcases Bool.eq_false_or_eq_true (decide (now > c.until_)) with h2 | h2
   ·have g2 := h2
    try simp only [kb] at g2
    refine Tr.cond_t rfl h2 ?_
    refine Tr.region ?_
    refine Run.val (lt rfl) (Y.move rfl) ?_
    refine Run.call [0] (l := [.tmp 15, .const (.int .i64 0)]) rfl rfl rfl (lt rfl) (rdrop_c (c := c)) (fun v3 V2 H2 _ hR => ?_)
    obtain ⟨hV, rfl, rfl⟩ := hR; replace hV := hV.symm; subst hV
    refine Run.to_end ?_
    exact Ex.cutx (Cli.turn1 c now) ⟨rfl, hi.turn1 now, Cli.turn1_ne hs⟩ rfl (by rw [Cli.turn1_y h1 (by omega)]; try rfl) (subB_cons (by first | rfl | exact congrArg (fun z => some (Value.int _ z)) (by omega)) (subB_cons (by first | rfl | exact congrArg (fun z => some (Value.int _ z)) (by omega)) (subB_nil _)))
   ·have g2 := h2
    try simp only [kb] at g2
    refine Tr.cond_f rfl h2 ?_
    refine Tr.to_end ?_
    exact Ex.cutx (Cli.turn1 c now) ⟨rfl, hi.turn1 now, Cli.turn1_ne hs⟩ rfl (by rw [Cli.turn1_n (.inr (by omega))]; try rfl) (subB_cons (by first | rfl | exact congrArg (fun z => some (Value.int _ z)) (by omega)) (subB_cons (by first | rfl | exact congrArg (fun z => some (Value.int _ z)) (by omega)) (subB_nil _)))
  ·have g1 := h1
   try simp only [kb] at g1
   refine Run.off rfl rfl rfl h1 rfl (lt rfl) ?_
   refine Run.off rfl rfl rfl h1 rfl (lt rfl) ?_
   refine Run.off rfl rfl rfl h1 rfl (lt rfl) ?_
   refine Run.off rfl rfl rfl h1 rfl (lt rfl) ?_
   refine Run.off rfl rfl rfl h1 rfl (lt rfl) ?_
   refine Run.off rfl rfl rfl h1 rfl (lt rfl) ?_
   refine Run.val (lt rfl) (Y.pick_f rfl h1 rfl) ?_
   refine Run.to_end ?_
   refine Ex.go ?_
   refine Tr.cond_f rfl rfl ?_
   refine Tr.to_end ?_
   exact Ex.cutx (Cli.turn1 c now) ⟨rfl, hi.turn1 now, Cli.turn1_ne hs⟩ rfl (by rw [Cli.turn1_n (.inl h1)]; try rfl) (subB_cons (by first | rfl | exact congrArg (fun z => some (Value.int _ z)) (by omega)) (subB_cons (by first | rfl | exact congrArg (fun z => some (Value.int _ z)) (by omega)) (subB_nil _)))
 ·rintro cx ⟨hcx, hix, hsx⟩
  have hsdcx := hix.said
  refine Tr.cutx (X := Cli) (fun cy => V) (fun cy => [[(bc, .cells #[.string cy.name, hv, .int .i64 cy.state, .int .u32 cy.xid, .int .u32 cy.addr, .int .u32 cy.server, .int .i64 cy.until_, .int .i64 cy.one, .int .i64 cy.two, .bool cy.due, .int .i64 cy.tries, .int .i64 cy.said, .int .i64 cy.asks] 44 (0, 0))]]) (fun cy => [(0, .pointer (some ⟨bc, 0, none⟩)), (1, .int .i64 now)]) (fun cy => cy = Cli.turn2 cx now ∧ Cli.Inv n cy ∧ ¬ cy.state = 6) ?_ ?_
  ·refine Tr.seq ?_
   refine Tr.region ?_
   refine Run.val (lt rfl) (Y.move rfl) ?_
   refine Run.val (lt rfl) (Y.nilCheck rfl) ?_
   refine Run.val (lt rfl) (Y.fieldAddr rfl Clturn_fo44_2) ?_
   refine Run.val (lt rfl) (Y.load rfl Clturn_ts3 (Kn.at 0 rfl) rfl) ?_
   refine Run.val (lt rfl) (Y.int rfl rfl rfl) ?_
   refine Run.val (lt rfl) (Y.move rfl) ?_
   rcases Bool.eq_false_or_eq_true (cx.state == 3) with h4 | h4
   ·have g4 := h4
    try simp only [kb] at g4
    refine Run.on rfl rfl rfl h4 ?_
    refine Run.val (lt rfl) (Y.move rfl) ?_
    refine Run.on rfl rfl rfl h4 ?_
    refine Run.val (lt rfl) (Y.move rfl) ?_
    refine Run.on rfl rfl rfl h4 ?_
    refine Run.val (lt rfl) (Y.nilCheck rfl) ?_
    refine Run.on rfl rfl rfl h4 ?_
    refine Run.val (lt rfl) (Y.fieldAddr rfl Clturn_fo44_7) ?_
    refine Run.on rfl rfl rfl h4 ?_
    refine Run.val (lt rfl) (Y.load rfl Clturn_ts3 (Kn.at 0 rfl) rfl) ?_
    refine Run.on rfl rfl rfl h4 ?_
    refine Run.val (lt rfl) (Y.int rfl rfl rfl) ?_
    refine Run.val (lt rfl) (Y.pick_t rfl h4 rfl) ?_
    refine Run.to_end ?_
    refine Ex.go ?_
    rcases Bool.eq_false_or_eq_true (decide (now ≥ cx.one)) with h5 | h5
    ·have g5 := h5
     try simp only [kb] at g5
     refine Tr.cond_t rfl h5 ?_
     refine Tr.seq ?_
     refine Tr.region ?_
     refine Run.val (lt rfl) (Y.move rfl) ?_
     refine Run.val (lt rfl) (Y.nilCheck rfl) ?_
     refine Run.val (lt rfl) (Y.fieldAddr rfl Clturn_fo44_2) ?_
     refine Run.store (s := [(bc, .cells #[.string cx.name, hv, .int .i64 4, .int .u32 cx.xid, .int .u32 cx.addr, .int .u32 cx.server, .int .i64 cx.until_, .int .i64 cx.one, .int .i64 cx.two, .bool cx.due, .int .i64 cx.tries, .int .i64 cx.said, .int .i64 cx.asks] 44 (0, 0))]) rfl rfl Clturn_sz3 (i := 0) rfl rfl (le rfl) rfl rfl ?_
     refine Run.to_end ?_
     refine Ex.go ?_
     refine Tr.seq ?_
     refine Tr.region ?_
     refine Run.val (lt rfl) (Y.move rfl) ?_
     refine Run.val (lt rfl) (Y.nilCheck rfl) ?_
     refine Run.val (lt rfl) (Y.fieldAddr rfl Clturn_fo44_3) ?_
     refine Run.val (lt rfl) (Y.load rfl Clturn_ts32 (Kn.at 0 rfl) rfl) ?_
     refine Run.val (lt rfl) (Y.int (r := .int .u32 ((cx.xid + 1) % 4294967296)) rfl rfl (by simp only [intRes]; rw [Cli.wrap_u32m])) ?_
     refine Run.val (lt rfl) (Y.nilCheck rfl) ?_
     refine Run.val (lt rfl) (Y.fieldAddr rfl Clturn_fo44_3) ?_
     refine Run.store (s := [(bc, .cells #[.string cx.name, hv, .int .i64 4, .int .u32 ((cx.xid + 1) % 4294967296), .int .u32 cx.addr, .int .u32 cx.server, .int .i64 cx.until_, .int .i64 cx.one, .int .i64 cx.two, .bool cx.due, .int .i64 cx.tries, .int .i64 cx.said, .int .i64 cx.asks] 44 (0, 0))]) rfl rfl Clturn_sz32 (i := 0) rfl rfl (le rfl) rfl rfl ?_
     refine Run.to_end ?_
     refine Ex.go ?_
     refine Tr.seq ?_
     refine Tr.region ?_
     refine Run.val (lt rfl) (Y.move rfl) ?_
     refine Run.val (lt rfl) (Y.nilCheck rfl) ?_
     refine Run.val (lt rfl) (Y.fieldAddr rfl Clturn_fo44_10) ?_
     refine Run.store (s := [(bc, .cells #[.string cx.name, hv, .int .i64 4, .int .u32 ((cx.xid + 1) % 4294967296), .int .u32 cx.addr, .int .u32 cx.server, .int .i64 cx.until_, .int .i64 cx.one, .int .i64 cx.two, .bool cx.due, .int .i64 0, .int .i64 cx.said, .int .i64 cx.asks] 44 (0, 0))]) rfl rfl Clturn_sz3 (i := 0) rfl rfl (le rfl) rfl rfl ?_
     refine Run.to_end ?_
     refine Ex.go ?_
     refine Tr.seq ?_
     refine Tr.region ?_
     refine Run.val (lt rfl) (Y.move rfl) ?_
     refine Run.val (lt rfl) (Y.nilCheck rfl) ?_
     refine Run.val (lt rfl) (Y.fieldAddr rfl Clturn_fo44_9) ?_
     refine Run.store (s := [(bc, .cells #[.string cx.name, hv, .int .i64 4, .int .u32 ((cx.xid + 1) % 4294967296), .int .u32 cx.addr, .int .u32 cx.server, .int .i64 cx.until_, .int .i64 cx.one, .int .i64 cx.two, .bool true, .int .i64 0, .int .i64 cx.said, .int .i64 cx.asks] 44 (0, 0))]) rfl rfl Clturn_sz4 (i := 0) rfl rfl (le rfl) rfl rfl ?_
     refine Run.to_end ?_
     refine Ex.go ?_
     refine Tr.region ?_
     refine Run.val (lt rfl) (Y.move rfl) ?_
     refine Run.val (lt rfl) (Y.move rfl) ?_
     refine Run.val (lt rfl) (Y.nilCheck rfl) ?_
     refine Run.val (lt rfl) (Y.fieldAddr rfl Clturn_fo44_12) ?_
     refine Run.store (s := [(bc, .cells #[.string cx.name, hv, .int .i64 4, .int .u32 ((cx.xid + 1) % 4294967296), .int .u32 cx.addr, .int .u32 cx.server, .int .i64 cx.until_, .int .i64 cx.one, .int .i64 cx.two, .bool true, .int .i64 0, .int .i64 cx.said, .int .i64 now] 44 (0, 0))]) rfl rfl Clturn_sz3 (i := 0) rfl rfl (le rfl) rfl rfl ?_
     refine Run.to_end ?_
     exact Ex.cutx (Cli.turn2 cx now) ⟨rfl, hix.turn2 hm, Cli.turn2_ne hsx⟩ rfl (by rw [Cli.turn2_y g4 (by omega)]; try rfl) (subB_cons (by first | rfl | exact congrArg (fun z => some (Value.int _ z)) (by omega)) (subB_cons (by first | rfl | exact congrArg (fun z => some (Value.int _ z)) (by omega)) (subB_nil _)))
    ·have g5 := h5
     try simp only [kb] at g5
     refine Tr.cond_f rfl h5 ?_
     refine Tr.to_end ?_
     exact Ex.cutx (Cli.turn2 cx now) ⟨rfl, hix.turn2 hm, Cli.turn2_ne hsx⟩ rfl (by rw [Cli.turn2_n (.inr (by omega))]; try rfl) (subB_cons (by first | rfl | exact congrArg (fun z => some (Value.int _ z)) (by omega)) (subB_cons (by first | rfl | exact congrArg (fun z => some (Value.int _ z)) (by omega)) (subB_nil _)))
   ·have g4 := h4
    try simp only [kb] at g4
    refine Run.off rfl rfl rfl h4 rfl (lt rfl) ?_
    refine Run.off rfl rfl rfl h4 rfl (lt rfl) ?_
    refine Run.off rfl rfl rfl h4 rfl (lt rfl) ?_
    refine Run.off rfl rfl rfl h4 rfl (lt rfl) ?_
    refine Run.off rfl rfl rfl h4 rfl (lt rfl) ?_
    refine Run.off rfl rfl rfl h4 rfl (lt rfl) ?_
    refine Run.val (lt rfl) (Y.pick_f rfl h4 rfl) ?_
    refine Run.to_end ?_
    refine Ex.go ?_
    refine Tr.cond_f rfl rfl ?_
    refine Tr.to_end ?_
    exact Ex.cutx (Cli.turn2 cx now) ⟨rfl, hix.turn2 hm, Cli.turn2_ne hsx⟩ rfl (by rw [Cli.turn2_n (.inl g4)]; try rfl) (subB_cons (by first | rfl | exact congrArg (fun z => some (Value.int _ z)) (by omega)) (subB_cons (by first | rfl | exact congrArg (fun z => some (Value.int _ z)) (by omega)) (subB_nil _)))
  ·rintro cy ⟨hcy, hiy, hsy⟩
   have hsdcy := hiy.said
   refine Tr.cutx (X := Cli) (fun cz => V) (fun cz => [[(bc, .cells #[.string cz.name, hv, .int .i64 cz.state, .int .u32 cz.xid, .int .u32 cz.addr, .int .u32 cz.server, .int .i64 cz.until_, .int .i64 cz.one, .int .i64 cz.two, .bool cz.due, .int .i64 cz.tries, .int .i64 cz.said, .int .i64 cz.asks] 44 (0, 0))]]) (fun cz => [(0, .pointer (some ⟨bc, 0, none⟩)), (1, .int .i64 now)]) (fun cz => cz = Cli.turn3 cy now ∧ Cli.Inv n cz ∧ ¬ cz.state = 6) ?_ ?_
   ·refine Tr.seq ?_
    refine Tr.region ?_
    refine Run.val (lt rfl) (Y.move rfl) ?_
    refine Run.val (lt rfl) (Y.nilCheck rfl) ?_
    refine Run.val (lt rfl) (Y.fieldAddr rfl Clturn_fo44_2) ?_
    refine Run.val (lt rfl) (Y.load rfl Clturn_ts3 (Kn.at 0 rfl) rfl) ?_
    refine Run.val (lt rfl) (Y.int rfl rfl rfl) ?_
    refine Run.val (lt rfl) (Y.move rfl) ?_
    rcases Bool.eq_false_or_eq_true (cy.state == 4) with h6 | h6
    ·have g6 := h6
     try simp only [kb] at g6
     refine Run.on rfl rfl rfl h6 ?_
     refine Run.val (lt rfl) (Y.move rfl) ?_
     refine Run.on rfl rfl rfl h6 ?_
     refine Run.val (lt rfl) (Y.move rfl) ?_
     refine Run.on rfl rfl rfl h6 ?_
     refine Run.val (lt rfl) (Y.nilCheck rfl) ?_
     refine Run.on rfl rfl rfl h6 ?_
     refine Run.val (lt rfl) (Y.fieldAddr rfl Clturn_fo44_8) ?_
     refine Run.on rfl rfl rfl h6 ?_
     refine Run.val (lt rfl) (Y.load rfl Clturn_ts3 (Kn.at 0 rfl) rfl) ?_
     refine Run.on rfl rfl rfl h6 ?_
     refine Run.val (lt rfl) (Y.int rfl rfl rfl) ?_
     refine Run.val (lt rfl) (Y.pick_t rfl h6 rfl) ?_
     refine Run.to_end ?_
     refine Ex.go ?_
     rcases Bool.eq_false_or_eq_true (decide (now ≥ cy.two)) with h7 | h7
     ·have g7 := h7
      try simp only [kb] at g7
      refine Tr.cond_t rfl h7 ?_
      refine Tr.seq ?_
      refine Tr.region ?_
      refine Run.val (lt rfl) (Y.move rfl) ?_
      refine Run.val (lt rfl) (Y.nilCheck rfl) ?_
      refine Run.val (lt rfl) (Y.fieldAddr rfl Clturn_fo44_2) ?_
      refine Run.store (s := [(bc, .cells #[.string cy.name, hv, .int .i64 5, .int .u32 cy.xid, .int .u32 cy.addr, .int .u32 cy.server, .int .i64 cy.until_, .int .i64 cy.one, .int .i64 cy.two, .bool cy.due, .int .i64 cy.tries, .int .i64 cy.said, .int .i64 cy.asks] 44 (0, 0))]) rfl rfl Clturn_sz3 (i := 0) rfl rfl (le rfl) rfl rfl ?_
      refine Run.to_end ?_
      refine Ex.go ?_
      refine Tr.region ?_
      refine Run.val (lt rfl) (Y.move rfl) ?_
      refine Run.val (lt rfl) (Y.nilCheck rfl) ?_
      refine Run.val (lt rfl) (Y.fieldAddr rfl Clturn_fo44_9) ?_
      refine Run.store (s := [(bc, .cells #[.string cy.name, hv, .int .i64 5, .int .u32 cy.xid, .int .u32 cy.addr, .int .u32 cy.server, .int .i64 cy.until_, .int .i64 cy.one, .int .i64 cy.two, .bool true, .int .i64 cy.tries, .int .i64 cy.said, .int .i64 cy.asks] 44 (0, 0))]) rfl rfl Clturn_sz4 (i := 0) rfl rfl (le rfl) rfl rfl ?_
      refine Run.to_end ?_
      exact Ex.cutx (Cli.turn3 cy now) ⟨rfl, hiy.turn3 now, Cli.turn3_ne hsy⟩ rfl (by rw [Cli.turn3_y g6 (by omega)]; try rfl) (subB_cons (by first | rfl | exact congrArg (fun z => some (Value.int _ z)) (by omega)) (subB_cons (by first | rfl | exact congrArg (fun z => some (Value.int _ z)) (by omega)) (subB_nil _)))
     ·have g7 := h7
      try simp only [kb] at g7
      refine Tr.cond_f rfl h7 ?_
      refine Tr.to_end ?_
      exact Ex.cutx (Cli.turn3 cy now) ⟨rfl, hiy.turn3 now, Cli.turn3_ne hsy⟩ rfl (by rw [Cli.turn3_n (.inr (by omega))]; try rfl) (subB_cons (by first | rfl | exact congrArg (fun z => some (Value.int _ z)) (by omega)) (subB_cons (by first | rfl | exact congrArg (fun z => some (Value.int _ z)) (by omega)) (subB_nil _)))
    ·have g6 := h6
     try simp only [kb] at g6
     refine Run.off rfl rfl rfl h6 rfl (lt rfl) ?_
     refine Run.off rfl rfl rfl h6 rfl (lt rfl) ?_
     refine Run.off rfl rfl rfl h6 rfl (lt rfl) ?_
     refine Run.off rfl rfl rfl h6 rfl (lt rfl) ?_
     refine Run.off rfl rfl rfl h6 rfl (lt rfl) ?_
     refine Run.off rfl rfl rfl h6 rfl (lt rfl) ?_
     refine Run.val (lt rfl) (Y.pick_f rfl h6 rfl) ?_
     refine Run.to_end ?_
     refine Ex.go ?_
     refine Tr.cond_f rfl rfl ?_
     refine Tr.to_end ?_
     exact Ex.cutx (Cli.turn3 cy now) ⟨rfl, hiy.turn3 now, Cli.turn3_ne hsy⟩ rfl (by rw [Cli.turn3_n (.inl g6)]; try rfl) (subB_cons (by first | rfl | exact congrArg (fun z => some (Value.int _ z)) (by omega)) (subB_cons (by first | rfl | exact congrArg (fun z => some (Value.int _ z)) (by omega)) (subB_nil _)))
   ·rintro cz ⟨hcz, hiz, hsz⟩
    have hsdcz := hiz.said
    refine Tr.seq ?_
    refine Tr.region ?_
    refine Run.val (lt rfl) (Y.move rfl) ?_
    refine Run.val (lt rfl) (Y.nilCheck rfl) ?_
    refine Run.val (lt rfl) (Y.fieldAddr rfl Clturn_fo44_9) ?_
    refine Run.val (lt rfl) (Y.load rfl Clturn_ts4 (Kn.at 0 rfl) rfl) ?_
    refine Run.val (lt rfl) (Y.not rfl) ?_
    refine Run.val (lt rfl) (Y.move rfl) ?_
    rcases Bool.eq_false_or_eq_true (cz.due) with h8 | h8
    ·have g8 := h8
     try simp only [kb] at g8
     refine Run.off rfl rfl rfl (congrArg Bool.not h8) rfl (lt rfl) ?_
     refine Run.off rfl rfl rfl (congrArg Bool.not h8) rfl (lt rfl) ?_
     refine Run.off rfl rfl rfl (congrArg Bool.not h8) rfl (lt rfl) ?_
     refine Run.off rfl rfl rfl (congrArg Bool.not h8) rfl (lt rfl) ?_
     refine Run.off rfl rfl rfl (congrArg Bool.not h8) rfl (lt rfl) ?_
     refine Run.off rfl rfl rfl (congrArg Bool.not h8) rfl (lt rfl) ?_
     refine Run.off rfl rfl rfl (congrArg Bool.not h8) rfl (lt rfl) ?_
     refine Run.val (lt rfl) (Y.pick_f rfl (congrArg Bool.not h8) rfl) ?_
     refine Run.val (lt rfl) (Y.assign rfl) ?_
     refine Run.to_end ?_
     refine Ex.go ?_
     refine Tr.seq ?_
     refine Tr.region ?_
     refine Run.val (lt rfl) (Y.move rfl) ?_
     refine Run.val (lt rfl) (Y.nilCheck rfl) ?_
     refine Run.val (lt rfl) (Y.fieldAddr rfl Clturn_fo44_2) ?_
     refine Run.val (lt rfl) (Y.load rfl Clturn_ts3 (Kn.at 0 rfl) rfl) ?_
     refine Run.to_end ?_
     refine Ex.go ?_
     refine Tr.block ?_
     refine Tr.seq ?_
     refine Tr.region ?_
     refine Run.val (lt rfl) (Y.int rfl rfl rfl) ?_
     refine Run.val (lt rfl) (Y.assign rfl) ?_
     refine Run.to_end ?_
     refine Ex.go ?_
     rcases Bool.eq_false_or_eq_true (cz.state == 0) with h9 | h9
     ·have g9 := h9
      try simp only [kb] at g9
      refine Tr.cond_t rfl h9 ?_
      refine Tr.region ?_
      refine Run.val (lt rfl) (Y.move rfl) ?_
      refine Run.call [0] (l := [.tmp 89]) rfl rfl rfl (lt rfl) (ranew_c (c := cz)) (fun v10 V2 H2 _ hR => ?_)
      obtain ⟨hV, rfl, rfl⟩ := hR; replace hV := hV.symm; subst hV
      refine Run.to_end ?_
      refine Ex.end_block ?_
      refine Ex.keep [0] ?_
      exact Ex.end0 rfl ⟨rfl, rfl, by rw [((by rw [hcz, hcy, hcx]; rfl : Cli.turn c now = Cli.turn4 cz now).trans (Cli.turn4_0 g9))]; try rfl⟩
     ·have g9 := h9
      try simp only [kb] at g9
      refine Tr.cond_f rfl h9 ?_
      refine Tr.seq ?_
      refine Tr.seq ?_
      refine Tr.region ?_
      refine Run.val (lt rfl) (Y.int rfl rfl rfl) ?_
      refine Run.val (lt rfl) (Y.assign rfl) ?_
      refine Run.to_end ?_
      refine Ex.go ?_
      rcases Bool.eq_false_or_eq_true (cz.state == 1) with h11 | h11
      ·have g11 := h11
       try simp only [kb] at g11
       refine Tr.cond_t rfl h11 ?_
       refine Tr.to_end ?_
       refine Ex.go ?_
       refine Tr.cond_t rfl h11 ?_
       refine Tr.seq ?_
       refine Tr.region ?_
       refine Run.val (lt rfl) (Y.move rfl) ?_
       refine Run.val (lt rfl) (Y.move rfl) ?_
       refine Run.off rfl rfl rfl rfl rfl (lt rfl) ?_
       refine Run.off rfl rfl rfl rfl rfl (lt rfl) ?_
       refine Run.off rfl rfl rfl rfl rfl (lt rfl) ?_
       refine Run.off rfl rfl rfl rfl rfl (lt rfl) ?_
       refine Run.off rfl rfl rfl rfl rfl (lt rfl) ?_
       refine Run.val (lt rfl) (Y.pick_f rfl rfl rfl) ?_
       refine Run.to_end ?_
       refine Ex.go ?_
       refine Tr.cond_f rfl rfl ?_
       refine Tr.seq ?_
       refine Tr.region ?_
       refine Run.val (lt rfl) (Y.move rfl) ?_
       refine Run.to_end ?_
       refine Ex.go ?_
       refine Tr.cond_f rfl rfl ?_
       refine Tr.to_end ?_
       refine Ex.end_block ?_
       refine Ex.keep [0] ?_
       exact Ex.end0 rfl ⟨rfl, rfl, by rw [((by rw [hcz, hcy, hcx]; rfl : Cli.turn c now = Cli.turn4 cz now).trans (Cli.turn4_n g9 (.inl (by simp only [Cli.late, h8]; rfl))))]; first | rfl | (simp only [Cli.cells, h8]; rfl)⟩
      ·have g11 := h11
       try simp only [kb] at g11
       refine Tr.cond_f rfl h11 ?_
       refine Tr.region ?_
       refine Run.val (lt rfl) (Y.int rfl rfl rfl) ?_
       refine Run.val (lt rfl) (Y.assign rfl) ?_
       refine Run.to_end ?_
       refine Ex.go ?_
       rcases Bool.eq_false_or_eq_true (cz.state == 2) with h12 | h12
       ·have g12 := h12
        try simp only [kb] at g12
        refine Tr.cond_t rfl h12 ?_
        refine Tr.seq ?_
        refine Tr.region ?_
        refine Run.val (lt rfl) (Y.move rfl) ?_
        refine Run.val (lt rfl) (Y.move rfl) ?_
        refine Run.off rfl rfl rfl rfl rfl (lt rfl) ?_
        refine Run.off rfl rfl rfl rfl rfl (lt rfl) ?_
        refine Run.off rfl rfl rfl rfl rfl (lt rfl) ?_
        refine Run.off rfl rfl rfl rfl rfl (lt rfl) ?_
        refine Run.off rfl rfl rfl rfl rfl (lt rfl) ?_
        refine Run.val (lt rfl) (Y.pick_f rfl rfl rfl) ?_
        refine Run.to_end ?_
        refine Ex.go ?_
        refine Tr.cond_f rfl rfl ?_
        refine Tr.seq ?_
        refine Tr.region ?_
        refine Run.val (lt rfl) (Y.move rfl) ?_
        refine Run.to_end ?_
        refine Ex.go ?_
        refine Tr.cond_f rfl rfl ?_
        refine Tr.to_end ?_
        refine Ex.end_block ?_
        refine Ex.keep [0] ?_
        exact Ex.end0 rfl ⟨rfl, rfl, by rw [((by rw [hcz, hcy, hcx]; rfl : Cli.turn c now = Cli.turn4 cz now).trans (Cli.turn4_n g9 (.inl (by simp only [Cli.late, h8]; rfl))))]; first | rfl | (simp only [Cli.cells, h8]; rfl)⟩
       ·have g12 := h12
        try simp only [kb] at g12
        refine Tr.cond_f rfl h12 ?_
        refine Tr.seq ?_
        refine Tr.seq ?_
        refine Tr.region ?_
        refine Run.val (lt rfl) (Y.int rfl rfl rfl) ?_
        refine Run.val (lt rfl) (Y.assign rfl) ?_
        refine Run.to_end ?_
        refine Ex.go ?_
        rcases Bool.eq_false_or_eq_true (cz.state == 4) with h13 | h13
        ·have g13 := h13
         try simp only [kb] at g13
         refine Tr.cond_t rfl h13 ?_
         refine Tr.to_end ?_
         refine Ex.go ?_
         refine Tr.cond_t rfl h13 ?_
         refine Tr.region ?_
         rcases Bool.eq_false_or_eq_true (decide ((now - cz.said) ≥ 4)) with hq | hq
         ·refine Run.val (lt rfl) (Y.move rfl) ?_
          refine Run.val (lt rfl) (Y.move rfl) ?_
          refine Run.val (lt rfl) (Y.nilCheck rfl) ?_
          refine Run.val (lt rfl) (Y.fieldAddr rfl Clturn_fo44_9) ?_
          refine Run.val (lt rfl) (Y.load rfl Clturn_ts4 (Kn.at 0 rfl) rfl) ?_
          refine Run.val (lt rfl) (Y.move rfl) ?_
          refine Run.off rfl rfl rfl h8 rfl (lt rfl) ?_
          refine Run.val (lt rfl) (Y.pick_t rfl h8 rfl) ?_
          refine Run.val (lt rfl) (Y.nilCheck rfl) ?_
          refine Run.val (lt rfl) (Y.fieldAddr rfl Clturn_fo44_9) ?_
          refine Run.store (s := [(bc, .cells #[.string cz.name, hv, .int .i64 cz.state, .int .u32 cz.xid, .int .u32 cz.addr, .int .u32 cz.server, .int .i64 cz.until_, .int .i64 cz.one, .int .i64 cz.two, .bool true, .int .i64 cz.tries, .int .i64 cz.said, .int .i64 cz.asks] 44 (0, 0))]) rfl rfl Clturn_sz4 (i := 0) rfl rfl (le rfl) rfl rfl ?_
          refine Run.to_end ?_
          refine Ex.end_block ?_
          refine Ex.keep [0] ?_
          exact Ex.end0 rfl ⟨rfl, rfl, by rw [((by rw [hcz, hcy, hcx]; rfl : Cli.turn c now = Cli.turn4 cz now).trans (Cli.turn4_n g9 (.inl (by simp only [Cli.late, h8, hq]; rfl))))]; first | rfl | (simp only [Cli.cells, h8, hq]; rfl)⟩
         ·refine Run.val (lt rfl) (Y.move rfl) ?_
          refine Run.val (lt rfl) (Y.move rfl) ?_
          refine Run.val (lt rfl) (Y.nilCheck rfl) ?_
          refine Run.val (lt rfl) (Y.fieldAddr rfl Clturn_fo44_9) ?_
          refine Run.val (lt rfl) (Y.load rfl Clturn_ts4 (Kn.at 0 rfl) rfl) ?_
          refine Run.val (lt rfl) (Y.move rfl) ?_
          refine Run.off rfl rfl rfl h8 rfl (lt rfl) ?_
          refine Run.val (lt rfl) (Y.pick_t rfl h8 rfl) ?_
          refine Run.val (lt rfl) (Y.nilCheck rfl) ?_
          refine Run.val (lt rfl) (Y.fieldAddr rfl Clturn_fo44_9) ?_
          refine Run.store (s := [(bc, .cells #[.string cz.name, hv, .int .i64 cz.state, .int .u32 cz.xid, .int .u32 cz.addr, .int .u32 cz.server, .int .i64 cz.until_, .int .i64 cz.one, .int .i64 cz.two, .bool true, .int .i64 cz.tries, .int .i64 cz.said, .int .i64 cz.asks] 44 (0, 0))]) rfl rfl Clturn_sz4 (i := 0) rfl rfl (le rfl) rfl rfl ?_
          refine Run.to_end ?_
          refine Ex.end_block ?_
          refine Ex.keep [0] ?_
          exact Ex.end0 rfl ⟨rfl, rfl, by rw [((by rw [hcz, hcy, hcx]; rfl : Cli.turn c now = Cli.turn4 cz now).trans (Cli.turn4_n g9 (.inl (by simp only [Cli.late, h8, hq]; rfl))))]; first | rfl | (simp only [Cli.cells, h8, hq]; rfl)⟩
        ·have g13 := h13
         try simp only [kb] at g13
         refine Tr.cond_f rfl h13 ?_
         refine Tr.region ?_
         refine Run.val (lt rfl) (Y.int rfl rfl rfl) ?_
         refine Run.val (lt rfl) (Y.assign rfl) ?_
         refine Run.to_end ?_
         refine Ex.go ?_
         rcases Bool.eq_false_or_eq_true (cz.state == 5) with h14 | h14
         ·have g14 := h14
          try simp only [kb] at g14
          refine Tr.cond_t rfl h14 ?_
          refine Tr.region ?_
          rcases Bool.eq_false_or_eq_true (decide ((now - cz.said) ≥ 4)) with hq | hq
          ·refine Run.val (lt rfl) (Y.move rfl) ?_
           refine Run.val (lt rfl) (Y.move rfl) ?_
           refine Run.val (lt rfl) (Y.nilCheck rfl) ?_
           refine Run.val (lt rfl) (Y.fieldAddr rfl Clturn_fo44_9) ?_
           refine Run.val (lt rfl) (Y.load rfl Clturn_ts4 (Kn.at 0 rfl) rfl) ?_
           refine Run.val (lt rfl) (Y.move rfl) ?_
           refine Run.off rfl rfl rfl h8 rfl (lt rfl) ?_
           refine Run.val (lt rfl) (Y.pick_t rfl h8 rfl) ?_
           refine Run.val (lt rfl) (Y.nilCheck rfl) ?_
           refine Run.val (lt rfl) (Y.fieldAddr rfl Clturn_fo44_9) ?_
           refine Run.store (s := [(bc, .cells #[.string cz.name, hv, .int .i64 cz.state, .int .u32 cz.xid, .int .u32 cz.addr, .int .u32 cz.server, .int .i64 cz.until_, .int .i64 cz.one, .int .i64 cz.two, .bool true, .int .i64 cz.tries, .int .i64 cz.said, .int .i64 cz.asks] 44 (0, 0))]) rfl rfl Clturn_sz4 (i := 0) rfl rfl (le rfl) rfl rfl ?_
           refine Run.to_end ?_
           refine Ex.end_block ?_
           refine Ex.keep [0] ?_
           exact Ex.end0 rfl ⟨rfl, rfl, by rw [((by rw [hcz, hcy, hcx]; rfl : Cli.turn c now = Cli.turn4 cz now).trans (Cli.turn4_n g9 (.inl (by simp only [Cli.late, h8, hq]; rfl))))]; first | rfl | (simp only [Cli.cells, h8, hq]; rfl)⟩
          ·refine Run.val (lt rfl) (Y.move rfl) ?_
           refine Run.val (lt rfl) (Y.move rfl) ?_
           refine Run.val (lt rfl) (Y.nilCheck rfl) ?_
           refine Run.val (lt rfl) (Y.fieldAddr rfl Clturn_fo44_9) ?_
           refine Run.val (lt rfl) (Y.load rfl Clturn_ts4 (Kn.at 0 rfl) rfl) ?_
           refine Run.val (lt rfl) (Y.move rfl) ?_
           refine Run.off rfl rfl rfl h8 rfl (lt rfl) ?_
           refine Run.val (lt rfl) (Y.pick_t rfl h8 rfl) ?_
           refine Run.val (lt rfl) (Y.nilCheck rfl) ?_
           refine Run.val (lt rfl) (Y.fieldAddr rfl Clturn_fo44_9) ?_
           refine Run.store (s := [(bc, .cells #[.string cz.name, hv, .int .i64 cz.state, .int .u32 cz.xid, .int .u32 cz.addr, .int .u32 cz.server, .int .i64 cz.until_, .int .i64 cz.one, .int .i64 cz.two, .bool true, .int .i64 cz.tries, .int .i64 cz.said, .int .i64 cz.asks] 44 (0, 0))]) rfl rfl Clturn_sz4 (i := 0) rfl rfl (le rfl) rfl rfl ?_
           refine Run.to_end ?_
           refine Ex.end_block ?_
           refine Ex.keep [0] ?_
           exact Ex.end0 rfl ⟨rfl, rfl, by rw [((by rw [hcz, hcy, hcx]; rfl : Cli.turn c now = Cli.turn4 cz now).trans (Cli.turn4_n g9 (.inl (by simp only [Cli.late, h8, hq]; rfl))))]; first | rfl | (simp only [Cli.cells, h8, hq]; rfl)⟩
         ·have g14 := h14
          try simp only [kb] at g14
          refine Tr.cond_f rfl h14 ?_
          refine Tr.to_end ?_
          refine Ex.end_block ?_
          refine Ex.keep [0] ?_
          exact Ex.end0 rfl ⟨rfl, rfl, by rw [((by rw [hcz, hcy, hcx]; rfl : Cli.turn c now = Cli.turn4 cz now).trans (Cli.turn4_n g9 (.inl (by simp only [Cli.late, h8]; rfl))))]; first | rfl | (simp only [Cli.cells, h8]; rfl)⟩
    ·have g8 := h8
     try simp only [kb] at g8
     refine Run.on rfl rfl rfl (congrArg Bool.not h8) ?_
     refine Run.val (lt rfl) (Y.move rfl) ?_
     refine Run.on rfl rfl rfl (congrArg Bool.not h8) ?_
     refine Run.val (lt rfl) (Y.move rfl) ?_
     refine Run.on rfl rfl rfl (congrArg Bool.not h8) ?_
     refine Run.val (lt rfl) (Y.nilCheck rfl) ?_
     refine Run.on rfl rfl rfl (congrArg Bool.not h8) ?_
     refine Run.val (lt rfl) (Y.fieldAddr rfl Clturn_fo44_11) ?_
     refine Run.on rfl rfl rfl (congrArg Bool.not h8) ?_
     refine Run.val (lt rfl) (Y.load rfl Clturn_ts3 (Kn.at 0 rfl) rfl) ?_
     refine Run.on rfl rfl rfl (congrArg Bool.not h8) ?_
     refine Run.val (lt rfl) (Y.sub rfl rfl (by omega)) ?_
     refine Run.on rfl rfl rfl (congrArg Bool.not h8) ?_
     refine Run.val (lt rfl) (Y.int rfl rfl rfl) ?_
     refine Run.val (lt rfl) (Y.pick_t rfl (congrArg Bool.not h8) rfl) ?_
     refine Run.val (lt rfl) (Y.assign rfl) ?_
     refine Run.to_end ?_
     refine Ex.go ?_
     refine Tr.seq ?_
     refine Tr.region ?_
     refine Run.val (lt rfl) (Y.move rfl) ?_
     refine Run.val (lt rfl) (Y.nilCheck rfl) ?_
     refine Run.val (lt rfl) (Y.fieldAddr rfl Clturn_fo44_2) ?_
     refine Run.val (lt rfl) (Y.load rfl Clturn_ts3 (Kn.at 0 rfl) rfl) ?_
     refine Run.to_end ?_
     refine Ex.go ?_
     refine Tr.block ?_
     refine Tr.seq ?_
     refine Tr.region ?_
     refine Run.val (lt rfl) (Y.int rfl rfl rfl) ?_
     refine Run.val (lt rfl) (Y.assign rfl) ?_
     refine Run.to_end ?_
     refine Ex.go ?_
     rcases Bool.eq_false_or_eq_true (cz.state == 0) with h15 | h15
     ·have g15 := h15
      try simp only [kb] at g15
      refine Tr.cond_t rfl h15 ?_
      refine Tr.region ?_
      refine Run.val (lt rfl) (Y.move rfl) ?_
      refine Run.call [0] (l := [.tmp 89]) rfl rfl rfl (lt rfl) (ranew_c (c := cz)) (fun v16 V2 H2 _ hR => ?_)
      obtain ⟨hV, rfl, rfl⟩ := hR; replace hV := hV.symm; subst hV
      refine Run.to_end ?_
      refine Ex.end_block ?_
      refine Ex.keep [0] ?_
      exact Ex.end0 rfl ⟨rfl, rfl, by rw [((by rw [hcz, hcy, hcx]; rfl : Cli.turn c now = Cli.turn4 cz now).trans (Cli.turn4_0 g15))]; try rfl⟩
     ·have g15 := h15
      try simp only [kb] at g15
      refine Tr.cond_f rfl h15 ?_
      refine Tr.seq ?_
      refine Tr.seq ?_
      refine Tr.region ?_
      refine Run.val (lt rfl) (Y.int rfl rfl rfl) ?_
      refine Run.val (lt rfl) (Y.assign rfl) ?_
      refine Run.to_end ?_
      refine Ex.go ?_
      rcases Bool.eq_false_or_eq_true (cz.state == 1) with h17 | h17
      ·have g17 := h17
       try simp only [kb] at g17
       refine Tr.cond_t rfl h17 ?_
       refine Tr.to_end ?_
       refine Ex.go ?_
       refine Tr.cond_t rfl h17 ?_
       refine Tr.seq ?_
       refine Tr.region ?_
       refine Run.val (lt rfl) (Y.move rfl) ?_
       refine Run.val (lt rfl) (Y.move rfl) ?_
       rcases Bool.eq_false_or_eq_true (decide ((now - cz.said) ≥ 4)) with h18 | h18
       ·have g18 := h18
        try simp only [kb] at g18
        refine Run.on rfl rfl rfl h18 ?_
        refine Run.val (lt rfl) (Y.move rfl) ?_
        refine Run.on rfl rfl rfl h18 ?_
        refine Run.val (lt rfl) (Y.nilCheck rfl) ?_
        refine Run.on rfl rfl rfl h18 ?_
        refine Run.val (lt rfl) (Y.fieldAddr rfl Clturn_fo44_10) ?_
        refine Run.on rfl rfl rfl h18 ?_
        refine Run.val (lt rfl) (Y.load rfl Clturn_ts3 (Kn.at 0 rfl) rfl) ?_
        refine Run.on rfl rfl rfl h18 ?_
        refine Run.val (lt rfl) (Y.int rfl rfl rfl) ?_
        refine Run.val (lt rfl) (Y.pick_t rfl h18 rfl) ?_
        refine Run.to_end ?_
        refine Ex.go ?_
        rcases Bool.eq_false_or_eq_true (decide (cz.tries ≥ 4)) with h19 | h19
        ·have g19 := h19
         try simp only [kb] at g19
         refine Tr.cond_t rfl h19 ?_
         refine Tr.region ?_
         refine Run.val (lt rfl) (Y.move rfl) ?_
         refine Run.call [0] (l := [.tmp 102]) rfl rfl rfl (lt rfl) (ranew_c (c := cz)) (fun v20 V2 H2 _ hR => ?_)
         obtain ⟨hV, rfl, rfl⟩ := hR; replace hV := hV.symm; subst hV
         refine Run.to_end ?_
         refine Ex.end_block ?_
         refine Ex.keep [0] ?_
         exact Ex.end0 rfl ⟨rfl, rfl, by rw [((by rw [hcz, hcy, hcx]; rfl : Cli.turn c now = Cli.turn4 cz now).trans (Cli.turn4_a g15 (by simp only [Cli.late, h8, h18]; rfl) (by omega) (Cli.hold_n (by omega)) (by omega)))]; first | rfl | (simp only [Cli.cells, h8, h18]; rfl)⟩
        ·have g19 := h19
         try simp only [kb] at g19
         refine Tr.cond_f rfl h19 ?_
         refine Tr.seq ?_
         refine Tr.region ?_
         refine Run.val (lt rfl) (Y.move rfl) ?_
         refine Run.to_end ?_
         refine Ex.go ?_
         refine Tr.cond_t rfl h18 ?_
         refine Tr.region ?_
         refine Run.val (lt rfl) (Y.move rfl) ?_
         refine Run.val (lt rfl) (Y.nilCheck rfl) ?_
         refine Run.val (lt rfl) (Y.fieldAddr rfl Clturn_fo44_9) ?_
         refine Run.store (s := [(bc, .cells #[.string cz.name, hv, .int .i64 cz.state, .int .u32 cz.xid, .int .u32 cz.addr, .int .u32 cz.server, .int .i64 cz.until_, .int .i64 cz.one, .int .i64 cz.two, .bool true, .int .i64 cz.tries, .int .i64 cz.said, .int .i64 cz.asks] 44 (0, 0))]) rfl rfl Clturn_sz4 (i := 0) rfl rfl (le rfl) rfl rfl ?_
         refine Run.to_end ?_
         refine Ex.end_block ?_
         refine Ex.keep [0] ?_
         exact Ex.end0 rfl ⟨rfl, rfl, by rw [((by rw [hcz, hcy, hcx]; rfl : Cli.turn c now = Cli.turn4 cz now).trans (Cli.turn4_d g15 (by simp only [Cli.late, h8, h18]; rfl) (by omega) (.inr (by omega))))]; first | rfl | (simp only [Cli.cells, h8, h18]; rfl)⟩
       ·have g18 := h18
        try simp only [kb] at g18
        refine Run.off rfl rfl rfl h18 rfl (lt rfl) ?_
        refine Run.off rfl rfl rfl h18 rfl (lt rfl) ?_
        refine Run.off rfl rfl rfl h18 rfl (lt rfl) ?_
        refine Run.off rfl rfl rfl h18 rfl (lt rfl) ?_
        refine Run.off rfl rfl rfl h18 rfl (lt rfl) ?_
        refine Run.val (lt rfl) (Y.pick_f rfl h18 rfl) ?_
        refine Run.to_end ?_
        refine Ex.go ?_
        refine Tr.cond_f rfl rfl ?_
        refine Tr.seq ?_
        refine Tr.region ?_
        refine Run.val (lt rfl) (Y.move rfl) ?_
        refine Run.to_end ?_
        refine Ex.go ?_
        refine Tr.cond_f rfl h18 ?_
        refine Tr.to_end ?_
        refine Ex.end_block ?_
        refine Ex.keep [0] ?_
        exact Ex.end0 rfl ⟨rfl, rfl, by rw [((by rw [hcz, hcy, hcx]; rfl : Cli.turn c now = Cli.turn4 cz now).trans (Cli.turn4_n g15 (.inl (by simp only [Cli.late, h8, h18]; rfl))))]; first | rfl | (simp only [Cli.cells, h8, h18]; rfl)⟩
      ·have g17 := h17
       try simp only [kb] at g17
       refine Tr.cond_f rfl h17 ?_
       refine Tr.region ?_
       refine Run.val (lt rfl) (Y.int rfl rfl rfl) ?_
       refine Run.val (lt rfl) (Y.assign rfl) ?_
       refine Run.to_end ?_
       refine Ex.go ?_
       rcases Bool.eq_false_or_eq_true (cz.state == 2) with h21 | h21
       ·have g21 := h21
        try simp only [kb] at g21
        refine Tr.cond_t rfl h21 ?_
        refine Tr.seq ?_
        refine Tr.region ?_
        refine Run.val (lt rfl) (Y.move rfl) ?_
        refine Run.val (lt rfl) (Y.move rfl) ?_
        rcases Bool.eq_false_or_eq_true (decide ((now - cz.said) ≥ 4)) with h22 | h22
        ·have g22 := h22
         try simp only [kb] at g22
         refine Run.on rfl rfl rfl h22 ?_
         refine Run.val (lt rfl) (Y.move rfl) ?_
         refine Run.on rfl rfl rfl h22 ?_
         refine Run.val (lt rfl) (Y.nilCheck rfl) ?_
         refine Run.on rfl rfl rfl h22 ?_
         refine Run.val (lt rfl) (Y.fieldAddr rfl Clturn_fo44_10) ?_
         refine Run.on rfl rfl rfl h22 ?_
         refine Run.val (lt rfl) (Y.load rfl Clturn_ts3 (Kn.at 0 rfl) rfl) ?_
         refine Run.on rfl rfl rfl h22 ?_
         refine Run.val (lt rfl) (Y.int rfl rfl rfl) ?_
         refine Run.val (lt rfl) (Y.pick_t rfl h22 rfl) ?_
         refine Run.to_end ?_
         refine Ex.go ?_
         rcases Bool.eq_false_or_eq_true (decide (cz.tries ≥ 4)) with h23 | h23
         ·have g23 := h23
          try simp only [kb] at g23
          refine Tr.cond_t rfl h23 ?_
          refine Tr.region ?_
          refine Run.val (lt rfl) (Y.move rfl) ?_
          refine Run.call [0] (l := [.tmp 102]) rfl rfl rfl (lt rfl) (ranew_c (c := cz)) (fun v24 V2 H2 _ hR => ?_)
          obtain ⟨hV, rfl, rfl⟩ := hR; replace hV := hV.symm; subst hV
          refine Run.to_end ?_
          refine Ex.end_block ?_
          refine Ex.keep [0] ?_
          exact Ex.end0 rfl ⟨rfl, rfl, by rw [((by rw [hcz, hcy, hcx]; rfl : Cli.turn c now = Cli.turn4 cz now).trans (Cli.turn4_a g15 (by simp only [Cli.late, h8, h22]; rfl) (by omega) (Cli.hold_n (by omega)) (by omega)))]; first | rfl | (simp only [Cli.cells, h8, h22]; rfl)⟩
         ·have g23 := h23
          try simp only [kb] at g23
          refine Tr.cond_f rfl h23 ?_
          refine Tr.seq ?_
          refine Tr.region ?_
          refine Run.val (lt rfl) (Y.move rfl) ?_
          refine Run.to_end ?_
          refine Ex.go ?_
          refine Tr.cond_t rfl h22 ?_
          refine Tr.region ?_
          refine Run.val (lt rfl) (Y.move rfl) ?_
          refine Run.val (lt rfl) (Y.nilCheck rfl) ?_
          refine Run.val (lt rfl) (Y.fieldAddr rfl Clturn_fo44_9) ?_
          refine Run.store (s := [(bc, .cells #[.string cz.name, hv, .int .i64 cz.state, .int .u32 cz.xid, .int .u32 cz.addr, .int .u32 cz.server, .int .i64 cz.until_, .int .i64 cz.one, .int .i64 cz.two, .bool true, .int .i64 cz.tries, .int .i64 cz.said, .int .i64 cz.asks] 44 (0, 0))]) rfl rfl Clturn_sz4 (i := 0) rfl rfl (le rfl) rfl rfl ?_
          refine Run.to_end ?_
          refine Ex.end_block ?_
          refine Ex.keep [0] ?_
          exact Ex.end0 rfl ⟨rfl, rfl, by rw [((by rw [hcz, hcy, hcx]; rfl : Cli.turn c now = Cli.turn4 cz now).trans (Cli.turn4_d g15 (by simp only [Cli.late, h8, h22]; rfl) (by omega) (.inr (by omega))))]; first | rfl | (simp only [Cli.cells, h8, h22]; rfl)⟩
        ·have g22 := h22
         try simp only [kb] at g22
         refine Run.off rfl rfl rfl h22 rfl (lt rfl) ?_
         refine Run.off rfl rfl rfl h22 rfl (lt rfl) ?_
         refine Run.off rfl rfl rfl h22 rfl (lt rfl) ?_
         refine Run.off rfl rfl rfl h22 rfl (lt rfl) ?_
         refine Run.off rfl rfl rfl h22 rfl (lt rfl) ?_
         refine Run.val (lt rfl) (Y.pick_f rfl h22 rfl) ?_
         refine Run.to_end ?_
         refine Ex.go ?_
         refine Tr.cond_f rfl rfl ?_
         refine Tr.seq ?_
         refine Tr.region ?_
         refine Run.val (lt rfl) (Y.move rfl) ?_
         refine Run.to_end ?_
         refine Ex.go ?_
         refine Tr.cond_f rfl h22 ?_
         refine Tr.to_end ?_
         refine Ex.end_block ?_
         refine Ex.keep [0] ?_
         exact Ex.end0 rfl ⟨rfl, rfl, by rw [((by rw [hcz, hcy, hcx]; rfl : Cli.turn c now = Cli.turn4 cz now).trans (Cli.turn4_n g15 (.inl (by simp only [Cli.late, h8, h22]; rfl))))]; first | rfl | (simp only [Cli.cells, h8, h22]; rfl)⟩
       ·have g21 := h21
        try simp only [kb] at g21
        refine Tr.cond_f rfl h21 ?_
        refine Tr.seq ?_
        refine Tr.seq ?_
        refine Tr.region ?_
        refine Run.val (lt rfl) (Y.int rfl rfl rfl) ?_
        refine Run.val (lt rfl) (Y.assign rfl) ?_
        refine Run.to_end ?_
        refine Ex.go ?_
        rcases Bool.eq_false_or_eq_true (cz.state == 4) with h25 | h25
        ·have g25 := h25
         try simp only [kb] at g25
         refine Tr.cond_t rfl h25 ?_
         refine Tr.to_end ?_
         refine Ex.go ?_
         refine Tr.cond_t rfl h25 ?_
         refine Tr.region ?_
         rcases Bool.eq_false_or_eq_true (decide ((now - cz.said) ≥ 4)) with hq | hq
         ·refine Run.val (lt rfl) (Y.move rfl) ?_
          refine Run.val (lt rfl) (Y.move rfl) ?_
          refine Run.val (lt rfl) (Y.nilCheck rfl) ?_
          refine Run.val (lt rfl) (Y.fieldAddr rfl Clturn_fo44_9) ?_
          refine Run.val (lt rfl) (Y.load rfl Clturn_ts4 (Kn.at 0 rfl) rfl) ?_
          refine Run.val (lt rfl) (Y.move rfl) ?_
          refine Run.on rfl rfl rfl h8 ?_
          refine Run.val (lt rfl) (Y.move rfl) ?_
          refine Run.val (lt rfl) (Y.pick_f rfl h8 rfl) ?_
          refine Run.val (lt rfl) (Y.nilCheck rfl) ?_
          refine Run.val (lt rfl) (Y.fieldAddr rfl Clturn_fo44_9) ?_
          refine Run.store (s := [(bc, .cells #[.string cz.name, hv, .int .i64 cz.state, .int .u32 cz.xid, .int .u32 cz.addr, .int .u32 cz.server, .int .i64 cz.until_, .int .i64 cz.one, .int .i64 cz.two, .bool (decide ((now - cz.said) ≥ 4)), .int .i64 cz.tries, .int .i64 cz.said, .int .i64 cz.asks] 44 (0, 0))]) rfl rfl Clturn_sz4 (i := 0) rfl rfl (le rfl) rfl rfl ?_
          refine Run.to_end ?_
          refine Ex.end_block ?_
          refine Ex.keep [0] ?_
          exact Ex.end0 rfl ⟨rfl, rfl, by rw [((by rw [hcz, hcy, hcx]; rfl : Cli.turn c now = Cli.turn4 cz now).trans (Cli.turn4_d g15 (by simp only [Cli.late, h8, hq]; rfl) (by omega) (.inl (Cli.hold_y (by omega)))))]; first | rfl | (simp only [Cli.cells, h8, hq]; rfl)⟩
         ·refine Run.val (lt rfl) (Y.move rfl) ?_
          refine Run.val (lt rfl) (Y.move rfl) ?_
          refine Run.val (lt rfl) (Y.nilCheck rfl) ?_
          refine Run.val (lt rfl) (Y.fieldAddr rfl Clturn_fo44_9) ?_
          refine Run.val (lt rfl) (Y.load rfl Clturn_ts4 (Kn.at 0 rfl) rfl) ?_
          refine Run.val (lt rfl) (Y.move rfl) ?_
          refine Run.on rfl rfl rfl h8 ?_
          refine Run.val (lt rfl) (Y.move rfl) ?_
          refine Run.val (lt rfl) (Y.pick_f rfl h8 rfl) ?_
          refine Run.val (lt rfl) (Y.nilCheck rfl) ?_
          refine Run.val (lt rfl) (Y.fieldAddr rfl Clturn_fo44_9) ?_
          refine Run.store (s := [(bc, .cells #[.string cz.name, hv, .int .i64 cz.state, .int .u32 cz.xid, .int .u32 cz.addr, .int .u32 cz.server, .int .i64 cz.until_, .int .i64 cz.one, .int .i64 cz.two, .bool (decide ((now - cz.said) ≥ 4)), .int .i64 cz.tries, .int .i64 cz.said, .int .i64 cz.asks] 44 (0, 0))]) rfl rfl Clturn_sz4 (i := 0) rfl rfl (le rfl) rfl rfl ?_
          refine Run.to_end ?_
          refine Ex.end_block ?_
          refine Ex.keep [0] ?_
          exact Ex.end0 rfl ⟨rfl, rfl, by rw [((by rw [hcz, hcy, hcx]; rfl : Cli.turn c now = Cli.turn4 cz now).trans (Cli.turn4_n g15 (.inl (by simp only [Cli.late, h8, hq]; rfl))))]; first | rfl | (simp only [Cli.cells, h8, hq]; rfl)⟩
        ·have g25 := h25
         try simp only [kb] at g25
         refine Tr.cond_f rfl h25 ?_
         refine Tr.region ?_
         refine Run.val (lt rfl) (Y.int rfl rfl rfl) ?_
         refine Run.val (lt rfl) (Y.assign rfl) ?_
         refine Run.to_end ?_
         refine Ex.go ?_
         rcases Bool.eq_false_or_eq_true (cz.state == 5) with h26 | h26
         ·have g26 := h26
          try simp only [kb] at g26
          refine Tr.cond_t rfl h26 ?_
          refine Tr.region ?_
          rcases Bool.eq_false_or_eq_true (decide ((now - cz.said) ≥ 4)) with hq | hq
          ·refine Run.val (lt rfl) (Y.move rfl) ?_
           refine Run.val (lt rfl) (Y.move rfl) ?_
           refine Run.val (lt rfl) (Y.nilCheck rfl) ?_
           refine Run.val (lt rfl) (Y.fieldAddr rfl Clturn_fo44_9) ?_
           refine Run.val (lt rfl) (Y.load rfl Clturn_ts4 (Kn.at 0 rfl) rfl) ?_
           refine Run.val (lt rfl) (Y.move rfl) ?_
           refine Run.on rfl rfl rfl h8 ?_
           refine Run.val (lt rfl) (Y.move rfl) ?_
           refine Run.val (lt rfl) (Y.pick_f rfl h8 rfl) ?_
           refine Run.val (lt rfl) (Y.nilCheck rfl) ?_
           refine Run.val (lt rfl) (Y.fieldAddr rfl Clturn_fo44_9) ?_
           refine Run.store (s := [(bc, .cells #[.string cz.name, hv, .int .i64 cz.state, .int .u32 cz.xid, .int .u32 cz.addr, .int .u32 cz.server, .int .i64 cz.until_, .int .i64 cz.one, .int .i64 cz.two, .bool (decide ((now - cz.said) ≥ 4)), .int .i64 cz.tries, .int .i64 cz.said, .int .i64 cz.asks] 44 (0, 0))]) rfl rfl Clturn_sz4 (i := 0) rfl rfl (le rfl) rfl rfl ?_
           refine Run.to_end ?_
           refine Ex.end_block ?_
           refine Ex.keep [0] ?_
           exact Ex.end0 rfl ⟨rfl, rfl, by rw [((by rw [hcz, hcy, hcx]; rfl : Cli.turn c now = Cli.turn4 cz now).trans (Cli.turn4_d g15 (by simp only [Cli.late, h8, hq]; rfl) (by omega) (.inl (Cli.hold_y (by omega)))))]; first | rfl | (simp only [Cli.cells, h8, hq]; rfl)⟩
          ·refine Run.val (lt rfl) (Y.move rfl) ?_
           refine Run.val (lt rfl) (Y.move rfl) ?_
           refine Run.val (lt rfl) (Y.nilCheck rfl) ?_
           refine Run.val (lt rfl) (Y.fieldAddr rfl Clturn_fo44_9) ?_
           refine Run.val (lt rfl) (Y.load rfl Clturn_ts4 (Kn.at 0 rfl) rfl) ?_
           refine Run.val (lt rfl) (Y.move rfl) ?_
           refine Run.on rfl rfl rfl h8 ?_
           refine Run.val (lt rfl) (Y.move rfl) ?_
           refine Run.val (lt rfl) (Y.pick_f rfl h8 rfl) ?_
           refine Run.val (lt rfl) (Y.nilCheck rfl) ?_
           refine Run.val (lt rfl) (Y.fieldAddr rfl Clturn_fo44_9) ?_
           refine Run.store (s := [(bc, .cells #[.string cz.name, hv, .int .i64 cz.state, .int .u32 cz.xid, .int .u32 cz.addr, .int .u32 cz.server, .int .i64 cz.until_, .int .i64 cz.one, .int .i64 cz.two, .bool (decide ((now - cz.said) ≥ 4)), .int .i64 cz.tries, .int .i64 cz.said, .int .i64 cz.asks] 44 (0, 0))]) rfl rfl Clturn_sz4 (i := 0) rfl rfl (le rfl) rfl rfl ?_
           refine Run.to_end ?_
           refine Ex.end_block ?_
           refine Ex.keep [0] ?_
           exact Ex.end0 rfl ⟨rfl, rfl, by rw [((by rw [hcz, hcy, hcx]; rfl : Cli.turn c now = Cli.turn4 cz now).trans (Cli.turn4_n g15 (.inl (by simp only [Cli.late, h8, hq]; rfl))))]; first | rfl | (simp only [Cli.cells, h8, hq]; rfl)⟩
         ·have g26 := h26
          try simp only [kb] at g26
          refine Tr.cond_f rfl h26 ?_
          refine Tr.to_end ?_
          refine Ex.end_block ?_
          refine Ex.keep [0] ?_
          exact Ex.end0 rfl ⟨rfl, rfl, by rw [((by rw [hcz, hcy, hcx]; rfl : Cli.turn c now = Cli.turn4 cz now).trans (Cli.turn4_n g15 (.inr (by have := hiz.state; omega))))]; first | rfl | (simp only [Cli.cells, h8]; rfl)⟩
end Go.Proofs.Ytelahacalnmilaa
