/- What a client makes of a packet.
Conditions: as each theorem names them. -/
import Derived.Test.YtelahacalnmilaaProg
import Derived.Test.YtelahacalnmilaaO3
import Derived.Test.YtelahacalnmilaaClient
set_option linter.unusedSimpArgs false
set_option linter.unusedVariables false
set_option maxRecDepth 4000
namespace Go.Proofs.Ytelahacalnmilaa
open Go Go.K
attribute [local irreducible] Code.wp wpList Calls wpQuiet
theorem Cltake_ag36 : aggsz Try.prog 36 = some 10 := by kernel_rfl
theorem Cltake_fo36_0 : fieldOff Try.prog 36 0 = some 0 := by kernel_rfl
theorem Cltake_ts3 : scal Try.prog 3 = true := by kernel_rfl
theorem Cltake_mo : Try.prog.follows .mixedOrders = true := by kernel_rfl
theorem Cltake_fo36_1 : fieldOff Try.prog 36 1 = some 1 := by kernel_rfl
theorem Cltake_ts32 : scal Try.prog 32 = true := by kernel_rfl
theorem Cltake_fo67_3 : fieldOff Try.prog 67 3 = some 3 := by kernel_rfl
theorem Cltake_fo36_8 : fieldOff Try.prog 36 8 = some 8 := by kernel_rfl
theorem Cltake_ts22 : scal Try.prog 22 = true := by kernel_rfl
theorem Cltake_fo67_1 : fieldOff Try.prog 67 1 = some 1 := by kernel_rfl
theorem Cltake_fo67_2 : fieldOff Try.prog 67 2 = some 2 := by kernel_rfl
theorem Cltake_fo36_5 : fieldOff Try.prog 36 5 = some 5 := by kernel_rfl
theorem Cltake_ts33 : scal Try.prog 33 = true := by kernel_rfl
theorem Cltake_fo36_6 : fieldOff Try.prog 36 6 = some 6 := by kernel_rfl
theorem Cltake_it33_3 : intT Try.prog 33 3 = some .i64 := by kernel_rfl
theorem Cltake_it3_33 : intT Try.prog 3 33 = some .u32 := by kernel_rfl
theorem Cltake_fo67_4 : fieldOff Try.prog 67 4 = some 4 := by kernel_rfl
theorem Cltake_sz33 : sizeT Try.prog 33 = some 1 := by kernel_rfl
theorem Cltake_fo67_5 : fieldOff Try.prog 67 5 = some 5 := by kernel_rfl
theorem Cltake_fo67_10 : fieldOff Try.prog 67 10 = some 10 := by kernel_rfl
theorem Cltake_sz3 : sizeT Try.prog 3 = some 1 := by kernel_rfl
theorem Cltake_fo67_9 : fieldOff Try.prog 67 9 = some 9 := by kernel_rfl
theorem Cltake_sz4 : sizeT Try.prog 4 = some 1 := by kernel_rfl
theorem Cltake_fo67_12 : fieldOff Try.prog 67 12 = some 12 := by kernel_rfl
theorem Cltake_fo67_6 : fieldOff Try.prog 67 6 = some 6 := by kernel_rfl
theorem Cltake_fo67_7 : fieldOff Try.prog 67 7 = some 7 := by kernel_rfl
theorem Cltake_fo67_8 : fieldOff Try.prog 67 8 = some 8 := by kernel_rfl
theorem Cltake_fo44_3 : fieldOff Try.prog 44 3 = some 3 := by kernel_rfl
theorem Cltake_es22 : elemS Try.prog 22 = some (5, 1) := by kernel_rfl
theorem Cltake_tg5 : tagOf Try.prog 5 = some (0, .u8) := by kernel_rfl
theorem Cltake_st9 : strT Try.prog 9 = true := by kernel_rfl
theorem Cltake_fo44_1 : fieldOff Try.prog 44 1 = some 1 := by kernel_rfl
theorem Cltake_fo44_2 : fieldOff Try.prog 44 2 = some 2 := by kernel_rfl
theorem Cltake_fo44_4 : fieldOff Try.prog 44 4 = some 4 := by kernel_rfl
theorem Cltake_fo44_5 : fieldOff Try.prog 44 5 = some 5 := by kernel_rfl
theorem Cltake_fo44_10 : fieldOff Try.prog 44 10 = some 10 := by kernel_rfl
theorem Cltake_fo44_9 : fieldOff Try.prog 44 9 = some 9 := by kernel_rfl
theorem Cltake_fo44_12 : fieldOff Try.prog 44 12 = some 12 := by kernel_rfl
theorem Cltake_fo44_6 : fieldOff Try.prog 44 6 = some 6 := by kernel_rfl
theorem Cltake_fo44_7 : fieldOff Try.prog 44 7 = some 7 := by kernel_rfl
theorem Cltake_fo44_8 : fieldOff Try.prog 44 8 = some 8 := by kernel_rfl

set_option maxHeartbeats 1000000 in
theorem take_c {V : Vw} {bc : Nat} {c : Cli} {hv hv2 ov : Value} {n now : Int} {p : Pc} (hi : Cli.Inv n c) (hh : Rd V [] 1 hv c.hw.length (c.hw.map byteV)) (hp : Pc.R V p hv2 ov) (hf : Pc.few p = true)  : Does Try.prog 25 [.pointer (some ⟨bc, 0, none⟩), .agg (p.cells hv2 ov), .int .i64 now] V [[(bc, .cells (Cli.cells c hv) 67 (0, 0))]] (fun u V' H' => V' = V ∧ u = .int .i64 (Cli.takeE c p now) ∧ H' = [[(bc, .cells (Cli.cells (Cli.takeC c p now) hv) 67 (0, 0))]]) := by
 have hyi := hp.yi
 have hsi := hp.si
 have h51 := Cli.num_u32 p 51 (o := 0) (by decide)
 have h54 := Cli.num_u32 p 54 hp.si
 have h58 := Cli.num_u32 p 58 (o := Pc.num p 51 0 / 2) (by omega)
 have h59 := Cli.num_u32 p 59 (o := Pc.num p 51 0 - Pc.num p 51 0 / 8) (by omega)
 have hak := hi.asks
 have hst := hi.state
 refine Does.intro Try.func25 rfl rfl (le rfl) (fun B => ?_)
 refine Tr.seq ?_
 refine Tr.region ?_
 refine Run.box rfl (lt rfl) (fun b1 => ?_)
 refine Run.val (lt rfl) (Y.assign rfl) ?_
 refine Run.to_end ?_
 refine Ex.go ?_
 refine Tr.seq ?_
 refine Tr.block ?_
 refine Tr.seq ?_
 refine Tr.region ?_
 refine Run.val (lt rfl) (Y.move rfl) ?_
 refine Run.call0 (l := [.tmp 10]) rfl rfl rfl (lt rfl) moment_c_h ?_
 refine Run.val (lt rfl) (Y.not rfl) ?_
 refine Run.val (lt rfl) (Y.assign rfl) ?_
 refine Run.to_end ?_
 refine Ex.go ?_
 rcases Bool.eq_false_or_eq_true (Con.moment now) with h2 | h2
 ·have g2 := h2
  try simp only [kb] at g2
  refine Tr.cond_f rfl (congrArg Bool.not h2) ?_
  refine Tr.seq ?_
  refine Tr.region ?_
  refine Run.val (lt rfl) (Y.loadAgg rfl Cltake_ag36 (Kn.at 0 rfl) rfl) ?_
  refine Run.call0 (l := [.tmp 14]) rfl rfl rfl (lt rfl) (right_h hp hf) ?_
  refine Run.val (lt rfl) (Y.not rfl) ?_
  refine Run.val (lt rfl) (Y.move rfl) ?_
  rcases Bool.eq_false_or_eq_true (Pc.right p) with h3 | h3
  ·have g3 := h3
   try simp only [kb] at g3
   refine Run.on rfl rfl rfl (congrArg Bool.not h3) ?_
   refine Run.val (lt rfl) (Y.fieldAddr rfl Cltake_fo36_0) ?_
   refine Run.on rfl rfl rfl (congrArg Bool.not h3) ?_
   refine Run.val (lt rfl) (Y.load rfl Cltake_ts3 (Kn.at 0 rfl) rfl) ?_
   refine Run.on rfl rfl rfl (congrArg Bool.not h3) ?_
   refine Run.val (lt rfl) (Y.int rfl rfl rfl) ?_
   refine Run.val (lt rfl) (Y.pick_f rfl (congrArg Bool.not h3) rfl) ?_
   refine Run.val (lt rfl) (Y.assign rfl) ?_
   refine Run.to_end ?_
   refine Ex.go ?_
   rcases Bool.eq_false_or_eq_true (p.op != 2) with h4 | h4
   ·have g4 := h4
    try simp only [kb] at g4
    refine Tr.cond_t rfl h4 ?_
    refine Tr.seq ?_
    refine Tr.region ?_
    refine Run.val (lt rfl) (Y.assign rfl) ?_
    refine Run.to_end ?_
    refine Ex.go ?_
    refine Tr.to_ret ?_
    refine Ex.ret_block ?_
    refine Ex.ret_then ?_
    refine Ex.keep [1] ?_
    have e := Cli.take_2 (c := c) h2 (fun q => g4 q.2)
    exact Ex.ret1 rfl rfl  ⟨rfl, by rw [e.1], by rw [e.2]; try rfl⟩
   ·have g4 := h4
    try simp only [kb] at g4
    refine Tr.cond_f rfl h4 ?_
    refine Tr.cut V [[(b1, .cells #[.int .i64 p.op, .int .u32 p.xid, .int .i64 p.secs, .int .i64 p.flags, .int .u32 p.ci, .int .u32 p.yi, .int .u32 p.si, .int .u32 p.gi, hv2, ov] 36 (0, 0))], [(bc, .cells #[.string c.name, hv, .int .i64 c.state, .int .u32 c.xid, .int .u32 c.addr, .int .u32 c.server, .int .i64 c.until_, .int .i64 c.one, .int .i64 c.two, .bool c.due, .int .i64 c.tries, .int .i64 c.said, .int .i64 c.asks] 67 (0, 0))]] [(0, .pointer (some ⟨bc, 0, none⟩)), (2, .int .i64 now), (4, .pointer (some ⟨b1, 0, none⟩)), (22, .bool (decide (Cli.old c p)))] ?_ ?_
    ·refine Tr.quiet Cltake_mo (by kernel_rfl) ?_
     refine RunQ.val (lt rfl) (Y.fieldAddr rfl Cltake_fo36_1) ?_
     refine RunQ.val (lt rfl) (Y.load rfl Cltake_ts32 (Kn.at 0 rfl) rfl) ?_
     refine RunQ.val (lt rfl) (Y.move rfl) ?_
     refine RunQ.val (lt rfl) (Y.nilCheck rfl) ?_
     refine RunQ.val (lt rfl) (Y.fieldAddr rfl Cltake_fo67_3) ?_
     refine RunQ.val (lt rfl) (Y.load rfl Cltake_ts32 (Kn.at 1 rfl) rfl) ?_
     refine RunQ.val (lt rfl) (Y.int rfl rfl rfl) ?_
     refine RunQ.val (lt rfl) (Y.move rfl) ?_
     rcases Bool.eq_false_or_eq_true (p.xid != c.xid) with h5 | h5
     ·have g5 := h5
      try simp only [kb] at g5
      refine RunQ.off rfl rfl rfl h5 rfl (lt rfl) ?_
      refine RunQ.off rfl rfl rfl h5 rfl (lt rfl) ?_
      refine RunQ.off rfl rfl rfl h5 rfl (lt rfl) ?_
      refine RunQ.off rfl rfl rfl h5 rfl (lt rfl) ?_
      refine RunQ.off rfl rfl rfl h5 rfl (lt rfl) ?_
      refine RunQ.off rfl rfl rfl h5 rfl (lt rfl) ?_
      refine RunQ.off rfl rfl rfl h5 rfl (lt rfl) ?_
      refine RunQ.off rfl rfl rfl h5 rfl (lt rfl) ?_
      refine RunQ.val (lt rfl) (Y.pick_t rfl h5 rfl) ?_
      refine RunQ.val (lt rfl) (Y.move rfl) ?_
      refine RunQ.off rfl rfl rfl rfl rfl (lt rfl) ?_
      refine RunQ.off rfl rfl rfl rfl rfl (lt rfl) ?_
      refine RunQ.off rfl rfl rfl rfl rfl (lt rfl) ?_
      refine RunQ.off rfl rfl rfl rfl rfl (lt rfl) ?_
      refine RunQ.off rfl rfl rfl rfl rfl (lt rfl) ?_
      refine RunQ.val (lt rfl) (Y.pick_t rfl rfl rfl) ?_
      refine RunQ.val (lt rfl) (Y.move rfl) ?_
      refine RunQ.off rfl rfl rfl rfl rfl (lt rfl) ?_
      refine RunQ.off rfl rfl rfl rfl rfl (lt rfl) ?_
      refine RunQ.off rfl rfl rfl rfl rfl (lt rfl) ?_
      refine RunQ.off rfl rfl rfl rfl rfl (lt rfl) ?_
      refine RunQ.off rfl rfl rfl rfl rfl (lt rfl) ?_
      refine RunQ.val (lt rfl) (Y.pick_t rfl rfl rfl) ?_
      refine RunQ.val (lt rfl) (Y.assign rfl) ?_
      refine RunQ.to_end ?_
      exact Ex.cut rfl (subB_cons (by first | rfl | exact congrArg (fun z => some (Value.int _ z)) (by omega) | exact congrArg (fun b => some (Value.bool b)) ((decide_eq_true (show Cli.old c p from .inl (by omega))).symm)) (subB_cons (by first | rfl | exact congrArg (fun z => some (Value.int _ z)) (by omega) | exact congrArg (fun b => some (Value.bool b)) ((decide_eq_true (show Cli.old c p from .inl (by omega))).symm)) (subB_cons (by first | rfl | exact congrArg (fun z => some (Value.int _ z)) (by omega) | exact congrArg (fun b => some (Value.bool b)) ((decide_eq_true (show Cli.old c p from .inl (by omega))).symm)) (subB_cons (by first | rfl | exact congrArg (fun z => some (Value.int _ z)) (by omega) | exact congrArg (fun b => some (Value.bool b)) ((decide_eq_true (show Cli.old c p from .inl (by omega))).symm)) (subB_nil _)))))
     ·have g5 := h5
      try simp only [kb] at g5
      refine RunQ.on rfl rfl rfl h5 ?_
      refine RunQ.val (lt rfl) (Y.fieldAddr rfl Cltake_fo36_8) ?_
      refine RunQ.on rfl rfl rfl h5 ?_
      refine RunQ.val (lt rfl) (Y.load rfl Cltake_ts22 (Kn.at 0 rfl) rfl) ?_
      refine RunQ.on rfl rfl rfl h5 ?_
      refine RunQ.val (lt rfl) (Y.move rfl) ?_
      refine RunQ.on rfl rfl rfl h5 ?_
      refine RunQ.val (lt rfl) (Y.nilCheck rfl) ?_
      refine RunQ.on rfl rfl rfl h5 ?_
      refine RunQ.val (lt rfl) (Y.fieldAddr rfl Cltake_fo67_1) ?_
      refine RunQ.on rfl rfl rfl h5 ?_
      refine RunQ.val (lt rfl) (Y.load rfl Cltake_ts22 (Kn.at 1 rfl) rfl) ?_
      refine RunQ.on rfl rfl rfl h5 ?_
      refine RunQ.call0 (l := [.tmp 32, .tmp 36]) rfl rfl rfl (lt rfl) (equal_h hp.hw hh) ?_
      refine RunQ.on rfl rfl rfl h5 ?_
      refine RunQ.val (lt rfl) (Y.not rfl) ?_
      refine RunQ.val (lt rfl) (Y.pick_f rfl h5 rfl) ?_
      refine RunQ.val (lt rfl) (Y.move rfl) ?_
      rcases Bool.eq_false_or_eq_true (p.hw == c.hw) with h6 | h6
      ·have g6 := h6
       try simp only [kb] at g6
       refine RunQ.on rfl rfl rfl (congrArg Bool.not h6) ?_
       refine RunQ.val (lt rfl) (Y.move rfl) ?_
       refine RunQ.on rfl rfl rfl (congrArg Bool.not h6) ?_
       refine RunQ.val (lt rfl) (Y.nilCheck rfl) ?_
       refine RunQ.on rfl rfl rfl (congrArg Bool.not h6) ?_
       refine RunQ.val (lt rfl) (Y.fieldAddr rfl Cltake_fo67_2) ?_
       refine RunQ.on rfl rfl rfl (congrArg Bool.not h6) ?_
       refine RunQ.val (lt rfl) (Y.load rfl Cltake_ts3 (Kn.at 1 rfl) rfl) ?_
       refine RunQ.on rfl rfl rfl (congrArg Bool.not h6) ?_
       refine RunQ.val (lt rfl) (Y.int rfl rfl rfl) ?_
       refine RunQ.val (lt rfl) (Y.pick_f rfl (congrArg Bool.not h6) rfl) ?_
       refine RunQ.val (lt rfl) (Y.move rfl) ?_
       rcases Bool.eq_false_or_eq_true (c.state == 0) with h7 | h7
       ·have g7 := h7
        try simp only [kb] at g7
        refine RunQ.off rfl rfl rfl h7 rfl (lt rfl) ?_
        refine RunQ.off rfl rfl rfl h7 rfl (lt rfl) ?_
        refine RunQ.off rfl rfl rfl h7 rfl (lt rfl) ?_
        refine RunQ.off rfl rfl rfl h7 rfl (lt rfl) ?_
        refine RunQ.off rfl rfl rfl h7 rfl (lt rfl) ?_
        refine RunQ.val (lt rfl) (Y.pick_t rfl h7 rfl) ?_
        refine RunQ.val (lt rfl) (Y.assign rfl) ?_
        refine RunQ.to_end ?_
        exact Ex.cut rfl (subB_cons (by first | rfl | exact congrArg (fun z => some (Value.int _ z)) (by omega) | exact congrArg (fun b => some (Value.bool b)) ((decide_eq_true (show Cli.old c p from .inr (.inr (.inl (by omega))))).symm)) (subB_cons (by first | rfl | exact congrArg (fun z => some (Value.int _ z)) (by omega) | exact congrArg (fun b => some (Value.bool b)) ((decide_eq_true (show Cli.old c p from .inr (.inr (.inl (by omega))))).symm)) (subB_cons (by first | rfl | exact congrArg (fun z => some (Value.int _ z)) (by omega) | exact congrArg (fun b => some (Value.bool b)) ((decide_eq_true (show Cli.old c p from .inr (.inr (.inl (by omega))))).symm)) (subB_cons (by first | rfl | exact congrArg (fun z => some (Value.int _ z)) (by omega) | exact congrArg (fun b => some (Value.bool b)) ((decide_eq_true (show Cli.old c p from .inr (.inr (.inl (by omega))))).symm)) (subB_nil _)))))
       ·have g7 := h7
        try simp only [kb] at g7
        refine RunQ.on rfl rfl rfl h7 ?_
        refine RunQ.val (lt rfl) (Y.move rfl) ?_
        refine RunQ.on rfl rfl rfl h7 ?_
        refine RunQ.val (lt rfl) (Y.nilCheck rfl) ?_
        refine RunQ.on rfl rfl rfl h7 ?_
        refine RunQ.val (lt rfl) (Y.fieldAddr rfl Cltake_fo67_2) ?_
        refine RunQ.on rfl rfl rfl h7 ?_
        refine RunQ.val (lt rfl) (Y.load rfl Cltake_ts3 (Kn.at 1 rfl) rfl) ?_
        refine RunQ.on rfl rfl rfl h7 ?_
        refine RunQ.val (lt rfl) (Y.int rfl rfl rfl) ?_
        refine RunQ.val (lt rfl) (Y.pick_f rfl h7 rfl) ?_
        refine RunQ.val (lt rfl) (Y.assign rfl) ?_
        refine RunQ.to_end ?_
        exact Ex.cut rfl (subB_cons (by first | rfl | exact congrArg (fun z => some (Value.int _ z)) (by omega) | exact congrArg (fun b => some (Value.bool b)) (by rw [Bool.eq_iff_iff, decide_eq_true_eq, beq_iff_eq]; exact ⟨fun h => .inr (.inr (.inr h)), (by rintro (h | h | h | h) <;> first | omega | exact absurd (by simpa using h6) h)⟩)) (subB_cons (by first | rfl | exact congrArg (fun z => some (Value.int _ z)) (by omega) | exact congrArg (fun b => some (Value.bool b)) (by rw [Bool.eq_iff_iff, decide_eq_true_eq, beq_iff_eq]; exact ⟨fun h => .inr (.inr (.inr h)), (by rintro (h | h | h | h) <;> first | omega | exact absurd (by simpa using h6) h)⟩)) (subB_cons (by first | rfl | exact congrArg (fun z => some (Value.int _ z)) (by omega) | exact congrArg (fun b => some (Value.bool b)) (by rw [Bool.eq_iff_iff, decide_eq_true_eq, beq_iff_eq]; exact ⟨fun h => .inr (.inr (.inr h)), (by rintro (h | h | h | h) <;> first | omega | exact absurd (by simpa using h6) h)⟩)) (subB_cons (by first | rfl | exact congrArg (fun z => some (Value.int _ z)) (by omega) | exact congrArg (fun b => some (Value.bool b)) (by rw [Bool.eq_iff_iff, decide_eq_true_eq, beq_iff_eq]; exact ⟨fun h => .inr (.inr (.inr h)), (by rintro (h | h | h | h) <;> first | omega | exact absurd (by simpa using h6) h)⟩)) (subB_nil _)))))
      ·have g6 := h6
       try simp only [kb] at g6
       refine RunQ.off rfl rfl rfl (congrArg Bool.not h6) rfl (lt rfl) ?_
       refine RunQ.off rfl rfl rfl (congrArg Bool.not h6) rfl (lt rfl) ?_
       refine RunQ.off rfl rfl rfl (congrArg Bool.not h6) rfl (lt rfl) ?_
       refine RunQ.off rfl rfl rfl (congrArg Bool.not h6) rfl (lt rfl) ?_
       refine RunQ.off rfl rfl rfl (congrArg Bool.not h6) rfl (lt rfl) ?_
       refine RunQ.val (lt rfl) (Y.pick_t rfl (congrArg Bool.not h6) rfl) ?_
       refine RunQ.val (lt rfl) (Y.move rfl) ?_
       refine RunQ.off rfl rfl rfl rfl rfl (lt rfl) ?_
       refine RunQ.off rfl rfl rfl rfl rfl (lt rfl) ?_
       refine RunQ.off rfl rfl rfl rfl rfl (lt rfl) ?_
       refine RunQ.off rfl rfl rfl rfl rfl (lt rfl) ?_
       refine RunQ.off rfl rfl rfl rfl rfl (lt rfl) ?_
       refine RunQ.val (lt rfl) (Y.pick_t rfl rfl rfl) ?_
       refine RunQ.val (lt rfl) (Y.assign rfl) ?_
       refine RunQ.to_end ?_
       exact Ex.cut rfl (subB_cons (by first | rfl | exact congrArg (fun z => some (Value.int _ z)) (by omega) | exact congrArg (fun b => some (Value.bool b)) ((decide_eq_true (show Cli.old c p from .inr (.inl (by simpa using h6)))).symm)) (subB_cons (by first | rfl | exact congrArg (fun z => some (Value.int _ z)) (by omega) | exact congrArg (fun b => some (Value.bool b)) ((decide_eq_true (show Cli.old c p from .inr (.inl (by simpa using h6)))).symm)) (subB_cons (by first | rfl | exact congrArg (fun z => some (Value.int _ z)) (by omega) | exact congrArg (fun b => some (Value.bool b)) ((decide_eq_true (show Cli.old c p from .inr (.inl (by simpa using h6)))).symm)) (subB_cons (by first | rfl | exact congrArg (fun z => some (Value.int _ z)) (by omega) | exact congrArg (fun b => some (Value.bool b)) ((decide_eq_true (show Cli.old c p from .inr (.inl (by simpa using h6)))).symm)) (subB_nil _)))))
    ·rcases Bool.eq_false_or_eq_true (decide (Cli.old c p)) with h8 | h8
     ·have g8 := h8
      try simp only [kb] at g8
      refine Tr.cond_t rfl h8 ?_
      refine Tr.seq ?_
      refine Tr.region ?_
      refine Run.val (lt rfl) (Y.assign rfl) ?_
      refine Run.to_end ?_
      refine Ex.go ?_
      refine Tr.to_ret ?_
      refine Ex.ret_block ?_
      refine Ex.ret_then ?_
      refine Ex.keep [1] ?_
      have e := Cli.take_8 h2 h3 (by omega) (of_decide_eq_true h8)
      exact Ex.ret1 rfl rfl  ⟨rfl, by rw [e.1], by rw [e.2]; try rfl⟩
     ·have g8 := h8
      try simp only [kb] at g8
      refine Tr.cond_f rfl h8 ?_
      refine Tr.to_end ?_
      refine Ex.end_block ?_
      refine Ex.go ?_
      refine Tr.seq ?_
      refine Tr.region ?_
      refine Run.val (lt rfl) (Y.loadAgg rfl Cltake_ag36 (Kn.at 0 rfl) rfl) ?_
      refine Run.call0 (l := [.tmp 54, .const (.int .i64 51), .const (.int .i64 0)]) rfl rfl rfl (lt rfl) (num_h hp hf) ?_
      refine Run.val (lt rfl) (Y.assign rfl) ?_
      refine Run.to_end ?_
      refine Ex.go ?_
      refine Tr.seq ?_
      refine Tr.seq ?_
      refine Tr.region ?_
      refine Run.val (lt rfl) (Y.loadAgg rfl Cltake_ag36 (Kn.at 0 rfl) rfl) ?_
      refine Run.call0 (l := [.tmp 56]) rfl rfl rfl (lt rfl) (kind_h hp hf) ?_
      refine Run.val (lt rfl) (Y.assign rfl) ?_
      refine Run.to_end ?_
      refine Ex.go ?_
      refine Tr.block ?_
      refine Tr.cut V [[(b1, .cells #[.int .i64 p.op, .int .u32 p.xid, .int .i64 p.secs, .int .i64 p.flags, .int .u32 p.ci, .int .u32 p.yi, .int .u32 p.si, .int .u32 p.gi, hv2, ov] 36 (0, 0))], [(bc, .cells #[.string c.name, hv, .int .i64 c.state, .int .u32 c.xid, .int .u32 c.addr, .int .u32 c.server, .int .i64 c.until_, .int .i64 c.one, .int .i64 c.two, .bool c.due, .int .i64 c.tries, .int .i64 c.said, .int .i64 c.asks] 67 (0, 0))]] [(0, .pointer (some ⟨bc, 0, none⟩)), (4, .pointer (some ⟨b1, 0, none⟩)), (7, .int .i64 (Pc.num p 51 0)), (8, .int .i64 (Pc.kind p)), (58, .bool (decide (Cli.offered c p)))] ?_ ?_
      ·refine Tr.region ?_
       refine Run.val (lt rfl) (Y.move rfl) ?_
       refine Run.val (lt rfl) (Y.int rfl rfl rfl) ?_
       refine Run.val (lt rfl) (Y.move rfl) ?_
       rcases Bool.eq_false_or_eq_true ((Pc.kind p) == 2) with h9 | h9
       ·have g9 := h9
        try simp only [kb] at g9
        refine Run.on rfl rfl rfl h9 ?_
        refine Run.val (lt rfl) (Y.move rfl) ?_
        refine Run.on rfl rfl rfl h9 ?_
        refine Run.val (lt rfl) (Y.nilCheck rfl) ?_
        refine Run.on rfl rfl rfl h9 ?_
        refine Run.val (lt rfl) (Y.fieldAddr rfl Cltake_fo67_2) ?_
        refine Run.on rfl rfl rfl h9 ?_
        refine Run.val (lt rfl) (Y.load rfl Cltake_ts3 (Kn.at 1 rfl) rfl) ?_
        refine Run.on rfl rfl rfl h9 ?_
        refine Run.val (lt rfl) (Y.int rfl rfl rfl) ?_
        refine Run.val (lt rfl) (Y.pick_t rfl h9 rfl) ?_
        refine Run.val (lt rfl) (Y.move rfl) ?_
        rcases Bool.eq_false_or_eq_true (c.state == 1) with h10 | h10
        ·have g10 := h10
         try simp only [kb] at g10
         refine Run.on rfl rfl rfl h10 ?_
         refine Run.val (lt rfl) (Y.fieldAddr rfl Cltake_fo36_5) ?_
         refine Run.on rfl rfl rfl h10 ?_
         refine Run.val (lt rfl) (Y.load rfl Cltake_ts33 (Kn.at 0 rfl) rfl) ?_
         refine Run.on rfl rfl rfl h10 ?_
         refine Run.val (lt rfl) (Y.int rfl rfl rfl) ?_
         refine Run.val (lt rfl) (Y.pick_t rfl h10 rfl) ?_
         refine Run.val (lt rfl) (Y.move rfl) ?_
         rcases Bool.eq_false_or_eq_true (p.yi != 0) with h11 | h11
         ·have g11 := h11
          try simp only [kb] at g11
          refine Run.on rfl rfl rfl h11 ?_
          refine Run.val (lt rfl) (Y.move rfl) ?_
          refine Run.on rfl rfl rfl h11 ?_
          refine Run.val (lt rfl) (Y.int rfl rfl rfl) ?_
          refine Run.val (lt rfl) (Y.pick_t rfl h11 rfl) ?_
          refine Run.val (lt rfl) (Y.assign rfl) ?_
          refine Run.to_end ?_
          exact Ex.cut rfl (subB_cons (by first | rfl | exact congrArg (fun z => some (Value.int _ z)) (by omega) | exact congrArg (fun b => some (Value.bool b)) (by rw [Bool.eq_iff_iff, decide_eq_true_eq, decide_eq_true_eq]; exact ⟨fun h => ⟨by omega, by omega, by omega, h⟩, fun h => h.2.2.2⟩)) (subB_cons (by first | rfl | exact congrArg (fun z => some (Value.int _ z)) (by omega) | exact congrArg (fun b => some (Value.bool b)) (by rw [Bool.eq_iff_iff, decide_eq_true_eq, decide_eq_true_eq]; exact ⟨fun h => ⟨by omega, by omega, by omega, h⟩, fun h => h.2.2.2⟩)) (subB_cons (by first | rfl | exact congrArg (fun z => some (Value.int _ z)) (by omega) | exact congrArg (fun b => some (Value.bool b)) (by rw [Bool.eq_iff_iff, decide_eq_true_eq, decide_eq_true_eq]; exact ⟨fun h => ⟨by omega, by omega, by omega, h⟩, fun h => h.2.2.2⟩)) (subB_cons (by first | rfl | exact congrArg (fun z => some (Value.int _ z)) (by omega) | exact congrArg (fun b => some (Value.bool b)) (by rw [Bool.eq_iff_iff, decide_eq_true_eq, decide_eq_true_eq]; exact ⟨fun h => ⟨by omega, by omega, by omega, h⟩, fun h => h.2.2.2⟩)) (subB_cons (by first | rfl | exact congrArg (fun z => some (Value.int _ z)) (by omega) | exact congrArg (fun b => some (Value.bool b)) (by rw [Bool.eq_iff_iff, decide_eq_true_eq, decide_eq_true_eq]; exact ⟨fun h => ⟨by omega, by omega, by omega, h⟩, fun h => h.2.2.2⟩)) (subB_nil _))))))
         ·have g11 := h11
          try simp only [kb] at g11
          refine Run.off rfl rfl rfl h11 rfl (lt rfl) ?_
          refine Run.off rfl rfl rfl h11 rfl (lt rfl) ?_
          refine Run.val (lt rfl) (Y.pick_f rfl h11 rfl) ?_
          refine Run.val (lt rfl) (Y.assign rfl) ?_
          refine Run.to_end ?_
          exact Ex.cut rfl (subB_cons (by first | rfl | exact congrArg (fun z => some (Value.int _ z)) (by omega) | exact congrArg (fun b => some (Value.bool b)) ((decide_eq_false (show ¬ Cli.offered c p from (by rintro ⟨h1, h2, h3, h4⟩; first | omega | (exfalso; simp_all; done) | (exfalso; simp_all; omega)))).symm)) (subB_cons (by first | rfl | exact congrArg (fun z => some (Value.int _ z)) (by omega) | exact congrArg (fun b => some (Value.bool b)) ((decide_eq_false (show ¬ Cli.offered c p from (by rintro ⟨h1, h2, h3, h4⟩; first | omega | (exfalso; simp_all; done) | (exfalso; simp_all; omega)))).symm)) (subB_cons (by first | rfl | exact congrArg (fun z => some (Value.int _ z)) (by omega) | exact congrArg (fun b => some (Value.bool b)) ((decide_eq_false (show ¬ Cli.offered c p from (by rintro ⟨h1, h2, h3, h4⟩; first | omega | (exfalso; simp_all; done) | (exfalso; simp_all; omega)))).symm)) (subB_cons (by first | rfl | exact congrArg (fun z => some (Value.int _ z)) (by omega) | exact congrArg (fun b => some (Value.bool b)) ((decide_eq_false (show ¬ Cli.offered c p from (by rintro ⟨h1, h2, h3, h4⟩; first | omega | (exfalso; simp_all; done) | (exfalso; simp_all; omega)))).symm)) (subB_cons (by first | rfl | exact congrArg (fun z => some (Value.int _ z)) (by omega) | exact congrArg (fun b => some (Value.bool b)) ((decide_eq_false (show ¬ Cli.offered c p from (by rintro ⟨h1, h2, h3, h4⟩; first | omega | (exfalso; simp_all; done) | (exfalso; simp_all; omega)))).symm)) (subB_nil _))))))
        ·have g10 := h10
         try simp only [kb] at g10
         refine Run.off rfl rfl rfl h10 rfl (lt rfl) ?_
         refine Run.off rfl rfl rfl h10 rfl (lt rfl) ?_
         refine Run.off rfl rfl rfl h10 rfl (lt rfl) ?_
         refine Run.val (lt rfl) (Y.pick_f rfl h10 rfl) ?_
         refine Run.val (lt rfl) (Y.move rfl) ?_
         refine Run.off rfl rfl rfl rfl rfl (lt rfl) ?_
         refine Run.off rfl rfl rfl rfl rfl (lt rfl) ?_
         refine Run.val (lt rfl) (Y.pick_f rfl rfl rfl) ?_
         refine Run.val (lt rfl) (Y.assign rfl) ?_
         refine Run.to_end ?_
         exact Ex.cut rfl (subB_cons (by first | rfl | exact congrArg (fun z => some (Value.int _ z)) (by omega) | exact congrArg (fun b => some (Value.bool b)) ((decide_eq_false (show ¬ Cli.offered c p from (by rintro ⟨h1, h2, h3, h4⟩; first | omega | (exfalso; simp_all; done) | (exfalso; simp_all; omega)))).symm)) (subB_cons (by first | rfl | exact congrArg (fun z => some (Value.int _ z)) (by omega) | exact congrArg (fun b => some (Value.bool b)) ((decide_eq_false (show ¬ Cli.offered c p from (by rintro ⟨h1, h2, h3, h4⟩; first | omega | (exfalso; simp_all; done) | (exfalso; simp_all; omega)))).symm)) (subB_cons (by first | rfl | exact congrArg (fun z => some (Value.int _ z)) (by omega) | exact congrArg (fun b => some (Value.bool b)) ((decide_eq_false (show ¬ Cli.offered c p from (by rintro ⟨h1, h2, h3, h4⟩; first | omega | (exfalso; simp_all; done) | (exfalso; simp_all; omega)))).symm)) (subB_cons (by first | rfl | exact congrArg (fun z => some (Value.int _ z)) (by omega) | exact congrArg (fun b => some (Value.bool b)) ((decide_eq_false (show ¬ Cli.offered c p from (by rintro ⟨h1, h2, h3, h4⟩; first | omega | (exfalso; simp_all; done) | (exfalso; simp_all; omega)))).symm)) (subB_cons (by first | rfl | exact congrArg (fun z => some (Value.int _ z)) (by omega) | exact congrArg (fun b => some (Value.bool b)) ((decide_eq_false (show ¬ Cli.offered c p from (by rintro ⟨h1, h2, h3, h4⟩; first | omega | (exfalso; simp_all; done) | (exfalso; simp_all; omega)))).symm)) (subB_nil _))))))
       ·have g9 := h9
        try simp only [kb] at g9
        refine Run.off rfl rfl rfl h9 rfl (lt rfl) ?_
        refine Run.off rfl rfl rfl h9 rfl (lt rfl) ?_
        refine Run.off rfl rfl rfl h9 rfl (lt rfl) ?_
        refine Run.off rfl rfl rfl h9 rfl (lt rfl) ?_
        refine Run.off rfl rfl rfl h9 rfl (lt rfl) ?_
        refine Run.val (lt rfl) (Y.pick_f rfl h9 rfl) ?_
        refine Run.val (lt rfl) (Y.move rfl) ?_
        refine Run.off rfl rfl rfl rfl rfl (lt rfl) ?_
        refine Run.off rfl rfl rfl rfl rfl (lt rfl) ?_
        refine Run.off rfl rfl rfl rfl rfl (lt rfl) ?_
        refine Run.val (lt rfl) (Y.pick_f rfl rfl rfl) ?_
        refine Run.val (lt rfl) (Y.move rfl) ?_
        refine Run.off rfl rfl rfl rfl rfl (lt rfl) ?_
        refine Run.off rfl rfl rfl rfl rfl (lt rfl) ?_
        refine Run.val (lt rfl) (Y.pick_f rfl rfl rfl) ?_
        refine Run.val (lt rfl) (Y.assign rfl) ?_
        refine Run.to_end ?_
        exact Ex.cut rfl (subB_cons (by first | rfl | exact congrArg (fun z => some (Value.int _ z)) (by omega) | exact congrArg (fun b => some (Value.bool b)) ((decide_eq_false (show ¬ Cli.offered c p from (by rintro ⟨h1, h2, h3, h4⟩; first | omega | (exfalso; simp_all; done) | (exfalso; simp_all; omega)))).symm)) (subB_cons (by first | rfl | exact congrArg (fun z => some (Value.int _ z)) (by omega) | exact congrArg (fun b => some (Value.bool b)) ((decide_eq_false (show ¬ Cli.offered c p from (by rintro ⟨h1, h2, h3, h4⟩; first | omega | (exfalso; simp_all; done) | (exfalso; simp_all; omega)))).symm)) (subB_cons (by first | rfl | exact congrArg (fun z => some (Value.int _ z)) (by omega) | exact congrArg (fun b => some (Value.bool b)) ((decide_eq_false (show ¬ Cli.offered c p from (by rintro ⟨h1, h2, h3, h4⟩; first | omega | (exfalso; simp_all; done) | (exfalso; simp_all; omega)))).symm)) (subB_cons (by first | rfl | exact congrArg (fun z => some (Value.int _ z)) (by omega) | exact congrArg (fun b => some (Value.bool b)) ((decide_eq_false (show ¬ Cli.offered c p from (by rintro ⟨h1, h2, h3, h4⟩; first | omega | (exfalso; simp_all; done) | (exfalso; simp_all; omega)))).symm)) (subB_cons (by first | rfl | exact congrArg (fun z => some (Value.int _ z)) (by omega) | exact congrArg (fun b => some (Value.bool b)) ((decide_eq_false (show ¬ Cli.offered c p from (by rintro ⟨h1, h2, h3, h4⟩; first | omega | (exfalso; simp_all; done) | (exfalso; simp_all; omega)))).symm)) (subB_nil _))))))
      ·rcases Bool.eq_false_or_eq_true (decide (Cli.offered c p)) with h12 | h12
       ·have g12 := h12
        try simp only [kb] at g12
        refine Tr.cond_t rfl h12 ?_
        refine Tr.seq ?_
        refine Tr.anyD [(b1, .cells #[.int .i64 p.op, .int .u32 p.xid, .int .i64 p.secs, .int .i64 p.flags, .int .u32 p.ci, .int .u32 p.yi, .int .u32 p.si, .int .u32 p.gi, hv2, ov] 36 (0, 0))] Cltake_mo ?_
        refine RunD.pure (i := 0) rfl (by kernel_rfl) (by kernel_rfl) (by kernel_rfl) (fun _ _ _ h => h) (lt rfl) (KnAll.cons (Kn.at 0 rfl) KnAll.nil) (fun _ => (Y.move rfl)) ?_
        refine RunD.pure (i := 1) rfl (by kernel_rfl) (by kernel_rfl) (by kernel_rfl) (fun _ _ _ h => h) (lt rfl) (KnAll.cons (Kn.at 0 rfl) KnAll.nil) (fun _ => (Y.move rfl)) ?_
        refine RunD.pure (i := 2) rfl (by kernel_rfl) (by kernel_rfl) (by kernel_rfl) (fun _ _ _ h => h) (lt rfl) (KnAll.cons (Kn.at 0 rfl) KnAll.nil) (fun _ => (Y.fieldAddr rfl Cltake_fo36_5)) ?_
        refine RunD.take (i := 3) 0 rfl rfl (by kernel_rfl) (by kernel_rfl) (by kernel_rfl) (fun _ _ _ h => h) (lt rfl) (KnAll.cons (Kn.at 0 rfl) KnAll.nil) (fun _ => (Y.load rfl Cltake_ts33 Kn.vk1 rfl)) ?_
        refine RunD.take (i := 4) 0 rfl rfl (by kernel_rfl) (by kernel_rfl) (by kernel_rfl) (fun _ _ _ h => h) (lt rfl) (KnAll.cons (Kn.at 0 rfl) KnAll.nil) (fun _ => (Y.loadAgg rfl Cltake_ag36 Kn.vk1 rfl)) ?_
        refine RunD.pure (i := 5) rfl (by kernel_rfl) (by kernel_rfl) (by kernel_rfl) (fun _ _ _ h => h) (lt rfl) (KnAll.cons (Kn.at 0 rfl) KnAll.nil) (fun _ => (Y.fieldAddr rfl Cltake_fo36_6)) ?_
        refine RunD.take (i := 6) 0 rfl rfl (by kernel_rfl) (by kernel_rfl) (by kernel_rfl) (fun _ _ _ h => h) (lt rfl) (KnAll.cons (Kn.at 0 rfl) KnAll.nil) (fun _ => (Y.load rfl Cltake_ts33 Kn.vk1 rfl)) ?_
        refine RunD.pure (i := 7) rfl (by kernel_rfl) (by kernel_rfl) (by kernel_rfl) (fun _ _ _ h => h) (lt rfl) (KnAll.cons (Kn.at 0 rfl) KnAll.nil) (fun _ => (Y.conv (p.si) rfl Cltake_it33_3 (wrap_i64 (by omega)))) ?_
        refine RunD.one (i := 8) (by kernel_rfl) rfl  ?_ 
        refine Run.call0 (l := [.tmp 81, .const (.int .i64 54), .tmp 84]) rfl rfl rfl (lt rfl) (num_h hp hf) ?_
        refine Run.to_end ?_
        refine Ex.anyD (KnAll.cons (Kn.at 0 rfl) KnAll.nil) ?_
        refine RunD.pure (i := 9) rfl (by kernel_rfl) (by kernel_rfl) (by kernel_rfl) (fun _ _ _ h => h) (lt rfl) (KnAll.cons (Kn.at 0 rfl) KnAll.nil) (fun _ => (Y.conv (Pc.num p 54 p.si) rfl Cltake_it3_33 (wrap_u32 (by omega)))) ?_
        refine RunD.pure (i := 10) rfl (by kernel_rfl) (by kernel_rfl) (by kernel_rfl) (fun _ _ _ h => h) (lt rfl) (KnAll.cons (Kn.at 0 rfl) KnAll.nil) (fun _ => (Y.nilCheck rfl)) ?_
        refine RunD.pure (i := 11) rfl (by kernel_rfl) (by kernel_rfl) (by kernel_rfl) (fun _ _ _ h => h) (lt rfl) (KnAll.cons (Kn.at 0 rfl) KnAll.nil) (fun _ => (Y.fieldAddr rfl Cltake_fo67_4)) ?_
        refine RunD.one (i := 12) (by kernel_rfl) rfl  ?_ 
        refine Run.store (s := [(bc, .cells #[.string c.name, hv, .int .i64 c.state, .int .u32 c.xid, .int .u32 p.yi, .int .u32 c.server, .int .i64 c.until_, .int .i64 c.one, .int .i64 c.two, .bool c.due, .int .i64 c.tries, .int .i64 c.said, .int .i64 c.asks] 67 (0, 0))]) rfl rfl Cltake_sz33 (i := 1) rfl rfl (le rfl) rfl rfl ?_
        refine Run.to_end ?_
        refine Ex.anyD (KnAll.cons (Kn.at 0 rfl) KnAll.nil) ?_
        refine RunD.pure (i := 13) rfl (by kernel_rfl) (by kernel_rfl) (by kernel_rfl) (fun _ _ _ h => h) (lt rfl) (KnAll.cons (Kn.at 0 rfl) KnAll.nil) (fun _ => (Y.nilCheck rfl)) ?_
        refine RunD.pure (i := 14) rfl (by kernel_rfl) (by kernel_rfl) (by kernel_rfl) (fun _ _ _ h => h) (lt rfl) (KnAll.cons (Kn.at 0 rfl) KnAll.nil) (fun _ => (Y.fieldAddr rfl Cltake_fo67_5)) ?_
        refine RunD.one (i := 15) (by kernel_rfl) rfl  ?_ 
        refine Run.store (s := [(bc, .cells #[.string c.name, hv, .int .i64 c.state, .int .u32 c.xid, .int .u32 p.yi, .int .u32 (Pc.num p 54 p.si), .int .i64 c.until_, .int .i64 c.one, .int .i64 c.two, .bool c.due, .int .i64 c.tries, .int .i64 c.said, .int .i64 c.asks] 67 (0, 0))]) rfl rfl Cltake_sz33 (i := 1) rfl rfl (le rfl) rfl rfl ?_
        refine Run.to_end ?_
        refine Ex.anyD (KnAll.cons (Kn.at 0 rfl) KnAll.nil) ?_
        refine RunD.done (by kernel_rfl) ?_
        refine Ex.go ?_
        refine Tr.region ?_
        refine Run.val (lt rfl) (Y.move rfl) ?_
        refine Run.call [1] (l := [.tmp 91, .const (.int .i64 2)]) rfl rfl rfl (lt rfl) (speak_c (c := (⟨c.name, c.hw, c.state, c.xid, p.yi, Pc.num p 54 p.si, c.until_, c.one, c.two, c.due, c.tries, c.said, c.asks⟩ : Cli))) (fun v13 V2 H2 _ hR => ?_)
        obtain ⟨hV, rfl, rfl⟩ := hR; replace hV := hV.symm; subst hV
        refine Run.to_end ?_
        refine Ex.end_block ?_
        refine Ex.go ?_
        refine Tr.seq ?_
        refine Tr.region ?_
        refine Run.val (lt rfl) (Y.assign rfl) ?_
        refine Run.to_end ?_
        refine Ex.go ?_
        refine Tr.to_ret ?_
        refine Ex.keep [1] ?_
        have e := Cli.take_o h2 h3 (by omega) (of_decide_eq_false h8) (of_decide_eq_true h12)
        exact Ex.ret1 rfl rfl  ⟨rfl, by rw [e.1], by rw [e.2]; try rfl⟩
       ·have g12 := h12
        try simp only [kb] at g12
        refine Tr.cond_f rfl h12 ?_
        refine Tr.cut V [[(b1, .cells #[.int .i64 p.op, .int .u32 p.xid, .int .i64 p.secs, .int .i64 p.flags, .int .u32 p.ci, .int .u32 p.yi, .int .u32 p.si, .int .u32 p.gi, hv2, ov] 36 (0, 0))], [(bc, .cells #[.string c.name, hv, .int .i64 c.state, .int .u32 c.xid, .int .u32 c.addr, .int .u32 c.server, .int .i64 c.until_, .int .i64 c.one, .int .i64 c.two, .bool c.due, .int .i64 c.tries, .int .i64 c.said, .int .i64 c.asks] 67 (0, 0))]] [(0, .pointer (some ⟨bc, 0, none⟩)), (4, .pointer (some ⟨b1, 0, none⟩)), (7, .int .i64 (Pc.num p 51 0)), (8, .int .i64 (Pc.kind p)), (93, .bool (decide (Cli.acked c p)))] ?_ ?_
        ·refine Tr.quiet Cltake_mo (by kernel_rfl) ?_
         refine RunQ.val (lt rfl) (Y.move rfl) ?_
         refine RunQ.val (lt rfl) (Y.int rfl rfl rfl) ?_
         refine RunQ.val (lt rfl) (Y.move rfl) ?_
         rcases Bool.eq_false_or_eq_true ((Pc.kind p) == 5) with h14 | h14
         ·have g14 := h14
          try simp only [kb] at g14
          refine RunQ.on rfl rfl rfl h14 ?_
          refine RunQ.val (lt rfl) (Y.move rfl) ?_
          refine RunQ.on rfl rfl rfl h14 ?_
          refine RunQ.call0 (l := [.tmp 97]) rfl rfl rfl (lt rfl) (ask_c (c := c) (Kn.at 1 rfl)) ?_
          refine RunQ.val (lt rfl) (Y.pick_t rfl h14 rfl) ?_
          refine RunQ.val (lt rfl) (Y.move rfl) ?_
          rcases Bool.eq_false_or_eq_true (Cli.asking c) with h15 | h15
          ·have g15 := h15
           try simp only [kb] at g15
           refine RunQ.on rfl rfl rfl h15 ?_
           refine RunQ.val (lt rfl) (Y.move rfl) ?_
           refine RunQ.on rfl rfl rfl h15 ?_
           refine RunQ.call0 (l := [.tmp 101]) rfl rfl rfl (lt rfl) (hold_c (c := c) (Kn.at 1 rfl)) ?_
           refine RunQ.on rfl rfl rfl h15 ?_
           refine RunQ.val (lt rfl) (Y.move rfl) ?_
           rcases Bool.eq_false_or_eq_true (Cli.holding c) with h16 | h16
           ·have g16 := h16
            try simp only [kb] at g16
            refine RunQ.off rfl rfl rfl h16 rfl (lt rfl) ?_
            refine RunQ.off rfl rfl rfl h16 rfl (lt rfl) ?_
            refine RunQ.off rfl rfl rfl h16 rfl (lt rfl) ?_
            refine RunQ.off rfl rfl rfl h16 rfl (lt rfl) ?_
            refine RunQ.off rfl rfl rfl h16 rfl (lt rfl) ?_
            refine RunQ.on rfl rfl rfl h15 ?_
            refine RunQ.val (lt rfl) (Y.pick_t rfl h16 rfl) ?_
            refine RunQ.val (lt rfl) (Y.pick_t rfl h15 rfl) ?_
            refine RunQ.val (lt rfl) (Y.move rfl) ?_
            refine RunQ.on rfl rfl rfl rfl ?_
            refine RunQ.val (lt rfl) (Y.fieldAddr rfl Cltake_fo36_5) ?_
            refine RunQ.on rfl rfl rfl rfl ?_
            refine RunQ.val (lt rfl) (Y.load rfl Cltake_ts33 (Kn.at 0 rfl) rfl) ?_
            refine RunQ.on rfl rfl rfl rfl ?_
            refine RunQ.val (lt rfl) (Y.move rfl) ?_
            refine RunQ.on rfl rfl rfl rfl ?_
            refine RunQ.val (lt rfl) (Y.nilCheck rfl) ?_
            refine RunQ.on rfl rfl rfl rfl ?_
            refine RunQ.val (lt rfl) (Y.fieldAddr rfl Cltake_fo67_4) ?_
            refine RunQ.on rfl rfl rfl rfl ?_
            refine RunQ.val (lt rfl) (Y.load rfl Cltake_ts33 (Kn.at 1 rfl) rfl) ?_
            refine RunQ.on rfl rfl rfl rfl ?_
            refine RunQ.val (lt rfl) (Y.int rfl rfl rfl) ?_
            refine RunQ.val (lt rfl) (Y.pick_t rfl rfl rfl) ?_
            refine RunQ.val (lt rfl) (Y.move rfl) ?_
            rcases Bool.eq_false_or_eq_true (p.yi == c.addr) with h17 | h17
            ·have g17 := h17
             try simp only [kb] at g17
             refine RunQ.on rfl rfl rfl h17 ?_
             refine RunQ.val (lt rfl) (Y.move rfl) ?_
             refine RunQ.on rfl rfl rfl h17 ?_
             refine RunQ.val (lt rfl) (Y.int rfl rfl rfl) ?_
             refine RunQ.val (lt rfl) (Y.pick_t rfl h17 rfl) ?_
             refine RunQ.val (lt rfl) (Y.assign rfl) ?_
             refine RunQ.to_end ?_
             exact Ex.cut rfl (subB_cons (by first | rfl | exact congrArg (fun z => some (Value.int _ z)) (by omega) | exact congrArg (fun b => some (Value.bool b)) (by rw [Bool.eq_iff_iff, decide_eq_true_eq, decide_eq_true_eq]; exact ⟨fun h => ⟨by omega, h15, (.inl h16), by omega, h⟩, fun h => h.2.2.2.2⟩)) (subB_cons (by first | rfl | exact congrArg (fun z => some (Value.int _ z)) (by omega) | exact congrArg (fun b => some (Value.bool b)) (by rw [Bool.eq_iff_iff, decide_eq_true_eq, decide_eq_true_eq]; exact ⟨fun h => ⟨by omega, h15, (.inl h16), by omega, h⟩, fun h => h.2.2.2.2⟩)) (subB_cons (by first | rfl | exact congrArg (fun z => some (Value.int _ z)) (by omega) | exact congrArg (fun b => some (Value.bool b)) (by rw [Bool.eq_iff_iff, decide_eq_true_eq, decide_eq_true_eq]; exact ⟨fun h => ⟨by omega, h15, (.inl h16), by omega, h⟩, fun h => h.2.2.2.2⟩)) (subB_cons (by first | rfl | exact congrArg (fun z => some (Value.int _ z)) (by omega) | exact congrArg (fun b => some (Value.bool b)) (by rw [Bool.eq_iff_iff, decide_eq_true_eq, decide_eq_true_eq]; exact ⟨fun h => ⟨by omega, h15, (.inl h16), by omega, h⟩, fun h => h.2.2.2.2⟩)) (subB_cons (by first | rfl | exact congrArg (fun z => some (Value.int _ z)) (by omega) | exact congrArg (fun b => some (Value.bool b)) (by rw [Bool.eq_iff_iff, decide_eq_true_eq, decide_eq_true_eq]; exact ⟨fun h => ⟨by omega, h15, (.inl h16), by omega, h⟩, fun h => h.2.2.2.2⟩)) (subB_nil _))))))
            ·have g17 := h17
             try simp only [kb] at g17
             refine RunQ.off rfl rfl rfl h17 rfl (lt rfl) ?_
             refine RunQ.off rfl rfl rfl h17 rfl (lt rfl) ?_
             refine RunQ.val (lt rfl) (Y.pick_f rfl h17 rfl) ?_
             refine RunQ.val (lt rfl) (Y.assign rfl) ?_
             refine RunQ.to_end ?_
             exact Ex.cut rfl (subB_cons (by first | rfl | exact congrArg (fun z => some (Value.int _ z)) (by omega) | exact congrArg (fun b => some (Value.bool b)) ((decide_eq_false (show ¬ Cli.acked c p from (by rintro ⟨h1, h2, h3, h4, h5⟩; have e1 := Cli.ask_iff.1 h2; rcases h3 with h3 | h3 <;> (try have e2 := Cli.hold_iff.1 h3) <;> (first | omega | (exfalso; simp_all; done) | (exfalso; simp_all; omega))))).symm)) (subB_cons (by first | rfl | exact congrArg (fun z => some (Value.int _ z)) (by omega) | exact congrArg (fun b => some (Value.bool b)) ((decide_eq_false (show ¬ Cli.acked c p from (by rintro ⟨h1, h2, h3, h4, h5⟩; have e1 := Cli.ask_iff.1 h2; rcases h3 with h3 | h3 <;> (try have e2 := Cli.hold_iff.1 h3) <;> (first | omega | (exfalso; simp_all; done) | (exfalso; simp_all; omega))))).symm)) (subB_cons (by first | rfl | exact congrArg (fun z => some (Value.int _ z)) (by omega) | exact congrArg (fun b => some (Value.bool b)) ((decide_eq_false (show ¬ Cli.acked c p from (by rintro ⟨h1, h2, h3, h4, h5⟩; have e1 := Cli.ask_iff.1 h2; rcases h3 with h3 | h3 <;> (try have e2 := Cli.hold_iff.1 h3) <;> (first | omega | (exfalso; simp_all; done) | (exfalso; simp_all; omega))))).symm)) (subB_cons (by first | rfl | exact congrArg (fun z => some (Value.int _ z)) (by omega) | exact congrArg (fun b => some (Value.bool b)) ((decide_eq_false (show ¬ Cli.acked c p from (by rintro ⟨h1, h2, h3, h4, h5⟩; have e1 := Cli.ask_iff.1 h2; rcases h3 with h3 | h3 <;> (try have e2 := Cli.hold_iff.1 h3) <;> (first | omega | (exfalso; simp_all; done) | (exfalso; simp_all; omega))))).symm)) (subB_cons (by first | rfl | exact congrArg (fun z => some (Value.int _ z)) (by omega) | exact congrArg (fun b => some (Value.bool b)) ((decide_eq_false (show ¬ Cli.acked c p from (by rintro ⟨h1, h2, h3, h4, h5⟩; have e1 := Cli.ask_iff.1 h2; rcases h3 with h3 | h3 <;> (try have e2 := Cli.hold_iff.1 h3) <;> (first | omega | (exfalso; simp_all; done) | (exfalso; simp_all; omega))))).symm)) (subB_nil _))))))
           ·have g16 := h16
            try simp only [kb] at g16
            refine RunQ.on rfl rfl rfl h16 ?_
            refine RunQ.val (lt rfl) (Y.move rfl) ?_
            refine RunQ.on rfl rfl rfl h16 ?_
            refine RunQ.val (lt rfl) (Y.nilCheck rfl) ?_
            refine RunQ.on rfl rfl rfl h16 ?_
            refine RunQ.val (lt rfl) (Y.fieldAddr rfl Cltake_fo67_10) ?_
            refine RunQ.on rfl rfl rfl h16 ?_
            refine RunQ.val (lt rfl) (Y.load rfl Cltake_ts3 (Kn.at 1 rfl) rfl) ?_
            refine RunQ.on rfl rfl rfl h16 ?_
            refine RunQ.val (lt rfl) (Y.int rfl rfl rfl) ?_
            refine RunQ.on rfl rfl rfl h15 ?_
            refine RunQ.val (lt rfl) (Y.pick_f rfl h16 rfl) ?_
            refine RunQ.val (lt rfl) (Y.pick_t rfl h15 rfl) ?_
            refine RunQ.val (lt rfl) (Y.move rfl) ?_
            rcases Bool.eq_false_or_eq_true (decide (c.tries > 0)) with h18 | h18
            ·have g18 := h18
             try simp only [kb] at g18
             refine RunQ.on rfl rfl rfl h18 ?_
             refine RunQ.val (lt rfl) (Y.fieldAddr rfl Cltake_fo36_5) ?_
             refine RunQ.on rfl rfl rfl h18 ?_
             refine RunQ.val (lt rfl) (Y.load rfl Cltake_ts33 (Kn.at 0 rfl) rfl) ?_
             refine RunQ.on rfl rfl rfl h18 ?_
             refine RunQ.val (lt rfl) (Y.move rfl) ?_
             refine RunQ.on rfl rfl rfl h18 ?_
             refine RunQ.val (lt rfl) (Y.nilCheck rfl) ?_
             refine RunQ.on rfl rfl rfl h18 ?_
             refine RunQ.val (lt rfl) (Y.fieldAddr rfl Cltake_fo67_4) ?_
             refine RunQ.on rfl rfl rfl h18 ?_
             refine RunQ.val (lt rfl) (Y.load rfl Cltake_ts33 (Kn.at 1 rfl) rfl) ?_
             refine RunQ.on rfl rfl rfl h18 ?_
             refine RunQ.val (lt rfl) (Y.int rfl rfl rfl) ?_
             refine RunQ.val (lt rfl) (Y.pick_t rfl h18 rfl) ?_
             refine RunQ.val (lt rfl) (Y.move rfl) ?_
             rcases Bool.eq_false_or_eq_true (p.yi == c.addr) with h19 | h19
             ·have g19 := h19
              try simp only [kb] at g19
              refine RunQ.on rfl rfl rfl h19 ?_
              refine RunQ.val (lt rfl) (Y.move rfl) ?_
              refine RunQ.on rfl rfl rfl h19 ?_
              refine RunQ.val (lt rfl) (Y.int rfl rfl rfl) ?_
              refine RunQ.val (lt rfl) (Y.pick_t rfl h19 rfl) ?_
              refine RunQ.val (lt rfl) (Y.assign rfl) ?_
              refine RunQ.to_end ?_
              exact Ex.cut rfl (subB_cons (by first | rfl | exact congrArg (fun z => some (Value.int _ z)) (by omega) | exact congrArg (fun b => some (Value.bool b)) (by rw [Bool.eq_iff_iff, decide_eq_true_eq, decide_eq_true_eq]; exact ⟨fun h => ⟨by omega, h15, (.inr (by omega)), by omega, h⟩, fun h => h.2.2.2.2⟩)) (subB_cons (by first | rfl | exact congrArg (fun z => some (Value.int _ z)) (by omega) | exact congrArg (fun b => some (Value.bool b)) (by rw [Bool.eq_iff_iff, decide_eq_true_eq, decide_eq_true_eq]; exact ⟨fun h => ⟨by omega, h15, (.inr (by omega)), by omega, h⟩, fun h => h.2.2.2.2⟩)) (subB_cons (by first | rfl | exact congrArg (fun z => some (Value.int _ z)) (by omega) | exact congrArg (fun b => some (Value.bool b)) (by rw [Bool.eq_iff_iff, decide_eq_true_eq, decide_eq_true_eq]; exact ⟨fun h => ⟨by omega, h15, (.inr (by omega)), by omega, h⟩, fun h => h.2.2.2.2⟩)) (subB_cons (by first | rfl | exact congrArg (fun z => some (Value.int _ z)) (by omega) | exact congrArg (fun b => some (Value.bool b)) (by rw [Bool.eq_iff_iff, decide_eq_true_eq, decide_eq_true_eq]; exact ⟨fun h => ⟨by omega, h15, (.inr (by omega)), by omega, h⟩, fun h => h.2.2.2.2⟩)) (subB_cons (by first | rfl | exact congrArg (fun z => some (Value.int _ z)) (by omega) | exact congrArg (fun b => some (Value.bool b)) (by rw [Bool.eq_iff_iff, decide_eq_true_eq, decide_eq_true_eq]; exact ⟨fun h => ⟨by omega, h15, (.inr (by omega)), by omega, h⟩, fun h => h.2.2.2.2⟩)) (subB_nil _))))))
             ·have g19 := h19
              try simp only [kb] at g19
              refine RunQ.off rfl rfl rfl h19 rfl (lt rfl) ?_
              refine RunQ.off rfl rfl rfl h19 rfl (lt rfl) ?_
              refine RunQ.val (lt rfl) (Y.pick_f rfl h19 rfl) ?_
              refine RunQ.val (lt rfl) (Y.assign rfl) ?_
              refine RunQ.to_end ?_
              exact Ex.cut rfl (subB_cons (by first | rfl | exact congrArg (fun z => some (Value.int _ z)) (by omega) | exact congrArg (fun b => some (Value.bool b)) ((decide_eq_false (show ¬ Cli.acked c p from (by rintro ⟨h1, h2, h3, h4, h5⟩; have e1 := Cli.ask_iff.1 h2; rcases h3 with h3 | h3 <;> (try have e2 := Cli.hold_iff.1 h3) <;> (first | omega | (exfalso; simp_all; done) | (exfalso; simp_all; omega))))).symm)) (subB_cons (by first | rfl | exact congrArg (fun z => some (Value.int _ z)) (by omega) | exact congrArg (fun b => some (Value.bool b)) ((decide_eq_false (show ¬ Cli.acked c p from (by rintro ⟨h1, h2, h3, h4, h5⟩; have e1 := Cli.ask_iff.1 h2; rcases h3 with h3 | h3 <;> (try have e2 := Cli.hold_iff.1 h3) <;> (first | omega | (exfalso; simp_all; done) | (exfalso; simp_all; omega))))).symm)) (subB_cons (by first | rfl | exact congrArg (fun z => some (Value.int _ z)) (by omega) | exact congrArg (fun b => some (Value.bool b)) ((decide_eq_false (show ¬ Cli.acked c p from (by rintro ⟨h1, h2, h3, h4, h5⟩; have e1 := Cli.ask_iff.1 h2; rcases h3 with h3 | h3 <;> (try have e2 := Cli.hold_iff.1 h3) <;> (first | omega | (exfalso; simp_all; done) | (exfalso; simp_all; omega))))).symm)) (subB_cons (by first | rfl | exact congrArg (fun z => some (Value.int _ z)) (by omega) | exact congrArg (fun b => some (Value.bool b)) ((decide_eq_false (show ¬ Cli.acked c p from (by rintro ⟨h1, h2, h3, h4, h5⟩; have e1 := Cli.ask_iff.1 h2; rcases h3 with h3 | h3 <;> (try have e2 := Cli.hold_iff.1 h3) <;> (first | omega | (exfalso; simp_all; done) | (exfalso; simp_all; omega))))).symm)) (subB_cons (by first | rfl | exact congrArg (fun z => some (Value.int _ z)) (by omega) | exact congrArg (fun b => some (Value.bool b)) ((decide_eq_false (show ¬ Cli.acked c p from (by rintro ⟨h1, h2, h3, h4, h5⟩; have e1 := Cli.ask_iff.1 h2; rcases h3 with h3 | h3 <;> (try have e2 := Cli.hold_iff.1 h3) <;> (first | omega | (exfalso; simp_all; done) | (exfalso; simp_all; omega))))).symm)) (subB_nil _))))))
            ·have g18 := h18
             try simp only [kb] at g18
             refine RunQ.off rfl rfl rfl h18 rfl (lt rfl) ?_
             refine RunQ.off rfl rfl rfl h18 rfl (lt rfl) ?_
             refine RunQ.off rfl rfl rfl h18 rfl (lt rfl) ?_
             refine RunQ.off rfl rfl rfl h18 rfl (lt rfl) ?_
             refine RunQ.off rfl rfl rfl h18 rfl (lt rfl) ?_
             refine RunQ.off rfl rfl rfl h18 rfl (lt rfl) ?_
             refine RunQ.off rfl rfl rfl h18 rfl (lt rfl) ?_
             refine RunQ.val (lt rfl) (Y.pick_f rfl h18 rfl) ?_
             refine RunQ.val (lt rfl) (Y.move rfl) ?_
             refine RunQ.off rfl rfl rfl rfl rfl (lt rfl) ?_
             refine RunQ.off rfl rfl rfl rfl rfl (lt rfl) ?_
             refine RunQ.val (lt rfl) (Y.pick_f rfl rfl rfl) ?_
             refine RunQ.val (lt rfl) (Y.assign rfl) ?_
             refine RunQ.to_end ?_
             exact Ex.cut rfl (subB_cons (by first | rfl | exact congrArg (fun z => some (Value.int _ z)) (by omega) | exact congrArg (fun b => some (Value.bool b)) ((decide_eq_false (show ¬ Cli.acked c p from (by rintro ⟨h1, h2, h3, h4, h5⟩; have e1 := Cli.ask_iff.1 h2; rcases h3 with h3 | h3 <;> (try have e2 := Cli.hold_iff.1 h3) <;> (first | omega | (exfalso; simp_all; done) | (exfalso; simp_all; omega))))).symm)) (subB_cons (by first | rfl | exact congrArg (fun z => some (Value.int _ z)) (by omega) | exact congrArg (fun b => some (Value.bool b)) ((decide_eq_false (show ¬ Cli.acked c p from (by rintro ⟨h1, h2, h3, h4, h5⟩; have e1 := Cli.ask_iff.1 h2; rcases h3 with h3 | h3 <;> (try have e2 := Cli.hold_iff.1 h3) <;> (first | omega | (exfalso; simp_all; done) | (exfalso; simp_all; omega))))).symm)) (subB_cons (by first | rfl | exact congrArg (fun z => some (Value.int _ z)) (by omega) | exact congrArg (fun b => some (Value.bool b)) ((decide_eq_false (show ¬ Cli.acked c p from (by rintro ⟨h1, h2, h3, h4, h5⟩; have e1 := Cli.ask_iff.1 h2; rcases h3 with h3 | h3 <;> (try have e2 := Cli.hold_iff.1 h3) <;> (first | omega | (exfalso; simp_all; done) | (exfalso; simp_all; omega))))).symm)) (subB_cons (by first | rfl | exact congrArg (fun z => some (Value.int _ z)) (by omega) | exact congrArg (fun b => some (Value.bool b)) ((decide_eq_false (show ¬ Cli.acked c p from (by rintro ⟨h1, h2, h3, h4, h5⟩; have e1 := Cli.ask_iff.1 h2; rcases h3 with h3 | h3 <;> (try have e2 := Cli.hold_iff.1 h3) <;> (first | omega | (exfalso; simp_all; done) | (exfalso; simp_all; omega))))).symm)) (subB_cons (by first | rfl | exact congrArg (fun z => some (Value.int _ z)) (by omega) | exact congrArg (fun b => some (Value.bool b)) ((decide_eq_false (show ¬ Cli.acked c p from (by rintro ⟨h1, h2, h3, h4, h5⟩; have e1 := Cli.ask_iff.1 h2; rcases h3 with h3 | h3 <;> (try have e2 := Cli.hold_iff.1 h3) <;> (first | omega | (exfalso; simp_all; done) | (exfalso; simp_all; omega))))).symm)) (subB_nil _))))))
          ·have g15 := h15
           try simp only [kb] at g15
           refine RunQ.off rfl rfl rfl h15 rfl (lt rfl) ?_
           refine RunQ.off rfl rfl rfl h15 rfl (lt rfl) ?_
           refine RunQ.off rfl rfl rfl h15 rfl (lt rfl) ?_
           refine RunQ.off_u rfl rfl rfl rfl (lt rfl) ?_
           refine RunQ.off_u rfl rfl rfl rfl (lt rfl) ?_
           refine RunQ.off_u rfl rfl rfl rfl (lt rfl) ?_
           refine RunQ.off_u rfl rfl rfl rfl (lt rfl) ?_
           refine RunQ.off_u rfl rfl rfl rfl (lt rfl) ?_
           refine RunQ.off rfl rfl rfl h15 rfl (lt rfl) ?_
           refine RunQ.val (lt rfl) (Y.pick_f rfl h15 rfl) ?_
           refine RunQ.val (lt rfl) (Y.move rfl) ?_
           refine RunQ.off rfl rfl rfl rfl rfl (lt rfl) ?_
           refine RunQ.off rfl rfl rfl rfl rfl (lt rfl) ?_
           refine RunQ.off rfl rfl rfl rfl rfl (lt rfl) ?_
           refine RunQ.off rfl rfl rfl rfl rfl (lt rfl) ?_
           refine RunQ.off rfl rfl rfl rfl rfl (lt rfl) ?_
           refine RunQ.off rfl rfl rfl rfl rfl (lt rfl) ?_
           refine RunQ.off rfl rfl rfl rfl rfl (lt rfl) ?_
           refine RunQ.val (lt rfl) (Y.pick_f rfl rfl rfl) ?_
           refine RunQ.val (lt rfl) (Y.move rfl) ?_
           refine RunQ.off rfl rfl rfl rfl rfl (lt rfl) ?_
           refine RunQ.off rfl rfl rfl rfl rfl (lt rfl) ?_
           refine RunQ.val (lt rfl) (Y.pick_f rfl rfl rfl) ?_
           refine RunQ.val (lt rfl) (Y.assign rfl) ?_
           refine RunQ.to_end ?_
           exact Ex.cut rfl (subB_cons (by first | rfl | exact congrArg (fun z => some (Value.int _ z)) (by omega) | exact congrArg (fun b => some (Value.bool b)) ((decide_eq_false (show ¬ Cli.acked c p from (by rintro ⟨h1, h2, h3, h4, h5⟩; have e1 := Cli.ask_iff.1 h2; rcases h3 with h3 | h3 <;> (try have e2 := Cli.hold_iff.1 h3) <;> (first | omega | (exfalso; simp_all; done) | (exfalso; simp_all; omega))))).symm)) (subB_cons (by first | rfl | exact congrArg (fun z => some (Value.int _ z)) (by omega) | exact congrArg (fun b => some (Value.bool b)) ((decide_eq_false (show ¬ Cli.acked c p from (by rintro ⟨h1, h2, h3, h4, h5⟩; have e1 := Cli.ask_iff.1 h2; rcases h3 with h3 | h3 <;> (try have e2 := Cli.hold_iff.1 h3) <;> (first | omega | (exfalso; simp_all; done) | (exfalso; simp_all; omega))))).symm)) (subB_cons (by first | rfl | exact congrArg (fun z => some (Value.int _ z)) (by omega) | exact congrArg (fun b => some (Value.bool b)) ((decide_eq_false (show ¬ Cli.acked c p from (by rintro ⟨h1, h2, h3, h4, h5⟩; have e1 := Cli.ask_iff.1 h2; rcases h3 with h3 | h3 <;> (try have e2 := Cli.hold_iff.1 h3) <;> (first | omega | (exfalso; simp_all; done) | (exfalso; simp_all; omega))))).symm)) (subB_cons (by first | rfl | exact congrArg (fun z => some (Value.int _ z)) (by omega) | exact congrArg (fun b => some (Value.bool b)) ((decide_eq_false (show ¬ Cli.acked c p from (by rintro ⟨h1, h2, h3, h4, h5⟩; have e1 := Cli.ask_iff.1 h2; rcases h3 with h3 | h3 <;> (try have e2 := Cli.hold_iff.1 h3) <;> (first | omega | (exfalso; simp_all; done) | (exfalso; simp_all; omega))))).symm)) (subB_cons (by first | rfl | exact congrArg (fun z => some (Value.int _ z)) (by omega) | exact congrArg (fun b => some (Value.bool b)) ((decide_eq_false (show ¬ Cli.acked c p from (by rintro ⟨h1, h2, h3, h4, h5⟩; have e1 := Cli.ask_iff.1 h2; rcases h3 with h3 | h3 <;> (try have e2 := Cli.hold_iff.1 h3) <;> (first | omega | (exfalso; simp_all; done) | (exfalso; simp_all; omega))))).symm)) (subB_nil _))))))
         ·have g14 := h14
          try simp only [kb] at g14
          refine RunQ.off rfl rfl rfl h14 rfl (lt rfl) ?_
          refine RunQ.off rfl rfl rfl h14 rfl (lt rfl) ?_
          refine RunQ.val (lt rfl) (Y.pick_f rfl h14 rfl) ?_
          refine RunQ.val (lt rfl) (Y.move rfl) ?_
          refine RunQ.off rfl rfl rfl rfl rfl (lt rfl) ?_
          refine RunQ.off rfl rfl rfl rfl rfl (lt rfl) ?_
          refine RunQ.off rfl rfl rfl rfl rfl (lt rfl) ?_
          refine RunQ.off_u rfl rfl rfl rfl (lt rfl) ?_
          refine RunQ.off_u rfl rfl rfl rfl (lt rfl) ?_
          refine RunQ.off_u rfl rfl rfl rfl (lt rfl) ?_
          refine RunQ.off_u rfl rfl rfl rfl (lt rfl) ?_
          refine RunQ.off_u rfl rfl rfl rfl (lt rfl) ?_
          refine RunQ.off rfl rfl rfl rfl rfl (lt rfl) ?_
          refine RunQ.val (lt rfl) (Y.pick_f rfl rfl rfl) ?_
          refine RunQ.val (lt rfl) (Y.move rfl) ?_
          refine RunQ.off rfl rfl rfl rfl rfl (lt rfl) ?_
          refine RunQ.off rfl rfl rfl rfl rfl (lt rfl) ?_
          refine RunQ.off rfl rfl rfl rfl rfl (lt rfl) ?_
          refine RunQ.off rfl rfl rfl rfl rfl (lt rfl) ?_
          refine RunQ.off rfl rfl rfl rfl rfl (lt rfl) ?_
          refine RunQ.off rfl rfl rfl rfl rfl (lt rfl) ?_
          refine RunQ.off rfl rfl rfl rfl rfl (lt rfl) ?_
          refine RunQ.val (lt rfl) (Y.pick_f rfl rfl rfl) ?_
          refine RunQ.val (lt rfl) (Y.move rfl) ?_
          refine RunQ.off rfl rfl rfl rfl rfl (lt rfl) ?_
          refine RunQ.off rfl rfl rfl rfl rfl (lt rfl) ?_
          refine RunQ.val (lt rfl) (Y.pick_f rfl rfl rfl) ?_
          refine RunQ.val (lt rfl) (Y.assign rfl) ?_
          refine RunQ.to_end ?_
          exact Ex.cut rfl (subB_cons (by first | rfl | exact congrArg (fun z => some (Value.int _ z)) (by omega) | exact congrArg (fun b => some (Value.bool b)) ((decide_eq_false (show ¬ Cli.acked c p from (by rintro ⟨h1, h2, h3, h4, h5⟩; have e1 := Cli.ask_iff.1 h2; rcases h3 with h3 | h3 <;> (try have e2 := Cli.hold_iff.1 h3) <;> (first | omega | (exfalso; simp_all; done) | (exfalso; simp_all; omega))))).symm)) (subB_cons (by first | rfl | exact congrArg (fun z => some (Value.int _ z)) (by omega) | exact congrArg (fun b => some (Value.bool b)) ((decide_eq_false (show ¬ Cli.acked c p from (by rintro ⟨h1, h2, h3, h4, h5⟩; have e1 := Cli.ask_iff.1 h2; rcases h3 with h3 | h3 <;> (try have e2 := Cli.hold_iff.1 h3) <;> (first | omega | (exfalso; simp_all; done) | (exfalso; simp_all; omega))))).symm)) (subB_cons (by first | rfl | exact congrArg (fun z => some (Value.int _ z)) (by omega) | exact congrArg (fun b => some (Value.bool b)) ((decide_eq_false (show ¬ Cli.acked c p from (by rintro ⟨h1, h2, h3, h4, h5⟩; have e1 := Cli.ask_iff.1 h2; rcases h3 with h3 | h3 <;> (try have e2 := Cli.hold_iff.1 h3) <;> (first | omega | (exfalso; simp_all; done) | (exfalso; simp_all; omega))))).symm)) (subB_cons (by first | rfl | exact congrArg (fun z => some (Value.int _ z)) (by omega) | exact congrArg (fun b => some (Value.bool b)) ((decide_eq_false (show ¬ Cli.acked c p from (by rintro ⟨h1, h2, h3, h4, h5⟩; have e1 := Cli.ask_iff.1 h2; rcases h3 with h3 | h3 <;> (try have e2 := Cli.hold_iff.1 h3) <;> (first | omega | (exfalso; simp_all; done) | (exfalso; simp_all; omega))))).symm)) (subB_cons (by first | rfl | exact congrArg (fun z => some (Value.int _ z)) (by omega) | exact congrArg (fun b => some (Value.bool b)) ((decide_eq_false (show ¬ Cli.acked c p from (by rintro ⟨h1, h2, h3, h4, h5⟩; have e1 := Cli.ask_iff.1 h2; rcases h3 with h3 | h3 <;> (try have e2 := Cli.hold_iff.1 h3) <;> (first | omega | (exfalso; simp_all; done) | (exfalso; simp_all; omega))))).symm)) (subB_nil _))))))
        ·rcases Bool.eq_false_or_eq_true (decide (Cli.acked c p)) with h20 | h20
         ·have g20 := h20
          try simp only [kb] at g20
          refine Tr.cond_t rfl h20 ?_
          refine Tr.seq ?_
          refine Tr.region ?_
          refine Run.val (lt rfl) (Y.move rfl) ?_
          refine Run.val (lt rfl) (Y.move rfl) ?_
          refine Run.val (lt rfl) (Y.nilCheck rfl) ?_
          refine Run.val (lt rfl) (Y.fieldAddr rfl Cltake_fo67_2) ?_
          refine Run.store (s := [(bc, .cells #[.string c.name, hv, .int .i64 3, .int .u32 c.xid, .int .u32 c.addr, .int .u32 c.server, .int .i64 c.until_, .int .i64 c.one, .int .i64 c.two, .bool c.due, .int .i64 c.tries, .int .i64 c.said, .int .i64 c.asks] 67 (0, 0))]) rfl rfl Cltake_sz3 (i := 1) rfl rfl (le rfl) rfl rfl ?_
          refine Run.val (lt rfl) (Y.nilCheck rfl) ?_
          refine Run.val (lt rfl) (Y.fieldAddr rfl Cltake_fo67_9) ?_
          refine Run.store (s := [(bc, .cells #[.string c.name, hv, .int .i64 3, .int .u32 c.xid, .int .u32 c.addr, .int .u32 c.server, .int .i64 c.until_, .int .i64 c.one, .int .i64 c.two, .bool false, .int .i64 c.tries, .int .i64 c.said, .int .i64 c.asks] 67 (0, 0))]) rfl rfl Cltake_sz4 (i := 1) rfl rfl (le rfl) rfl rfl ?_
          refine Run.to_end ?_
          refine Ex.go ?_
          refine Tr.seq ?_
          refine Tr.region ?_
          refine Run.val (lt rfl) (Y.move rfl) ?_
          refine Run.val (lt rfl) (Y.move rfl) ?_
          refine Run.val (lt rfl) (Y.nilCheck rfl) ?_
          refine Run.val (lt rfl) (Y.fieldAddr rfl Cltake_fo67_12) ?_
          refine Run.val (lt rfl) (Y.load rfl Cltake_ts3 (Kn.at 1 rfl) rfl) ?_
          refine Run.val (lt rfl) (Y.move rfl) ?_
          refine Run.val (lt rfl) (Y.add rfl rfl (by omega)) ?_
          refine Run.val (lt rfl) (Y.nilCheck rfl) ?_
          refine Run.val (lt rfl) (Y.fieldAddr rfl Cltake_fo67_6) ?_
          refine Run.store (s := [(bc, .cells #[.string c.name, hv, .int .i64 3, .int .u32 c.xid, .int .u32 c.addr, .int .u32 c.server, .int .i64 (c.asks + (Pc.num p 51 0)), .int .i64 c.one, .int .i64 c.two, .bool false, .int .i64 c.tries, .int .i64 c.said, .int .i64 c.asks] 67 (0, 0))]) rfl rfl Cltake_sz3 (i := 1) rfl rfl (le rfl) rfl rfl ?_
          refine Run.to_end ?_
          refine Ex.go ?_
          refine Tr.seq ?_
          refine Tr.tail 11 Cltake_mo (by kernel_rfl) ?_
          refine RunQ.val (lt rfl) (Y.move rfl) ?_
          refine RunQ.val (lt rfl) (Y.move rfl) ?_
          refine RunQ.val (lt rfl) (Y.nilCheck rfl) ?_
          refine RunQ.val (lt rfl) (Y.fieldAddr rfl Cltake_fo67_12) ?_
          refine RunQ.val (lt rfl) (Y.load rfl Cltake_ts3 (Kn.at 1 rfl) rfl) ?_
          refine RunQ.val (lt rfl) (Y.loadAgg rfl Cltake_ag36 (Kn.at 0 rfl) rfl) ?_
          refine RunQ.val (lt rfl) (Y.move rfl) ?_
          refine RunQ.val (lt rfl) (Y.quo (Pc.num p 51 0 / 2) rfl rfl (by decide) (by rw [Int.tdiv_eq_ediv_of_nonneg h51.1]; exact wrap_i64 (by omega))) ?_
          refine RunQ.call0 (l := [.tmp 144, .const (.int .i64 58), .tmp 146]) rfl rfl rfl (lt rfl) (num_h hp hf) ?_
          refine RunQ.val (lt rfl) (Y.add rfl rfl (by omega)) ?_
          refine RunQ.val (lt rfl) (Y.nilCheck rfl) ?_
          refine RunQ.nil_run ?_
          refine Run.val (lt rfl) (Y.fieldAddr rfl Cltake_fo67_7) ?_
          refine Run.store (s := [(bc, .cells #[.string c.name, hv, .int .i64 3, .int .u32 c.xid, .int .u32 c.addr, .int .u32 c.server, .int .i64 (c.asks + (Pc.num p 51 0)), .int .i64 (c.asks + (Pc.num p 58 (Pc.num p 51 0 / 2))), .int .i64 c.two, .bool false, .int .i64 c.tries, .int .i64 c.said, .int .i64 c.asks] 67 (0, 0))]) rfl rfl Cltake_sz3 (i := 1) rfl rfl (le rfl) rfl rfl ?_
          refine Run.to_end ?_
          refine Ex.go ?_
          refine Tr.tail 13 Cltake_mo (by kernel_rfl) ?_
          refine RunQ.val (lt rfl) (Y.move rfl) ?_
          refine RunQ.val (lt rfl) (Y.move rfl) ?_
          refine RunQ.val (lt rfl) (Y.nilCheck rfl) ?_
          refine RunQ.val (lt rfl) (Y.fieldAddr rfl Cltake_fo67_12) ?_
          refine RunQ.val (lt rfl) (Y.load rfl Cltake_ts3 (Kn.at 1 rfl) rfl) ?_
          refine RunQ.val (lt rfl) (Y.loadAgg rfl Cltake_ag36 (Kn.at 0 rfl) rfl) ?_
          refine RunQ.val (lt rfl) (Y.move rfl) ?_
          refine RunQ.val (lt rfl) (Y.move rfl) ?_
          refine RunQ.val (lt rfl) (Y.quo (Pc.num p 51 0 / 8) rfl rfl (by decide) (by rw [Int.tdiv_eq_ediv_of_nonneg h51.1]; exact wrap_i64 (by omega))) ?_
          refine RunQ.val (lt rfl) (Y.sub rfl rfl (by omega)) ?_
          refine RunQ.call0 (l := [.tmp 156, .const (.int .i64 59), .tmp 160]) rfl rfl rfl (lt rfl) (num_h hp hf) ?_
          refine RunQ.val (lt rfl) (Y.add rfl rfl (by omega)) ?_
          refine RunQ.val (lt rfl) (Y.nilCheck rfl) ?_
          refine RunQ.nil_run ?_
          refine Run.val (lt rfl) (Y.fieldAddr rfl Cltake_fo67_8) ?_
          refine Run.store (s := [(bc, .cells #[.string c.name, hv, .int .i64 3, .int .u32 c.xid, .int .u32 c.addr, .int .u32 c.server, .int .i64 (c.asks + (Pc.num p 51 0)), .int .i64 (c.asks + (Pc.num p 58 (Pc.num p 51 0 / 2))), .int .i64 (c.asks + (Pc.num p 59 ((Pc.num p 51 0) - (Pc.num p 51 0 / 8)))), .bool false, .int .i64 c.tries, .int .i64 c.said, .int .i64 c.asks] 67 (0, 0))]) rfl rfl Cltake_sz3 (i := 1) rfl rfl (le rfl) rfl rfl ?_
          refine Run.to_end ?_
          refine Ex.end_block ?_
          refine Ex.go ?_
          refine Tr.seq ?_
          refine Tr.region ?_
          refine Run.val (lt rfl) (Y.assign rfl) ?_
          refine Run.to_end ?_
          refine Ex.go ?_
          refine Tr.to_ret ?_
          refine Ex.keep [1] ?_
          have e := Cli.take_a h2 h3 (by omega) (of_decide_eq_false h8) (of_decide_eq_false h12) (of_decide_eq_true h20)
          exact Ex.ret1 rfl rfl  ⟨rfl, by rw [e.1], by rw [e.2]; try rfl⟩
         ·have g20 := h20
          try simp only [kb] at g20
          refine Tr.cond_f rfl h20 ?_
          refine Tr.cut V [[(b1, .cells #[.int .i64 p.op, .int .u32 p.xid, .int .i64 p.secs, .int .i64 p.flags, .int .u32 p.ci, .int .u32 p.yi, .int .u32 p.si, .int .u32 p.gi, hv2, ov] 36 (0, 0))], [(bc, .cells #[.string c.name, hv, .int .i64 c.state, .int .u32 c.xid, .int .u32 c.addr, .int .u32 c.server, .int .i64 c.until_, .int .i64 c.one, .int .i64 c.two, .bool c.due, .int .i64 c.tries, .int .i64 c.said, .int .i64 c.asks] 67 (0, 0))]] [(0, .pointer (some ⟨bc, 0, none⟩)), (4, .pointer (some ⟨b1, 0, none⟩)), (165, .bool (decide (Pc.kind p = 6 ∧ Cli.asking c = true)))] ?_ ?_
          ·refine Tr.region ?_
           refine Run.val (lt rfl) (Y.move rfl) ?_
           refine Run.val (lt rfl) (Y.int rfl rfl rfl) ?_
           refine Run.val (lt rfl) (Y.move rfl) ?_
           rcases Bool.eq_false_or_eq_true ((Pc.kind p) == 6) with h21 | h21
           ·have g21 := h21
            try simp only [kb] at g21
            refine Run.on rfl rfl rfl h21 ?_
            refine Run.val (lt rfl) (Y.move rfl) ?_
            refine Run.on rfl rfl rfl h21 ?_
            refine Run.call0 (l := [.tmp 169]) rfl rfl rfl (lt rfl) (ask_c (c := c) (Kn.at 1 rfl)) ?_
            refine Run.val (lt rfl) (Y.pick_t rfl h21 rfl) ?_
            refine Run.val (lt rfl) (Y.assign rfl) ?_
            refine Run.to_end ?_
            exact Ex.cut rfl (subB_cons (by first | rfl | exact congrArg (fun z => some (Value.int _ z)) (by omega) | exact congrArg (fun b => some (Value.bool b)) (by rw [Bool.eq_iff_iff, decide_eq_true_eq]; exact ⟨fun h => ⟨by omega, h⟩, fun h => h.2⟩)) (subB_cons (by first | rfl | exact congrArg (fun z => some (Value.int _ z)) (by omega) | exact congrArg (fun b => some (Value.bool b)) (by rw [Bool.eq_iff_iff, decide_eq_true_eq]; exact ⟨fun h => ⟨by omega, h⟩, fun h => h.2⟩)) (subB_cons (by first | rfl | exact congrArg (fun z => some (Value.int _ z)) (by omega) | exact congrArg (fun b => some (Value.bool b)) (by rw [Bool.eq_iff_iff, decide_eq_true_eq]; exact ⟨fun h => ⟨by omega, h⟩, fun h => h.2⟩)) (subB_nil _))))
           ·have g21 := h21
            try simp only [kb] at g21
            refine Run.off rfl rfl rfl h21 rfl (lt rfl) ?_
            refine Run.off rfl rfl rfl h21 rfl (lt rfl) ?_
            refine Run.val (lt rfl) (Y.pick_f rfl h21 rfl) ?_
            refine Run.val (lt rfl) (Y.assign rfl) ?_
            refine Run.to_end ?_
            exact Ex.cut rfl (subB_cons (by first | rfl | exact congrArg (fun z => some (Value.int _ z)) (by omega) | exact congrArg (fun b => some (Value.bool b)) ((decide_eq_false (show ¬ (Pc.kind p = 6 ∧ Cli.asking c = true) from by rintro ⟨h, _⟩; omega)).symm)) (subB_cons (by first | rfl | exact congrArg (fun z => some (Value.int _ z)) (by omega) | exact congrArg (fun b => some (Value.bool b)) ((decide_eq_false (show ¬ (Pc.kind p = 6 ∧ Cli.asking c = true) from by rintro ⟨h, _⟩; omega)).symm)) (subB_cons (by first | rfl | exact congrArg (fun z => some (Value.int _ z)) (by omega) | exact congrArg (fun b => some (Value.bool b)) ((decide_eq_false (show ¬ (Pc.kind p = 6 ∧ Cli.asking c = true) from by rintro ⟨h, _⟩; omega)).symm)) (subB_nil _))))
          ·rcases Bool.eq_false_or_eq_true (decide (Pc.kind p = 6 ∧ Cli.asking c = true)) with h22 | h22
           ·have g22 := h22
            try simp only [kb] at g22
            refine Tr.cond_t rfl h22 ?_
            refine Tr.region ?_
            refine Run.val (lt rfl) (Y.move rfl) ?_
            refine Run.call [1] (l := [.tmp 172, .const (.int .i64 0)]) rfl rfl rfl (lt rfl) (drop_c (c := c)) (fun v23 V2 H2 _ hR => ?_)
            obtain ⟨hV, rfl, rfl⟩ := hR; replace hV := hV.symm; subst hV
            refine Run.to_end ?_
            refine Ex.end_block ?_
            refine Ex.go ?_
            refine Tr.seq ?_
            refine Tr.region ?_
            refine Run.val (lt rfl) (Y.assign rfl) ?_
            refine Run.to_end ?_
            refine Ex.go ?_
            refine Tr.to_ret ?_
            refine Ex.keep [1] ?_
            have e := Cli.take_k h2 h3 (by omega) (of_decide_eq_false h8) (of_decide_eq_false h12) (of_decide_eq_false h20) (of_decide_eq_true h22)
            exact Ex.ret1 rfl rfl  ⟨rfl, by rw [e.1], by rw [e.2]; try rfl⟩
           ·have g22 := h22
            try simp only [kb] at g22
            refine Tr.cond_f rfl h22 ?_
            refine Tr.seq ?_
            refine Tr.region ?_
            refine Run.val (lt rfl) (Y.assign rfl) ?_
            refine Run.to_end ?_
            refine Ex.go ?_
            refine Tr.to_ret ?_
            refine Ex.ret_block ?_
            refine Ex.ret_then ?_
            refine Ex.keep [1] ?_
            have e := Cli.take_6 h2 h3 (by omega) (of_decide_eq_false h8) (of_decide_eq_false h12) (of_decide_eq_false h20) (of_decide_eq_false h22)
            exact Ex.ret1 rfl rfl  ⟨rfl, by rw [e.1], by rw [e.2]; try rfl⟩
  ·have g3 := h3
   try simp only [kb] at g3
   refine Run.off rfl rfl rfl (congrArg Bool.not h3) rfl (lt rfl) ?_
   refine Run.off rfl rfl rfl (congrArg Bool.not h3) rfl (lt rfl) ?_
   refine Run.off rfl rfl rfl (congrArg Bool.not h3) rfl (lt rfl) ?_
   refine Run.val (lt rfl) (Y.pick_t rfl (congrArg Bool.not h3) rfl) ?_
   refine Run.val (lt rfl) (Y.assign rfl) ?_
   refine Run.to_end ?_
   refine Ex.go ?_
   refine Tr.cond_t rfl rfl ?_
   refine Tr.seq ?_
   refine Tr.region ?_
   refine Run.val (lt rfl) (Y.assign rfl) ?_
   refine Run.to_end ?_
   refine Ex.go ?_
   refine Tr.to_ret ?_
   refine Ex.ret_block ?_
   refine Ex.ret_then ?_
   refine Ex.keep [1] ?_
   have e := Cli.take_2 (c := c) h2 (fun q => by rw [q.1] at h3; cases h3)
   exact Ex.ret1 rfl rfl  ⟨rfl, by rw [e.1], by rw [e.2]; try rfl⟩
 ·have g2 := h2
  try simp only [kb] at g2
  refine Tr.cond_t rfl (congrArg Bool.not h2) ?_
  refine Tr.seq ?_
  refine Tr.region ?_
  refine Run.val (lt rfl) (Y.assign rfl) ?_
  refine Run.to_end ?_
  refine Ex.go ?_
  refine Tr.to_ret ?_
  refine Ex.ret_block ?_
  refine Ex.ret_then ?_
  refine Ex.keep [1] ?_
  have e := Cli.take_1 (c := c) (p := p) h2
  exact Ex.ret1 rfl rfl  ⟨rfl, by rw [e.1], by rw [e.2]; try rfl⟩

set_option maxHeartbeats 1000000 in
theorem rtake_c {V : Vw} {bc : Nat} {c : Cli} {hv hv2 ov : Value} {n now : Int} {p : Pc} (hi : Cli.Inv n c) (hh : Rd V [] 1 hv c.hw.length (c.hw.map byteV)) (hp : Pc.R V p hv2 ov) (hf : Pc.few p = true)  : Does Try.prog 31 [.pointer (some ⟨bc, 0, none⟩), .agg (p.cells hv2 ov), .int .i64 now] V [[(bc, .cells (Cli.cells c hv) 44 (0, 0))]] (fun u V' H' => V' = V ∧ u = .int .i64 (Cli.takeE c p now) ∧ H' = [[(bc, .cells (Cli.cells (Cli.takeC c p now) hv) 44 (0, 0))]]) := by
 have hyi := hp.yi
 have hsi := hp.si
 have h51 := Cli.num_u32 p 51 (o := 0) (by decide)
 have h54 := Cli.num_u32 p 54 hp.si
 have h58 := Cli.num_u32 p 58 (o := Pc.num p 51 0 / 2) (by omega)
 have h59 := Cli.num_u32 p 59 (o := Pc.num p 51 0 - Pc.num p 51 0 / 8) (by omega)
 have hak := hi.asks
 have hst := hi.state
 refine Does.intro Try.func31 rfl rfl (le rfl) (fun B => ?_)
 refine Tr.seq ?_
 refine Tr.region ?_
 refine Run.box rfl (lt rfl) (fun b1 => ?_)
 refine Run.val (lt rfl) (Y.assign rfl) ?_
 refine Run.to_end ?_
 refine Ex.go ?_
 refine Tr.seq ?_
 refine Tr.region ?_
 refine Run.val (lt rfl) (Y.move rfl) ?_
 refine Run.call0 (l := [.tmp 11]) rfl rfl rfl (lt rfl) rmoment_c_h ?_
 refine Run.val (lt rfl) (Y.assign rfl) ?_
 refine Run.to_end ?_
 refine Ex.go ?_
 refine Tr.seq ?_
 refine Tr.region ?_
 refine Run.val (lt rfl) (Y.loadAgg rfl Cltake_ag36 (Kn.at 0 rfl) rfl) ?_
 refine Run.call0 (l := [.tmp 13]) rfl rfl rfl (lt rfl) (rright_h hp hf) ?_
 refine Run.val (lt rfl) (Y.assign rfl) ?_
 refine Run.to_end ?_
 refine Ex.go ?_
 refine Tr.seq ?_
 refine Tr.seq ?_
 refine Tr.region ?_
 refine Run.val (lt rfl) (Y.move rfl) ?_
 refine Run.val (lt rfl) (Y.not rfl) ?_
 refine Run.to_end ?_
 refine Ex.go ?_
 rcases Bool.eq_false_or_eq_true (Con.moment now) with h2 | h2
 ·have g2 := h2
  try simp only [kb] at g2
  refine Tr.cond_f rfl (congrArg Bool.not h2) ?_
  refine Tr.to_end ?_
  refine Ex.go ?_
  refine Tr.seq ?_
  refine Tr.seq ?_
  refine Tr.region ?_
  refine Run.val (lt rfl) (Y.move rfl) ?_
  refine Run.val (lt rfl) (Y.not rfl) ?_
  refine Run.val (lt rfl) (Y.move rfl) ?_
  rcases Bool.eq_false_or_eq_true (Pc.right p) with h3 | h3
  ·have g3 := h3
   try simp only [kb] at g3
   refine Run.on rfl rfl rfl (congrArg Bool.not h3) ?_
   refine Run.val (lt rfl) (Y.fieldAddr rfl Cltake_fo36_0) ?_
   refine Run.on rfl rfl rfl (congrArg Bool.not h3) ?_
   refine Run.val (lt rfl) (Y.load rfl Cltake_ts3 (Kn.at 0 rfl) rfl) ?_
   refine Run.on rfl rfl rfl (congrArg Bool.not h3) ?_
   refine Run.val (lt rfl) (Y.int rfl rfl rfl) ?_
   refine Run.val (lt rfl) (Y.pick_f rfl (congrArg Bool.not h3) rfl) ?_
   refine Run.to_end ?_
   refine Ex.go ?_
   rcases Bool.eq_false_or_eq_true (p.op != 2) with h4 | h4
   ·have g4 := h4
    try simp only [kb] at g4
    refine Tr.cond_t rfl h4 ?_
    refine Tr.seq ?_
    refine Tr.region ?_
    refine Run.val (lt rfl) (Y.assign rfl) ?_
    refine Run.to_end ?_
    refine Ex.go ?_
    refine Tr.to_ret ?_
    refine Ex.ret_then ?_
    refine Ex.keep [1] ?_
    have e := Cli.take_2 (c := c) h2 (fun q => g4 q.2)
    exact Ex.ret1 rfl rfl  ⟨rfl, by rw [e.1], by rw [e.2]; try rfl⟩
   ·have g4 := h4
    try simp only [kb] at g4
    refine Tr.cond_f rfl h4 ?_
    refine Tr.to_end ?_
    refine Ex.go ?_
    refine Tr.seq ?_
    refine Tr.cut V [[(b1, .cells #[.int .i64 p.op, .int .u32 p.xid, .int .i64 p.secs, .int .i64 p.flags, .int .u32 p.ci, .int .u32 p.yi, .int .u32 p.si, .int .u32 p.gi, hv2, ov] 36 (0, 0))], [(bc, .cells #[.string c.name, hv, .int .i64 c.state, .int .u32 c.xid, .int .u32 c.addr, .int .u32 c.server, .int .i64 c.until_, .int .i64 c.one, .int .i64 c.two, .bool c.due, .int .i64 c.tries, .int .i64 c.said, .int .i64 c.asks] 44 (0, 0))]] [(0, .pointer (some ⟨bc, 0, none⟩)), (4, .pointer (some ⟨b1, 0, none⟩)), (55, .bool (decide (Cli.old c p)))] ?_ ?_
    ·refine Tr.quiet Cltake_mo (by kernel_rfl) ?_
     refine RunQ.val (lt rfl) (Y.fieldAddr rfl Cltake_fo36_1) ?_
     refine RunQ.val (lt rfl) (Y.load rfl Cltake_ts32 (Kn.at 0 rfl) rfl) ?_
     refine RunQ.val (lt rfl) (Y.move rfl) ?_
     refine RunQ.val (lt rfl) (Y.nilCheck rfl) ?_
     refine RunQ.val (lt rfl) (Y.fieldAddr rfl Cltake_fo44_3) ?_
     refine RunQ.val (lt rfl) (Y.load rfl Cltake_ts32 (Kn.at 1 rfl) rfl) ?_
     refine RunQ.val (lt rfl) (Y.int rfl rfl rfl) ?_
     refine RunQ.val (lt rfl) (Y.move rfl) ?_
     rcases Bool.eq_false_or_eq_true (p.xid != c.xid) with h5 | h5
     ·have g5 := h5
      try simp only [kb] at g5
      refine RunQ.off rfl rfl rfl h5 rfl (lt rfl) ?_
      refine RunQ.off rfl rfl rfl h5 rfl (lt rfl) ?_
      refine RunQ.off rfl rfl rfl h5 rfl (lt rfl) ?_
      refine RunQ.off rfl rfl rfl h5 rfl (lt rfl) ?_
      refine RunQ.off rfl rfl rfl h5 rfl (lt rfl) ?_
      refine RunQ.off rfl rfl rfl h5 rfl (lt rfl) ?_
      refine RunQ.off rfl rfl rfl h5 rfl (lt rfl) ?_
      refine RunQ.off rfl rfl rfl h5 rfl (lt rfl) ?_
      refine RunQ.off rfl rfl rfl h5 rfl (lt rfl) ?_
      refine RunQ.val (lt rfl) (Y.pick_t rfl h5 rfl) ?_
      refine RunQ.val (lt rfl) (Y.move rfl) ?_
      refine RunQ.off rfl rfl rfl rfl rfl (lt rfl) ?_
      refine RunQ.off rfl rfl rfl rfl rfl (lt rfl) ?_
      refine RunQ.off rfl rfl rfl rfl rfl (lt rfl) ?_
      refine RunQ.off rfl rfl rfl rfl rfl (lt rfl) ?_
      refine RunQ.off rfl rfl rfl rfl rfl (lt rfl) ?_
      refine RunQ.val (lt rfl) (Y.pick_t rfl rfl rfl) ?_
      refine RunQ.val (lt rfl) (Y.move rfl) ?_
      refine RunQ.off rfl rfl rfl rfl rfl (lt rfl) ?_
      refine RunQ.off rfl rfl rfl rfl rfl (lt rfl) ?_
      refine RunQ.off rfl rfl rfl rfl rfl (lt rfl) ?_
      refine RunQ.off rfl rfl rfl rfl rfl (lt rfl) ?_
      refine RunQ.off rfl rfl rfl rfl rfl (lt rfl) ?_
      refine RunQ.val (lt rfl) (Y.pick_t rfl rfl rfl) ?_
      refine RunQ.to_end ?_
      exact Ex.cut rfl (subB_cons (by first | rfl | exact congrArg (fun z => some (Value.int _ z)) (by omega) | exact congrArg (fun b => some (Value.bool b)) ((decide_eq_true (show Cli.old c p from .inl (by omega))).symm)) (subB_cons (by first | rfl | exact congrArg (fun z => some (Value.int _ z)) (by omega) | exact congrArg (fun b => some (Value.bool b)) ((decide_eq_true (show Cli.old c p from .inl (by omega))).symm)) (subB_cons (by first | rfl | exact congrArg (fun z => some (Value.int _ z)) (by omega) | exact congrArg (fun b => some (Value.bool b)) ((decide_eq_true (show Cli.old c p from .inl (by omega))).symm)) (subB_nil _))))
     ·have g5 := h5
      try simp only [kb] at g5
      refine RunQ.on rfl rfl rfl h5 ?_
      refine RunQ.val (lt rfl) (Y.fieldAddr rfl Cltake_fo36_8) ?_
      refine RunQ.on rfl rfl rfl h5 ?_
      refine RunQ.val (lt rfl) (Y.load rfl Cltake_ts22 (Kn.at 0 rfl) rfl) ?_
      refine RunQ.on rfl rfl rfl h5 ?_
      refine RunQ.val (lt rfl) (Y.bytesStr (bs := p.hw) rfl Cltake_es22 Cltake_tg5 Cltake_st9 hp.hw.of_nil) ?_
      refine RunQ.on rfl rfl rfl h5 ?_
      refine RunQ.val (lt rfl) (Y.move rfl) ?_
      refine RunQ.on rfl rfl rfl h5 ?_
      refine RunQ.val (lt rfl) (Y.nilCheck rfl) ?_
      refine RunQ.on rfl rfl rfl h5 ?_
      refine RunQ.val (lt rfl) (Y.fieldAddr rfl Cltake_fo44_1) ?_
      refine RunQ.on rfl rfl rfl h5 ?_
      refine RunQ.val (lt rfl) (Y.load rfl Cltake_ts22 (Kn.at 1 rfl) rfl) ?_
      refine RunQ.on rfl rfl rfl h5 ?_
      refine RunQ.val (lt rfl) (Y.bytesStr (bs := c.hw) rfl Cltake_es22 Cltake_tg5 Cltake_st9 hh.of_nil) ?_
      refine RunQ.on rfl rfl rfl h5 ?_
      refine RunQ.val (lt rfl) (Y.neStr rfl rfl) ?_
      refine RunQ.val (lt rfl) (Y.pick_f rfl h5 rfl) ?_
      refine RunQ.val (lt rfl) (Y.move rfl) ?_
      rcases Bool.eq_false_or_eq_true ((⟨(p.hw : List UInt8).toArray⟩ : ByteArray).toList == (⟨(c.hw : List UInt8).toArray⟩ : ByteArray).toList) with h6 | h6
      ·have g6 := h6
       try simp only [kb] at g6
       refine RunQ.on rfl rfl rfl (congrArg Bool.not h6) ?_
       refine RunQ.val (lt rfl) (Y.move rfl) ?_
       refine RunQ.on rfl rfl rfl (congrArg Bool.not h6) ?_
       refine RunQ.val (lt rfl) (Y.nilCheck rfl) ?_
       refine RunQ.on rfl rfl rfl (congrArg Bool.not h6) ?_
       refine RunQ.val (lt rfl) (Y.fieldAddr rfl Cltake_fo44_2) ?_
       refine RunQ.on rfl rfl rfl (congrArg Bool.not h6) ?_
       refine RunQ.val (lt rfl) (Y.load rfl Cltake_ts3 (Kn.at 1 rfl) rfl) ?_
       refine RunQ.on rfl rfl rfl (congrArg Bool.not h6) ?_
       refine RunQ.val (lt rfl) (Y.int rfl rfl rfl) ?_
       refine RunQ.val (lt rfl) (Y.pick_f rfl (congrArg Bool.not h6) rfl) ?_
       refine RunQ.val (lt rfl) (Y.move rfl) ?_
       rcases Bool.eq_false_or_eq_true (c.state == 0) with h7 | h7
       ·have g7 := h7
        try simp only [kb] at g7
        refine RunQ.off rfl rfl rfl h7 rfl (lt rfl) ?_
        refine RunQ.off rfl rfl rfl h7 rfl (lt rfl) ?_
        refine RunQ.off rfl rfl rfl h7 rfl (lt rfl) ?_
        refine RunQ.off rfl rfl rfl h7 rfl (lt rfl) ?_
        refine RunQ.off rfl rfl rfl h7 rfl (lt rfl) ?_
        refine RunQ.val (lt rfl) (Y.pick_t rfl h7 rfl) ?_
        refine RunQ.to_end ?_
        exact Ex.cut rfl (subB_cons (by first | rfl | exact congrArg (fun z => some (Value.int _ z)) (by omega) | exact congrArg (fun b => some (Value.bool b)) ((decide_eq_true (show Cli.old c p from .inr (.inr (.inl (by omega))))).symm)) (subB_cons (by first | rfl | exact congrArg (fun z => some (Value.int _ z)) (by omega) | exact congrArg (fun b => some (Value.bool b)) ((decide_eq_true (show Cli.old c p from .inr (.inr (.inl (by omega))))).symm)) (subB_cons (by first | rfl | exact congrArg (fun z => some (Value.int _ z)) (by omega) | exact congrArg (fun b => some (Value.bool b)) ((decide_eq_true (show Cli.old c p from .inr (.inr (.inl (by omega))))).symm)) (subB_nil _))))
       ·have g7 := h7
        try simp only [kb] at g7
        refine RunQ.on rfl rfl rfl h7 ?_
        refine RunQ.val (lt rfl) (Y.move rfl) ?_
        refine RunQ.on rfl rfl rfl h7 ?_
        refine RunQ.val (lt rfl) (Y.nilCheck rfl) ?_
        refine RunQ.on rfl rfl rfl h7 ?_
        refine RunQ.val (lt rfl) (Y.fieldAddr rfl Cltake_fo44_2) ?_
        refine RunQ.on rfl rfl rfl h7 ?_
        refine RunQ.val (lt rfl) (Y.load rfl Cltake_ts3 (Kn.at 1 rfl) rfl) ?_
        refine RunQ.on rfl rfl rfl h7 ?_
        refine RunQ.val (lt rfl) (Y.int rfl rfl rfl) ?_
        refine RunQ.val (lt rfl) (Y.pick_f rfl h7 rfl) ?_
        refine RunQ.to_end ?_
        exact Ex.cut rfl (subB_cons (by first | rfl | exact congrArg (fun z => some (Value.int _ z)) (by omega) | exact congrArg (fun b => some (Value.bool b)) (by rw [Bool.eq_iff_iff, decide_eq_true_eq, beq_iff_eq]; exact ⟨fun h => .inr (.inr (.inr h)), (by rintro (h | h | h | h) <;> first | omega | exact absurd (by have e := h6; rw [same_bytes] at e; simpa using e) h)⟩)) (subB_cons (by first | rfl | exact congrArg (fun z => some (Value.int _ z)) (by omega) | exact congrArg (fun b => some (Value.bool b)) (by rw [Bool.eq_iff_iff, decide_eq_true_eq, beq_iff_eq]; exact ⟨fun h => .inr (.inr (.inr h)), (by rintro (h | h | h | h) <;> first | omega | exact absurd (by have e := h6; rw [same_bytes] at e; simpa using e) h)⟩)) (subB_cons (by first | rfl | exact congrArg (fun z => some (Value.int _ z)) (by omega) | exact congrArg (fun b => some (Value.bool b)) (by rw [Bool.eq_iff_iff, decide_eq_true_eq, beq_iff_eq]; exact ⟨fun h => .inr (.inr (.inr h)), (by rintro (h | h | h | h) <;> first | omega | exact absurd (by have e := h6; rw [same_bytes] at e; simpa using e) h)⟩)) (subB_nil _))))
      ·have g6 := h6
       try simp only [kb] at g6
       refine RunQ.off rfl rfl rfl (congrArg Bool.not h6) rfl (lt rfl) ?_
       refine RunQ.off rfl rfl rfl (congrArg Bool.not h6) rfl (lt rfl) ?_
       refine RunQ.off rfl rfl rfl (congrArg Bool.not h6) rfl (lt rfl) ?_
       refine RunQ.off rfl rfl rfl (congrArg Bool.not h6) rfl (lt rfl) ?_
       refine RunQ.off rfl rfl rfl (congrArg Bool.not h6) rfl (lt rfl) ?_
       refine RunQ.val (lt rfl) (Y.pick_t rfl (congrArg Bool.not h6) rfl) ?_
       refine RunQ.val (lt rfl) (Y.move rfl) ?_
       refine RunQ.off rfl rfl rfl rfl rfl (lt rfl) ?_
       refine RunQ.off rfl rfl rfl rfl rfl (lt rfl) ?_
       refine RunQ.off rfl rfl rfl rfl rfl (lt rfl) ?_
       refine RunQ.off rfl rfl rfl rfl rfl (lt rfl) ?_
       refine RunQ.off rfl rfl rfl rfl rfl (lt rfl) ?_
       refine RunQ.val (lt rfl) (Y.pick_t rfl rfl rfl) ?_
       refine RunQ.to_end ?_
       exact Ex.cut rfl (subB_cons (by first | rfl | exact congrArg (fun z => some (Value.int _ z)) (by omega) | exact congrArg (fun b => some (Value.bool b)) ((decide_eq_true (show Cli.old c p from .inr (.inl (by have e := h6; rw [same_bytes] at e; simpa using e)))).symm)) (subB_cons (by first | rfl | exact congrArg (fun z => some (Value.int _ z)) (by omega) | exact congrArg (fun b => some (Value.bool b)) ((decide_eq_true (show Cli.old c p from .inr (.inl (by have e := h6; rw [same_bytes] at e; simpa using e)))).symm)) (subB_cons (by first | rfl | exact congrArg (fun z => some (Value.int _ z)) (by omega) | exact congrArg (fun b => some (Value.bool b)) ((decide_eq_true (show Cli.old c p from .inr (.inl (by have e := h6; rw [same_bytes] at e; simpa using e)))).symm)) (subB_nil _))))
    ·rcases Bool.eq_false_or_eq_true (decide (Cli.old c p)) with h8 | h8
     ·have g8 := h8
      try simp only [kb] at g8
      refine Tr.cond_t rfl h8 ?_
      refine Tr.seq ?_
      refine Tr.region ?_
      refine Run.val (lt rfl) (Y.assign rfl) ?_
      refine Run.to_end ?_
      refine Ex.go ?_
      refine Tr.to_ret ?_
      refine Ex.ret_then ?_
      refine Ex.keep [1] ?_
      have e := Cli.take_8 h2 h3 (by omega) (of_decide_eq_true h8)
      exact Ex.ret1 rfl rfl  ⟨rfl, by rw [e.1], by rw [e.2]; try rfl⟩
     ·have g8 := h8
      try simp only [kb] at g8
      refine Tr.cond_f rfl h8 ?_
      refine Tr.to_end ?_
      refine Ex.go ?_
      refine Tr.seq ?_
      refine Tr.region ?_
      refine Run.val (lt rfl) (Y.loadAgg rfl Cltake_ag36 (Kn.at 0 rfl) rfl) ?_
      refine Run.call0 (l := [.tmp 56, .const (.int .i64 51), .const (.int .i64 0)]) rfl rfl rfl (lt rfl) (rnum_h hp hf) ?_
      refine Run.val (lt rfl) (Y.assign rfl) ?_
      refine Run.to_end ?_
      refine Ex.go ?_
      refine Tr.cut V [[(b1, .cells #[.int .i64 p.op, .int .u32 p.xid, .int .i64 p.secs, .int .i64 p.flags, .int .u32 p.ci, .int .u32 p.yi, .int .u32 p.si, .int .u32 p.gi, hv2, ov] 36 (0, 0))], [(bc, .cells #[.string c.name, hv, .int .i64 c.state, .int .u32 c.xid, .int .u32 c.addr, .int .u32 c.server, .int .i64 c.until_, .int .i64 c.one, .int .i64 c.two, .bool c.due, .int .i64 c.tries, .int .i64 c.said, .int .i64 c.asks] 44 (0, 0))]] [(0, .pointer (some ⟨bc, 0, none⟩)), (4, .pointer (some ⟨b1, 0, none⟩)), (9, .int .i64 (Pc.num p 51 0)), (10, .bool (Cli.asking c))] ?_ ?_
      ·refine Tr.region ?_
       refine Run.val (lt rfl) (Y.move rfl) ?_
       refine Run.val (lt rfl) (Y.nilCheck rfl) ?_
       refine Run.val (lt rfl) (Y.fieldAddr rfl Cltake_fo44_2) ?_
       refine Run.val (lt rfl) (Y.load rfl Cltake_ts3 (Kn.at 1 rfl) rfl) ?_
       refine Run.val (lt rfl) (Y.int rfl rfl rfl) ?_
       refine Run.val (lt rfl) (Y.move rfl) ?_
       rcases Bool.eq_false_or_eq_true (c.state == 2) with h9 | h9
       ·have g9 := h9
        try simp only [kb] at g9
        refine Run.off rfl rfl rfl h9 rfl (lt rfl) ?_
        refine Run.off rfl rfl rfl h9 rfl (lt rfl) ?_
        refine Run.off rfl rfl rfl h9 rfl (lt rfl) ?_
        refine Run.off rfl rfl rfl h9 rfl (lt rfl) ?_
        refine Run.off rfl rfl rfl h9 rfl (lt rfl) ?_
        refine Run.val (lt rfl) (Y.pick_t rfl h9 rfl) ?_
        refine Run.val (lt rfl) (Y.move rfl) ?_
        refine Run.off rfl rfl rfl rfl rfl (lt rfl) ?_
        refine Run.off rfl rfl rfl rfl rfl (lt rfl) ?_
        refine Run.off rfl rfl rfl rfl rfl (lt rfl) ?_
        refine Run.off rfl rfl rfl rfl rfl (lt rfl) ?_
        refine Run.off rfl rfl rfl rfl rfl (lt rfl) ?_
        refine Run.val (lt rfl) (Y.pick_t rfl rfl rfl) ?_
        refine Run.val (lt rfl) (Y.assign rfl) ?_
        refine Run.to_end ?_
        exact Ex.cut rfl (subB_cons (by first | rfl | exact congrArg (fun z => some (Value.int _ z)) (by omega) | exact congrArg (fun b => some (Value.bool b)) ((Cli.ask_y (by omega)).symm)) (subB_cons (by first | rfl | exact congrArg (fun z => some (Value.int _ z)) (by omega) | exact congrArg (fun b => some (Value.bool b)) ((Cli.ask_y (by omega)).symm)) (subB_cons (by first | rfl | exact congrArg (fun z => some (Value.int _ z)) (by omega) | exact congrArg (fun b => some (Value.bool b)) ((Cli.ask_y (by omega)).symm)) (subB_cons (by first | rfl | exact congrArg (fun z => some (Value.int _ z)) (by omega) | exact congrArg (fun b => some (Value.bool b)) ((Cli.ask_y (by omega)).symm)) (subB_nil _)))))
       ·have g9 := h9
        try simp only [kb] at g9
        refine Run.on rfl rfl rfl h9 ?_
        refine Run.val (lt rfl) (Y.move rfl) ?_
        refine Run.on rfl rfl rfl h9 ?_
        refine Run.val (lt rfl) (Y.nilCheck rfl) ?_
        refine Run.on rfl rfl rfl h9 ?_
        refine Run.val (lt rfl) (Y.fieldAddr rfl Cltake_fo44_2) ?_
        refine Run.on rfl rfl rfl h9 ?_
        refine Run.val (lt rfl) (Y.load rfl Cltake_ts3 (Kn.at 1 rfl) rfl) ?_
        refine Run.on rfl rfl rfl h9 ?_
        refine Run.val (lt rfl) (Y.int rfl rfl rfl) ?_
        refine Run.val (lt rfl) (Y.pick_f rfl h9 rfl) ?_
        refine Run.val (lt rfl) (Y.move rfl) ?_
        rcases Bool.eq_false_or_eq_true (c.state == 4) with h10 | h10
        ·have g10 := h10
         try simp only [kb] at g10
         refine Run.off rfl rfl rfl h10 rfl (lt rfl) ?_
         refine Run.off rfl rfl rfl h10 rfl (lt rfl) ?_
         refine Run.off rfl rfl rfl h10 rfl (lt rfl) ?_
         refine Run.off rfl rfl rfl h10 rfl (lt rfl) ?_
         refine Run.off rfl rfl rfl h10 rfl (lt rfl) ?_
         refine Run.val (lt rfl) (Y.pick_t rfl h10 rfl) ?_
         refine Run.val (lt rfl) (Y.assign rfl) ?_
         refine Run.to_end ?_
         exact Ex.cut rfl (subB_cons (by first | rfl | exact congrArg (fun z => some (Value.int _ z)) (by omega) | exact congrArg (fun b => some (Value.bool b)) ((Cli.ask_y (by omega)).symm)) (subB_cons (by first | rfl | exact congrArg (fun z => some (Value.int _ z)) (by omega) | exact congrArg (fun b => some (Value.bool b)) ((Cli.ask_y (by omega)).symm)) (subB_cons (by first | rfl | exact congrArg (fun z => some (Value.int _ z)) (by omega) | exact congrArg (fun b => some (Value.bool b)) ((Cli.ask_y (by omega)).symm)) (subB_cons (by first | rfl | exact congrArg (fun z => some (Value.int _ z)) (by omega) | exact congrArg (fun b => some (Value.bool b)) ((Cli.ask_y (by omega)).symm)) (subB_nil _)))))
        ·have g10 := h10
         try simp only [kb] at g10
         refine Run.on rfl rfl rfl h10 ?_
         refine Run.val (lt rfl) (Y.move rfl) ?_
         refine Run.on rfl rfl rfl h10 ?_
         refine Run.val (lt rfl) (Y.nilCheck rfl) ?_
         refine Run.on rfl rfl rfl h10 ?_
         refine Run.val (lt rfl) (Y.fieldAddr rfl Cltake_fo44_2) ?_
         refine Run.on rfl rfl rfl h10 ?_
         refine Run.val (lt rfl) (Y.load rfl Cltake_ts3 (Kn.at 1 rfl) rfl) ?_
         refine Run.on rfl rfl rfl h10 ?_
         refine Run.val (lt rfl) (Y.int rfl rfl rfl) ?_
         refine Run.val (lt rfl) (Y.pick_f rfl h10 rfl) ?_
         refine Run.val (lt rfl) (Y.assign rfl) ?_
         refine Run.to_end ?_
         exact Ex.cut rfl (subB_cons (by first | rfl | exact congrArg (fun z => some (Value.int _ z)) (by omega) | exact congrArg (fun b => some (Value.bool b)) (by unfold Cli.asking; simp only [h9, h10, Bool.false_or])) (subB_cons (by first | rfl | exact congrArg (fun z => some (Value.int _ z)) (by omega) | exact congrArg (fun b => some (Value.bool b)) (by unfold Cli.asking; simp only [h9, h10, Bool.false_or])) (subB_cons (by first | rfl | exact congrArg (fun z => some (Value.int _ z)) (by omega) | exact congrArg (fun b => some (Value.bool b)) (by unfold Cli.asking; simp only [h9, h10, Bool.false_or])) (subB_cons (by first | rfl | exact congrArg (fun z => some (Value.int _ z)) (by omega) | exact congrArg (fun b => some (Value.bool b)) (by unfold Cli.asking; simp only [h9, h10, Bool.false_or])) (subB_nil _)))))
      ·refine Tr.seq ?_
       refine Tr.seq ?_
       refine Tr.region ?_
       refine Run.val (lt rfl) (Y.loadAgg rfl Cltake_ag36 (Kn.at 0 rfl) rfl) ?_
       refine Run.call0 (l := [.tmp 77]) rfl rfl rfl (lt rfl) (rkind_h hp hf) ?_
       refine Run.to_end ?_
       refine Ex.go ?_
       refine Tr.block ?_
       refine Tr.seq ?_
       refine Tr.region ?_
       refine Run.val (lt rfl) (Y.int rfl rfl rfl) ?_
       refine Run.val (lt rfl) (Y.assign rfl) ?_
       refine Run.to_end ?_
       refine Ex.go ?_
       rcases Bool.eq_false_or_eq_true ((Pc.kind p) == 2) with h11 | h11
       ·have g11 := h11
        try simp only [kb] at g11
        refine Tr.cond_t rfl h11 ?_
        refine Tr.cut V [[(b1, .cells #[.int .i64 p.op, .int .u32 p.xid, .int .i64 p.secs, .int .i64 p.flags, .int .u32 p.ci, .int .u32 p.yi, .int .u32 p.si, .int .u32 p.gi, hv2, ov] 36 (0, 0))], [(bc, .cells #[.string c.name, hv, .int .i64 c.state, .int .u32 c.xid, .int .u32 c.addr, .int .u32 c.server, .int .i64 c.until_, .int .i64 c.one, .int .i64 c.two, .bool c.due, .int .i64 c.tries, .int .i64 c.said, .int .i64 c.asks] 44 (0, 0))]] [(0, .pointer (some ⟨bc, 0, none⟩)), (4, .pointer (some ⟨b1, 0, none⟩)), (9, .int .i64 (Pc.num p 51 0)), (78, .int .i64 (Pc.kind p)), (94, .bool (decide (Cli.offered c p)))] ?_ ?_
        ·refine Tr.region ?_
         refine Run.val (lt rfl) (Y.move rfl) ?_
         refine Run.val (lt rfl) (Y.nilCheck rfl) ?_
         refine Run.val (lt rfl) (Y.fieldAddr rfl Cltake_fo44_2) ?_
         refine Run.val (lt rfl) (Y.load rfl Cltake_ts3 (Kn.at 1 rfl) rfl) ?_
         refine Run.val (lt rfl) (Y.int rfl rfl rfl) ?_
         refine Run.val (lt rfl) (Y.move rfl) ?_
         rcases Bool.eq_false_or_eq_true (c.state == 1) with h12 | h12
         ·have g12 := h12
          try simp only [kb] at g12
          refine Run.on rfl rfl rfl h12 ?_
          refine Run.val (lt rfl) (Y.fieldAddr rfl Cltake_fo36_5) ?_
          refine Run.on rfl rfl rfl h12 ?_
          refine Run.val (lt rfl) (Y.load rfl Cltake_ts33 (Kn.at 0 rfl) rfl) ?_
          refine Run.on rfl rfl rfl h12 ?_
          refine Run.val (lt rfl) (Y.int rfl rfl rfl) ?_
          refine Run.val (lt rfl) (Y.pick_t rfl h12 rfl) ?_
          refine Run.val (lt rfl) (Y.move rfl) ?_
          rcases Bool.eq_false_or_eq_true (p.yi != 0) with h13 | h13
          ·have g13 := h13
           try simp only [kb] at g13
           refine Run.on rfl rfl rfl h13 ?_
           refine Run.val (lt rfl) (Y.move rfl) ?_
           refine Run.on rfl rfl rfl h13 ?_
           refine Run.val (lt rfl) (Y.int rfl rfl rfl) ?_
           refine Run.val (lt rfl) (Y.pick_t rfl h13 rfl) ?_
           refine Run.to_end ?_
           exact Ex.cut rfl (subB_cons (by first | rfl | exact congrArg (fun z => some (Value.int _ z)) (by omega) | exact congrArg (fun b => some (Value.bool b)) (by rw [Bool.eq_iff_iff, decide_eq_true_eq, decide_eq_true_eq]; exact ⟨fun h => ⟨by omega, by omega, by omega, h⟩, fun h => h.2.2.2⟩)) (subB_cons (by first | rfl | exact congrArg (fun z => some (Value.int _ z)) (by omega) | exact congrArg (fun b => some (Value.bool b)) (by rw [Bool.eq_iff_iff, decide_eq_true_eq, decide_eq_true_eq]; exact ⟨fun h => ⟨by omega, by omega, by omega, h⟩, fun h => h.2.2.2⟩)) (subB_cons (by first | rfl | exact congrArg (fun z => some (Value.int _ z)) (by omega) | exact congrArg (fun b => some (Value.bool b)) (by rw [Bool.eq_iff_iff, decide_eq_true_eq, decide_eq_true_eq]; exact ⟨fun h => ⟨by omega, by omega, by omega, h⟩, fun h => h.2.2.2⟩)) (subB_cons (by first | rfl | exact congrArg (fun z => some (Value.int _ z)) (by omega) | exact congrArg (fun b => some (Value.bool b)) (by rw [Bool.eq_iff_iff, decide_eq_true_eq, decide_eq_true_eq]; exact ⟨fun h => ⟨by omega, by omega, by omega, h⟩, fun h => h.2.2.2⟩)) (subB_cons (by first | rfl | exact congrArg (fun z => some (Value.int _ z)) (by omega) | exact congrArg (fun b => some (Value.bool b)) (by rw [Bool.eq_iff_iff, decide_eq_true_eq, decide_eq_true_eq]; exact ⟨fun h => ⟨by omega, by omega, by omega, h⟩, fun h => h.2.2.2⟩)) (subB_nil _))))))
          ·have g13 := h13
           try simp only [kb] at g13
           refine Run.off rfl rfl rfl h13 rfl (lt rfl) ?_
           refine Run.off rfl rfl rfl h13 rfl (lt rfl) ?_
           refine Run.val (lt rfl) (Y.pick_f rfl h13 rfl) ?_
           refine Run.to_end ?_
           exact Ex.cut rfl (subB_cons (by first | rfl | exact congrArg (fun z => some (Value.int _ z)) (by omega) | exact congrArg (fun b => some (Value.bool b)) ((decide_eq_false (show ¬ Cli.offered c p from (by rintro ⟨h1, h2, h3, h4⟩; first | omega | (exfalso; simp_all; done) | (exfalso; simp_all; omega)))).symm)) (subB_cons (by first | rfl | exact congrArg (fun z => some (Value.int _ z)) (by omega) | exact congrArg (fun b => some (Value.bool b)) ((decide_eq_false (show ¬ Cli.offered c p from (by rintro ⟨h1, h2, h3, h4⟩; first | omega | (exfalso; simp_all; done) | (exfalso; simp_all; omega)))).symm)) (subB_cons (by first | rfl | exact congrArg (fun z => some (Value.int _ z)) (by omega) | exact congrArg (fun b => some (Value.bool b)) ((decide_eq_false (show ¬ Cli.offered c p from (by rintro ⟨h1, h2, h3, h4⟩; first | omega | (exfalso; simp_all; done) | (exfalso; simp_all; omega)))).symm)) (subB_cons (by first | rfl | exact congrArg (fun z => some (Value.int _ z)) (by omega) | exact congrArg (fun b => some (Value.bool b)) ((decide_eq_false (show ¬ Cli.offered c p from (by rintro ⟨h1, h2, h3, h4⟩; first | omega | (exfalso; simp_all; done) | (exfalso; simp_all; omega)))).symm)) (subB_cons (by first | rfl | exact congrArg (fun z => some (Value.int _ z)) (by omega) | exact congrArg (fun b => some (Value.bool b)) ((decide_eq_false (show ¬ Cli.offered c p from (by rintro ⟨h1, h2, h3, h4⟩; first | omega | (exfalso; simp_all; done) | (exfalso; simp_all; omega)))).symm)) (subB_nil _))))))
         ·have g12 := h12
          try simp only [kb] at g12
          refine Run.off rfl rfl rfl h12 rfl (lt rfl) ?_
          refine Run.off rfl rfl rfl h12 rfl (lt rfl) ?_
          refine Run.off rfl rfl rfl h12 rfl (lt rfl) ?_
          refine Run.val (lt rfl) (Y.pick_f rfl h12 rfl) ?_
          refine Run.val (lt rfl) (Y.move rfl) ?_
          refine Run.off rfl rfl rfl rfl rfl (lt rfl) ?_
          refine Run.off rfl rfl rfl rfl rfl (lt rfl) ?_
          refine Run.val (lt rfl) (Y.pick_f rfl rfl rfl) ?_
          refine Run.to_end ?_
          exact Ex.cut rfl (subB_cons (by first | rfl | exact congrArg (fun z => some (Value.int _ z)) (by omega) | exact congrArg (fun b => some (Value.bool b)) ((decide_eq_false (show ¬ Cli.offered c p from (by rintro ⟨h1, h2, h3, h4⟩; first | omega | (exfalso; simp_all; done) | (exfalso; simp_all; omega)))).symm)) (subB_cons (by first | rfl | exact congrArg (fun z => some (Value.int _ z)) (by omega) | exact congrArg (fun b => some (Value.bool b)) ((decide_eq_false (show ¬ Cli.offered c p from (by rintro ⟨h1, h2, h3, h4⟩; first | omega | (exfalso; simp_all; done) | (exfalso; simp_all; omega)))).symm)) (subB_cons (by first | rfl | exact congrArg (fun z => some (Value.int _ z)) (by omega) | exact congrArg (fun b => some (Value.bool b)) ((decide_eq_false (show ¬ Cli.offered c p from (by rintro ⟨h1, h2, h3, h4⟩; first | omega | (exfalso; simp_all; done) | (exfalso; simp_all; omega)))).symm)) (subB_cons (by first | rfl | exact congrArg (fun z => some (Value.int _ z)) (by omega) | exact congrArg (fun b => some (Value.bool b)) ((decide_eq_false (show ¬ Cli.offered c p from (by rintro ⟨h1, h2, h3, h4⟩; first | omega | (exfalso; simp_all; done) | (exfalso; simp_all; omega)))).symm)) (subB_cons (by first | rfl | exact congrArg (fun z => some (Value.int _ z)) (by omega) | exact congrArg (fun b => some (Value.bool b)) ((decide_eq_false (show ¬ Cli.offered c p from (by rintro ⟨h1, h2, h3, h4⟩; first | omega | (exfalso; simp_all; done) | (exfalso; simp_all; omega)))).symm)) (subB_nil _))))))
        ·rcases Bool.eq_false_or_eq_true (decide (Cli.offered c p)) with h14 | h14
         ·have g14 := h14
          try simp only [kb] at g14
          refine Tr.cond_t rfl h14 ?_
          refine Tr.seq ?_
          refine Tr.region ?_
          refine Run.val (lt rfl) (Y.move rfl) ?_
          refine Run.val (lt rfl) (Y.nilCheck rfl) ?_
          refine Run.val (lt rfl) (Y.fieldAddr rfl Cltake_fo44_2) ?_
          refine Run.store (s := [(bc, .cells #[.string c.name, hv, .int .i64 2, .int .u32 c.xid, .int .u32 c.addr, .int .u32 c.server, .int .i64 c.until_, .int .i64 c.one, .int .i64 c.two, .bool c.due, .int .i64 c.tries, .int .i64 c.said, .int .i64 c.asks] 44 (0, 0))]) rfl rfl Cltake_sz3 (i := 1) rfl rfl (le rfl) rfl rfl ?_
          refine Run.to_end ?_
          refine Ex.go ?_
          refine Tr.seq ?_
          refine Tr.region ?_
          refine Run.val (lt rfl) (Y.move rfl) ?_
          refine Run.val (lt rfl) (Y.fieldAddr rfl Cltake_fo36_5) ?_
          refine Run.val (lt rfl) (Y.load rfl Cltake_ts33 (Kn.at 0 rfl) rfl) ?_
          refine Run.val (lt rfl) (Y.nilCheck rfl) ?_
          refine Run.val (lt rfl) (Y.fieldAddr rfl Cltake_fo44_4) ?_
          refine Run.store (s := [(bc, .cells #[.string c.name, hv, .int .i64 2, .int .u32 c.xid, .int .u32 p.yi, .int .u32 c.server, .int .i64 c.until_, .int .i64 c.one, .int .i64 c.two, .bool c.due, .int .i64 c.tries, .int .i64 c.said, .int .i64 c.asks] 44 (0, 0))]) rfl rfl Cltake_sz33 (i := 1) rfl rfl (le rfl) rfl rfl ?_
          refine Run.to_end ?_
          refine Ex.go ?_
          refine Tr.seq ?_
          refine Tr.region ?_
          refine Run.val (lt rfl) (Y.move rfl) ?_
          refine Run.val (lt rfl) (Y.loadAgg rfl Cltake_ag36 (Kn.at 0 rfl) rfl) ?_
          refine Run.val (lt rfl) (Y.fieldAddr rfl Cltake_fo36_6) ?_
          refine Run.val (lt rfl) (Y.load rfl Cltake_ts33 (Kn.at 0 rfl) rfl) ?_
          refine Run.val (lt rfl) (Y.conv (p.si) rfl Cltake_it33_3 (wrap_i64 (by omega))) ?_
          refine Run.call0 (l := [.tmp 104, .const (.int .i64 54), .tmp 107]) rfl rfl rfl (lt rfl) (rnum_h hp hf) ?_
          refine Run.val (lt rfl) (Y.conv (Pc.num p 54 p.si) rfl Cltake_it3_33 (wrap_u32 (by omega))) ?_
          refine Run.val (lt rfl) (Y.nilCheck rfl) ?_
          refine Run.val (lt rfl) (Y.fieldAddr rfl Cltake_fo44_5) ?_
          refine Run.store (s := [(bc, .cells #[.string c.name, hv, .int .i64 2, .int .u32 c.xid, .int .u32 p.yi, .int .u32 (Pc.num p 54 p.si), .int .i64 c.until_, .int .i64 c.one, .int .i64 c.two, .bool c.due, .int .i64 c.tries, .int .i64 c.said, .int .i64 c.asks] 44 (0, 0))]) rfl rfl Cltake_sz33 (i := 1) rfl rfl (le rfl) rfl rfl ?_
          refine Run.to_end ?_
          refine Ex.go ?_
          refine Tr.seq ?_
          refine Tr.region ?_
          refine Run.val (lt rfl) (Y.move rfl) ?_
          refine Run.val (lt rfl) (Y.nilCheck rfl) ?_
          refine Run.val (lt rfl) (Y.fieldAddr rfl Cltake_fo44_10) ?_
          refine Run.store (s := [(bc, .cells #[.string c.name, hv, .int .i64 2, .int .u32 c.xid, .int .u32 p.yi, .int .u32 (Pc.num p 54 p.si), .int .i64 c.until_, .int .i64 c.one, .int .i64 c.two, .bool c.due, .int .i64 0, .int .i64 c.said, .int .i64 c.asks] 44 (0, 0))]) rfl rfl Cltake_sz3 (i := 1) rfl rfl (le rfl) rfl rfl ?_
          refine Run.to_end ?_
          refine Ex.go ?_
          refine Tr.seq ?_
          refine Tr.region ?_
          refine Run.val (lt rfl) (Y.move rfl) ?_
          refine Run.val (lt rfl) (Y.nilCheck rfl) ?_
          refine Run.val (lt rfl) (Y.fieldAddr rfl Cltake_fo44_9) ?_
          refine Run.store (s := [(bc, .cells #[.string c.name, hv, .int .i64 2, .int .u32 c.xid, .int .u32 p.yi, .int .u32 (Pc.num p 54 p.si), .int .i64 c.until_, .int .i64 c.one, .int .i64 c.two, .bool true, .int .i64 0, .int .i64 c.said, .int .i64 c.asks] 44 (0, 0))]) rfl rfl Cltake_sz4 (i := 1) rfl rfl (le rfl) rfl rfl ?_
          refine Run.to_end ?_
          refine Ex.go ?_
          refine Tr.seq ?_
          refine Tr.region ?_
          refine Run.val (lt rfl) (Y.assign rfl) ?_
          refine Run.to_end ?_
          refine Ex.go ?_
          refine Tr.to_ret ?_
          refine Ex.ret_block ?_
          refine Ex.ret_then ?_
          refine Ex.keep [1] ?_
          have e := Cli.take_o h2 h3 (by omega) (of_decide_eq_false h8) (of_decide_eq_true h14)
          exact Ex.ret1 rfl rfl  ⟨rfl, by rw [e.1], by rw [e.2]; try rfl⟩
         ·have g14 := h14
          try simp only [kb] at g14
          refine Tr.cond_f rfl h14 ?_
          refine Tr.to_end ?_
          refine Ex.end_block ?_
          refine Ex.go ?_
          refine Tr.seq ?_
          refine Tr.region ?_
          refine Run.val (lt rfl) (Y.assign rfl) ?_
          refine Run.to_end ?_
          refine Ex.go ?_
          refine Tr.to_ret ?_
          refine Ex.keep [1] ?_
          have e := Cli.take_6 h2 h3 (by omega) (of_decide_eq_false h8) (of_decide_eq_false h14) (by rintro ⟨h, _⟩; omega) (by rintro ⟨h, _⟩; omega)
          exact Ex.ret1 rfl rfl  ⟨rfl, by rw [e.1], by rw [e.2]; try rfl⟩
       ·have g11 := h11
        try simp only [kb] at g11
        refine Tr.cond_f rfl h11 ?_
        refine Tr.seq ?_
        refine Tr.region ?_
        refine Run.val (lt rfl) (Y.int rfl rfl rfl) ?_
        refine Run.val (lt rfl) (Y.assign rfl) ?_
        refine Run.to_end ?_
        refine Ex.go ?_
        rcases Bool.eq_false_or_eq_true ((Pc.kind p) == 5) with h15 | h15
        ·have g15 := h15
         try simp only [kb] at g15
         refine Tr.cond_t rfl h15 ?_
         refine Tr.cut V [[(b1, .cells #[.int .i64 p.op, .int .u32 p.xid, .int .i64 p.secs, .int .i64 p.flags, .int .u32 p.ci, .int .u32 p.yi, .int .u32 p.si, .int .u32 p.gi, hv2, ov] 36 (0, 0))], [(bc, .cells #[.string c.name, hv, .int .i64 c.state, .int .u32 c.xid, .int .u32 c.addr, .int .u32 c.server, .int .i64 c.until_, .int .i64 c.one, .int .i64 c.two, .bool c.due, .int .i64 c.tries, .int .i64 c.said, .int .i64 c.asks] 44 (0, 0))]] [(0, .pointer (some ⟨bc, 0, none⟩)), (4, .pointer (some ⟨b1, 0, none⟩)), (9, .int .i64 (Pc.num p 51 0)), (147, .bool (decide (Cli.acked c p)))] ?_ ?_
         ·refine Tr.quiet Cltake_mo (by kernel_rfl) ?_
          refine RunQ.val (lt rfl) (Y.move rfl) ?_
          refine RunQ.val (lt rfl) (Y.move rfl) ?_
          rcases Bool.eq_false_or_eq_true (Cli.asking c) with h16 | h16
          ·have g16 := h16
           try simp only [kb] at g16
           refine RunQ.on rfl rfl rfl h16 ?_
           refine RunQ.val (lt rfl) (Y.move rfl) ?_
           refine RunQ.on rfl rfl rfl h16 ?_
           refine RunQ.val (lt rfl) (Y.nilCheck rfl) ?_
           refine RunQ.on rfl rfl rfl h16 ?_
           refine RunQ.val (lt rfl) (Y.fieldAddr rfl Cltake_fo44_2) ?_
           refine RunQ.on rfl rfl rfl h16 ?_
           refine RunQ.val (lt rfl) (Y.load rfl Cltake_ts3 (Kn.at 1 rfl) rfl) ?_
           refine RunQ.on rfl rfl rfl h16 ?_
           refine RunQ.val (lt rfl) (Y.int rfl rfl rfl) ?_
           refine RunQ.on rfl rfl rfl h16 ?_
           refine RunQ.val (lt rfl) (Y.move rfl) ?_
           rcases Bool.eq_false_or_eq_true (c.state != 2) with h17 | h17
           ·have g17 := h17
            try simp only [kb] at g17
            refine RunQ.off rfl rfl rfl h17 rfl (lt rfl) ?_
            refine RunQ.off rfl rfl rfl h17 rfl (lt rfl) ?_
            refine RunQ.off rfl rfl rfl h17 rfl (lt rfl) ?_
            refine RunQ.off rfl rfl rfl h17 rfl (lt rfl) ?_
            refine RunQ.off rfl rfl rfl h17 rfl (lt rfl) ?_
            refine RunQ.on rfl rfl rfl h16 ?_
            refine RunQ.val (lt rfl) (Y.pick_t rfl h17 rfl) ?_
            refine RunQ.val (lt rfl) (Y.pick_t rfl h16 rfl) ?_
            refine RunQ.val (lt rfl) (Y.move rfl) ?_
            refine RunQ.on rfl rfl rfl rfl ?_
            refine RunQ.val (lt rfl) (Y.fieldAddr rfl Cltake_fo36_5) ?_
            refine RunQ.on rfl rfl rfl rfl ?_
            refine RunQ.val (lt rfl) (Y.load rfl Cltake_ts33 (Kn.at 0 rfl) rfl) ?_
            refine RunQ.on rfl rfl rfl rfl ?_
            refine RunQ.val (lt rfl) (Y.move rfl) ?_
            refine RunQ.on rfl rfl rfl rfl ?_
            refine RunQ.val (lt rfl) (Y.nilCheck rfl) ?_
            refine RunQ.on rfl rfl rfl rfl ?_
            refine RunQ.val (lt rfl) (Y.fieldAddr rfl Cltake_fo44_4) ?_
            refine RunQ.on rfl rfl rfl rfl ?_
            refine RunQ.val (lt rfl) (Y.load rfl Cltake_ts33 (Kn.at 1 rfl) rfl) ?_
            refine RunQ.on rfl rfl rfl rfl ?_
            refine RunQ.val (lt rfl) (Y.int rfl rfl rfl) ?_
            refine RunQ.val (lt rfl) (Y.pick_t rfl rfl rfl) ?_
            refine RunQ.val (lt rfl) (Y.move rfl) ?_
            rcases Bool.eq_false_or_eq_true (p.yi == c.addr) with h18 | h18
            ·have g18 := h18
             try simp only [kb] at g18
             refine RunQ.on rfl rfl rfl h18 ?_
             refine RunQ.val (lt rfl) (Y.move rfl) ?_
             refine RunQ.on rfl rfl rfl h18 ?_
             refine RunQ.val (lt rfl) (Y.int rfl rfl rfl) ?_
             refine RunQ.val (lt rfl) (Y.pick_t rfl h18 rfl) ?_
             refine RunQ.to_end ?_
             exact Ex.cut rfl (subB_cons (by first | rfl | exact congrArg (fun z => some (Value.int _ z)) (by omega) | exact congrArg (fun b => some (Value.bool b)) (by rw [Bool.eq_iff_iff, decide_eq_true_eq, decide_eq_true_eq]; exact ⟨fun h => ⟨by omega, h16, (by by_cases hs2 : c.state = 2; exact .inr (by omega); have e1 := Cli.ask_iff.1 h16; exact .inl (Cli.hold_y (by omega))), by omega, h⟩, fun h => h.2.2.2.2⟩)) (subB_cons (by first | rfl | exact congrArg (fun z => some (Value.int _ z)) (by omega) | exact congrArg (fun b => some (Value.bool b)) (by rw [Bool.eq_iff_iff, decide_eq_true_eq, decide_eq_true_eq]; exact ⟨fun h => ⟨by omega, h16, (by by_cases hs2 : c.state = 2; exact .inr (by omega); have e1 := Cli.ask_iff.1 h16; exact .inl (Cli.hold_y (by omega))), by omega, h⟩, fun h => h.2.2.2.2⟩)) (subB_cons (by first | rfl | exact congrArg (fun z => some (Value.int _ z)) (by omega) | exact congrArg (fun b => some (Value.bool b)) (by rw [Bool.eq_iff_iff, decide_eq_true_eq, decide_eq_true_eq]; exact ⟨fun h => ⟨by omega, h16, (by by_cases hs2 : c.state = 2; exact .inr (by omega); have e1 := Cli.ask_iff.1 h16; exact .inl (Cli.hold_y (by omega))), by omega, h⟩, fun h => h.2.2.2.2⟩)) (subB_cons (by first | rfl | exact congrArg (fun z => some (Value.int _ z)) (by omega) | exact congrArg (fun b => some (Value.bool b)) (by rw [Bool.eq_iff_iff, decide_eq_true_eq, decide_eq_true_eq]; exact ⟨fun h => ⟨by omega, h16, (by by_cases hs2 : c.state = 2; exact .inr (by omega); have e1 := Cli.ask_iff.1 h16; exact .inl (Cli.hold_y (by omega))), by omega, h⟩, fun h => h.2.2.2.2⟩)) (subB_nil _)))))
            ·have g18 := h18
             try simp only [kb] at g18
             refine RunQ.off rfl rfl rfl h18 rfl (lt rfl) ?_
             refine RunQ.off rfl rfl rfl h18 rfl (lt rfl) ?_
             refine RunQ.val (lt rfl) (Y.pick_f rfl h18 rfl) ?_
             refine RunQ.to_end ?_
             exact Ex.cut rfl (subB_cons (by first | rfl | exact congrArg (fun z => some (Value.int _ z)) (by omega) | exact congrArg (fun b => some (Value.bool b)) ((decide_eq_false (show ¬ Cli.acked c p from (by rintro ⟨h1, h2, h3, h4, h5⟩; have e1 := Cli.ask_iff.1 h2; rcases h3 with h3 | h3 <;> (try have e2 := Cli.hold_iff.1 h3) <;> (first | omega | (exfalso; simp_all; done) | (exfalso; simp_all; omega))))).symm)) (subB_cons (by first | rfl | exact congrArg (fun z => some (Value.int _ z)) (by omega) | exact congrArg (fun b => some (Value.bool b)) ((decide_eq_false (show ¬ Cli.acked c p from (by rintro ⟨h1, h2, h3, h4, h5⟩; have e1 := Cli.ask_iff.1 h2; rcases h3 with h3 | h3 <;> (try have e2 := Cli.hold_iff.1 h3) <;> (first | omega | (exfalso; simp_all; done) | (exfalso; simp_all; omega))))).symm)) (subB_cons (by first | rfl | exact congrArg (fun z => some (Value.int _ z)) (by omega) | exact congrArg (fun b => some (Value.bool b)) ((decide_eq_false (show ¬ Cli.acked c p from (by rintro ⟨h1, h2, h3, h4, h5⟩; have e1 := Cli.ask_iff.1 h2; rcases h3 with h3 | h3 <;> (try have e2 := Cli.hold_iff.1 h3) <;> (first | omega | (exfalso; simp_all; done) | (exfalso; simp_all; omega))))).symm)) (subB_cons (by first | rfl | exact congrArg (fun z => some (Value.int _ z)) (by omega) | exact congrArg (fun b => some (Value.bool b)) ((decide_eq_false (show ¬ Cli.acked c p from (by rintro ⟨h1, h2, h3, h4, h5⟩; have e1 := Cli.ask_iff.1 h2; rcases h3 with h3 | h3 <;> (try have e2 := Cli.hold_iff.1 h3) <;> (first | omega | (exfalso; simp_all; done) | (exfalso; simp_all; omega))))).symm)) (subB_nil _)))))
           ·have g17 := h17
            try simp only [kb] at g17
            refine RunQ.on rfl rfl rfl h17 ?_
            refine RunQ.val (lt rfl) (Y.move rfl) ?_
            refine RunQ.on rfl rfl rfl h17 ?_
            refine RunQ.val (lt rfl) (Y.nilCheck rfl) ?_
            refine RunQ.on rfl rfl rfl h17 ?_
            refine RunQ.val (lt rfl) (Y.fieldAddr rfl Cltake_fo44_10) ?_
            refine RunQ.on rfl rfl rfl h17 ?_
            refine RunQ.val (lt rfl) (Y.load rfl Cltake_ts3 (Kn.at 1 rfl) rfl) ?_
            refine RunQ.on rfl rfl rfl h17 ?_
            refine RunQ.val (lt rfl) (Y.int rfl rfl rfl) ?_
            refine RunQ.on rfl rfl rfl h16 ?_
            refine RunQ.val (lt rfl) (Y.pick_f rfl h17 rfl) ?_
            refine RunQ.val (lt rfl) (Y.pick_t rfl h16 rfl) ?_
            refine RunQ.val (lt rfl) (Y.move rfl) ?_
            rcases Bool.eq_false_or_eq_true (decide (c.tries > 0)) with h19 | h19
            ·have g19 := h19
             try simp only [kb] at g19
             refine RunQ.on rfl rfl rfl h19 ?_
             refine RunQ.val (lt rfl) (Y.fieldAddr rfl Cltake_fo36_5) ?_
             refine RunQ.on rfl rfl rfl h19 ?_
             refine RunQ.val (lt rfl) (Y.load rfl Cltake_ts33 (Kn.at 0 rfl) rfl) ?_
             refine RunQ.on rfl rfl rfl h19 ?_
             refine RunQ.val (lt rfl) (Y.move rfl) ?_
             refine RunQ.on rfl rfl rfl h19 ?_
             refine RunQ.val (lt rfl) (Y.nilCheck rfl) ?_
             refine RunQ.on rfl rfl rfl h19 ?_
             refine RunQ.val (lt rfl) (Y.fieldAddr rfl Cltake_fo44_4) ?_
             refine RunQ.on rfl rfl rfl h19 ?_
             refine RunQ.val (lt rfl) (Y.load rfl Cltake_ts33 (Kn.at 1 rfl) rfl) ?_
             refine RunQ.on rfl rfl rfl h19 ?_
             refine RunQ.val (lt rfl) (Y.int rfl rfl rfl) ?_
             refine RunQ.val (lt rfl) (Y.pick_t rfl h19 rfl) ?_
             refine RunQ.val (lt rfl) (Y.move rfl) ?_
             rcases Bool.eq_false_or_eq_true (p.yi == c.addr) with h20 | h20
             ·have g20 := h20
              try simp only [kb] at g20
              refine RunQ.on rfl rfl rfl h20 ?_
              refine RunQ.val (lt rfl) (Y.move rfl) ?_
              refine RunQ.on rfl rfl rfl h20 ?_
              refine RunQ.val (lt rfl) (Y.int rfl rfl rfl) ?_
              refine RunQ.val (lt rfl) (Y.pick_t rfl h20 rfl) ?_
              refine RunQ.to_end ?_
              exact Ex.cut rfl (subB_cons (by first | rfl | exact congrArg (fun z => some (Value.int _ z)) (by omega) | exact congrArg (fun b => some (Value.bool b)) (by rw [Bool.eq_iff_iff, decide_eq_true_eq, decide_eq_true_eq]; exact ⟨fun h => ⟨by omega, h16, (by by_cases hs2 : c.state = 2; exact .inr (by omega); have e1 := Cli.ask_iff.1 h16; exact .inl (Cli.hold_y (by omega))), by omega, h⟩, fun h => h.2.2.2.2⟩)) (subB_cons (by first | rfl | exact congrArg (fun z => some (Value.int _ z)) (by omega) | exact congrArg (fun b => some (Value.bool b)) (by rw [Bool.eq_iff_iff, decide_eq_true_eq, decide_eq_true_eq]; exact ⟨fun h => ⟨by omega, h16, (by by_cases hs2 : c.state = 2; exact .inr (by omega); have e1 := Cli.ask_iff.1 h16; exact .inl (Cli.hold_y (by omega))), by omega, h⟩, fun h => h.2.2.2.2⟩)) (subB_cons (by first | rfl | exact congrArg (fun z => some (Value.int _ z)) (by omega) | exact congrArg (fun b => some (Value.bool b)) (by rw [Bool.eq_iff_iff, decide_eq_true_eq, decide_eq_true_eq]; exact ⟨fun h => ⟨by omega, h16, (by by_cases hs2 : c.state = 2; exact .inr (by omega); have e1 := Cli.ask_iff.1 h16; exact .inl (Cli.hold_y (by omega))), by omega, h⟩, fun h => h.2.2.2.2⟩)) (subB_cons (by first | rfl | exact congrArg (fun z => some (Value.int _ z)) (by omega) | exact congrArg (fun b => some (Value.bool b)) (by rw [Bool.eq_iff_iff, decide_eq_true_eq, decide_eq_true_eq]; exact ⟨fun h => ⟨by omega, h16, (by by_cases hs2 : c.state = 2; exact .inr (by omega); have e1 := Cli.ask_iff.1 h16; exact .inl (Cli.hold_y (by omega))), by omega, h⟩, fun h => h.2.2.2.2⟩)) (subB_nil _)))))
             ·have g20 := h20
              try simp only [kb] at g20
              refine RunQ.off rfl rfl rfl h20 rfl (lt rfl) ?_
              refine RunQ.off rfl rfl rfl h20 rfl (lt rfl) ?_
              refine RunQ.val (lt rfl) (Y.pick_f rfl h20 rfl) ?_
              refine RunQ.to_end ?_
              exact Ex.cut rfl (subB_cons (by first | rfl | exact congrArg (fun z => some (Value.int _ z)) (by omega) | exact congrArg (fun b => some (Value.bool b)) ((decide_eq_false (show ¬ Cli.acked c p from (by rintro ⟨h1, h2, h3, h4, h5⟩; have e1 := Cli.ask_iff.1 h2; rcases h3 with h3 | h3 <;> (try have e2 := Cli.hold_iff.1 h3) <;> (first | omega | (exfalso; simp_all; done) | (exfalso; simp_all; omega))))).symm)) (subB_cons (by first | rfl | exact congrArg (fun z => some (Value.int _ z)) (by omega) | exact congrArg (fun b => some (Value.bool b)) ((decide_eq_false (show ¬ Cli.acked c p from (by rintro ⟨h1, h2, h3, h4, h5⟩; have e1 := Cli.ask_iff.1 h2; rcases h3 with h3 | h3 <;> (try have e2 := Cli.hold_iff.1 h3) <;> (first | omega | (exfalso; simp_all; done) | (exfalso; simp_all; omega))))).symm)) (subB_cons (by first | rfl | exact congrArg (fun z => some (Value.int _ z)) (by omega) | exact congrArg (fun b => some (Value.bool b)) ((decide_eq_false (show ¬ Cli.acked c p from (by rintro ⟨h1, h2, h3, h4, h5⟩; have e1 := Cli.ask_iff.1 h2; rcases h3 with h3 | h3 <;> (try have e2 := Cli.hold_iff.1 h3) <;> (first | omega | (exfalso; simp_all; done) | (exfalso; simp_all; omega))))).symm)) (subB_cons (by first | rfl | exact congrArg (fun z => some (Value.int _ z)) (by omega) | exact congrArg (fun b => some (Value.bool b)) ((decide_eq_false (show ¬ Cli.acked c p from (by rintro ⟨h1, h2, h3, h4, h5⟩; have e1 := Cli.ask_iff.1 h2; rcases h3 with h3 | h3 <;> (try have e2 := Cli.hold_iff.1 h3) <;> (first | omega | (exfalso; simp_all; done) | (exfalso; simp_all; omega))))).symm)) (subB_nil _)))))
            ·have g19 := h19
             try simp only [kb] at g19
             refine RunQ.off rfl rfl rfl h19 rfl (lt rfl) ?_
             refine RunQ.off rfl rfl rfl h19 rfl (lt rfl) ?_
             refine RunQ.off rfl rfl rfl h19 rfl (lt rfl) ?_
             refine RunQ.off rfl rfl rfl h19 rfl (lt rfl) ?_
             refine RunQ.off rfl rfl rfl h19 rfl (lt rfl) ?_
             refine RunQ.off rfl rfl rfl h19 rfl (lt rfl) ?_
             refine RunQ.off rfl rfl rfl h19 rfl (lt rfl) ?_
             refine RunQ.val (lt rfl) (Y.pick_f rfl h19 rfl) ?_
             refine RunQ.val (lt rfl) (Y.move rfl) ?_
             refine RunQ.off rfl rfl rfl rfl rfl (lt rfl) ?_
             refine RunQ.off rfl rfl rfl rfl rfl (lt rfl) ?_
             refine RunQ.val (lt rfl) (Y.pick_f rfl rfl rfl) ?_
             refine RunQ.to_end ?_
             exact Ex.cut rfl (subB_cons (by first | rfl | exact congrArg (fun z => some (Value.int _ z)) (by omega) | exact congrArg (fun b => some (Value.bool b)) ((decide_eq_false (show ¬ Cli.acked c p from (by rintro ⟨h1, h2, h3, h4, h5⟩; have e1 := Cli.ask_iff.1 h2; rcases h3 with h3 | h3 <;> (try have e2 := Cli.hold_iff.1 h3) <;> (first | omega | (exfalso; simp_all; done) | (exfalso; simp_all; omega))))).symm)) (subB_cons (by first | rfl | exact congrArg (fun z => some (Value.int _ z)) (by omega) | exact congrArg (fun b => some (Value.bool b)) ((decide_eq_false (show ¬ Cli.acked c p from (by rintro ⟨h1, h2, h3, h4, h5⟩; have e1 := Cli.ask_iff.1 h2; rcases h3 with h3 | h3 <;> (try have e2 := Cli.hold_iff.1 h3) <;> (first | omega | (exfalso; simp_all; done) | (exfalso; simp_all; omega))))).symm)) (subB_cons (by first | rfl | exact congrArg (fun z => some (Value.int _ z)) (by omega) | exact congrArg (fun b => some (Value.bool b)) ((decide_eq_false (show ¬ Cli.acked c p from (by rintro ⟨h1, h2, h3, h4, h5⟩; have e1 := Cli.ask_iff.1 h2; rcases h3 with h3 | h3 <;> (try have e2 := Cli.hold_iff.1 h3) <;> (first | omega | (exfalso; simp_all; done) | (exfalso; simp_all; omega))))).symm)) (subB_cons (by first | rfl | exact congrArg (fun z => some (Value.int _ z)) (by omega) | exact congrArg (fun b => some (Value.bool b)) ((decide_eq_false (show ¬ Cli.acked c p from (by rintro ⟨h1, h2, h3, h4, h5⟩; have e1 := Cli.ask_iff.1 h2; rcases h3 with h3 | h3 <;> (try have e2 := Cli.hold_iff.1 h3) <;> (first | omega | (exfalso; simp_all; done) | (exfalso; simp_all; omega))))).symm)) (subB_nil _)))))
          ·have g16 := h16
           try simp only [kb] at g16
           refine RunQ.off rfl rfl rfl h16 rfl (lt rfl) ?_
           refine RunQ.off rfl rfl rfl h16 rfl (lt rfl) ?_
           refine RunQ.off rfl rfl rfl h16 rfl (lt rfl) ?_
           refine RunQ.off rfl rfl rfl h16 rfl (lt rfl) ?_
           refine RunQ.off rfl rfl rfl h16 rfl (lt rfl) ?_
           refine RunQ.off rfl rfl rfl h16 rfl (lt rfl) ?_
           refine RunQ.off_u rfl rfl rfl rfl (lt rfl) ?_
           refine RunQ.off_u rfl rfl rfl rfl (lt rfl) ?_
           refine RunQ.off_u rfl rfl rfl rfl (lt rfl) ?_
           refine RunQ.off_u rfl rfl rfl rfl (lt rfl) ?_
           refine RunQ.off_u rfl rfl rfl rfl (lt rfl) ?_
           refine RunQ.off rfl rfl rfl h16 rfl (lt rfl) ?_
           refine RunQ.val (lt rfl) (Y.pick_f rfl h16 rfl) ?_
           refine RunQ.val (lt rfl) (Y.move rfl) ?_
           refine RunQ.off rfl rfl rfl rfl rfl (lt rfl) ?_
           refine RunQ.off rfl rfl rfl rfl rfl (lt rfl) ?_
           refine RunQ.off rfl rfl rfl rfl rfl (lt rfl) ?_
           refine RunQ.off rfl rfl rfl rfl rfl (lt rfl) ?_
           refine RunQ.off rfl rfl rfl rfl rfl (lt rfl) ?_
           refine RunQ.off rfl rfl rfl rfl rfl (lt rfl) ?_
           refine RunQ.off rfl rfl rfl rfl rfl (lt rfl) ?_
           refine RunQ.val (lt rfl) (Y.pick_f rfl rfl rfl) ?_
           refine RunQ.val (lt rfl) (Y.move rfl) ?_
           refine RunQ.off rfl rfl rfl rfl rfl (lt rfl) ?_
           refine RunQ.off rfl rfl rfl rfl rfl (lt rfl) ?_
           refine RunQ.val (lt rfl) (Y.pick_f rfl rfl rfl) ?_
           refine RunQ.to_end ?_
           exact Ex.cut rfl (subB_cons (by first | rfl | exact congrArg (fun z => some (Value.int _ z)) (by omega) | exact congrArg (fun b => some (Value.bool b)) ((decide_eq_false (show ¬ Cli.acked c p from (by rintro ⟨h1, h2, h3, h4, h5⟩; have e1 := Cli.ask_iff.1 h2; rcases h3 with h3 | h3 <;> (try have e2 := Cli.hold_iff.1 h3) <;> (first | omega | (exfalso; simp_all; done) | (exfalso; simp_all; omega))))).symm)) (subB_cons (by first | rfl | exact congrArg (fun z => some (Value.int _ z)) (by omega) | exact congrArg (fun b => some (Value.bool b)) ((decide_eq_false (show ¬ Cli.acked c p from (by rintro ⟨h1, h2, h3, h4, h5⟩; have e1 := Cli.ask_iff.1 h2; rcases h3 with h3 | h3 <;> (try have e2 := Cli.hold_iff.1 h3) <;> (first | omega | (exfalso; simp_all; done) | (exfalso; simp_all; omega))))).symm)) (subB_cons (by first | rfl | exact congrArg (fun z => some (Value.int _ z)) (by omega) | exact congrArg (fun b => some (Value.bool b)) ((decide_eq_false (show ¬ Cli.acked c p from (by rintro ⟨h1, h2, h3, h4, h5⟩; have e1 := Cli.ask_iff.1 h2; rcases h3 with h3 | h3 <;> (try have e2 := Cli.hold_iff.1 h3) <;> (first | omega | (exfalso; simp_all; done) | (exfalso; simp_all; omega))))).symm)) (subB_cons (by first | rfl | exact congrArg (fun z => some (Value.int _ z)) (by omega) | exact congrArg (fun b => some (Value.bool b)) ((decide_eq_false (show ¬ Cli.acked c p from (by rintro ⟨h1, h2, h3, h4, h5⟩; have e1 := Cli.ask_iff.1 h2; rcases h3 with h3 | h3 <;> (try have e2 := Cli.hold_iff.1 h3) <;> (first | omega | (exfalso; simp_all; done) | (exfalso; simp_all; omega))))).symm)) (subB_nil _)))))
         ·rcases Bool.eq_false_or_eq_true (decide (Cli.acked c p)) with h21 | h21
          ·have g21 := h21
           try simp only [kb] at g21
           refine Tr.cond_t rfl h21 ?_
           refine Tr.seq ?_
           refine Tr.region ?_
           refine Run.val (lt rfl) (Y.move rfl) ?_
           refine Run.val (lt rfl) (Y.nilCheck rfl) ?_
           refine Run.val (lt rfl) (Y.fieldAddr rfl Cltake_fo44_2) ?_
           refine Run.store (s := [(bc, .cells #[.string c.name, hv, .int .i64 3, .int .u32 c.xid, .int .u32 c.addr, .int .u32 c.server, .int .i64 c.until_, .int .i64 c.one, .int .i64 c.two, .bool c.due, .int .i64 c.tries, .int .i64 c.said, .int .i64 c.asks] 44 (0, 0))]) rfl rfl Cltake_sz3 (i := 1) rfl rfl (le rfl) rfl rfl ?_
           refine Run.to_end ?_
           refine Ex.go ?_
           refine Tr.seq ?_
           refine Tr.region ?_
           refine Run.val (lt rfl) (Y.move rfl) ?_
           refine Run.val (lt rfl) (Y.move rfl) ?_
           refine Run.val (lt rfl) (Y.nilCheck rfl) ?_
           refine Run.val (lt rfl) (Y.fieldAddr rfl Cltake_fo44_12) ?_
           refine Run.val (lt rfl) (Y.load rfl Cltake_ts3 (Kn.at 1 rfl) rfl) ?_
           refine Run.val (lt rfl) (Y.move rfl) ?_
           refine Run.val (lt rfl) (Y.add rfl rfl (by omega)) ?_
           refine Run.val (lt rfl) (Y.nilCheck rfl) ?_
           refine Run.val (lt rfl) (Y.fieldAddr rfl Cltake_fo44_6) ?_
           refine Run.store (s := [(bc, .cells #[.string c.name, hv, .int .i64 3, .int .u32 c.xid, .int .u32 c.addr, .int .u32 c.server, .int .i64 (c.asks + (Pc.num p 51 0)), .int .i64 c.one, .int .i64 c.two, .bool c.due, .int .i64 c.tries, .int .i64 c.said, .int .i64 c.asks] 44 (0, 0))]) rfl rfl Cltake_sz3 (i := 1) rfl rfl (le rfl) rfl rfl ?_
           refine Run.to_end ?_
           refine Ex.go ?_
           refine Tr.seq ?_
           refine Tr.tail 11 Cltake_mo (by kernel_rfl) ?_
           refine RunQ.val (lt rfl) (Y.move rfl) ?_
           refine RunQ.val (lt rfl) (Y.move rfl) ?_
           refine RunQ.val (lt rfl) (Y.nilCheck rfl) ?_
           refine RunQ.val (lt rfl) (Y.fieldAddr rfl Cltake_fo44_12) ?_
           refine RunQ.val (lt rfl) (Y.load rfl Cltake_ts3 (Kn.at 1 rfl) rfl) ?_
           refine RunQ.val (lt rfl) (Y.loadAgg rfl Cltake_ag36 (Kn.at 0 rfl) rfl) ?_
           refine RunQ.val (lt rfl) (Y.move rfl) ?_
           refine RunQ.val (lt rfl) (Y.quo (Pc.num p 51 0 / 2) rfl rfl (by decide) (by rw [Int.tdiv_eq_ediv_of_nonneg h51.1]; exact wrap_i64 (by omega))) ?_
           refine RunQ.call0 (l := [.tmp 165, .const (.int .i64 58), .tmp 167]) rfl rfl rfl (lt rfl) (rnum_h hp hf) ?_
           refine RunQ.val (lt rfl) (Y.add rfl rfl (by omega)) ?_
           refine RunQ.val (lt rfl) (Y.nilCheck rfl) ?_
           refine RunQ.nil_run ?_
           refine Run.val (lt rfl) (Y.fieldAddr rfl Cltake_fo44_7) ?_
           refine Run.store (s := [(bc, .cells #[.string c.name, hv, .int .i64 3, .int .u32 c.xid, .int .u32 c.addr, .int .u32 c.server, .int .i64 (c.asks + (Pc.num p 51 0)), .int .i64 (c.asks + (Pc.num p 58 (Pc.num p 51 0 / 2))), .int .i64 c.two, .bool c.due, .int .i64 c.tries, .int .i64 c.said, .int .i64 c.asks] 44 (0, 0))]) rfl rfl Cltake_sz3 (i := 1) rfl rfl (le rfl) rfl rfl ?_
           refine Run.to_end ?_
           refine Ex.go ?_
           refine Tr.seq ?_
           refine Tr.tail 13 Cltake_mo (by kernel_rfl) ?_
           refine RunQ.val (lt rfl) (Y.move rfl) ?_
           refine RunQ.val (lt rfl) (Y.move rfl) ?_
           refine RunQ.val (lt rfl) (Y.nilCheck rfl) ?_
           refine RunQ.val (lt rfl) (Y.fieldAddr rfl Cltake_fo44_12) ?_
           refine RunQ.val (lt rfl) (Y.load rfl Cltake_ts3 (Kn.at 1 rfl) rfl) ?_
           refine RunQ.val (lt rfl) (Y.loadAgg rfl Cltake_ag36 (Kn.at 0 rfl) rfl) ?_
           refine RunQ.val (lt rfl) (Y.move rfl) ?_
           refine RunQ.val (lt rfl) (Y.move rfl) ?_
           refine RunQ.val (lt rfl) (Y.quo (Pc.num p 51 0 / 8) rfl rfl (by decide) (by rw [Int.tdiv_eq_ediv_of_nonneg h51.1]; exact wrap_i64 (by omega))) ?_
           refine RunQ.val (lt rfl) (Y.sub rfl rfl (by omega)) ?_
           refine RunQ.call0 (l := [.tmp 177, .const (.int .i64 59), .tmp 181]) rfl rfl rfl (lt rfl) (rnum_h hp hf) ?_
           refine RunQ.val (lt rfl) (Y.add rfl rfl (by omega)) ?_
           refine RunQ.val (lt rfl) (Y.nilCheck rfl) ?_
           refine RunQ.nil_run ?_
           refine Run.val (lt rfl) (Y.fieldAddr rfl Cltake_fo44_8) ?_
           refine Run.store (s := [(bc, .cells #[.string c.name, hv, .int .i64 3, .int .u32 c.xid, .int .u32 c.addr, .int .u32 c.server, .int .i64 (c.asks + (Pc.num p 51 0)), .int .i64 (c.asks + (Pc.num p 58 (Pc.num p 51 0 / 2))), .int .i64 (c.asks + (Pc.num p 59 ((Pc.num p 51 0) - (Pc.num p 51 0 / 8)))), .bool c.due, .int .i64 c.tries, .int .i64 c.said, .int .i64 c.asks] 44 (0, 0))]) rfl rfl Cltake_sz3 (i := 1) rfl rfl (le rfl) rfl rfl ?_
           refine Run.to_end ?_
           refine Ex.go ?_
           refine Tr.seq ?_
           refine Tr.region ?_
           refine Run.val (lt rfl) (Y.move rfl) ?_
           refine Run.val (lt rfl) (Y.nilCheck rfl) ?_
           refine Run.val (lt rfl) (Y.fieldAddr rfl Cltake_fo44_9) ?_
           refine Run.store (s := [(bc, .cells #[.string c.name, hv, .int .i64 3, .int .u32 c.xid, .int .u32 c.addr, .int .u32 c.server, .int .i64 (c.asks + (Pc.num p 51 0)), .int .i64 (c.asks + (Pc.num p 58 (Pc.num p 51 0 / 2))), .int .i64 (c.asks + (Pc.num p 59 ((Pc.num p 51 0) - (Pc.num p 51 0 / 8)))), .bool false, .int .i64 c.tries, .int .i64 c.said, .int .i64 c.asks] 44 (0, 0))]) rfl rfl Cltake_sz4 (i := 1) rfl rfl (le rfl) rfl rfl ?_
           refine Run.to_end ?_
           refine Ex.go ?_
           refine Tr.seq ?_
           refine Tr.region ?_
           refine Run.val (lt rfl) (Y.assign rfl) ?_
           refine Run.to_end ?_
           refine Ex.go ?_
           refine Tr.to_ret ?_
           refine Ex.ret_block ?_
           refine Ex.ret_then ?_
           refine Ex.keep [1] ?_
           have e := Cli.take_a h2 h3 (by omega) (of_decide_eq_false h8) (by rintro ⟨h, _⟩; omega) (of_decide_eq_true h21)
           exact Ex.ret1 rfl rfl  ⟨rfl, by rw [e.1], by rw [e.2]; try rfl⟩
          ·have g21 := h21
           try simp only [kb] at g21
           refine Tr.cond_f rfl h21 ?_
           refine Tr.to_end ?_
           refine Ex.end_block ?_
           refine Ex.go ?_
           refine Tr.seq ?_
           refine Tr.region ?_
           refine Run.val (lt rfl) (Y.assign rfl) ?_
           refine Run.to_end ?_
           refine Ex.go ?_
           refine Tr.to_ret ?_
           refine Ex.keep [1] ?_
           have e := Cli.take_6 h2 h3 (by omega) (of_decide_eq_false h8) (by rintro ⟨h, _⟩; omega) (of_decide_eq_false h21) (by rintro ⟨h, _⟩; omega)
           exact Ex.ret1 rfl rfl  ⟨rfl, by rw [e.1], by rw [e.2]; try rfl⟩
        ·have g15 := h15
         try simp only [kb] at g15
         refine Tr.cond_f rfl h15 ?_
         refine Tr.seq ?_
         refine Tr.region ?_
         refine Run.val (lt rfl) (Y.int rfl rfl rfl) ?_
         refine Run.val (lt rfl) (Y.assign rfl) ?_
         refine Run.to_end ?_
         refine Ex.go ?_
         rcases Bool.eq_false_or_eq_true ((Pc.kind p) == 6) with h22 | h22
         ·have g22 := h22
          try simp only [kb] at g22
          refine Tr.cond_t rfl h22 ?_
          refine Tr.seq ?_
          refine Tr.region ?_
          refine Run.val (lt rfl) (Y.move rfl) ?_
          refine Run.to_end ?_
          refine Ex.go ?_
          rcases Bool.eq_false_or_eq_true (Cli.asking c) with h23 | h23
          ·have g23 := h23
           try simp only [kb] at g23
           refine Tr.cond_t rfl h23 ?_
           refine Tr.seq ?_
           refine Tr.region ?_
           refine Run.val (lt rfl) (Y.move rfl) ?_
           refine Run.call [1] (l := [.tmp 192, .const (.int .i64 0)]) rfl rfl rfl (lt rfl) (rdrop_c (c := c)) (fun v24 V2 H2 _ hR => ?_)
           obtain ⟨hV, rfl, rfl⟩ := hR; replace hV := hV.symm; subst hV
           refine Run.to_end ?_
           refine Ex.go ?_
           refine Tr.seq ?_
           refine Tr.region ?_
           refine Run.val (lt rfl) (Y.assign rfl) ?_
           refine Run.to_end ?_
           refine Ex.go ?_
           refine Tr.to_ret ?_
           refine Ex.ret_block ?_
           refine Ex.ret_then ?_
           refine Ex.keep [1] ?_
           have e := Cli.take_k h2 h3 (by omega) (of_decide_eq_false h8) (by rintro ⟨h, _⟩; omega) (by rintro ⟨h, _⟩; omega) ⟨by omega, h23⟩
           exact Ex.ret1 rfl rfl  ⟨rfl, by rw [e.1], by rw [e.2]; try rfl⟩
          ·have g23 := h23
           try simp only [kb] at g23
           refine Tr.cond_f rfl h23 ?_
           refine Tr.to_end ?_
           refine Ex.end_block ?_
           refine Ex.go ?_
           refine Tr.seq ?_
           refine Tr.region ?_
           refine Run.val (lt rfl) (Y.assign rfl) ?_
           refine Run.to_end ?_
           refine Ex.go ?_
           refine Tr.to_ret ?_
           refine Ex.keep [1] ?_
           have e := Cli.take_6 h2 h3 (by omega) (of_decide_eq_false h8) (by rintro ⟨h, _⟩; omega) (by rintro ⟨h, _⟩; omega) (by rintro ⟨h1, h2⟩; first | omega | (rw [h23] at h2; cases h2))
           exact Ex.ret1 rfl rfl  ⟨rfl, by rw [e.1], by rw [e.2]; try rfl⟩
         ·have g22 := h22
          try simp only [kb] at g22
          refine Tr.cond_f rfl h22 ?_
          refine Tr.to_end ?_
          refine Ex.end_block ?_
          refine Ex.go ?_
          refine Tr.seq ?_
          refine Tr.region ?_
          refine Run.val (lt rfl) (Y.assign rfl) ?_
          refine Run.to_end ?_
          refine Ex.go ?_
          refine Tr.to_ret ?_
          refine Ex.keep [1] ?_
          have e := Cli.take_6 h2 h3 (by omega) (of_decide_eq_false h8) (by rintro ⟨h, _⟩; omega) (by rintro ⟨h, _⟩; omega) (by rintro ⟨h, _⟩; omega)
          exact Ex.ret1 rfl rfl  ⟨rfl, by rw [e.1], by rw [e.2]; try rfl⟩
  ·have g3 := h3
   try simp only [kb] at g3
   refine Run.off rfl rfl rfl (congrArg Bool.not h3) rfl (lt rfl) ?_
   refine Run.off rfl rfl rfl (congrArg Bool.not h3) rfl (lt rfl) ?_
   refine Run.off rfl rfl rfl (congrArg Bool.not h3) rfl (lt rfl) ?_
   refine Run.val (lt rfl) (Y.pick_t rfl (congrArg Bool.not h3) rfl) ?_
   refine Run.to_end ?_
   refine Ex.go ?_
   refine Tr.cond_t rfl rfl ?_
   refine Tr.seq ?_
   refine Tr.region ?_
   refine Run.val (lt rfl) (Y.assign rfl) ?_
   refine Run.to_end ?_
   refine Ex.go ?_
   refine Tr.to_ret ?_
   refine Ex.ret_then ?_
   refine Ex.keep [1] ?_
   have e := Cli.take_2 (c := c) h2 (fun q => by rw [q.1] at h3; cases h3)
   exact Ex.ret1 rfl rfl  ⟨rfl, by rw [e.1], by rw [e.2]; try rfl⟩
 ·have g2 := h2
  try simp only [kb] at g2
  refine Tr.cond_t rfl (congrArg Bool.not h2) ?_
  refine Tr.seq ?_
  refine Tr.region ?_
  refine Run.val (lt rfl) (Y.assign rfl) ?_
  refine Run.to_end ?_
  refine Ex.go ?_
  refine Tr.to_ret ?_
  refine Ex.ret_then ?_
  refine Ex.keep [1] ?_
  have e := Cli.take_1 (c := c) (p := p) h2
  exact Ex.ret1 rfl rfl  ⟨rfl, by rw [e.1], by rw [e.2]; try rfl⟩
end Go.Proofs.Ytelahacalnmilaa
