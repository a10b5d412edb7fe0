/- What the functions of contact, and of its reference, do.
Conditions: as each theorem names them. -/
import Derived.Test.YtahgaaomioffhaaProg
import Derived.Test.YtahgaaomioffhaaC1
import Derived.Test.YtahgaaomioffhaaK14
import Derived.Test.YtahgaaomioffhaaM8
import Derived.Test.YtahgaaomioffhaaMessage
import Derived.Test.YtahgaaomioffhaaRef04
set_option linter.unusedSimpArgs false
set_option linter.unusedVariables false
set_option maxRecDepth 4000
namespace Go.Proofs.Ytahgaaomioffhaa
open Go Go.K
attribute [local irreducible] Code.wp wpList Calls wpQuiet
theorem Contact_fo95_4 : fieldOff Try.prog 95 4 = some 6 := by kernel_rfl
theorem Contact_ts4 : scal Try.prog 4 = true := by kernel_rfl
theorem Contact_fo95_0 : fieldOff Try.prog 95 0 = some 0 := by kernel_rfl
theorem Contact_fo93_0 : fieldOff Try.prog 93 0 = some 0 := by kernel_rfl
theorem Contact_ts3 : scal Try.prog 3 = true := by kernel_rfl
theorem Contact_fo93_2 : fieldOff Try.prog 93 2 = some 2 := by kernel_rfl
theorem Contact_fo37_0 : fieldOff Try.prog 37 0 = some 0 := by kernel_rfl
theorem Contact_mo : Try.prog.follows .mixedOrders = true := by kernel_rfl
theorem Contact_fo37_1 : fieldOff Try.prog 37 1 = some 1 := by kernel_rfl
theorem Contact_fo37_3 : fieldOff Try.prog 37 3 = some 3 := by kernel_rfl
theorem Contact_fo93_1 : fieldOff Try.prog 93 1 = some 1 := by kernel_rfl
theorem Contact_fo37_2 : fieldOff Try.prog 37 2 = some 2 := by kernel_rfl
theorem Contact_fo95_1 : fieldOff Try.prog 95 1 = some 3 := by kernel_rfl
theorem Contact_fo56_1 : fieldOff Try.prog 56 1 = some 1 := by kernel_rfl
theorem Contact_fo56_0 : fieldOff Try.prog 56 0 = some 0 := by kernel_rfl
theorem Contact_fo56_6 : fieldOff Try.prog 56 6 = some 6 := by kernel_rfl
theorem Contact_fo56_3 : fieldOff Try.prog 56 3 = some 3 := by kernel_rfl
theorem Contact_zo37 : zeroOf Try.prog 37 = some (.agg #[.int .i64 0, .int .i64 0, .int .i64 0, .int .i64 0, .int .i64 0, .int .u32 0, .int .i64 0, .string ⟨#[]⟩, .int .i64 0, .int .i64 0, .bool false]) := by kernel_rfl
theorem Contact_sz3 : sizeT Try.prog 3 = some 1 := by kernel_rfl
theorem Contact_ag37 : aggsz Try.prog 37 = some 11 := by kernel_rfl
theorem Contact_sz37 : sizeT Try.prog 37 = some 11 := by kernel_rfl
theorem Contact_zo95 : zeroOf Try.prog 95 = some (.agg #[.int .i64 0, .int .i64 0, .int .i64 0, .int .i64 0, .int .i64 0, .int .i64 0, .bool false]) := by kernel_rfl
theorem Contact_pl95 : placesS Try.prog 95 = some [(0, 3), (3, 1), (4, 1), (5, 1), (6, 1)] := by kernel_rfl
theorem Contact_zo56 : zeroOf Try.prog 56 = some (.agg #[.int .i64 0, .int .i64 0, .int .i64 0, .int .i64 0, .int .i64 0, .int .i64 0, .bool false]) := by kernel_rfl
theorem Contact_pl56 : placesS Try.prog 56 = some [(0, 1), (1, 1), (2, 1), (3, 1), (4, 1), (5, 1), (6, 1)] := by kernel_rfl
theorem Contact_pl37 : placesS Try.prog 37 = some [(0, 1), (1, 1), (2, 1), (3, 1), (4, 1), (5, 1), (6, 1), (7, 1), (8, 1), (9, 1), (10, 1)] := by kernel_rfl
theorem Contact_fo95_2 : fieldOff Try.prog 95 2 = some 4 := by kernel_rfl
theorem Contact_fo56_2 : fieldOff Try.prog 56 2 = some 2 := by kernel_rfl
theorem Contact_fo95_3 : fieldOff Try.prog 95 3 = some 5 := by kernel_rfl
theorem Contact_ag93 : aggsz Try.prog 93 = some 3 := by kernel_rfl
theorem Contact_zo93 : zeroOf Try.prog 93 = some (.agg #[.int .i64 0, .int .i64 0, .int .i64 0]) := by kernel_rfl
theorem Contact_sz93 : sizeT Try.prog 93 = some 3 := by kernel_rfl
theorem Contact_fo37_4 : fieldOff Try.prog 37 4 = some 4 := by kernel_rfl
theorem Contact_pl93 : placesS Try.prog 93 = some [(0, 1), (1, 1), (2, 1)] := by kernel_rfl
theorem Contact_sz4 : sizeT Try.prog 4 = some 1 := by kernel_rfl
theorem Contact_fo56_5 : fieldOff Try.prog 56 5 = some 5 := by kernel_rfl
theorem Contact_fo56_4 : fieldOff Try.prog 56 4 = some 4 := by kernel_rfl

theorem moment_c0 {n : Int} {V : Vw} : Does Try.prog 59 [.int .i64 n] V [] (Pv (.bool (Con.moment n)) V []) := by
  refine Does.intro Try.func59 rfl rfl (le rfl) (fun B => ?_)
  refine Tr.seq ?_
  refine Tr.region ?_
  refine Run.val (lt rfl) (Y.assign rfl) ?_
  refine Run.to_end ?_
  refine Ex.go ?_
  refine Tr.seq ?_
  refine Tr.region ?_
  refine Run.val (lt rfl) (Y.move rfl) ?_
  refine Run.val (lt rfl) (Y.int rfl rfl rfl) ?_
  refine Run.val (lt rfl) (Y.move rfl) ?_
  rcases Bool.eq_false_or_eq_true (decide (n ≥ 0)) with h1 | h1
  · have g1 := h1
    try simp only [kb] at g1
    refine Run.on rfl rfl rfl h1 ?_
    refine Run.val (lt rfl) (Y.move rfl) ?_
    refine Run.on rfl rfl rfl h1 ?_
    refine Run.val (lt rfl) (Y.int rfl rfl rfl) ?_
    refine Run.val (lt rfl) (Y.pick_t rfl h1 rfl) ?_
    refine Run.val (lt rfl) (Y.assign rfl) ?_
    refine Run.to_end ?_
    refine Ex.go ?_
    refine Tr.to_ret ?_
    exact Ex.ret1 rfl rfl  ⟨by unfold Con.moment; simp_all <;> omega, rfl, rfl⟩
  · have g1 := h1
    try simp only [kb] at g1
    refine Run.off rfl rfl rfl h1 rfl (lt rfl) ?_
    refine Run.off rfl rfl rfl h1 rfl (lt rfl) ?_
    refine Run.val (lt rfl) (Y.pick_f rfl h1 rfl) ?_
    refine Run.val (lt rfl) (Y.assign rfl) ?_
    refine Run.to_end ?_
    refine Ex.go ?_
    refine Tr.to_ret ?_
    exact Ex.ret1 rfl rfl  ⟨by unfold Con.moment; simp_all <;> omega, rfl, rfl⟩

theorem moment_c0_h {n : Int} {V : Vw} {H : Hp} : Does Try.prog 59 [.int .i64 n] V H (Pv (.bool (Con.moment n)) V H) := moment_c0.frame

theorem up_c {V : Vw} {H : Hp} {bc : Nat} {c : Con}  (hk : Kn V H bc (.cells c.a 95 (0, 0)))  : Does Try.prog 28 [.pointer (some ⟨bc, 0, none⟩)] V H (Pv (.bool c.up) V H) := by
  refine Does.intro Try.func28 rfl rfl (le rfl) (fun B => ?_)
  refine Tr.seq ?_
  refine Tr.region ?_
  refine Run.val (lt rfl) (Y.assign rfl) ?_
  refine Run.to_end ?_
  refine Ex.go ?_
  refine Tr.seq ?_
  refine Tr.region ?_
  refine Run.val (lt rfl) (Y.move rfl) ?_
  refine Run.val (lt rfl) (Y.nilCheck rfl) ?_
  refine Run.val (lt rfl) (Y.fieldAddr rfl Contact_fo95_4) ?_
  refine Run.val (lt rfl) (Y.load rfl Contact_ts4 hk rfl) ?_
  refine Run.val (lt rfl) (Y.assign rfl) ?_
  refine Run.to_end ?_
  refine Ex.go ?_
  refine Tr.to_ret ?_
  exact Ex.ret1 rfl rfl  ⟨rfl, rfl, rfl⟩

theorem other_c {V : Vw} {H : Hp} {bc : Nat} {c : Con}  (hk : Kn V H bc (.cells c.a 95 (0, 0)))  : Does Try.prog 29 [.pointer (some ⟨bc, 0, none⟩)] V H (Pv (.int .i64 c.known) V H) := by
  refine Does.intro Try.func29 rfl rfl (le rfl) (fun B => ?_)
  refine Tr.seq ?_
  refine Tr.region ?_
  refine Run.val (lt rfl) (Y.assign rfl) ?_
  refine Run.to_end ?_
  refine Ex.go ?_
  refine Tr.seq ?_
  refine Tr.region ?_
  refine Run.val (lt rfl) (Y.move rfl) ?_
  refine Run.val (lt rfl) (Y.nilCheck rfl) ?_
  refine Run.val (lt rfl) (Y.fieldAddr rfl Contact_fo95_0) ?_
  refine Run.val (lt rfl) (Y.fieldAddr rfl Contact_fo93_0) ?_
  refine Run.val (lt rfl) (Y.load rfl Contact_ts3 hk rfl) ?_
  refine Run.val (lt rfl) (Y.assign rfl) ?_
  refine Run.to_end ?_
  refine Ex.go ?_
  refine Tr.to_ret ?_
  exact Ex.ret1 rfl rfl  ⟨rfl, rfl, rfl⟩

theorem state_c {V : Vw} {H : Hp} {bc : Nat} {c : Con}  (hk : Kn V H bc (.cells c.a 95 (0, 0)))  : Does Try.prog 30 [.pointer (some ⟨bc, 0, none⟩)] V H (Pv (.int .i64 c.st) V H) := by
  refine Does.intro Try.func30 rfl rfl (le rfl) (fun B => ?_)
  refine Tr.seq ?_
  refine Tr.region ?_
  refine Run.val (lt rfl) (Y.assign rfl) ?_
  refine Run.to_end ?_
  refine Ex.go ?_
  refine Tr.seq ?_
  refine Tr.region ?_
  refine Run.val (lt rfl) (Y.move rfl) ?_
  refine Run.val (lt rfl) (Y.nilCheck rfl) ?_
  refine Run.val (lt rfl) (Y.fieldAddr rfl Contact_fo95_0) ?_
  refine Run.val (lt rfl) (Y.fieldAddr rfl Contact_fo93_2) ?_
  refine Run.val (lt rfl) (Y.load rfl Contact_ts3 hk rfl) ?_
  refine Run.val (lt rfl) (Y.assign rfl) ?_
  refine Run.to_end ?_
  refine Ex.go ?_
  refine Tr.to_ret ?_
  exact Ex.ret1 rfl rfl  ⟨rfl, rfl, rfl⟩

theorem fits_c {V : Vw} {H : Hp} {bc : Nat} {c : Con} {m : Msg} (hk : Kn V H bc (.cells c.a 95 (0, 0)))  : Does Try.prog 60 [.pointer (some ⟨bc, 0, none⟩), .agg #[.int .i64 m.kind, .int .i64 m.life, .int .i64 m.seen, .int .i64 m.xid, .int .i64 m.state, .int .u32 m.addr, .int .i64 m.bind, .string m.client, .int .i64 m.pot, .int .i64 m.at_, .bool m.ok]] V H (Pv (.bool (Con.fits c m)) V H) := by
  refine Does.intro Try.func60 rfl rfl (le rfl) (fun B => ?_)
  refine Tr.seq ?_
  refine Tr.region ?_
  refine Run.box rfl (lt rfl) (fun b1 => ?_)
  refine Run.val (lt rfl) (Y.assign rfl) ?_
  refine Run.to_end ?_
  refine Ex.go ?_
  refine Tr.seq ?_
  refine Tr.seq ?_
  refine Tr.region ?_
  refine Run.val (lt rfl) (Y.fieldAddr rfl Contact_fo37_0) ?_
  refine Run.val (lt rfl) (Y.load rfl Contact_ts3 (Kn.at 0 rfl) rfl) ?_
  refine Run.val (lt rfl) (Y.int rfl rfl rfl) ?_
  refine Run.to_end ?_
  refine Ex.go ?_
  rcases Bool.eq_false_or_eq_true (m.kind == 1) with h2 | h2
  · have g2 := h2
    try simp only [kb] at g2
    refine Tr.cond_t rfl h2 ?_
    refine Tr.seq ?_
    refine Tr.quiet Contact_mo (by kernel_rfl) ?_
    refine RunQ.val (lt rfl) (Y.fieldAddr rfl Contact_fo37_1) ?_
    refine RunQ.val (lt rfl) (Y.load rfl Contact_ts3 (Kn.at 0 rfl) rfl) ?_
    refine RunQ.val (lt rfl) (Y.move rfl) ?_
    refine RunQ.val (lt rfl) (Y.nilCheck rfl) ?_
    refine RunQ.val (lt rfl) (Y.fieldAddr rfl Contact_fo95_0) ?_
    refine RunQ.val (lt rfl) (Y.fieldAddr rfl Contact_fo93_0) ?_
    refine RunQ.val (lt rfl) (Y.load rfl Contact_ts3 hk.cons rfl) ?_
    refine RunQ.val (lt rfl) (Y.int rfl rfl rfl) ?_
    refine RunQ.val (lt rfl) (Y.move rfl) ?_
    rcases Bool.eq_false_or_eq_true (decide (m.life > c.known)) with h3 | h3
    · have g3 := h3
      try simp only [kb] at g3
      refine RunQ.off rfl rfl rfl h3 rfl (lt rfl) ?_
      refine RunQ.off rfl rfl rfl h3 rfl (lt rfl) ?_
      refine RunQ.off rfl rfl rfl h3 rfl (lt rfl) ?_
      refine RunQ.off rfl rfl rfl h3 rfl (lt rfl) ?_
      refine RunQ.off rfl rfl rfl h3 rfl (lt rfl) ?_
      refine RunQ.off rfl rfl rfl h3 rfl (lt rfl) ?_
      refine RunQ.off rfl rfl rfl h3 rfl (lt rfl) ?_
      refine RunQ.off rfl rfl rfl h3 rfl (lt rfl) ?_
      refine RunQ.off rfl rfl rfl h3 rfl (lt rfl) ?_
      refine RunQ.off_u rfl rfl rfl rfl (lt rfl) ?_
      refine RunQ.off_u rfl rfl rfl rfl (lt rfl) ?_
      refine RunQ.off_u rfl rfl rfl rfl (lt rfl) ?_
      refine RunQ.off_u rfl rfl rfl rfl (lt rfl) ?_
      refine RunQ.off_u rfl rfl rfl rfl (lt rfl) ?_
      refine RunQ.off_u rfl rfl rfl rfl (lt rfl) ?_
      refine RunQ.off_u rfl rfl rfl rfl (lt rfl) ?_
      refine RunQ.off_u rfl rfl rfl rfl (lt rfl) ?_
      refine RunQ.off rfl rfl rfl h3 rfl (lt rfl) ?_
      refine RunQ.val (lt rfl) (Y.pick_t rfl h3 rfl) ?_
      refine RunQ.val (lt rfl) (Y.assign rfl) ?_
      refine RunQ.to_end ?_
      refine Ex.go ?_
      refine Tr.to_ret ?_
      refine Ex.ret_then ?_
      refine Ex.drop ?_
      exact Ex.ret1 rfl rfl  ⟨by rw [show Con.fits c m = (true) from by unfold Con.fits; rw [if_pos g2]; simp only [h3, Bool.true_and, Bool.false_and, Bool.true_or, Bool.false_or, Bool.and_true, Bool.and_false, Bool.or_true, Bool.or_false, Bool.not_true, Bool.not_false]], rfl, rfl⟩
    · have g3 := h3
      try simp only [kb] at g3
      refine RunQ.on rfl rfl rfl h3 ?_
      refine RunQ.val (lt rfl) (Y.fieldAddr rfl Contact_fo37_1) ?_
      refine RunQ.on rfl rfl rfl h3 ?_
      refine RunQ.val (lt rfl) (Y.load rfl Contact_ts3 (Kn.at 0 rfl) rfl) ?_
      refine RunQ.on rfl rfl rfl h3 ?_
      refine RunQ.val (lt rfl) (Y.move rfl) ?_
      refine RunQ.on rfl rfl rfl h3 ?_
      refine RunQ.val (lt rfl) (Y.nilCheck rfl) ?_
      refine RunQ.on rfl rfl rfl h3 ?_
      refine RunQ.val (lt rfl) (Y.fieldAddr rfl Contact_fo95_0) ?_
      refine RunQ.on rfl rfl rfl h3 ?_
      refine RunQ.val (lt rfl) (Y.fieldAddr rfl Contact_fo93_0) ?_
      refine RunQ.on rfl rfl rfl h3 ?_
      refine RunQ.val (lt rfl) (Y.load rfl Contact_ts3 hk.cons rfl) ?_
      refine RunQ.on rfl rfl rfl h3 ?_
      refine RunQ.val (lt rfl) (Y.int rfl rfl rfl) ?_
      refine RunQ.on rfl rfl rfl h3 ?_
      refine RunQ.val (lt rfl) (Y.move rfl) ?_
      rcases Bool.eq_false_or_eq_true (m.life == c.known) with h4 | h4
      · have g4 := h4
        try simp only [kb] at g4
        refine RunQ.on rfl rfl rfl h4 ?_
        refine RunQ.val (lt rfl) (Y.fieldAddr rfl Contact_fo37_3) ?_
        refine RunQ.on rfl rfl rfl h4 ?_
        refine RunQ.val (lt rfl) (Y.load rfl Contact_ts3 (Kn.at 0 rfl) rfl) ?_
        refine RunQ.on rfl rfl rfl h4 ?_
        refine RunQ.val (lt rfl) (Y.move rfl) ?_
        refine RunQ.on rfl rfl rfl h4 ?_
        refine RunQ.val (lt rfl) (Y.nilCheck rfl) ?_
        refine RunQ.on rfl rfl rfl h4 ?_
        refine RunQ.val (lt rfl) (Y.fieldAddr rfl Contact_fo95_0) ?_
        refine RunQ.on rfl rfl rfl h4 ?_
        refine RunQ.val (lt rfl) (Y.fieldAddr rfl Contact_fo93_1) ?_
        refine RunQ.on rfl rfl rfl h4 ?_
        refine RunQ.val (lt rfl) (Y.load rfl Contact_ts3 hk.cons rfl) ?_
        refine RunQ.on rfl rfl rfl h4 ?_
        refine RunQ.val (lt rfl) (Y.int rfl rfl rfl) ?_
        refine RunQ.on rfl rfl rfl h3 ?_
        refine RunQ.val (lt rfl) (Y.pick_t rfl h4 rfl) ?_
        refine RunQ.val (lt rfl) (Y.pick_f rfl h3 rfl) ?_
        refine RunQ.val (lt rfl) (Y.assign rfl) ?_
        refine RunQ.to_end ?_
        refine Ex.go ?_
        refine Tr.to_ret ?_
        refine Ex.ret_then ?_
        refine Ex.drop ?_
        exact Ex.ret1 rfl rfl  ⟨by rw [show Con.fits c m = (decide (m.xid > c.hello)) from by unfold Con.fits; rw [if_pos g2]; simp only [h3, h4, Bool.true_and, Bool.false_and, Bool.true_or, Bool.false_or, Bool.and_true, Bool.and_false, Bool.or_true, Bool.or_false, Bool.not_true, Bool.not_false]], rfl, rfl⟩
      · have g4 := h4
        try simp only [kb] at g4
        refine RunQ.off rfl rfl rfl h4 rfl (lt rfl) ?_
        refine RunQ.off rfl rfl rfl h4 rfl (lt rfl) ?_
        refine RunQ.off rfl rfl rfl h4 rfl (lt rfl) ?_
        refine RunQ.off rfl rfl rfl h4 rfl (lt rfl) ?_
        refine RunQ.off rfl rfl rfl h4 rfl (lt rfl) ?_
        refine RunQ.off rfl rfl rfl h4 rfl (lt rfl) ?_
        refine RunQ.off rfl rfl rfl h4 rfl (lt rfl) ?_
        refine RunQ.off rfl rfl rfl h4 rfl (lt rfl) ?_
        refine RunQ.on rfl rfl rfl h3 ?_
        refine RunQ.val (lt rfl) (Y.pick_f rfl h4 rfl) ?_
        refine RunQ.val (lt rfl) (Y.pick_f rfl h3 rfl) ?_
        refine RunQ.val (lt rfl) (Y.assign rfl) ?_
        refine RunQ.to_end ?_
        refine Ex.go ?_
        refine Tr.to_ret ?_
        refine Ex.ret_then ?_
        refine Ex.drop ?_
        exact Ex.ret1 rfl rfl  ⟨by rw [show Con.fits c m = (false) from by unfold Con.fits; rw [if_pos g2]; simp only [h3, h4, Bool.true_and, Bool.false_and, Bool.true_or, Bool.false_or, Bool.and_true, Bool.and_false, Bool.or_true, Bool.or_false, Bool.not_true, Bool.not_false]], rfl, rfl⟩
  · have g2 := h2
    try simp only [kb] at g2
    refine Tr.cond_f rfl h2 ?_
    refine Tr.to_end ?_
    refine Ex.go ?_
    refine Tr.seq ?_
    refine Tr.quiet Contact_mo (by kernel_rfl) ?_
    refine RunQ.val (lt rfl) (Y.move rfl) ?_
    refine RunQ.val (lt rfl) (Y.nilCheck rfl) ?_
    refine RunQ.val (lt rfl) (Y.fieldAddr rfl Contact_fo95_4) ?_
    refine RunQ.val (lt rfl) (Y.load rfl Contact_ts4 hk.cons rfl) ?_
    refine RunQ.val (lt rfl) (Y.move rfl) ?_
    rcases Bool.eq_false_or_eq_true (c.up) with h5 | h5
    · have g5 := h5
      try simp only [kb] at g5
      refine RunQ.on rfl rfl rfl h5 ?_
      refine RunQ.val (lt rfl) (Y.fieldAddr rfl Contact_fo37_1) ?_
      refine RunQ.on rfl rfl rfl h5 ?_
      refine RunQ.val (lt rfl) (Y.load rfl Contact_ts3 (Kn.at 0 rfl) rfl) ?_
      refine RunQ.on rfl rfl rfl h5 ?_
      refine RunQ.val (lt rfl) (Y.move rfl) ?_
      refine RunQ.on rfl rfl rfl h5 ?_
      refine RunQ.val (lt rfl) (Y.nilCheck rfl) ?_
      refine RunQ.on rfl rfl rfl h5 ?_
      refine RunQ.val (lt rfl) (Y.fieldAddr rfl Contact_fo95_0) ?_
      refine RunQ.on rfl rfl rfl h5 ?_
      refine RunQ.val (lt rfl) (Y.fieldAddr rfl Contact_fo93_0) ?_
      refine RunQ.on rfl rfl rfl h5 ?_
      refine RunQ.val (lt rfl) (Y.load rfl Contact_ts3 hk.cons rfl) ?_
      refine RunQ.on rfl rfl rfl h5 ?_
      refine RunQ.val (lt rfl) (Y.int rfl rfl rfl) ?_
      refine RunQ.val (lt rfl) (Y.pick_t rfl h5 rfl) ?_
      refine RunQ.val (lt rfl) (Y.move rfl) ?_
      rcases Bool.eq_false_or_eq_true (m.life == c.known) with h6 | h6
      · have g6 := h6
        try simp only [kb] at g6
        refine RunQ.on rfl rfl rfl h6 ?_
        refine RunQ.val (lt rfl) (Y.fieldAddr rfl Contact_fo37_2) ?_
        refine RunQ.on rfl rfl rfl h6 ?_
        refine RunQ.val (lt rfl) (Y.load rfl Contact_ts3 (Kn.at 0 rfl) rfl) ?_
        refine RunQ.on rfl rfl rfl h6 ?_
        refine RunQ.val (lt rfl) (Y.move rfl) ?_
        refine RunQ.on rfl rfl rfl h6 ?_
        refine RunQ.val (lt rfl) (Y.nilCheck rfl) ?_
        refine RunQ.on rfl rfl rfl h6 ?_
        refine RunQ.val (lt rfl) (Y.fieldAddr rfl Contact_fo95_1) ?_
        refine RunQ.on rfl rfl rfl h6 ?_
        refine RunQ.val (lt rfl) (Y.load rfl Contact_ts3 hk.cons rfl) ?_
        refine RunQ.on rfl rfl rfl h6 ?_
        refine RunQ.val (lt rfl) (Y.int rfl rfl rfl) ?_
        refine RunQ.val (lt rfl) (Y.pick_t rfl h6 rfl) ?_
        refine RunQ.val (lt rfl) (Y.assign rfl) ?_
        refine RunQ.to_end ?_
        refine Ex.go ?_
        refine Tr.to_ret ?_
        refine Ex.drop ?_
        exact Ex.ret1 rfl rfl  ⟨by rw [show Con.fits c m = (m.seen == c.mine) from by unfold Con.fits; rw [if_neg g2]; simp only [h5, h6, Bool.true_and, Bool.false_and, Bool.true_or, Bool.false_or, Bool.and_true, Bool.and_false, Bool.or_true, Bool.or_false, Bool.not_true, Bool.not_false]], rfl, rfl⟩
      · have g6 := h6
        try simp only [kb] at g6
        refine RunQ.off rfl rfl rfl h6 rfl (lt rfl) ?_
        refine RunQ.off rfl rfl rfl h6 rfl (lt rfl) ?_
        refine RunQ.off rfl rfl rfl h6 rfl (lt rfl) ?_
        refine RunQ.off rfl rfl rfl h6 rfl (lt rfl) ?_
        refine RunQ.off rfl rfl rfl h6 rfl (lt rfl) ?_
        refine RunQ.off rfl rfl rfl h6 rfl (lt rfl) ?_
        refine RunQ.off rfl rfl rfl h6 rfl (lt rfl) ?_
        refine RunQ.val (lt rfl) (Y.pick_f rfl h6 rfl) ?_
        refine RunQ.val (lt rfl) (Y.assign rfl) ?_
        refine RunQ.to_end ?_
        refine Ex.go ?_
        refine Tr.to_ret ?_
        refine Ex.drop ?_
        exact Ex.ret1 rfl rfl  ⟨by rw [show Con.fits c m = (false) from by unfold Con.fits; rw [if_neg g2]; simp only [h5, h6, Bool.true_and, Bool.false_and, Bool.true_or, Bool.false_or, Bool.and_true, Bool.and_false, Bool.or_true, Bool.or_false, Bool.not_true, Bool.not_false]], rfl, rfl⟩
    · have g5 := h5
      try simp only [kb] at g5
      refine RunQ.off rfl rfl rfl h5 rfl (lt rfl) ?_
      refine RunQ.off rfl rfl rfl h5 rfl (lt rfl) ?_
      refine RunQ.off rfl rfl rfl h5 rfl (lt rfl) ?_
      refine RunQ.off rfl rfl rfl h5 rfl (lt rfl) ?_
      refine RunQ.off rfl rfl rfl h5 rfl (lt rfl) ?_
      refine RunQ.off rfl rfl rfl h5 rfl (lt rfl) ?_
      refine RunQ.off rfl rfl rfl h5 rfl (lt rfl) ?_
      refine RunQ.off rfl rfl rfl h5 rfl (lt rfl) ?_
      refine RunQ.val (lt rfl) (Y.pick_f rfl h5 rfl) ?_
      refine RunQ.val (lt rfl) (Y.move rfl) ?_
      refine RunQ.off rfl rfl rfl rfl rfl (lt rfl) ?_
      refine RunQ.off rfl rfl rfl rfl rfl (lt rfl) ?_
      refine RunQ.off rfl rfl rfl rfl rfl (lt rfl) ?_
      refine RunQ.off rfl rfl rfl rfl rfl (lt rfl) ?_
      refine RunQ.off rfl rfl rfl rfl rfl (lt rfl) ?_
      refine RunQ.off rfl rfl rfl rfl rfl (lt rfl) ?_
      refine RunQ.off rfl rfl rfl rfl rfl (lt rfl) ?_
      refine RunQ.val (lt rfl) (Y.pick_f rfl rfl rfl) ?_
      refine RunQ.val (lt rfl) (Y.assign rfl) ?_
      refine RunQ.to_end ?_
      refine Ex.go ?_
      refine Tr.to_ret ?_
      refine Ex.drop ?_
      exact Ex.ret1 rfl rfl  ⟨by rw [show Con.fits c m = (false) from by unfold Con.fits; rw [if_neg g2]; simp only [h5, Bool.true_and, Bool.false_and, Bool.true_or, Bool.false_or, Bool.and_true, Bool.and_false, Bool.or_true, Bool.or_false, Bool.not_true, Bool.not_false]], rfl, rfl⟩

theorem old_c {V : Vw} {H : Hp} {bc : Nat} {c : Con} {m : Msg} (hk : Kn V H bc (.cells c.b 56 (0, 0)))  : Does Try.prog 72 [.pointer (some ⟨bc, 0, none⟩), .agg #[.int .i64 m.kind, .int .i64 m.life, .int .i64 m.seen, .int .i64 m.xid, .int .i64 m.state, .int .u32 m.addr, .int .i64 m.bind, .string m.client, .int .i64 m.pot, .int .i64 m.at_, .bool m.ok]] V H (Pv (.bool (!Con.fits c m)) V H) := by
  refine Does.intro Try.func72 rfl rfl (le rfl) (fun B => ?_)
  refine Tr.seq ?_
  refine Tr.region ?_
  refine Run.box rfl (lt rfl) (fun b1 => ?_)
  refine Run.val (lt rfl) (Y.assign rfl) ?_
  refine Run.to_end ?_
  refine Ex.go ?_
  refine Tr.seq ?_
  refine Tr.seq ?_
  refine Tr.quiet Contact_mo (by kernel_rfl) ?_
  refine RunQ.val (lt rfl) (Y.fieldAddr rfl Contact_fo37_1) ?_
  refine RunQ.val (lt rfl) (Y.load rfl Contact_ts3 (Kn.at 0 rfl) rfl) ?_
  refine RunQ.val (lt rfl) (Y.move rfl) ?_
  refine RunQ.val (lt rfl) (Y.nilCheck rfl) ?_
  refine RunQ.val (lt rfl) (Y.fieldAddr rfl Contact_fo56_1) ?_
  refine RunQ.val (lt rfl) (Y.load rfl Contact_ts3 hk.cons rfl) ?_
  refine RunQ.val (lt rfl) (Y.int rfl rfl rfl) ?_
  refine RunQ.to_end ?_
  refine Ex.go ?_
  rcases Bool.eq_false_or_eq_true (decide (m.life < c.known)) with h2 | h2
  · have g2 := h2
    try simp only [kb] at g2
    refine Tr.cond_t rfl h2 ?_
    refine Tr.seq ?_
    refine Tr.region ?_
    refine Run.val (lt rfl) (Y.assign rfl) ?_
    refine Run.to_end ?_
    refine Ex.go ?_
    refine Tr.to_ret ?_
    refine Ex.ret_then ?_
    refine Ex.drop ?_
    exact Ex.ret1 rfl rfl  ⟨by rw [show Con.fits c m = !(true) from by rw [Bool.eq_iff_iff]; unfold Con.fits; split <;> simp_all <;> omega]; simp, rfl, rfl⟩
  · have g2 := h2
    try simp only [kb] at g2
    refine Tr.cond_f rfl h2 ?_
    refine Tr.to_end ?_
    refine Ex.go ?_
    refine Tr.seq ?_
    refine Tr.seq ?_
    refine Tr.region ?_
    refine Run.val (lt rfl) (Y.fieldAddr rfl Contact_fo37_0) ?_
    refine Run.val (lt rfl) (Y.load rfl Contact_ts3 (Kn.at 0 rfl) rfl) ?_
    refine Run.val (lt rfl) (Y.int rfl rfl rfl) ?_
    refine Run.to_end ?_
    refine Ex.go ?_
    rcases Bool.eq_false_or_eq_true (m.kind != 1) with h3 | h3
    · have g3 := h3
      try simp only [kb] at g3
      refine Tr.cond_t rfl h3 ?_
      refine Tr.seq ?_
      refine Tr.quiet Contact_mo (by kernel_rfl) ?_
      refine RunQ.val (lt rfl) (Y.fieldAddr rfl Contact_fo37_1) ?_
      refine RunQ.val (lt rfl) (Y.load rfl Contact_ts3 (Kn.at 0 rfl) rfl) ?_
      refine RunQ.val (lt rfl) (Y.move rfl) ?_
      refine RunQ.val (lt rfl) (Y.nilCheck rfl) ?_
      refine RunQ.val (lt rfl) (Y.fieldAddr rfl Contact_fo56_1) ?_
      refine RunQ.val (lt rfl) (Y.load rfl Contact_ts3 hk.cons rfl) ?_
      refine RunQ.val (lt rfl) (Y.int rfl rfl rfl) ?_
      refine RunQ.val (lt rfl) (Y.move rfl) ?_
      rcases Bool.eq_false_or_eq_true (m.life != c.known) with h4 | h4
      · have g4 := h4
        try simp only [kb] at g4
        refine RunQ.off rfl rfl rfl h4 rfl (lt rfl) ?_
        refine RunQ.off rfl rfl rfl h4 rfl (lt rfl) ?_
        refine RunQ.off rfl rfl rfl h4 rfl (lt rfl) ?_
        refine RunQ.off rfl rfl rfl h4 rfl (lt rfl) ?_
        refine RunQ.off rfl rfl rfl h4 rfl (lt rfl) ?_
        refine RunQ.off rfl rfl rfl h4 rfl (lt rfl) ?_
        refine RunQ.off rfl rfl rfl h4 rfl (lt rfl) ?_
        refine RunQ.val (lt rfl) (Y.pick_t rfl h4 rfl) ?_
        refine RunQ.val (lt rfl) (Y.move rfl) ?_
        refine RunQ.off rfl rfl rfl rfl rfl (lt rfl) ?_
        refine RunQ.off rfl rfl rfl rfl rfl (lt rfl) ?_
        refine RunQ.off rfl rfl rfl rfl rfl (lt rfl) ?_
        refine RunQ.off rfl rfl rfl rfl rfl (lt rfl) ?_
        refine RunQ.off rfl rfl rfl rfl rfl (lt rfl) ?_
        refine RunQ.val (lt rfl) (Y.pick_t rfl rfl rfl) ?_
        refine RunQ.val (lt rfl) (Y.assign rfl) ?_
        refine RunQ.to_end ?_
        refine Ex.go ?_
        refine Tr.to_ret ?_
        refine Ex.ret_then ?_
        refine Ex.drop ?_
        exact Ex.ret1 rfl rfl  ⟨by rw [show Con.fits c m = !(true) from by rw [Bool.eq_iff_iff]; unfold Con.fits; split <;> simp_all <;> omega]; simp, rfl, rfl⟩
      · have g4 := h4
        try simp only [kb] at g4
        refine RunQ.on rfl rfl rfl h4 ?_
        refine RunQ.val (lt rfl) (Y.fieldAddr rfl Contact_fo37_2) ?_
        refine RunQ.on rfl rfl rfl h4 ?_
        refine RunQ.val (lt rfl) (Y.load rfl Contact_ts3 (Kn.at 0 rfl) rfl) ?_
        refine RunQ.on rfl rfl rfl h4 ?_
        refine RunQ.val (lt rfl) (Y.move rfl) ?_
        refine RunQ.on rfl rfl rfl h4 ?_
        refine RunQ.val (lt rfl) (Y.nilCheck rfl) ?_
        refine RunQ.on rfl rfl rfl h4 ?_
        refine RunQ.val (lt rfl) (Y.fieldAddr rfl Contact_fo56_0) ?_
        refine RunQ.on rfl rfl rfl h4 ?_
        refine RunQ.val (lt rfl) (Y.load rfl Contact_ts3 hk.cons rfl) ?_
        refine RunQ.on rfl rfl rfl h4 ?_
        refine RunQ.val (lt rfl) (Y.int rfl rfl rfl) ?_
        refine RunQ.val (lt rfl) (Y.pick_f rfl h4 rfl) ?_
        refine RunQ.val (lt rfl) (Y.move rfl) ?_
        rcases Bool.eq_false_or_eq_true (m.seen != c.mine) with h5 | h5
        · have g5 := h5
          try simp only [kb] at g5
          refine RunQ.off rfl rfl rfl h5 rfl (lt rfl) ?_
          refine RunQ.off rfl rfl rfl h5 rfl (lt rfl) ?_
          refine RunQ.off rfl rfl rfl h5 rfl (lt rfl) ?_
          refine RunQ.off rfl rfl rfl h5 rfl (lt rfl) ?_
          refine RunQ.off rfl rfl rfl h5 rfl (lt rfl) ?_
          refine RunQ.val (lt rfl) (Y.pick_t rfl h5 rfl) ?_
          refine RunQ.val (lt rfl) (Y.assign rfl) ?_
          refine RunQ.to_end ?_
          refine Ex.go ?_
          refine Tr.to_ret ?_
          refine Ex.ret_then ?_
          refine Ex.drop ?_
          exact Ex.ret1 rfl rfl  ⟨by rw [show Con.fits c m = !(true) from by rw [Bool.eq_iff_iff]; unfold Con.fits; split <;> simp_all <;> omega]; simp, rfl, rfl⟩
        · have g5 := h5
          try simp only [kb] at g5
          refine RunQ.on rfl rfl rfl h5 ?_
          refine RunQ.val (lt rfl) (Y.move rfl) ?_
          refine RunQ.on rfl rfl rfl h5 ?_
          refine RunQ.val (lt rfl) (Y.nilCheck rfl) ?_
          refine RunQ.on rfl rfl rfl h5 ?_
          refine RunQ.val (lt rfl) (Y.fieldAddr rfl Contact_fo56_6) ?_
          refine RunQ.on rfl rfl rfl h5 ?_
          refine RunQ.val (lt rfl) (Y.load rfl Contact_ts4 hk.cons rfl) ?_
          refine RunQ.on rfl rfl rfl h5 ?_
          refine RunQ.val (lt rfl) (Y.not rfl) ?_
          refine RunQ.val (lt rfl) (Y.pick_f rfl h5 rfl) ?_
          refine RunQ.val (lt rfl) (Y.assign rfl) ?_
          refine RunQ.to_end ?_
          refine Ex.go ?_
          refine Tr.to_ret ?_
          refine Ex.ret_then ?_
          refine Ex.drop ?_
          exact Ex.ret1 rfl rfl  ⟨by rw [show Con.fits c m = !(!c.up) from by rw [Bool.eq_iff_iff]; unfold Con.fits; split <;> simp_all <;> omega]; simp, rfl, rfl⟩
    · have g3 := h3
      try simp only [kb] at g3
      refine Tr.cond_f rfl h3 ?_
      refine Tr.to_end ?_
      refine Ex.go ?_
      refine Tr.seq ?_
      refine Tr.quiet Contact_mo (by kernel_rfl) ?_
      refine RunQ.val (lt rfl) (Y.fieldAddr rfl Contact_fo37_1) ?_
      refine RunQ.val (lt rfl) (Y.load rfl Contact_ts3 (Kn.at 0 rfl) rfl) ?_
      refine RunQ.val (lt rfl) (Y.move rfl) ?_
      refine RunQ.val (lt rfl) (Y.nilCheck rfl) ?_
      refine RunQ.val (lt rfl) (Y.fieldAddr rfl Contact_fo56_1) ?_
      refine RunQ.val (lt rfl) (Y.load rfl Contact_ts3 hk.cons rfl) ?_
      refine RunQ.val (lt rfl) (Y.int rfl rfl rfl) ?_
      refine RunQ.val (lt rfl) (Y.move rfl) ?_
      rcases Bool.eq_false_or_eq_true (m.life == c.known) with h6 | h6
      · have g6 := h6
        try simp only [kb] at g6
        refine RunQ.on rfl rfl rfl h6 ?_
        refine RunQ.val (lt rfl) (Y.fieldAddr rfl Contact_fo37_3) ?_
        refine RunQ.on rfl rfl rfl h6 ?_
        refine RunQ.val (lt rfl) (Y.load rfl Contact_ts3 (Kn.at 0 rfl) rfl) ?_
        refine RunQ.on rfl rfl rfl h6 ?_
        refine RunQ.val (lt rfl) (Y.move rfl) ?_
        refine RunQ.on rfl rfl rfl h6 ?_
        refine RunQ.val (lt rfl) (Y.nilCheck rfl) ?_
        refine RunQ.on rfl rfl rfl h6 ?_
        refine RunQ.val (lt rfl) (Y.fieldAddr rfl Contact_fo56_3) ?_
        refine RunQ.on rfl rfl rfl h6 ?_
        refine RunQ.val (lt rfl) (Y.load rfl Contact_ts3 hk.cons rfl) ?_
        refine RunQ.on rfl rfl rfl h6 ?_
        refine RunQ.val (lt rfl) (Y.int rfl rfl rfl) ?_
        refine RunQ.val (lt rfl) (Y.pick_t rfl h6 rfl) ?_
        refine RunQ.val (lt rfl) (Y.assign rfl) ?_
        refine RunQ.to_end ?_
        refine Ex.go ?_
        refine Tr.to_ret ?_
        refine Ex.drop ?_
        exact Ex.ret1 rfl rfl  ⟨by rw [show Con.fits c m = !(decide (m.xid ≤ c.hello)) from by rw [Bool.eq_iff_iff]; unfold Con.fits; split <;> simp_all <;> omega]; simp, rfl, rfl⟩
      · have g6 := h6
        try simp only [kb] at g6
        refine RunQ.off rfl rfl rfl h6 rfl (lt rfl) ?_
        refine RunQ.off rfl rfl rfl h6 rfl (lt rfl) ?_
        refine RunQ.off rfl rfl rfl h6 rfl (lt rfl) ?_
        refine RunQ.off rfl rfl rfl h6 rfl (lt rfl) ?_
        refine RunQ.off rfl rfl rfl h6 rfl (lt rfl) ?_
        refine RunQ.off rfl rfl rfl h6 rfl (lt rfl) ?_
        refine RunQ.off rfl rfl rfl h6 rfl (lt rfl) ?_
        refine RunQ.val (lt rfl) (Y.pick_f rfl h6 rfl) ?_
        refine RunQ.val (lt rfl) (Y.assign rfl) ?_
        refine RunQ.to_end ?_
        refine Ex.go ?_
        refine Tr.to_ret ?_
        refine Ex.drop ?_
        exact Ex.ret1 rfl rfl  ⟨by rw [show Con.fits c m = !(false) from by rw [Bool.eq_iff_iff]; unfold Con.fits; split <;> simp_all <;> omega]; simp, rfl, rfl⟩

theorem mark_c {V : Vw} {H : Hp} {bc : Nat} {c : Con} {m : Msg} (hk : Kn V H bc (.cells c.a 95 (0, 0)))  : Does Try.prog 32 [.pointer (some ⟨bc, 0, none⟩), .agg #[.int .i64 m.kind, .int .i64 m.life, .int .i64 m.seen, .int .i64 m.xid, .int .i64 m.state, .int .u32 m.addr, .int .i64 m.bind, .string m.client, .int .i64 m.pot, .int .i64 m.at_, .bool m.ok]] V H (Pv (.agg (Con.mark c m).cells) V H) := by
  refine Does.intro Try.func32 rfl rfl (le rfl) (fun B => ?_)
  refine Tr.seq ?_
  refine Tr.region ?_
  refine Run.box rfl (lt rfl) (fun b1 => ?_)
  refine Run.alloc Contact_zo37 (lt rfl) (fun b2 => ?_)
  refine Run.to_end ?_
  refine Ex.go ?_
  refine Tr.seq ?_
  refine Tr.anyD [(bc, .cells c.a 95 (0, 0))] Contact_mo ?_
  refine RunD.pure (i := 0) rfl (by kernel_rfl) (by kernel_rfl) (by kernel_rfl) (fun _ _ _ h => h) (lt rfl) (KnAll.cons hk.cons.cons KnAll.nil) (fun _ => (Y.move rfl)) ?_
  refine RunD.pure (i := 1) rfl (by kernel_rfl) (by kernel_rfl) (by kernel_rfl) (fun _ _ _ h => h) (lt rfl) (KnAll.cons hk.cons.cons KnAll.nil) (fun _ => (Y.nilCheck rfl)) ?_
  refine RunD.pure (i := 2) rfl (by kernel_rfl) (by kernel_rfl) (by kernel_rfl) (fun _ _ _ h => h) (lt rfl) (KnAll.cons hk.cons.cons KnAll.nil) (fun _ => (Y.fieldAddr rfl Contact_fo95_1)) ?_
  refine RunD.take (i := 3) 0 rfl rfl (by kernel_rfl) (by kernel_rfl) (by kernel_rfl) (fun _ _ _ h => h) (lt rfl) (KnAll.cons hk.cons.cons KnAll.nil) (fun _ => (Y.load rfl Contact_ts3 Kn.vk1 rfl)) ?_
  refine RunD.pure (i := 4) rfl (by kernel_rfl) (by kernel_rfl) (by kernel_rfl) (fun _ _ _ h => h) (lt rfl) (KnAll.cons hk.cons.cons KnAll.nil) (fun _ => (Y.move rfl)) ?_
  refine RunD.pure (i := 5) rfl (by kernel_rfl) (by kernel_rfl) (by kernel_rfl) (fun _ _ _ h => h) (lt rfl) (KnAll.cons hk.cons.cons KnAll.nil) (fun _ => (Y.nilCheck rfl)) ?_
  refine RunD.pure (i := 6) rfl (by kernel_rfl) (by kernel_rfl) (by kernel_rfl) (fun _ _ _ h => h) (lt rfl) (KnAll.cons hk.cons.cons KnAll.nil) (fun _ => (Y.fieldAddr rfl Contact_fo95_0)) ?_
  refine RunD.pure (i := 7) rfl (by kernel_rfl) (by kernel_rfl) (by kernel_rfl) (fun _ _ _ h => h) (lt rfl) (KnAll.cons hk.cons.cons KnAll.nil) (fun _ => (Y.fieldAddr rfl Contact_fo93_0)) ?_
  refine RunD.take (i := 8) 0 rfl rfl (by kernel_rfl) (by kernel_rfl) (by kernel_rfl) (fun _ _ _ h => h) (lt rfl) (KnAll.cons hk.cons.cons KnAll.nil) (fun _ => (Y.load rfl Contact_ts3 Kn.vk1 rfl)) ?_
  refine RunD.pure (i := 9) rfl (by kernel_rfl) (by kernel_rfl) (by kernel_rfl) (fun _ _ _ h => h) (lt rfl) (KnAll.cons hk.cons.cons KnAll.nil) (fun _ => (Y.fieldAddr rfl Contact_fo37_1)) ?_
  refine RunD.one (i := 10) (by kernel_rfl) rfl  ?_ 
  refine Run.store (s := [(b1, .cells #[.int .i64 m.kind, .int .i64 c.mine, .int .i64 m.seen, .int .i64 m.xid, .int .i64 m.state, .int .u32 m.addr, .int .i64 m.bind, .string m.client, .int .i64 m.pot, .int .i64 m.at_, .bool m.ok] 37 (0, 0))]) rfl rfl Contact_sz3 (i := 1) rfl rfl (le rfl) rfl rfl ?_
  refine Run.to_end ?_
  refine Ex.anyD (KnAll.cons hk.cons.cons KnAll.nil) ?_
  refine RunD.pure (i := 11) rfl (by kernel_rfl) (by kernel_rfl) (by kernel_rfl) (fun _ _ _ h => h) (lt rfl) (KnAll.cons hk.cons.cons KnAll.nil) (fun _ => (Y.fieldAddr rfl Contact_fo37_2)) ?_
  refine RunD.one (i := 12) (by kernel_rfl) rfl  ?_ 
  refine Run.store (s := [(b1, .cells #[.int .i64 m.kind, .int .i64 c.mine, .int .i64 c.known, .int .i64 m.xid, .int .i64 m.state, .int .u32 m.addr, .int .i64 m.bind, .string m.client, .int .i64 m.pot, .int .i64 m.at_, .bool m.ok] 37 (0, 0))]) rfl rfl Contact_sz3 (i := 1) rfl rfl (le rfl) rfl rfl ?_
  refine Run.to_end ?_
  refine Ex.anyD (KnAll.cons hk.cons.cons KnAll.nil) ?_
  refine RunD.done (by kernel_rfl) ?_
  refine Ex.go ?_
  refine Tr.seq ?_
  refine Tr.region ?_
  refine Run.val (lt rfl) (Y.loadAgg rfl Contact_ag37 (Kn.at 1 rfl) rfl) ?_
  refine Run.store (s := [(b2, .cells #[.int .i64 m.kind, .int .i64 c.mine, .int .i64 c.known, .int .i64 m.xid, .int .i64 m.state, .int .u32 m.addr, .int .i64 m.bind, .string m.client, .int .i64 m.pot, .int .i64 m.at_, .bool m.ok] 37 (0, 0))]) rfl rfl Contact_sz37 (i := 0) rfl rfl (le rfl) rfl rfl ?_
  refine Run.to_end ?_
  refine Ex.go ?_
  refine Tr.to_ret ?_
  exact Ex.retCellT 2 rfl rfl Contact_ag37 (Kn.at 0 rfl) rfl rfl ⟨rfl, rfl, rfl⟩

theorem rmark_c {V : Vw} {H : Hp} {bc : Nat} {c : Con} {m : Msg} (hk : Kn V H bc (.cells c.b 56 (0, 0)))  : Does Try.prog 58 [.pointer (some ⟨bc, 0, none⟩), .agg #[.int .i64 m.kind, .int .i64 m.life, .int .i64 m.seen, .int .i64 m.xid, .int .i64 m.state, .int .u32 m.addr, .int .i64 m.bind, .string m.client, .int .i64 m.pot, .int .i64 m.at_, .bool m.ok]] V H (Pv (.agg (Con.mark c m).cells) V H) := by
  refine Does.intro Try.func58 rfl rfl (le rfl) (fun B => ?_)
  refine Tr.seq ?_
  refine Tr.region ?_
  refine Run.box rfl (lt rfl) (fun b1 => ?_)
  refine Run.alloc Contact_zo37 (lt rfl) (fun b2 => ?_)
  refine Run.to_end ?_
  refine Ex.go ?_
  refine Tr.seq ?_
  refine Tr.region ?_
  refine Run.val (lt rfl) (Y.move rfl) ?_
  refine Run.val (lt rfl) (Y.nilCheck rfl) ?_
  refine Run.val (lt rfl) (Y.fieldAddr rfl Contact_fo56_0) ?_
  refine Run.val (lt rfl) (Y.load rfl Contact_ts3 hk.cons.cons rfl) ?_
  refine Run.val (lt rfl) (Y.fieldAddr rfl Contact_fo37_1) ?_
  refine Run.store (s := [(b1, .cells #[.int .i64 m.kind, .int .i64 c.mine, .int .i64 m.seen, .int .i64 m.xid, .int .i64 m.state, .int .u32 m.addr, .int .i64 m.bind, .string m.client, .int .i64 m.pot, .int .i64 m.at_, .bool m.ok] 37 (0, 0))]) rfl rfl Contact_sz3 (i := 1) rfl rfl (le rfl) rfl rfl ?_
  refine Run.to_end ?_
  refine Ex.go ?_
  refine Tr.seq ?_
  refine Tr.region ?_
  refine Run.val (lt rfl) (Y.move rfl) ?_
  refine Run.val (lt rfl) (Y.nilCheck rfl) ?_
  refine Run.val (lt rfl) (Y.fieldAddr rfl Contact_fo56_1) ?_
  refine Run.val (lt rfl) (Y.load rfl Contact_ts3 hk.cons.cons rfl) ?_
  refine Run.val (lt rfl) (Y.fieldAddr rfl Contact_fo37_2) ?_
  refine Run.store (s := [(b1, .cells #[.int .i64 m.kind, .int .i64 c.mine, .int .i64 c.known, .int .i64 m.xid, .int .i64 m.state, .int .u32 m.addr, .int .i64 m.bind, .string m.client, .int .i64 m.pot, .int .i64 m.at_, .bool m.ok] 37 (0, 0))]) rfl rfl Contact_sz3 (i := 1) rfl rfl (le rfl) rfl rfl ?_
  refine Run.to_end ?_
  refine Ex.go ?_
  refine Tr.seq ?_
  refine Tr.region ?_
  refine Run.val (lt rfl) (Y.loadAgg rfl Contact_ag37 (Kn.at 1 rfl) rfl) ?_
  refine Run.store (s := [(b2, .cells #[.int .i64 m.kind, .int .i64 c.mine, .int .i64 c.known, .int .i64 m.xid, .int .i64 m.state, .int .u32 m.addr, .int .i64 m.bind, .string m.client, .int .i64 m.pot, .int .i64 m.at_, .bool m.ok] 37 (0, 0))]) rfl rfl Contact_sz37 (i := 0) rfl rfl (le rfl) rfl rfl ?_
  refine Run.to_end ?_
  refine Ex.go ?_
  refine Tr.to_ret ?_
  exact Ex.retCellT 2 rfl rfl Contact_ag37 (Kn.at 0 rfl) rfl rfl ⟨rfl, rfl, rfl⟩

theorem new_c_yes {n : Int} (hn : 1 ≤ n ∧ n ≤ 536870912) {V : Vw} : Does Try.prog 25 [.int .i64 n] V [] (fun u V' H' => V' = V ∧ ∃ b, u = .tuple #[.pointer (some ⟨b, 0, none⟩), .int .i64 0] ∧ H' = [[(b, .cells (Con.new n : Con).a 95 (0, 0))]]) := by
  refine Does.intro Try.func25 rfl rfl (le rfl) (fun B => ?_)
  refine Tr.seq ?_
  refine Tr.region ?_
  refine Run.val (lt rfl) (Y.assign rfl) ?_
  refine Run.val (lt rfl) (Y.assign rfl) ?_
  refine Run.to_end ?_
  refine Ex.go ?_
  refine Tr.seq ?_
  refine Tr.seq ?_
  refine Tr.region ?_
  refine Run.val (lt rfl) (Y.move rfl) ?_
  refine Run.val (lt rfl) (Y.int rfl rfl rfl) ?_
  refine Run.val (lt rfl) (Y.move rfl) ?_
  rcases Bool.eq_false_or_eq_true (decide (n < 1)) with h1 | h1
  · have g1 := h1
    try simp only [kb] at g1
    refine Run.off rfl rfl rfl h1 rfl (lt rfl) ?_
    refine Run.off rfl rfl rfl h1 rfl (lt rfl) ?_
    refine Run.val (lt rfl) (Y.pick_t rfl h1 rfl) ?_
    refine Run.to_end ?_
    refine Ex.go ?_
    refine Tr.cond_t rfl rfl ?_
    refine Tr.seq ?_
    refine Tr.region ?_
    refine Run.val (lt rfl) (Y.assign rfl) ?_
    refine Run.val (lt rfl) (Y.assign rfl) ?_
    refine Run.to_end ?_
    refine Ex.go ?_
    refine Tr.to_ret ?_
    refine Ex.ret_then ?_
    exact Ex.ret2 rfl rfl rfl  (absurd hn (by omega))
  · have g1 := h1
    try simp only [kb] at g1
    refine Run.on rfl rfl rfl h1 ?_
    refine Run.val (lt rfl) (Y.move rfl) ?_
    refine Run.on rfl rfl rfl h1 ?_
    refine Run.val (lt rfl) (Y.int rfl rfl rfl) ?_
    refine Run.val (lt rfl) (Y.pick_f rfl h1 rfl) ?_
    refine Run.to_end ?_
    refine Ex.go ?_
    rcases Bool.eq_false_or_eq_true (decide (n > 536870912)) with h2 | h2
    · have g2 := h2
      try simp only [kb] at g2
      refine Tr.cond_t rfl h2 ?_
      refine Tr.seq ?_
      refine Tr.region ?_
      refine Run.val (lt rfl) (Y.assign rfl) ?_
      refine Run.val (lt rfl) (Y.assign rfl) ?_
      refine Run.to_end ?_
      refine Ex.go ?_
      refine Tr.to_ret ?_
      refine Ex.ret_then ?_
      exact Ex.ret2 rfl rfl rfl  (absurd hn (by omega))
    · have g2 := h2
      try simp only [kb] at g2
      refine Tr.cond_f rfl h2 ?_
      refine Tr.to_end ?_
      refine Ex.go ?_
      refine Tr.seq ?_
      refine Tr.region ?_
      refine Run.val (lt rfl) (Y.move rfl) ?_
      refine Run.val (lt rfl) (Y.buildS (l := [(1, .tmp 10)]) Contact_zo95 Contact_pl95 rfl rfl) ?_
      refine Run.box rfl (lt rfl) (fun b3 => ?_)
      refine Run.val (lt rfl) (Y.assign rfl) ?_
      refine Run.val (lt rfl) (Y.assign rfl) ?_
      refine Run.to_end ?_
      refine Ex.go ?_
      refine Tr.to_ret ?_
      exact Ex.ret2 rfl rfl rfl  ⟨rfl, _, rfl, rfl⟩

theorem new_c_no {n : Int} (hn : ¬ (1 ≤ n ∧ n ≤ 536870912)) {V : Vw} : Does Try.prog 25 [.int .i64 n] V [] (Pv (.tuple #[.pointer none, .int .i64 1]) V []) := by
  refine Does.intro Try.func25 rfl rfl (le rfl) (fun B => ?_)
  refine Tr.seq ?_
  refine Tr.region ?_
  refine Run.val (lt rfl) (Y.assign rfl) ?_
  refine Run.val (lt rfl) (Y.assign rfl) ?_
  refine Run.to_end ?_
  refine Ex.go ?_
  refine Tr.seq ?_
  refine Tr.seq ?_
  refine Tr.region ?_
  refine Run.val (lt rfl) (Y.move rfl) ?_
  refine Run.val (lt rfl) (Y.int rfl rfl rfl) ?_
  refine Run.val (lt rfl) (Y.move rfl) ?_
  rcases Bool.eq_false_or_eq_true (decide (n < 1)) with h1 | h1
  · have g1 := h1
    try simp only [kb] at g1
    refine Run.off rfl rfl rfl h1 rfl (lt rfl) ?_
    refine Run.off rfl rfl rfl h1 rfl (lt rfl) ?_
    refine Run.val (lt rfl) (Y.pick_t rfl h1 rfl) ?_
    refine Run.to_end ?_
    refine Ex.go ?_
    refine Tr.cond_t rfl rfl ?_
    refine Tr.seq ?_
    refine Tr.region ?_
    refine Run.val (lt rfl) (Y.assign rfl) ?_
    refine Run.val (lt rfl) (Y.assign rfl) ?_
    refine Run.to_end ?_
    refine Ex.go ?_
    refine Tr.to_ret ?_
    refine Ex.ret_then ?_
    exact Ex.ret2 rfl rfl rfl  ⟨rfl, rfl, rfl⟩
  · have g1 := h1
    try simp only [kb] at g1
    refine Run.on rfl rfl rfl h1 ?_
    refine Run.val (lt rfl) (Y.move rfl) ?_
    refine Run.on rfl rfl rfl h1 ?_
    refine Run.val (lt rfl) (Y.int rfl rfl rfl) ?_
    refine Run.val (lt rfl) (Y.pick_f rfl h1 rfl) ?_
    refine Run.to_end ?_
    refine Ex.go ?_
    rcases Bool.eq_false_or_eq_true (decide (n > 536870912)) with h2 | h2
    · have g2 := h2
      try simp only [kb] at g2
      refine Tr.cond_t rfl h2 ?_
      refine Tr.seq ?_
      refine Tr.region ?_
      refine Run.val (lt rfl) (Y.assign rfl) ?_
      refine Run.val (lt rfl) (Y.assign rfl) ?_
      refine Run.to_end ?_
      refine Ex.go ?_
      refine Tr.to_ret ?_
      refine Ex.ret_then ?_
      exact Ex.ret2 rfl rfl rfl  ⟨rfl, rfl, rfl⟩
    · have g2 := h2
      try simp only [kb] at g2
      refine Tr.cond_f rfl h2 ?_
      refine Tr.to_end ?_
      refine Ex.go ?_
      refine Tr.seq ?_
      refine Tr.region ?_
      refine Run.val (lt rfl) (Y.move rfl) ?_
      refine Run.val (lt rfl) (Y.buildS (l := [(1, .tmp 10)]) Contact_zo95 Contact_pl95 rfl rfl) ?_
      refine Run.box rfl (lt rfl) (fun b3 => ?_)
      refine Run.val (lt rfl) (Y.assign rfl) ?_
      refine Run.val (lt rfl) (Y.assign rfl) ?_
      refine Run.to_end ?_
      refine Ex.go ?_
      refine Tr.to_ret ?_
      exact Ex.ret2 rfl rfl rfl  (absurd (by omega) hn)

theorem rnew_c_yes {n : Int} (hn : 1 ≤ n ∧ n ≤ 536870912) {V : Vw} : Does Try.prog 26 [.int .i64 n] V [] (fun u V' H' => V' = V ∧ ∃ b, u = .tuple #[.pointer (some ⟨b, 0, none⟩), .int .i64 0] ∧ H' = [[(b, .cells (Con.new n : Con).b 56 (0, 0))]]) := by
  refine Does.intro Try.func26 rfl rfl (le rfl) (fun B => ?_)
  refine Tr.seq ?_
  refine Tr.region ?_
  refine Run.val (lt rfl) (Y.assign rfl) ?_
  refine Run.val (lt rfl) (Y.assign rfl) ?_
  refine Run.to_end ?_
  refine Ex.go ?_
  refine Tr.seq ?_
  refine Tr.seq ?_
  refine Tr.region ?_
  refine Run.val (lt rfl) (Y.move rfl) ?_
  refine Run.val (lt rfl) (Y.int rfl rfl rfl) ?_
  refine Run.val (lt rfl) (Y.move rfl) ?_
  rcases Bool.eq_false_or_eq_true (decide (n < 1)) with h1 | h1
  · have g1 := h1
    try simp only [kb] at g1
    refine Run.off rfl rfl rfl h1 rfl (lt rfl) ?_
    refine Run.off rfl rfl rfl h1 rfl (lt rfl) ?_
    refine Run.val (lt rfl) (Y.pick_t rfl h1 rfl) ?_
    refine Run.to_end ?_
    refine Ex.go ?_
    refine Tr.cond_t rfl rfl ?_
    refine Tr.seq ?_
    refine Tr.region ?_
    refine Run.val (lt rfl) (Y.assign rfl) ?_
    refine Run.val (lt rfl) (Y.assign rfl) ?_
    refine Run.to_end ?_
    refine Ex.go ?_
    refine Tr.to_ret ?_
    refine Ex.ret_then ?_
    exact Ex.ret2 rfl rfl rfl  (absurd hn (by omega))
  · have g1 := h1
    try simp only [kb] at g1
    refine Run.on rfl rfl rfl h1 ?_
    refine Run.val (lt rfl) (Y.move rfl) ?_
    refine Run.on rfl rfl rfl h1 ?_
    refine Run.val (lt rfl) (Y.int rfl rfl rfl) ?_
    refine Run.val (lt rfl) (Y.pick_f rfl h1 rfl) ?_
    refine Run.to_end ?_
    refine Ex.go ?_
    rcases Bool.eq_false_or_eq_true (decide (n > 536870912)) with h2 | h2
    · have g2 := h2
      try simp only [kb] at g2
      refine Tr.cond_t rfl h2 ?_
      refine Tr.seq ?_
      refine Tr.region ?_
      refine Run.val (lt rfl) (Y.assign rfl) ?_
      refine Run.val (lt rfl) (Y.assign rfl) ?_
      refine Run.to_end ?_
      refine Ex.go ?_
      refine Tr.to_ret ?_
      refine Ex.ret_then ?_
      exact Ex.ret2 rfl rfl rfl  (absurd hn (by omega))
    · have g2 := h2
      try simp only [kb] at g2
      refine Tr.cond_f rfl h2 ?_
      refine Tr.to_end ?_
      refine Ex.go ?_
      refine Tr.seq ?_
      refine Tr.region ?_
      refine Run.val (lt rfl) (Y.move rfl) ?_
      refine Run.val (lt rfl) (Y.buildS (l := [(0, .tmp 10)]) Contact_zo56 Contact_pl56 rfl rfl) ?_
      refine Run.box rfl (lt rfl) (fun b3 => ?_)
      refine Run.val (lt rfl) (Y.assign rfl) ?_
      refine Run.val (lt rfl) (Y.assign rfl) ?_
      refine Run.to_end ?_
      refine Ex.go ?_
      refine Tr.to_ret ?_
      exact Ex.ret2 rfl rfl rfl  ⟨rfl, _, rfl, rfl⟩

theorem rnew_c_no {n : Int} (hn : ¬ (1 ≤ n ∧ n ≤ 536870912)) {V : Vw} : Does Try.prog 26 [.int .i64 n] V [] (Pv (.tuple #[.pointer none, .int .i64 1]) V []) := by
  refine Does.intro Try.func26 rfl rfl (le rfl) (fun B => ?_)
  refine Tr.seq ?_
  refine Tr.region ?_
  refine Run.val (lt rfl) (Y.assign rfl) ?_
  refine Run.val (lt rfl) (Y.assign rfl) ?_
  refine Run.to_end ?_
  refine Ex.go ?_
  refine Tr.seq ?_
  refine Tr.seq ?_
  refine Tr.region ?_
  refine Run.val (lt rfl) (Y.move rfl) ?_
  refine Run.val (lt rfl) (Y.int rfl rfl rfl) ?_
  refine Run.val (lt rfl) (Y.move rfl) ?_
  rcases Bool.eq_false_or_eq_true (decide (n < 1)) with h1 | h1
  · have g1 := h1
    try simp only [kb] at g1
    refine Run.off rfl rfl rfl h1 rfl (lt rfl) ?_
    refine Run.off rfl rfl rfl h1 rfl (lt rfl) ?_
    refine Run.val (lt rfl) (Y.pick_t rfl h1 rfl) ?_
    refine Run.to_end ?_
    refine Ex.go ?_
    refine Tr.cond_t rfl rfl ?_
    refine Tr.seq ?_
    refine Tr.region ?_
    refine Run.val (lt rfl) (Y.assign rfl) ?_
    refine Run.val (lt rfl) (Y.assign rfl) ?_
    refine Run.to_end ?_
    refine Ex.go ?_
    refine Tr.to_ret ?_
    refine Ex.ret_then ?_
    exact Ex.ret2 rfl rfl rfl  ⟨rfl, rfl, rfl⟩
  · have g1 := h1
    try simp only [kb] at g1
    refine Run.on rfl rfl rfl h1 ?_
    refine Run.val (lt rfl) (Y.move rfl) ?_
    refine Run.on rfl rfl rfl h1 ?_
    refine Run.val (lt rfl) (Y.int rfl rfl rfl) ?_
    refine Run.val (lt rfl) (Y.pick_f rfl h1 rfl) ?_
    refine Run.to_end ?_
    refine Ex.go ?_
    rcases Bool.eq_false_or_eq_true (decide (n > 536870912)) with h2 | h2
    · have g2 := h2
      try simp only [kb] at g2
      refine Tr.cond_t rfl h2 ?_
      refine Tr.seq ?_
      refine Tr.region ?_
      refine Run.val (lt rfl) (Y.assign rfl) ?_
      refine Run.val (lt rfl) (Y.assign rfl) ?_
      refine Run.to_end ?_
      refine Ex.go ?_
      refine Tr.to_ret ?_
      refine Ex.ret_then ?_
      exact Ex.ret2 rfl rfl rfl  ⟨rfl, rfl, rfl⟩
    · have g2 := h2
      try simp only [kb] at g2
      refine Tr.cond_f rfl h2 ?_
      refine Tr.to_end ?_
      refine Ex.go ?_
      refine Tr.seq ?_
      refine Tr.region ?_
      refine Run.val (lt rfl) (Y.move rfl) ?_
      refine Run.val (lt rfl) (Y.buildS (l := [(0, .tmp 10)]) Contact_zo56 Contact_pl56 rfl rfl) ?_
      refine Run.box rfl (lt rfl) (fun b3 => ?_)
      refine Run.val (lt rfl) (Y.assign rfl) ?_
      refine Run.val (lt rfl) (Y.assign rfl) ?_
      refine Run.to_end ?_
      refine Ex.go ?_
      refine Tr.to_ret ?_
      exact Ex.ret2 rfl rfl rfl  (absurd (by omega) hn)

theorem hello_c {V : Vw} {bc : Nat} {c : Con} {n : Int} (hi : c.Inv)  : Does Try.prog 31 [.pointer (some ⟨bc, 0, none⟩), .int .i64 n] V [[(bc, .cells (c : Con).a 95 (0, 0))]] (fun u V' H' => V' = V ∧ u = .tuple #[.agg (Con.helloM c n).cells, .int .i64 (Con.helloE c n)] ∧ H' = [[(bc, .cells (Con.helloC c n : Con).a 95 (0, 0))]]) := by
  have hs := hi.said
  refine Does.intro Try.func31 rfl rfl (le rfl) (fun B => ?_)
  refine Tr.seq ?_
  refine Tr.region ?_
  refine Run.alloc Contact_zo37 (lt rfl) (fun b1 => ?_)
  refine Run.val (lt rfl) (Y.assign rfl) ?_
  refine Run.to_end ?_
  refine Ex.go ?_
  refine Tr.seq ?_
  refine Tr.block ?_
  refine Tr.seq ?_
  refine Tr.region ?_
  refine Run.val (lt rfl) (Y.move rfl) ?_
  refine Run.val (lt rfl) (Y.int rfl rfl rfl) ?_
  refine Run.val (lt rfl) (Y.move rfl) ?_
  rcases Bool.eq_false_or_eq_true (decide (n < 0)) with h2 | h2
  · have g2 := h2
    try simp only [kb] at g2
    refine Run.off rfl rfl rfl h2 rfl (lt rfl) ?_
    refine Run.off rfl rfl rfl h2 rfl (lt rfl) ?_
    refine Run.val (lt rfl) (Y.pick_t rfl h2 rfl) ?_
    refine Run.val (lt rfl) (Y.assign rfl) ?_
    refine Run.to_end ?_
    refine Ex.go ?_
    refine Tr.cond_t rfl rfl ?_
    refine Tr.seq ?_
    refine Tr.region ?_
    refine Run.val (lt rfl) (Y.buildS (l := []) Contact_zo37 Contact_pl37 rfl rfl) ?_
    refine Run.store (s := [(b1, .cells #[.int .i64 0, .int .i64 0, .int .i64 0, .int .i64 0, .int .i64 0, .int .u32 0, .int .i64 0, .string ⟨#[]⟩, .int .i64 0, .int .i64 0, .bool false] 37 (0, 0))]) rfl rfl Contact_sz37 (i := 0) rfl rfl (le rfl) rfl rfl ?_
    refine Run.val (lt rfl) (Y.assign rfl) ?_
    refine Run.to_end ?_
    refine Ex.go ?_
    refine Tr.to_ret ?_
    refine Ex.ret_block ?_
    refine Ex.ret_then ?_
    exact Ex.retCell2 [1] rfl rfl rfl Contact_ag37 (Kn.at 0 rfl) rfl ⟨rfl, by rw [(Con.hello_no (c := c) (s := n) (by rw [Con.helloE_1 (by omega)]; decide)).2, Con.helloE_1 (by omega)]; rfl, by rw [(Con.hello_no (c := c) (s := n) (by rw [Con.helloE_1 (by omega)]; decide)).1]; rfl⟩
  · have g2 := h2
    try simp only [kb] at g2
    refine Run.on rfl rfl rfl h2 ?_
    refine Run.val (lt rfl) (Y.move rfl) ?_
    refine Run.on rfl rfl rfl h2 ?_
    refine Run.val (lt rfl) (Y.int rfl rfl rfl) ?_
    refine Run.val (lt rfl) (Y.pick_f rfl h2 rfl) ?_
    refine Run.val (lt rfl) (Y.assign rfl) ?_
    refine Run.to_end ?_
    refine Ex.go ?_
    rcases Bool.eq_false_or_eq_true (decide (n > 8)) with h3 | h3
    · have g3 := h3
      try simp only [kb] at g3
      refine Tr.cond_t rfl h3 ?_
      refine Tr.seq ?_
      refine Tr.region ?_
      refine Run.val (lt rfl) (Y.buildS (l := []) Contact_zo37 Contact_pl37 rfl rfl) ?_
      refine Run.store (s := [(b1, .cells #[.int .i64 0, .int .i64 0, .int .i64 0, .int .i64 0, .int .i64 0, .int .u32 0, .int .i64 0, .string ⟨#[]⟩, .int .i64 0, .int .i64 0, .bool false] 37 (0, 0))]) rfl rfl Contact_sz37 (i := 0) rfl rfl (le rfl) rfl rfl ?_
      refine Run.val (lt rfl) (Y.assign rfl) ?_
      refine Run.to_end ?_
      refine Ex.go ?_
      refine Tr.to_ret ?_
      refine Ex.ret_block ?_
      refine Ex.ret_then ?_
      exact Ex.retCell2 [1] rfl rfl rfl Contact_ag37 (Kn.at 0 rfl) rfl ⟨rfl, by rw [(Con.hello_no (c := c) (s := n) (by rw [Con.helloE_1 (by omega)]; decide)).2, Con.helloE_1 (by omega)]; rfl, by rw [(Con.hello_no (c := c) (s := n) (by rw [Con.helloE_1 (by omega)]; decide)).1]; rfl⟩
    · have g3 := h3
      try simp only [kb] at g3
      refine Tr.cond_f rfl h3 ?_
      refine Tr.seq ?_
      refine Tr.region ?_
      refine Run.val (lt rfl) (Y.move rfl) ?_
      refine Run.val (lt rfl) (Y.nilCheck rfl) ?_
      refine Run.val (lt rfl) (Y.fieldAddr rfl Contact_fo95_2) ?_
      refine Run.val (lt rfl) (Y.load rfl Contact_ts3 (Kn.at 1 rfl) rfl) ?_
      refine Run.val (lt rfl) (Y.int rfl rfl rfl) ?_
      refine Run.val (lt rfl) (Y.assign rfl) ?_
      refine Run.to_end ?_
      refine Ex.go ?_
      rcases Bool.eq_false_or_eq_true (decide (c.said ≥ 1073741824)) with h4 | h4
      · have g4 := h4
        try simp only [kb] at g4
        refine Tr.cond_t rfl h4 ?_
        refine Tr.seq ?_
        refine Tr.region ?_
        refine Run.val (lt rfl) (Y.buildS (l := []) Contact_zo37 Contact_pl37 rfl rfl) ?_
        refine Run.store (s := [(b1, .cells #[.int .i64 0, .int .i64 0, .int .i64 0, .int .i64 0, .int .i64 0, .int .u32 0, .int .i64 0, .string ⟨#[]⟩, .int .i64 0, .int .i64 0, .bool false] 37 (0, 0))]) rfl rfl Contact_sz37 (i := 0) rfl rfl (le rfl) rfl rfl ?_
        refine Run.val (lt rfl) (Y.assign rfl) ?_
        refine Run.to_end ?_
        refine Ex.go ?_
        refine Tr.to_ret ?_
        refine Ex.ret_block ?_
        refine Ex.ret_then ?_
        exact Ex.retCell2 [1] rfl rfl rfl Contact_ag37 (Kn.at 0 rfl) rfl ⟨rfl, by rw [(Con.hello_no (c := c) (s := n) (by rw [Con.helloE_3 (by omega) (by omega)]; decide)).2, Con.helloE_3 (by omega) (by omega)]; rfl, by rw [(Con.hello_no (c := c) (s := n) (by rw [Con.helloE_3 (by omega) (by omega)]; decide)).1]; rfl⟩
      · have g4 := h4
        try simp only [kb] at g4
        refine Tr.cond_f rfl h4 ?_
        refine Tr.to_end ?_
        refine Ex.end_block ?_
        refine Ex.go ?_
        refine Tr.seq ?_
        refine Tr.region ?_
        refine Run.val (lt rfl) (Y.move rfl) ?_
        refine Run.val (lt rfl) (Y.nilCheck rfl) ?_
        refine Run.val (lt rfl) (Y.fieldAddr rfl Contact_fo95_2) ?_
        refine Run.val (lt rfl) (Y.load rfl Contact_ts3 (Kn.at 1 rfl) rfl) ?_
        refine Run.val (lt rfl) (Y.add rfl rfl (by omega)) ?_
        refine Run.val (lt rfl) (Y.nilCheck rfl) ?_
        refine Run.val (lt rfl) (Y.fieldAddr rfl Contact_fo95_2) ?_
        refine Run.store (s := [(bc, .cells #[.int .i64 c.known, .int .i64 c.hello, .int .i64 c.st, .int .i64 c.mine, .int .i64 (c.said + 1), .int .i64 c.at_, .bool c.up] 95 (0, 0))]) rfl rfl Contact_sz3 (i := 1) rfl rfl (le rfl) rfl rfl ?_
        refine Run.to_end ?_
        refine Ex.go ?_
        refine Tr.seq ?_
        refine Tr.region ?_
        refine Run.val (lt rfl) (Y.move rfl) ?_
        refine Run.val (lt rfl) (Y.move rfl) ?_
        refine Run.val (lt rfl) (Y.nilCheck rfl) ?_
        refine Run.val (lt rfl) (Y.fieldAddr rfl Contact_fo95_2) ?_
        refine Run.val (lt rfl) (Y.load rfl Contact_ts3 (Kn.at 1 rfl) rfl) ?_
        refine Run.val (lt rfl) (Y.move rfl) ?_
        refine Run.val (lt rfl) (Y.buildS (l := [(0, .const (.int .i64 1)), (3, .tmp 32), (4, .tmp 33)]) Contact_zo37 Contact_pl37 rfl rfl) ?_
        refine Run.call0 (l := [.tmp 28, .tmp 34]) rfl rfl rfl (lt rfl) (mark_c (c := (⟨c.mine, c.known, c.hello, c.st, c.said + 1, c.at_, c.up⟩ : Con)) (m := (⟨1, 0, 0, c.said + 1, n, 0, 0, ⟨#[]⟩, 0, 0, false⟩ : Msg)) (Kn.at 1 rfl)) ?_
        refine Run.store (s := [(b1, .cells #[.int .i64 1, .int .i64 c.mine, .int .i64 c.known, .int .i64 (c.said + 1), .int .i64 n, .int .u32 0, .int .i64 0, .string ⟨#[]⟩, .int .i64 0, .int .i64 0, .bool false] 37 (0, 0))]) rfl rfl Contact_sz37 (i := 0) rfl rfl (le rfl) rfl rfl ?_
        refine Run.val (lt rfl) (Y.assign rfl) ?_
        refine Run.to_end ?_
        refine Ex.go ?_
        refine Tr.to_ret ?_
        exact Ex.retCell2 [1] rfl rfl rfl Contact_ag37 (Kn.at 0 rfl) rfl ⟨rfl, by rw [(Con.hello_yes (Con.helloE_0 (by omega) (by omega))).2, Con.helloE_0 (by omega) (by omega)]; rfl, by rw [(Con.hello_yes (Con.helloE_0 (by omega) (by omega))).1]; rfl⟩

theorem rhello_c {V : Vw} {bc : Nat} {c : Con} {n : Int} (hi : c.Inv)  : Does Try.prog 35 [.pointer (some ⟨bc, 0, none⟩), .int .i64 n] V [[(bc, .cells (c : Con).b 56 (0, 0))]] (fun u V' H' => V' = V ∧ u = .tuple #[.agg (Con.helloM c n).cells, .int .i64 (Con.helloE c n)] ∧ H' = [[(bc, .cells (Con.helloC c n : Con).b 56 (0, 0))]]) := by
  have hs := hi.said
  refine Does.intro Try.func35 rfl rfl (le rfl) (fun B => ?_)
  refine Tr.seq ?_
  refine Tr.region ?_
  refine Run.alloc Contact_zo37 (lt rfl) (fun b1 => ?_)
  refine Run.val (lt rfl) (Y.assign rfl) ?_
  refine Run.to_end ?_
  refine Ex.go ?_
  refine Tr.seq ?_
  refine Tr.seq ?_
  refine Tr.region ?_
  refine Run.val (lt rfl) (Y.move rfl) ?_
  refine Run.val (lt rfl) (Y.int rfl rfl rfl) ?_
  refine Run.val (lt rfl) (Y.move rfl) ?_
  rcases Bool.eq_false_or_eq_true (decide (n < 0)) with h2 | h2
  · have g2 := h2
    try simp only [kb] at g2
    refine Run.off rfl rfl rfl h2 rfl (lt rfl) ?_
    refine Run.off rfl rfl rfl h2 rfl (lt rfl) ?_
    refine Run.val (lt rfl) (Y.pick_t rfl h2 rfl) ?_
    refine Run.to_end ?_
    refine Ex.go ?_
    refine Tr.cond_t rfl rfl ?_
    refine Tr.seq ?_
    refine Tr.region ?_
    refine Run.val (lt rfl) (Y.buildS (l := []) Contact_zo37 Contact_pl37 rfl rfl) ?_
    refine Run.store (s := [(b1, .cells #[.int .i64 0, .int .i64 0, .int .i64 0, .int .i64 0, .int .i64 0, .int .u32 0, .int .i64 0, .string ⟨#[]⟩, .int .i64 0, .int .i64 0, .bool false] 37 (0, 0))]) rfl rfl Contact_sz37 (i := 0) rfl rfl (le rfl) rfl rfl ?_
    refine Run.val (lt rfl) (Y.assign rfl) ?_
    refine Run.to_end ?_
    refine Ex.go ?_
    refine Tr.to_ret ?_
    refine Ex.ret_then ?_
    exact Ex.retCell2 [1] rfl rfl rfl Contact_ag37 (Kn.at 0 rfl) rfl ⟨rfl, by rw [(Con.hello_no (c := c) (s := n) (by rw [Con.helloE_1 (by omega)]; decide)).2, Con.helloE_1 (by omega)]; rfl, by rw [(Con.hello_no (c := c) (s := n) (by rw [Con.helloE_1 (by omega)]; decide)).1]; rfl⟩
  · have g2 := h2
    try simp only [kb] at g2
    refine Run.on rfl rfl rfl h2 ?_
    refine Run.val (lt rfl) (Y.move rfl) ?_
    refine Run.on rfl rfl rfl h2 ?_
    refine Run.val (lt rfl) (Y.int rfl rfl rfl) ?_
    refine Run.val (lt rfl) (Y.pick_f rfl h2 rfl) ?_
    refine Run.to_end ?_
    refine Ex.go ?_
    rcases Bool.eq_false_or_eq_true (decide (n > 8)) with h3 | h3
    · have g3 := h3
      try simp only [kb] at g3
      refine Tr.cond_t rfl h3 ?_
      refine Tr.seq ?_
      refine Tr.region ?_
      refine Run.val (lt rfl) (Y.buildS (l := []) Contact_zo37 Contact_pl37 rfl rfl) ?_
      refine Run.store (s := [(b1, .cells #[.int .i64 0, .int .i64 0, .int .i64 0, .int .i64 0, .int .i64 0, .int .u32 0, .int .i64 0, .string ⟨#[]⟩, .int .i64 0, .int .i64 0, .bool false] 37 (0, 0))]) rfl rfl Contact_sz37 (i := 0) rfl rfl (le rfl) rfl rfl ?_
      refine Run.val (lt rfl) (Y.assign rfl) ?_
      refine Run.to_end ?_
      refine Ex.go ?_
      refine Tr.to_ret ?_
      refine Ex.ret_then ?_
      exact Ex.retCell2 [1] rfl rfl rfl Contact_ag37 (Kn.at 0 rfl) rfl ⟨rfl, by rw [(Con.hello_no (c := c) (s := n) (by rw [Con.helloE_1 (by omega)]; decide)).2, Con.helloE_1 (by omega)]; rfl, by rw [(Con.hello_no (c := c) (s := n) (by rw [Con.helloE_1 (by omega)]; decide)).1]; rfl⟩
    · have g3 := h3
      try simp only [kb] at g3
      refine Tr.cond_f rfl h3 ?_
      refine Tr.to_end ?_
      refine Ex.go ?_
      refine Tr.seq ?_
      refine Tr.seq ?_
      refine Tr.region ?_
      refine Run.val (lt rfl) (Y.move rfl) ?_
      refine Run.val (lt rfl) (Y.nilCheck rfl) ?_
      refine Run.val (lt rfl) (Y.fieldAddr rfl Contact_fo56_2) ?_
      refine Run.val (lt rfl) (Y.load rfl Contact_ts3 (Kn.at 1 rfl) rfl) ?_
      refine Run.val (lt rfl) (Y.int rfl rfl rfl) ?_
      refine Run.to_end ?_
      refine Ex.go ?_
      rcases Bool.eq_false_or_eq_true (decide (c.said ≥ 1073741824)) with h4 | h4
      · have g4 := h4
        try simp only [kb] at g4
        refine Tr.cond_t rfl h4 ?_
        refine Tr.seq ?_
        refine Tr.region ?_
        refine Run.val (lt rfl) (Y.buildS (l := []) Contact_zo37 Contact_pl37 rfl rfl) ?_
        refine Run.store (s := [(b1, .cells #[.int .i64 0, .int .i64 0, .int .i64 0, .int .i64 0, .int .i64 0, .int .u32 0, .int .i64 0, .string ⟨#[]⟩, .int .i64 0, .int .i64 0, .bool false] 37 (0, 0))]) rfl rfl Contact_sz37 (i := 0) rfl rfl (le rfl) rfl rfl ?_
        refine Run.val (lt rfl) (Y.assign rfl) ?_
        refine Run.to_end ?_
        refine Ex.go ?_
        refine Tr.to_ret ?_
        refine Ex.ret_then ?_
        exact Ex.retCell2 [1] rfl rfl rfl Contact_ag37 (Kn.at 0 rfl) rfl ⟨rfl, by rw [(Con.hello_no (c := c) (s := n) (by rw [Con.helloE_3 (by omega) (by omega)]; decide)).2, Con.helloE_3 (by omega) (by omega)]; rfl, by rw [(Con.hello_no (c := c) (s := n) (by rw [Con.helloE_3 (by omega) (by omega)]; decide)).1]; rfl⟩
      · have g4 := h4
        try simp only [kb] at g4
        refine Tr.cond_f rfl h4 ?_
        refine Tr.to_end ?_
        refine Ex.go ?_
        refine Tr.seq ?_
        refine Tr.region ?_
        refine Run.val (lt rfl) (Y.move rfl) ?_
        refine Run.val (lt rfl) (Y.nilCheck rfl) ?_
        refine Run.val (lt rfl) (Y.fieldAddr rfl Contact_fo56_2) ?_
        refine Run.val (lt rfl) (Y.load rfl Contact_ts3 (Kn.at 1 rfl) rfl) ?_
        refine Run.val (lt rfl) (Y.add rfl rfl (by omega)) ?_
        refine Run.val (lt rfl) (Y.nilCheck rfl) ?_
        refine Run.val (lt rfl) (Y.fieldAddr rfl Contact_fo56_2) ?_
        refine Run.store (s := [(bc, .cells #[.int .i64 c.mine, .int .i64 c.known, .int .i64 (c.said + 1), .int .i64 c.hello, .int .i64 c.st, .int .i64 c.at_, .bool c.up] 56 (0, 0))]) rfl rfl Contact_sz3 (i := 1) rfl rfl (le rfl) rfl rfl ?_
        refine Run.to_end ?_
        refine Ex.go ?_
        refine Tr.seq ?_
        refine Tr.region ?_
        refine Run.val (lt rfl) (Y.move rfl) ?_
        refine Run.val (lt rfl) (Y.move rfl) ?_
        refine Run.val (lt rfl) (Y.nilCheck rfl) ?_
        refine Run.val (lt rfl) (Y.fieldAddr rfl Contact_fo56_2) ?_
        refine Run.val (lt rfl) (Y.load rfl Contact_ts3 (Kn.at 1 rfl) rfl) ?_
        refine Run.val (lt rfl) (Y.move rfl) ?_
        refine Run.val (lt rfl) (Y.buildS (l := [(0, .const (.int .i64 1)), (3, .tmp 30), (4, .tmp 31)]) Contact_zo37 Contact_pl37 rfl rfl) ?_
        refine Run.call0 (l := [.tmp 26, .tmp 32]) rfl rfl rfl (lt rfl) (rmark_c (c := (⟨c.mine, c.known, c.hello, c.st, c.said + 1, c.at_, c.up⟩ : Con)) (m := (⟨1, 0, 0, c.said + 1, n, 0, 0, ⟨#[]⟩, 0, 0, false⟩ : Msg)) (Kn.at 1 rfl)) ?_
        refine Run.store (s := [(b1, .cells #[.int .i64 1, .int .i64 c.mine, .int .i64 c.known, .int .i64 (c.said + 1), .int .i64 n, .int .u32 0, .int .i64 0, .string ⟨#[]⟩, .int .i64 0, .int .i64 0, .bool false] 37 (0, 0))]) rfl rfl Contact_sz37 (i := 0) rfl rfl (le rfl) rfl rfl ?_
        refine Run.val (lt rfl) (Y.assign rfl) ?_
        refine Run.to_end ?_
        refine Ex.go ?_
        refine Tr.to_ret ?_
        exact Ex.retCell2 [1] rfl rfl rfl Contact_ag37 (Kn.at 0 rfl) rfl ⟨rfl, by rw [(Con.hello_yes (Con.helloE_0 (by omega) (by omega))).2, Con.helloE_0 (by omega) (by omega)]; rfl, by rw [(Con.hello_yes (Con.helloE_0 (by omega) (by omega))).1]; rfl⟩

theorem take19_c {V : Vw} {bc : Nat} {c : Con} {m : Msg} {now : Int} (hi : c.Inv)  : Does Try.prog 33 [.pointer (some ⟨bc, 0, none⟩), .agg #[.int .i64 m.kind, .int .i64 m.life, .int .i64 m.seen, .int .i64 m.xid, .int .i64 m.state, .int .u32 m.addr, .int .i64 m.bind, .string m.client, .int .i64 m.pot, .int .i64 m.at_, .bool m.ok], .int .i64 now] V [[(bc, .cells (c : Con).a 95 (0, 0))]] (fun u V' H' => V' = V ∧ u = .tuple #[.bool (Con.takeF c m now), .int .i64 (Con.takeE c m now)] ∧ H' = [[(bc, .cells (Con.takeC c m now : Con).a 95 (0, 0))]]) := by
  refine Does.intro Try.func33 rfl rfl (le rfl) (fun B => ?_)
  refine Tr.seq ?_
  refine Tr.region ?_
  refine Run.box rfl (lt rfl) (fun b1 => ?_)
  refine Run.val (lt rfl) (Y.assign rfl) ?_
  refine Run.val (lt rfl) (Y.assign rfl) ?_
  refine Run.to_end ?_
  refine Ex.go ?_
  refine Tr.seq ?_
  refine Tr.block ?_
  refine Tr.seq ?_
  refine Tr.region ?_
  refine Run.val (lt rfl) (Y.move rfl) ?_
  refine Run.call0 (l := [.tmp 11]) rfl rfl rfl (lt rfl) moment_c0_h ?_
  refine Run.val (lt rfl) (Y.not rfl) ?_
  refine Run.val (lt rfl) (Y.assign rfl) ?_
  refine Run.to_end ?_
  refine Ex.go ?_
  rcases Bool.eq_false_or_eq_true (Con.moment now) with h2 | h2
  · have g2 := h2
    try simp only [kb] at g2
    refine Tr.cond_f rfl (congrArg Bool.not h2) ?_
    refine Tr.seq ?_
    refine Tr.region ?_
    refine Run.val (lt rfl) (Y.loadAgg rfl Contact_ag37 (Kn.at 0 rfl) rfl) ?_
    refine Run.call0 (l := [.tmp 15]) rfl rfl rfl (lt rfl) right_c ?_
    refine Run.val (lt rfl) (Y.not rfl) ?_
    refine Run.val (lt rfl) (Y.assign rfl) ?_
    refine Run.to_end ?_
    refine Ex.go ?_
    rcases Bool.eq_false_or_eq_true (Msg.right m) with h3 | h3
    · have g3 := h3
      try simp only [kb] at g3
      refine Tr.cond_f rfl (congrArg Bool.not h3) ?_
      refine Tr.seq ?_
      refine Tr.region ?_
      refine Run.val (lt rfl) (Y.move rfl) ?_
      refine Run.val (lt rfl) (Y.loadAgg rfl Contact_ag37 (Kn.at 0 rfl) rfl) ?_
      refine Run.call0 (l := [.tmp 19, .tmp 20]) rfl rfl rfl (lt rfl) (fits_c (c := c) (m := m) (Kn.at 1 rfl)) ?_
      refine Run.val (lt rfl) (Y.not rfl) ?_
      refine Run.val (lt rfl) (Y.assign rfl) ?_
      refine Run.to_end ?_
      refine Ex.go ?_
      rcases Bool.eq_false_or_eq_true (Con.fits c m) with h4 | h4
      · have g4 := h4
        try simp only [kb] at g4
        refine Tr.cond_f rfl (congrArg Bool.not h4) ?_
        refine Tr.to_end ?_
        refine Ex.end_block ?_
        refine Ex.go ?_
        refine Tr.seq ?_
        refine Tr.region ?_
        refine Run.val (lt rfl) (Y.move rfl) ?_
        refine Run.val (lt rfl) (Y.move rfl) ?_
        refine Run.val (lt rfl) (Y.nilCheck rfl) ?_
        refine Run.val (lt rfl) (Y.fieldAddr rfl Contact_fo95_3) ?_
        refine Run.store (s := [(bc, .cells #[.int .i64 c.known, .int .i64 c.hello, .int .i64 c.st, .int .i64 c.mine, .int .i64 c.said, .int .i64 now, .bool c.up] 95 (0, 0))]) rfl rfl Contact_sz3 (i := 1) rfl rfl (le rfl) rfl rfl ?_
        refine Run.to_end ?_
        refine Ex.go ?_
        refine Tr.seq ?_
        refine Tr.seq ?_
        refine Tr.region ?_
        refine Run.val (lt rfl) (Y.fieldAddr rfl Contact_fo37_0) ?_
        refine Run.val (lt rfl) (Y.load rfl Contact_ts3 (Kn.at 0 rfl) rfl) ?_
        refine Run.val (lt rfl) (Y.int rfl rfl rfl) ?_
        refine Run.to_end ?_
        refine Ex.go ?_
        rcases Bool.eq_false_or_eq_true (m.kind != 1) with h5 | h5
        · have g5 := h5
          try simp only [kb] at g5
          refine Tr.cond_t rfl h5 ?_
          refine Tr.seq ?_
          refine Tr.region ?_
          refine Run.val (lt rfl) (Y.assign rfl) ?_
          refine Run.val (lt rfl) (Y.assign rfl) ?_
          refine Run.to_end ?_
          refine Ex.go ?_
          refine Tr.to_ret ?_
          refine Ex.ret_then ?_
          refine Ex.keep [1] ?_
          exact Ex.ret2 rfl rfl rfl  ⟨rfl, by rw [(Con.take_some (c := c) (m := m) (h2) h3 h4 (by simpa using g5)).2.1, (Con.take_some (c := c) (m := m) (h2) h3 h4 (by simpa using g5)).2.2], by rw [(Con.take_some (c := c) (m := m) (h2) h3 h4 (by simpa using g5)).1]; rfl⟩
        · have g5 := h5
          try simp only [kb] at g5
          refine Tr.cond_f rfl h5 ?_
          refine Tr.to_end ?_
          refine Ex.go ?_
          refine Tr.seq ?_
          refine Tr.region ?_
          refine Run.val (lt rfl) (Y.move rfl) ?_
          refine Run.val (lt rfl) (Y.nilCheck rfl) ?_
          refine Run.val (lt rfl) (Y.fieldAddr rfl Contact_fo95_0) ?_
          refine Run.val (lt rfl) (Y.loadAgg rfl Contact_ag93 (Kn.at 1 rfl) rfl) ?_
          refine Run.alloc Contact_zo93 (lt rfl) (fun b6 => ?_)
          refine Run.store (s := [(b6, .cells #[.int .i64 c.known, .int .i64 c.hello, .int .i64 c.st] 93 (0, 0))]) rfl rfl Contact_sz93 (i := 0) rfl rfl (le rfl) rfl rfl ?_
          refine Run.to_end ?_
          refine Ex.go ?_
          refine Tr.seq ?_
          refine Tr.region ?_
          refine Run.val (lt rfl) (Y.move rfl) ?_
          refine Run.val (lt rfl) (Y.fieldAddr rfl Contact_fo37_1) ?_
          refine Run.val (lt rfl) (Y.load rfl Contact_ts3 (Kn.at 1 rfl) rfl) ?_
          refine Run.val (lt rfl) (Y.fieldAddr rfl Contact_fo37_3) ?_
          refine Run.val (lt rfl) (Y.load rfl Contact_ts3 (Kn.at 1 rfl) rfl) ?_
          refine Run.val (lt rfl) (Y.fieldAddr rfl Contact_fo37_4) ?_
          refine Run.val (lt rfl) (Y.load rfl Contact_ts3 (Kn.at 1 rfl) rfl) ?_
          refine Run.val (lt rfl) (Y.buildS (l := [(0, .tmp 36), (1, .tmp 38), (2, .tmp 40)]) Contact_zo93 Contact_pl93 rfl rfl) ?_
          refine Run.val (lt rfl) (Y.nilCheck rfl) ?_
          refine Run.val (lt rfl) (Y.fieldAddr rfl Contact_fo95_0) ?_
          refine Run.store (s := [(bc, .cells #[.int .i64 m.life, .int .i64 m.xid, .int .i64 m.state, .int .i64 c.mine, .int .i64 c.said, .int .i64 now, .bool c.up] 95 (0, 0))]) rfl rfl Contact_sz93 (i := 2) rfl rfl (le rfl) rfl rfl ?_
          refine Run.to_end ?_
          refine Ex.go ?_
          refine Tr.seq ?_
          refine Tr.region ?_
          refine Run.val (lt rfl) (Y.fieldAddr rfl Contact_fo93_0) ?_
          refine Run.val (lt rfl) (Y.load rfl Contact_ts3 (Kn.at 0 rfl) rfl) ?_
          refine Run.val (lt rfl) (Y.fieldAddr rfl Contact_fo37_1) ?_
          refine Run.val (lt rfl) (Y.load rfl Contact_ts3 (Kn.at 1 rfl) rfl) ?_
          refine Run.val (lt rfl) (Y.int rfl rfl rfl) ?_
          refine Run.val (lt rfl) (Y.assign rfl) ?_
          refine Run.to_end ?_
          refine Ex.go ?_
          refine Tr.seq ?_
          refine Tr.tail 20 Contact_mo (by kernel_rfl) ?_
          refine RunQ.val (lt rfl) (Y.move rfl) ?_
          refine RunQ.val (lt rfl) (Y.fieldAddr rfl Contact_fo37_2) ?_
          refine RunQ.val (lt rfl) (Y.load rfl Contact_ts3 (Kn.at 1 rfl) rfl) ?_
          refine RunQ.val (lt rfl) (Y.move rfl) ?_
          refine RunQ.val (lt rfl) (Y.nilCheck rfl) ?_
          refine RunQ.val (lt rfl) (Y.fieldAddr rfl Contact_fo95_1) ?_
          refine RunQ.val (lt rfl) (Y.load rfl Contact_ts3 (Kn.at 2 rfl) rfl) ?_
          refine RunQ.val (lt rfl) (Y.int rfl rfl rfl) ?_
          refine RunQ.val (lt rfl) (Y.move rfl) ?_
          rcases Bool.eq_false_or_eq_true (m.seen == c.mine) with h7 | h7
          · have g7 := h7
            try simp only [kb] at g7
            refine RunQ.off rfl rfl rfl h7 rfl (lt rfl) ?_
            refine RunQ.off rfl rfl rfl h7 rfl (lt rfl) ?_
            refine RunQ.off rfl rfl rfl h7 rfl (lt rfl) ?_
            refine RunQ.off rfl rfl rfl h7 rfl (lt rfl) ?_
            refine RunQ.off rfl rfl rfl h7 rfl (lt rfl) ?_
            refine RunQ.off_u rfl rfl rfl rfl (lt rfl) ?_
            refine RunQ.off_u rfl rfl rfl rfl (lt rfl) ?_
            refine RunQ.off rfl rfl rfl h7 rfl (lt rfl) ?_
            refine RunQ.val (lt rfl) (Y.pick_t rfl h7 rfl) ?_
            refine RunQ.val (lt rfl) (Y.nilCheck rfl) ?_
            refine RunQ.val (lt rfl) (Y.fieldAddr rfl Contact_fo95_4) ?_
            refine RunQ.nil_run ?_
            refine Run.store (s := [(bc, .cells #[.int .i64 m.life, .int .i64 m.xid, .int .i64 m.state, .int .i64 c.mine, .int .i64 c.said, .int .i64 now, .bool true] 95 (0, 0))]) rfl rfl Contact_sz4 (i := 2) rfl rfl (le rfl) rfl rfl ?_
            refine Run.to_end ?_
            refine Ex.go ?_
            refine Tr.seq ?_
            refine Tr.region ?_
            refine Run.val (lt rfl) (Y.move rfl) ?_
            refine Run.val (lt rfl) (Y.assign rfl) ?_
            refine Run.val (lt rfl) (Y.assign rfl) ?_
            refine Run.to_end ?_
            refine Ex.go ?_
            refine Tr.to_ret ?_
            refine Ex.keep [2] ?_
            exact Ex.ret2 rfl rfl rfl  ⟨rfl, by rw [(Con.take_hello (c := c) (m := m) (u := true) (h2) h3 h4 (by simpa using g5) (by simp only [h7, Bool.true_and, Bool.false_and, Bool.true_or, Bool.false_or, Bool.and_true, Bool.and_false, Bool.or_true, Bool.or_false, Bool.not_true, Bool.not_false])).2.1, (Con.take_hello (c := c) (m := m) (u := true) (h2) h3 h4 (by simpa using g5) (by simp only [h7, Bool.true_and, Bool.false_and, Bool.true_or, Bool.false_or, Bool.and_true, Bool.and_false, Bool.or_true, Bool.or_false, Bool.not_true, Bool.not_false])).2.2], by rw [(Con.take_hello (c := c) (m := m) (u := true) (h2) h3 h4 (by simpa using g5) (by simp only [h7, Bool.true_and, Bool.false_and, Bool.true_or, Bool.false_or, Bool.and_true, Bool.and_false, Bool.or_true, Bool.or_false, Bool.not_true, Bool.not_false])).1]; rfl⟩
          · have g7 := h7
            try simp only [kb] at g7
            refine RunQ.on rfl rfl rfl h7 ?_
            refine RunQ.val (lt rfl) (Y.move rfl) ?_
            refine RunQ.on rfl rfl rfl h7 ?_
            refine RunQ.val (lt rfl) (Y.nilCheck rfl) ?_
            refine RunQ.on rfl rfl rfl h7 ?_
            refine RunQ.val (lt rfl) (Y.fieldAddr rfl Contact_fo95_4) ?_
            refine RunQ.on rfl rfl rfl h7 ?_
            refine RunQ.val (lt rfl) (Y.load rfl Contact_ts4 (Kn.at 2 rfl) rfl) ?_
            refine RunQ.on rfl rfl rfl h7 ?_
            refine RunQ.val (lt rfl) (Y.move rfl) ?_
            rcases Bool.eq_false_or_eq_true (c.up) with h8 | h8
            · have g8 := h8
              try simp only [kb] at g8
              refine RunQ.on rfl rfl rfl h8 ?_
              refine RunQ.val (lt rfl) (Y.move rfl) ?_
              refine RunQ.on rfl rfl rfl h8 ?_
              refine RunQ.val (lt rfl) (Y.not rfl) ?_
              refine RunQ.on rfl rfl rfl h7 ?_
              refine RunQ.val (lt rfl) (Y.pick_t rfl h8 rfl) ?_
              refine RunQ.val (lt rfl) (Y.pick_f rfl h7 rfl) ?_
              refine RunQ.val (lt rfl) (Y.nilCheck rfl) ?_
              refine RunQ.val (lt rfl) (Y.fieldAddr rfl Contact_fo95_4) ?_
              refine RunQ.nil_run ?_
              refine Run.store (s := [(bc, .cells #[.int .i64 m.life, .int .i64 m.xid, .int .i64 m.state, .int .i64 c.mine, .int .i64 c.said, .int .i64 now, .bool (!(c.known != m.life))] 95 (0, 0))]) rfl rfl Contact_sz4 (i := 2) rfl rfl (le rfl) rfl rfl ?_
              refine Run.to_end ?_
              refine Ex.go ?_
              refine Tr.seq ?_
              refine Tr.region ?_
              refine Run.val (lt rfl) (Y.move rfl) ?_
              refine Run.val (lt rfl) (Y.assign rfl) ?_
              refine Run.val (lt rfl) (Y.assign rfl) ?_
              refine Run.to_end ?_
              refine Ex.go ?_
              refine Tr.to_ret ?_
              refine Ex.keep [2] ?_
              exact Ex.ret2 rfl rfl rfl  ⟨rfl, by rw [(Con.take_hello (c := c) (m := m) (u := (!(c.known != m.life))) (h2) h3 h4 (by simpa using g5) (by simp only [h7, h8, Bool.true_and, Bool.false_and, Bool.true_or, Bool.false_or, Bool.and_true, Bool.and_false, Bool.or_true, Bool.or_false, Bool.not_true, Bool.not_false])).2.1, (Con.take_hello (c := c) (m := m) (u := (!(c.known != m.life))) (h2) h3 h4 (by simpa using g5) (by simp only [h7, h8, Bool.true_and, Bool.false_and, Bool.true_or, Bool.false_or, Bool.and_true, Bool.and_false, Bool.or_true, Bool.or_false, Bool.not_true, Bool.not_false])).2.2], by rw [(Con.take_hello (c := c) (m := m) (u := (!(c.known != m.life))) (h2) h3 h4 (by simpa using g5) (by simp only [h7, h8, Bool.true_and, Bool.false_and, Bool.true_or, Bool.false_or, Bool.and_true, Bool.and_false, Bool.or_true, Bool.or_false, Bool.not_true, Bool.not_false])).1]; rfl⟩
            · have g8 := h8
              try simp only [kb] at g8
              refine RunQ.off rfl rfl rfl h8 rfl (lt rfl) ?_
              refine RunQ.off rfl rfl rfl h8 rfl (lt rfl) ?_
              refine RunQ.on rfl rfl rfl h7 ?_
              refine RunQ.val (lt rfl) (Y.pick_f rfl h8 rfl) ?_
              refine RunQ.val (lt rfl) (Y.pick_f rfl h7 rfl) ?_
              refine RunQ.val (lt rfl) (Y.nilCheck rfl) ?_
              refine RunQ.val (lt rfl) (Y.fieldAddr rfl Contact_fo95_4) ?_
              refine RunQ.nil_run ?_
              refine Run.store (s := [(bc, .cells #[.int .i64 m.life, .int .i64 m.xid, .int .i64 m.state, .int .i64 c.mine, .int .i64 c.said, .int .i64 now, .bool false] 95 (0, 0))]) rfl rfl Contact_sz4 (i := 2) rfl rfl (le rfl) rfl rfl ?_
              refine Run.to_end ?_
              refine Ex.go ?_
              refine Tr.seq ?_
              refine Tr.region ?_
              refine Run.val (lt rfl) (Y.move rfl) ?_
              refine Run.val (lt rfl) (Y.assign rfl) ?_
              refine Run.val (lt rfl) (Y.assign rfl) ?_
              refine Run.to_end ?_
              refine Ex.go ?_
              refine Tr.to_ret ?_
              refine Ex.keep [2] ?_
              exact Ex.ret2 rfl rfl rfl  ⟨rfl, by rw [(Con.take_hello (c := c) (m := m) (u := false) (h2) h3 h4 (by simpa using g5) (by simp only [h7, h8, Bool.true_and, Bool.false_and, Bool.true_or, Bool.false_or, Bool.and_true, Bool.and_false, Bool.or_true, Bool.or_false, Bool.not_true, Bool.not_false])).2.1, (Con.take_hello (c := c) (m := m) (u := false) (h2) h3 h4 (by simpa using g5) (by simp only [h7, h8, Bool.true_and, Bool.false_and, Bool.true_or, Bool.false_or, Bool.and_true, Bool.and_false, Bool.or_true, Bool.or_false, Bool.not_true, Bool.not_false])).2.2], by rw [(Con.take_hello (c := c) (m := m) (u := false) (h2) h3 h4 (by simpa using g5) (by simp only [h7, h8, Bool.true_and, Bool.false_and, Bool.true_or, Bool.false_or, Bool.and_true, Bool.and_false, Bool.or_true, Bool.or_false, Bool.not_true, Bool.not_false])).1]; rfl⟩
      · have g4 := h4
        try simp only [kb] at g4
        refine Tr.cond_t rfl (congrArg Bool.not h4) ?_
        refine Tr.seq ?_
        refine Tr.region ?_
        refine Run.val (lt rfl) (Y.assign rfl) ?_
        refine Run.val (lt rfl) (Y.assign rfl) ?_
        refine Run.to_end ?_
        refine Ex.go ?_
        refine Tr.to_ret ?_
        refine Ex.ret_block ?_
        refine Ex.ret_then ?_
        refine Ex.keep [1] ?_
        exact Ex.ret2 rfl rfl rfl  ⟨rfl, by rw [(Con.take_no (c := c) (m := m) (by rw [h2, h3, h4]; rfl)).2, Con.takeE_8 (h2) h3 h4], by rw [(Con.take_no (c := c) (m := m) (by rw [h2, h3, h4]; rfl)).1]; rfl⟩
    · have g3 := h3
      try simp only [kb] at g3
      refine Tr.cond_t rfl (congrArg Bool.not h3) ?_
      refine Tr.seq ?_
      refine Tr.region ?_
      refine Run.val (lt rfl) (Y.assign rfl) ?_
      refine Run.val (lt rfl) (Y.assign rfl) ?_
      refine Run.to_end ?_
      refine Ex.go ?_
      refine Tr.to_ret ?_
      refine Ex.ret_block ?_
      refine Ex.ret_then ?_
      refine Ex.keep [1] ?_
      exact Ex.ret2 rfl rfl rfl  ⟨rfl, by rw [(Con.take_no (c := c) (m := m) (by rw [h2, h3]; rfl)).2, Con.takeE_2 (h2) h3], by rw [(Con.take_no (c := c) (m := m) (by rw [h2, h3]; rfl)).1]; rfl⟩
  · have g2 := h2
    try simp only [kb] at g2
    refine Tr.cond_t rfl (congrArg Bool.not h2) ?_
    refine Tr.seq ?_
    refine Tr.region ?_
    refine Run.val (lt rfl) (Y.assign rfl) ?_
    refine Run.val (lt rfl) (Y.assign rfl) ?_
    refine Run.to_end ?_
    refine Ex.go ?_
    refine Tr.to_ret ?_
    refine Ex.ret_block ?_
    refine Ex.ret_then ?_
    refine Ex.keep [1] ?_
    exact Ex.ret2 rfl rfl rfl  ⟨rfl, by rw [(Con.take_no (c := c) (m := m) (by rw [h2]; rfl)).2, Con.takeE_1 (h2)], by rw [(Con.take_no (c := c) (m := m) (by rw [h2]; rfl)).1]; rfl⟩

theorem rtake_c {V : Vw} {bc : Nat} {c : Con} {m : Msg} {now : Int} (hi : c.Inv)  : Does Try.prog 56 [.pointer (some ⟨bc, 0, none⟩), .agg #[.int .i64 m.kind, .int .i64 m.life, .int .i64 m.seen, .int .i64 m.xid, .int .i64 m.state, .int .u32 m.addr, .int .i64 m.bind, .string m.client, .int .i64 m.pot, .int .i64 m.at_, .bool m.ok], .int .i64 now] V [[(bc, .cells (c : Con).b 56 (0, 0))]] (fun u V' H' => V' = V ∧ u = .tuple #[.bool (Con.takeF c m now), .int .i64 (Con.takeE c m now)] ∧ H' = [[(bc, .cells (Con.takeC c m now : Con).b 56 (0, 0))]]) := by
  refine Does.intro Try.func56 rfl rfl (le rfl) (fun B => ?_)
  refine Tr.seq ?_
  refine Tr.region ?_
  refine Run.box rfl (lt rfl) (fun b1 => ?_)
  refine Run.val (lt rfl) (Y.assign rfl) ?_
  refine Run.val (lt rfl) (Y.assign rfl) ?_
  refine Run.to_end ?_
  refine Ex.go ?_
  refine Tr.seq ?_
  refine Tr.seq ?_
  refine Tr.region ?_
  refine Run.val (lt rfl) (Y.move rfl) ?_
  refine Run.val (lt rfl) (Y.int rfl rfl rfl) ?_
  refine Run.val (lt rfl) (Y.move rfl) ?_
  rcases Bool.eq_false_or_eq_true (decide (now < 0)) with h2 | h2
  · have g2 := h2
    try simp only [kb] at g2
    refine Run.off rfl rfl rfl h2 rfl (lt rfl) ?_
    refine Run.off rfl rfl rfl h2 rfl (lt rfl) ?_
    refine Run.val (lt rfl) (Y.pick_t rfl h2 rfl) ?_
    refine Run.to_end ?_
    refine Ex.go ?_
    refine Tr.cond_t rfl rfl ?_
    refine Tr.seq ?_
    refine Tr.region ?_
    refine Run.val (lt rfl) (Y.assign rfl) ?_
    refine Run.val (lt rfl) (Y.assign rfl) ?_
    refine Run.to_end ?_
    refine Ex.go ?_
    refine Tr.to_ret ?_
    refine Ex.ret_then ?_
    refine Ex.keep [1] ?_
    exact Ex.ret2 rfl rfl rfl  ⟨rfl, by rw [(Con.take_no (c := c) (m := m) (by rw [Con.moment_no (by omega)]; rfl)).2, Con.takeE_1 (Con.moment_no (by omega))], by rw [(Con.take_no (c := c) (m := m) (by rw [Con.moment_no (by omega)]; rfl)).1]; rfl⟩
  · have g2 := h2
    try simp only [kb] at g2
    refine Run.on rfl rfl rfl h2 ?_
    refine Run.val (lt rfl) (Y.move rfl) ?_
    refine Run.on rfl rfl rfl h2 ?_
    refine Run.val (lt rfl) (Y.int rfl rfl rfl) ?_
    refine Run.val (lt rfl) (Y.pick_f rfl h2 rfl) ?_
    refine Run.to_end ?_
    refine Ex.go ?_
    rcases Bool.eq_false_or_eq_true (decide (now > 1099511627776)) with h3 | h3
    · have g3 := h3
      try simp only [kb] at g3
      refine Tr.cond_t rfl h3 ?_
      refine Tr.seq ?_
      refine Tr.region ?_
      refine Run.val (lt rfl) (Y.assign rfl) ?_
      refine Run.val (lt rfl) (Y.assign rfl) ?_
      refine Run.to_end ?_
      refine Ex.go ?_
      refine Tr.to_ret ?_
      refine Ex.ret_then ?_
      refine Ex.keep [1] ?_
      exact Ex.ret2 rfl rfl rfl  ⟨rfl, by rw [(Con.take_no (c := c) (m := m) (by rw [Con.moment_no (by omega)]; rfl)).2, Con.takeE_1 (Con.moment_no (by omega))], by rw [(Con.take_no (c := c) (m := m) (by rw [Con.moment_no (by omega)]; rfl)).1]; rfl⟩
    · have g3 := h3
      try simp only [kb] at g3
      refine Tr.cond_f rfl h3 ?_
      refine Tr.to_end ?_
      refine Ex.go ?_
      refine Tr.seq ?_
      refine Tr.region ?_
      refine Run.val (lt rfl) (Y.loadAgg rfl Contact_ag37 (Kn.at 0 rfl) rfl) ?_
      refine Run.call0 (l := [.tmp 16]) rfl rfl rfl (lt rfl) rright_c ?_
      refine Run.val (lt rfl) (Y.assign rfl) ?_
      refine Run.to_end ?_
      refine Ex.go ?_
      refine Tr.seq ?_
      refine Tr.seq ?_
      refine Tr.region ?_
      refine Run.val (lt rfl) (Y.move rfl) ?_
      refine Run.val (lt rfl) (Y.not rfl) ?_
      refine Run.to_end ?_
      refine Ex.go ?_
      rcases Bool.eq_false_or_eq_true (Msg.right m) with h4 | h4
      · have g4 := h4
        try simp only [kb] at g4
        refine Tr.cond_f rfl (congrArg Bool.not h4) ?_
        refine Tr.to_end ?_
        refine Ex.go ?_
        refine Tr.seq ?_
        refine Tr.seq ?_
        refine Tr.region ?_
        refine Run.val (lt rfl) (Y.move rfl) ?_
        refine Run.val (lt rfl) (Y.loadAgg rfl Contact_ag37 (Kn.at 0 rfl) rfl) ?_
        refine Run.call0 (l := [.tmp 20, .tmp 21]) rfl rfl rfl (lt rfl) (old_c (c := c) (m := m) (Kn.at 1 rfl)) ?_
        refine Run.to_end ?_
        refine Ex.go ?_
        rcases Bool.eq_false_or_eq_true (Con.fits c m) with h5 | h5
        · have g5 := h5
          try simp only [kb] at g5
          refine Tr.cond_f rfl (congrArg Bool.not h5) ?_
          refine Tr.to_end ?_
          refine Ex.go ?_
          refine Tr.seq ?_
          refine Tr.region ?_
          refine Run.val (lt rfl) (Y.move rfl) ?_
          refine Run.val (lt rfl) (Y.move rfl) ?_
          refine Run.val (lt rfl) (Y.nilCheck rfl) ?_
          refine Run.val (lt rfl) (Y.fieldAddr rfl Contact_fo56_5) ?_
          refine Run.store (s := [(bc, .cells #[.int .i64 c.mine, .int .i64 c.known, .int .i64 c.said, .int .i64 c.hello, .int .i64 c.st, .int .i64 now, .bool c.up] 56 (0, 0))]) rfl rfl Contact_sz3 (i := 1) rfl rfl (le rfl) rfl rfl ?_
          refine Run.to_end ?_
          refine Ex.go ?_
          refine Tr.seq ?_
          refine Tr.seq ?_
          refine Tr.region ?_
          refine Run.val (lt rfl) (Y.fieldAddr rfl Contact_fo37_0) ?_
          refine Run.val (lt rfl) (Y.load rfl Contact_ts3 (Kn.at 0 rfl) rfl) ?_
          refine Run.val (lt rfl) (Y.int rfl rfl rfl) ?_
          refine Run.to_end ?_
          refine Ex.go ?_
          rcases Bool.eq_false_or_eq_true (m.kind != 1) with h6 | h6
          · have g6 := h6
            try simp only [kb] at g6
            refine Tr.cond_t rfl h6 ?_
            refine Tr.seq ?_
            refine Tr.region ?_
            refine Run.val (lt rfl) (Y.assign rfl) ?_
            refine Run.val (lt rfl) (Y.assign rfl) ?_
            refine Run.to_end ?_
            refine Ex.go ?_
            refine Tr.to_ret ?_
            refine Ex.ret_then ?_
            refine Ex.keep [1] ?_
            exact Ex.ret2 rfl rfl rfl  ⟨rfl, by rw [(Con.take_some (c := c) (m := m) (Con.moment_yes (by omega)) h4 h5 (by simpa using g6)).2.1, (Con.take_some (c := c) (m := m) (Con.moment_yes (by omega)) h4 h5 (by simpa using g6)).2.2], by rw [(Con.take_some (c := c) (m := m) (Con.moment_yes (by omega)) h4 h5 (by simpa using g6)).1]; rfl⟩
          · have g6 := h6
            try simp only [kb] at g6
            refine Tr.cond_f rfl h6 ?_
            refine Tr.to_end ?_
            refine Ex.go ?_
            refine Tr.seq ?_
            refine Tr.quiet Contact_mo (by kernel_rfl) ?_
            refine RunQ.val (lt rfl) (Y.fieldAddr rfl Contact_fo37_1) ?_
            refine RunQ.val (lt rfl) (Y.load rfl Contact_ts3 (Kn.at 0 rfl) rfl) ?_
            refine RunQ.val (lt rfl) (Y.move rfl) ?_
            refine RunQ.val (lt rfl) (Y.nilCheck rfl) ?_
            refine RunQ.val (lt rfl) (Y.fieldAddr rfl Contact_fo56_1) ?_
            refine RunQ.val (lt rfl) (Y.load rfl Contact_ts3 (Kn.at 1 rfl) rfl) ?_
            refine RunQ.val (lt rfl) (Y.int rfl rfl rfl) ?_
            refine RunQ.val (lt rfl) (Y.assign rfl) ?_
            refine RunQ.to_end ?_
            refine Ex.go ?_
            refine Tr.seq ?_
            refine Tr.region ?_
            refine Run.val (lt rfl) (Y.move rfl) ?_
            refine Run.val (lt rfl) (Y.fieldAddr rfl Contact_fo37_1) ?_
            refine Run.val (lt rfl) (Y.load rfl Contact_ts3 (Kn.at 0 rfl) rfl) ?_
            refine Run.val (lt rfl) (Y.nilCheck rfl) ?_
            refine Run.val (lt rfl) (Y.fieldAddr rfl Contact_fo56_1) ?_
            refine Run.store (s := [(bc, .cells #[.int .i64 c.mine, .int .i64 m.life, .int .i64 c.said, .int .i64 c.hello, .int .i64 c.st, .int .i64 now, .bool c.up] 56 (0, 0))]) rfl rfl Contact_sz3 (i := 1) rfl rfl (le rfl) rfl rfl ?_
            refine Run.to_end ?_
            refine Ex.go ?_
            refine Tr.seq ?_
            refine Tr.region ?_
            refine Run.val (lt rfl) (Y.move rfl) ?_
            refine Run.val (lt rfl) (Y.fieldAddr rfl Contact_fo37_3) ?_
            refine Run.val (lt rfl) (Y.load rfl Contact_ts3 (Kn.at 0 rfl) rfl) ?_
            refine Run.val (lt rfl) (Y.nilCheck rfl) ?_
            refine Run.val (lt rfl) (Y.fieldAddr rfl Contact_fo56_3) ?_
            refine Run.store (s := [(bc, .cells #[.int .i64 c.mine, .int .i64 m.life, .int .i64 c.said, .int .i64 m.xid, .int .i64 c.st, .int .i64 now, .bool c.up] 56 (0, 0))]) rfl rfl Contact_sz3 (i := 1) rfl rfl (le rfl) rfl rfl ?_
            refine Run.to_end ?_
            refine Ex.go ?_
            refine Tr.seq ?_
            refine Tr.region ?_
            refine Run.val (lt rfl) (Y.move rfl) ?_
            refine Run.val (lt rfl) (Y.fieldAddr rfl Contact_fo37_4) ?_
            refine Run.val (lt rfl) (Y.load rfl Contact_ts3 (Kn.at 0 rfl) rfl) ?_
            refine Run.val (lt rfl) (Y.nilCheck rfl) ?_
            refine Run.val (lt rfl) (Y.fieldAddr rfl Contact_fo56_4) ?_
            refine Run.store (s := [(bc, .cells #[.int .i64 c.mine, .int .i64 m.life, .int .i64 c.said, .int .i64 m.xid, .int .i64 m.state, .int .i64 now, .bool c.up] 56 (0, 0))]) rfl rfl Contact_sz3 (i := 1) rfl rfl (le rfl) rfl rfl ?_
            refine Run.to_end ?_
            refine Ex.go ?_
            refine Tr.seq ?_
            refine Tr.seq ?_
            refine Tr.quiet Contact_mo (by kernel_rfl) ?_
            refine RunQ.val (lt rfl) (Y.fieldAddr rfl Contact_fo37_2) ?_
            refine RunQ.val (lt rfl) (Y.load rfl Contact_ts3 (Kn.at 0 rfl) rfl) ?_
            refine RunQ.val (lt rfl) (Y.move rfl) ?_
            refine RunQ.val (lt rfl) (Y.nilCheck rfl) ?_
            refine RunQ.val (lt rfl) (Y.fieldAddr rfl Contact_fo56_0) ?_
            refine RunQ.val (lt rfl) (Y.load rfl Contact_ts3 (Kn.at 1 rfl) rfl) ?_
            refine RunQ.val (lt rfl) (Y.int rfl rfl rfl) ?_
            refine RunQ.to_end ?_
            refine Ex.go ?_
            rcases Bool.eq_false_or_eq_true (m.seen == c.mine) with h7 | h7
            · have g7 := h7
              try simp only [kb] at g7
              refine Tr.cond_t rfl h7 ?_
              refine Tr.region ?_
              refine Run.val (lt rfl) (Y.move rfl) ?_
              refine Run.val (lt rfl) (Y.nilCheck rfl) ?_
              refine Run.val (lt rfl) (Y.fieldAddr rfl Contact_fo56_6) ?_
              refine Run.store (s := [(bc, .cells #[.int .i64 c.mine, .int .i64 m.life, .int .i64 c.said, .int .i64 m.xid, .int .i64 m.state, .int .i64 now, .bool true] 56 (0, 0))]) rfl rfl Contact_sz4 (i := 1) rfl rfl (le rfl) rfl rfl ?_
              refine Run.to_end ?_
              refine Ex.go ?_
              refine Tr.seq ?_
              refine Tr.region ?_
              refine Run.val (lt rfl) (Y.move rfl) ?_
              refine Run.val (lt rfl) (Y.assign rfl) ?_
              refine Run.val (lt rfl) (Y.assign rfl) ?_
              refine Run.to_end ?_
              refine Ex.go ?_
              refine Tr.to_ret ?_
              refine Ex.keep [1] ?_
              exact Ex.ret2 rfl rfl rfl  ⟨rfl, by rw [(Con.take_hello (c := c) (m := m) (u := true) (Con.moment_yes (by omega)) h4 h5 (by simpa using g6) (by rw [← Con.fresh_eq h5 (by simpa using g6)]; simp only [h7, Bool.true_and, Bool.false_and, Bool.true_or, Bool.false_or, Bool.and_true, Bool.and_false, Bool.or_true, Bool.or_false, Bool.not_true, Bool.not_false])).2.1, (Con.take_hello (c := c) (m := m) (u := true) (Con.moment_yes (by omega)) h4 h5 (by simpa using g6) (by rw [← Con.fresh_eq h5 (by simpa using g6)]; simp only [h7, Bool.true_and, Bool.false_and, Bool.true_or, Bool.false_or, Bool.and_true, Bool.and_false, Bool.or_true, Bool.or_false, Bool.not_true, Bool.not_false])).2.2, ← Con.fresh_eq h5 (by simpa using g6)], by rw [(Con.take_hello (c := c) (m := m) (u := true) (Con.moment_yes (by omega)) h4 h5 (by simpa using g6) (by rw [← Con.fresh_eq h5 (by simpa using g6)]; simp only [h7, Bool.true_and, Bool.false_and, Bool.true_or, Bool.false_or, Bool.and_true, Bool.and_false, Bool.or_true, Bool.or_false, Bool.not_true, Bool.not_false])).1]; rfl⟩
            · have g7 := h7
              try simp only [kb] at g7
              refine Tr.cond_f rfl h7 ?_
              refine Tr.seq ?_
              refine Tr.region ?_
              refine Run.val (lt rfl) (Y.move rfl) ?_
              refine Run.to_end ?_
              refine Ex.go ?_
              rcases Bool.eq_false_or_eq_true (decide (m.life > c.known)) with h8 | h8
              · have g8 := h8
                try simp only [kb] at g8
                refine Tr.cond_t rfl h8 ?_
                refine Tr.region ?_
                refine Run.val (lt rfl) (Y.move rfl) ?_
                refine Run.val (lt rfl) (Y.nilCheck rfl) ?_
                refine Run.val (lt rfl) (Y.fieldAddr rfl Contact_fo56_6) ?_
                refine Run.store (s := [(bc, .cells #[.int .i64 c.mine, .int .i64 m.life, .int .i64 c.said, .int .i64 m.xid, .int .i64 m.state, .int .i64 now, .bool false] 56 (0, 0))]) rfl rfl Contact_sz4 (i := 1) rfl rfl (le rfl) rfl rfl ?_
                refine Run.to_end ?_
                refine Ex.go ?_
                refine Tr.seq ?_
                refine Tr.region ?_
                refine Run.val (lt rfl) (Y.move rfl) ?_
                refine Run.val (lt rfl) (Y.assign rfl) ?_
                refine Run.val (lt rfl) (Y.assign rfl) ?_
                refine Run.to_end ?_
                refine Ex.go ?_
                refine Tr.to_ret ?_
                refine Ex.keep [1] ?_
                exact Ex.ret2 rfl rfl rfl  ⟨rfl, by rw [(Con.take_hello (c := c) (m := m) (u := false) (Con.moment_yes (by omega)) h4 h5 (by simpa using g6) (by rw [← Con.fresh_eq h5 (by simpa using g6)]; simp only [h7, h8, Bool.true_and, Bool.false_and, Bool.true_or, Bool.false_or, Bool.and_true, Bool.and_false, Bool.or_true, Bool.or_false, Bool.not_true, Bool.not_false])).2.1, (Con.take_hello (c := c) (m := m) (u := false) (Con.moment_yes (by omega)) h4 h5 (by simpa using g6) (by rw [← Con.fresh_eq h5 (by simpa using g6)]; simp only [h7, h8, Bool.true_and, Bool.false_and, Bool.true_or, Bool.false_or, Bool.and_true, Bool.and_false, Bool.or_true, Bool.or_false, Bool.not_true, Bool.not_false])).2.2, ← Con.fresh_eq h5 (by simpa using g6)], by rw [(Con.take_hello (c := c) (m := m) (u := false) (Con.moment_yes (by omega)) h4 h5 (by simpa using g6) (by rw [← Con.fresh_eq h5 (by simpa using g6)]; simp only [h7, h8, Bool.true_and, Bool.false_and, Bool.true_or, Bool.false_or, Bool.and_true, Bool.and_false, Bool.or_true, Bool.or_false, Bool.not_true, Bool.not_false])).1]; rfl⟩
              · have g8 := h8
                try simp only [kb] at g8
                refine Tr.cond_f rfl h8 ?_
                refine Tr.to_end ?_
                refine Ex.go ?_
                refine Tr.seq ?_
                refine Tr.region ?_
                refine Run.val (lt rfl) (Y.move rfl) ?_
                refine Run.val (lt rfl) (Y.assign rfl) ?_
                refine Run.val (lt rfl) (Y.assign rfl) ?_
                refine Run.to_end ?_
                refine Ex.go ?_
                refine Tr.to_ret ?_
                refine Ex.keep [1] ?_
                exact Ex.ret2 rfl rfl rfl  ⟨rfl, by rw [(Con.take_hello (c := c) (m := m) (u := c.up) (Con.moment_yes (by omega)) h4 h5 (by simpa using g6) (by rw [← Con.fresh_eq h5 (by simpa using g6)]; simp only [h7, h8, Bool.true_and, Bool.false_and, Bool.true_or, Bool.false_or, Bool.and_true, Bool.and_false, Bool.or_true, Bool.or_false, Bool.not_true, Bool.not_false])).2.1, (Con.take_hello (c := c) (m := m) (u := c.up) (Con.moment_yes (by omega)) h4 h5 (by simpa using g6) (by rw [← Con.fresh_eq h5 (by simpa using g6)]; simp only [h7, h8, Bool.true_and, Bool.false_and, Bool.true_or, Bool.false_or, Bool.and_true, Bool.and_false, Bool.or_true, Bool.or_false, Bool.not_true, Bool.not_false])).2.2, ← Con.fresh_eq h5 (by simpa using g6)], by rw [(Con.take_hello (c := c) (m := m) (u := c.up) (Con.moment_yes (by omega)) h4 h5 (by simpa using g6) (by rw [← Con.fresh_eq h5 (by simpa using g6)]; simp only [h7, h8, Bool.true_and, Bool.false_and, Bool.true_or, Bool.false_or, Bool.and_true, Bool.and_false, Bool.or_true, Bool.or_false, Bool.not_true, Bool.not_false])).1]; rfl⟩
        · have g5 := h5
          try simp only [kb] at g5
          refine Tr.cond_t rfl (congrArg Bool.not h5) ?_
          refine Tr.seq ?_
          refine Tr.region ?_
          refine Run.val (lt rfl) (Y.assign rfl) ?_
          refine Run.val (lt rfl) (Y.assign rfl) ?_
          refine Run.to_end ?_
          refine Ex.go ?_
          refine Tr.to_ret ?_
          refine Ex.ret_then ?_
          refine Ex.keep [1] ?_
          exact Ex.ret2 rfl rfl rfl  ⟨rfl, by rw [(Con.take_no (c := c) (m := m) (by rw [Con.moment_yes (by omega), h4, h5]; rfl)).2, Con.takeE_8 (Con.moment_yes (by omega)) h4 h5], by rw [(Con.take_no (c := c) (m := m) (by rw [Con.moment_yes (by omega), h4, h5]; rfl)).1]; rfl⟩
      · have g4 := h4
        try simp only [kb] at g4
        refine Tr.cond_t rfl (congrArg Bool.not h4) ?_
        refine Tr.seq ?_
        refine Tr.region ?_
        refine Run.val (lt rfl) (Y.assign rfl) ?_
        refine Run.val (lt rfl) (Y.assign rfl) ?_
        refine Run.to_end ?_
        refine Ex.go ?_
        refine Tr.to_ret ?_
        refine Ex.ret_then ?_
        refine Ex.keep [1] ?_
        exact Ex.ret2 rfl rfl rfl  ⟨rfl, by rw [(Con.take_no (c := c) (m := m) (by rw [Con.moment_yes (by omega), h4]; rfl)).2, Con.takeE_2 (Con.moment_yes (by omega)) h4], by rw [(Con.take_no (c := c) (m := m) (by rw [Con.moment_yes (by omega), h4]; rfl)).1]; rfl⟩

theorem tick_c {V : Vw} {bc : Nat} {c : Con} {now : Int} (hi : c.Inv)  : Does Try.prog 34 [.pointer (some ⟨bc, 0, none⟩), .int .i64 now] V [[(bc, .cells (c : Con).a 95 (0, 0))]] (fun u V' H' => V' = V ∧ u = .tuple #[.bool (Con.lost c now), .int .i64 (Con.tickE now)] ∧ H' = [[(bc, .cells (Con.tickC c now : Con).a 95 (0, 0))]]) := by
  have hat := hi.at_
  refine Does.intro Try.func34 rfl rfl (le rfl) (fun B => ?_)
  refine Tr.seq ?_
  refine Tr.region ?_
  refine Run.val (lt rfl) (Y.assign rfl) ?_
  refine Run.val (lt rfl) (Y.assign rfl) ?_
  refine Run.to_end ?_
  refine Ex.go ?_
  refine Tr.seq ?_
  refine Tr.seq ?_
  refine Tr.region ?_
  refine Run.val (lt rfl) (Y.move rfl) ?_
  refine Run.call0 (l := [.tmp 7]) rfl rfl rfl (lt rfl) moment_c0_h ?_
  refine Run.val (lt rfl) (Y.not rfl) ?_
  refine Run.to_end ?_
  refine Ex.go ?_
  rcases Bool.eq_false_or_eq_true (Con.moment now) with h1 | h1
  · have g1 := h1
    try simp only [kb] at g1
    have hnow := (Con.moment_iff now).1 h1
    refine Tr.cond_f rfl (congrArg Bool.not h1) ?_
    refine Tr.to_end ?_
    refine Ex.go ?_
    refine Tr.seq ?_
    refine Tr.region ?_
    refine Run.val (lt rfl) (Y.move rfl) ?_
    refine Run.val (lt rfl) (Y.nilCheck rfl) ?_
    refine Run.val (lt rfl) (Y.fieldAddr rfl Contact_fo95_4) ?_
    refine Run.val (lt rfl) (Y.load rfl Contact_ts4 (Kn.at 0 rfl) rfl) ?_
    refine Run.val (lt rfl) (Y.move rfl) ?_
    rcases Bool.eq_false_or_eq_true (c.up) with h2 | h2
    · have g2 := h2
      try simp only [kb] at g2
      refine Run.on rfl rfl rfl h2 ?_
      refine Run.val (lt rfl) (Y.move rfl) ?_
      refine Run.on rfl rfl rfl h2 ?_
      refine Run.val (lt rfl) (Y.move rfl) ?_
      refine Run.on rfl rfl rfl h2 ?_
      refine Run.val (lt rfl) (Y.nilCheck rfl) ?_
      refine Run.on rfl rfl rfl h2 ?_
      refine Run.val (lt rfl) (Y.fieldAddr rfl Contact_fo95_3) ?_
      refine Run.on rfl rfl rfl h2 ?_
      refine Run.val (lt rfl) (Y.load rfl Contact_ts3 (Kn.at 0 rfl) rfl) ?_
      refine Run.on rfl rfl rfl h2 ?_
      refine Run.val (lt rfl) (Y.sub rfl rfl (by omega)) ?_
      refine Run.on rfl rfl rfl h2 ?_
      refine Run.val (lt rfl) (Y.int rfl rfl rfl) ?_
      refine Run.val (lt rfl) (Y.pick_t rfl h2 rfl) ?_
      refine Run.val (lt rfl) (Y.assign rfl) ?_
      refine Run.to_end ?_
      refine Ex.go ?_
      refine Tr.seq ?_
      refine Tr.region ?_
      refine Run.val (lt rfl) (Y.move rfl) ?_
      refine Run.val (lt rfl) (Y.move rfl) ?_
      refine Run.val (lt rfl) (Y.nilCheck rfl) ?_
      refine Run.val (lt rfl) (Y.fieldAddr rfl Contact_fo95_4) ?_
      refine Run.val (lt rfl) (Y.load rfl Contact_ts4 (Kn.at 0 rfl) rfl) ?_
      refine Run.val (lt rfl) (Y.move rfl) ?_
      refine Run.on rfl rfl rfl h2 ?_
      refine Run.val (lt rfl) (Y.move rfl) ?_
      refine Run.on rfl rfl rfl h2 ?_
      refine Run.val (lt rfl) (Y.not rfl) ?_
      refine Run.val (lt rfl) (Y.pick_t rfl h2 rfl) ?_
      refine Run.val (lt rfl) (Y.nilCheck rfl) ?_
      refine Run.val (lt rfl) (Y.fieldAddr rfl Contact_fo95_4) ?_
      refine Run.store (s := [(bc, .cells #[.int .i64 c.known, .int .i64 c.hello, .int .i64 c.st, .int .i64 c.mine, .int .i64 c.said, .int .i64 c.at_, .bool (!(decide ((now - c.at_) ≥ 6)))] 95 (0, 0))]) rfl rfl Contact_sz4 (i := 0) rfl rfl (le rfl) rfl rfl ?_
      refine Run.to_end ?_
      refine Ex.go ?_
      refine Tr.seq ?_
      refine Tr.region ?_
      refine Run.val (lt rfl) (Y.move rfl) ?_
      refine Run.val (lt rfl) (Y.assign rfl) ?_
      refine Run.val (lt rfl) (Y.assign rfl) ?_
      refine Run.to_end ?_
      refine Ex.go ?_
      refine Tr.to_ret ?_
      refine Ex.keep [0] ?_
      exact Ex.ret2 rfl rfl rfl  ⟨rfl, by rw [show Con.lost c now = (decide ((now - c.at_) ≥ 6)) from by unfold Con.lost; simp only [h1, h2, Bool.true_and, Bool.false_and, Bool.true_or, Bool.false_or, Bool.and_true, Bool.and_false, Bool.or_true, Bool.or_false, Bool.not_true, Bool.not_false], Con.tickE_0 (h1)], by rw [Con.tick_to (c := c) (now := now) (u := (!(decide ((now - c.at_) ≥ 6)))) (by rw [show Con.lost c now = (decide ((now - c.at_) ≥ 6)) from by unfold Con.lost; simp only [h1, h2, Bool.true_and, Bool.false_and, Bool.true_or, Bool.false_or, Bool.and_true, Bool.and_false, Bool.or_true, Bool.or_false, Bool.not_true, Bool.not_false]]; simp only [h2, Bool.true_and, Bool.false_and, Bool.true_or, Bool.false_or, Bool.and_true, Bool.and_false, Bool.or_true, Bool.or_false, Bool.not_true, Bool.not_false])]; rfl⟩
    · have g2 := h2
      try simp only [kb] at g2
      refine Run.off rfl rfl rfl h2 rfl (lt rfl) ?_
      refine Run.off rfl rfl rfl h2 rfl (lt rfl) ?_
      refine Run.off rfl rfl rfl h2 rfl (lt rfl) ?_
      refine Run.off rfl rfl rfl h2 rfl (lt rfl) ?_
      refine Run.off rfl rfl rfl h2 rfl (lt rfl) ?_
      refine Run.off rfl rfl rfl h2 rfl (lt rfl) ?_
      refine Run.off rfl rfl rfl h2 rfl (lt rfl) ?_
      refine Run.val (lt rfl) (Y.pick_f rfl h2 rfl) ?_
      refine Run.val (lt rfl) (Y.assign rfl) ?_
      refine Run.to_end ?_
      refine Ex.go ?_
      refine Tr.seq ?_
      refine Tr.region ?_
      refine Run.val (lt rfl) (Y.move rfl) ?_
      refine Run.val (lt rfl) (Y.move rfl) ?_
      refine Run.val (lt rfl) (Y.nilCheck rfl) ?_
      refine Run.val (lt rfl) (Y.fieldAddr rfl Contact_fo95_4) ?_
      refine Run.val (lt rfl) (Y.load rfl Contact_ts4 (Kn.at 0 rfl) rfl) ?_
      refine Run.val (lt rfl) (Y.move rfl) ?_
      refine Run.off rfl rfl rfl h2 rfl (lt rfl) ?_
      refine Run.off rfl rfl rfl h2 rfl (lt rfl) ?_
      refine Run.val (lt rfl) (Y.pick_f rfl h2 rfl) ?_
      refine Run.val (lt rfl) (Y.nilCheck rfl) ?_
      refine Run.val (lt rfl) (Y.fieldAddr rfl Contact_fo95_4) ?_
      refine Run.store (s := [(bc, .cells #[.int .i64 c.known, .int .i64 c.hello, .int .i64 c.st, .int .i64 c.mine, .int .i64 c.said, .int .i64 c.at_, .bool false] 95 (0, 0))]) rfl rfl Contact_sz4 (i := 0) rfl rfl (le rfl) rfl rfl ?_
      refine Run.to_end ?_
      refine Ex.go ?_
      refine Tr.seq ?_
      refine Tr.region ?_
      refine Run.val (lt rfl) (Y.move rfl) ?_
      refine Run.val (lt rfl) (Y.assign rfl) ?_
      refine Run.val (lt rfl) (Y.assign rfl) ?_
      refine Run.to_end ?_
      refine Ex.go ?_
      refine Tr.to_ret ?_
      refine Ex.keep [0] ?_
      exact Ex.ret2 rfl rfl rfl  ⟨rfl, by rw [show Con.lost c now = false from by unfold Con.lost; simp only [h1, h2, Bool.true_and, Bool.false_and, Bool.true_or, Bool.false_or, Bool.and_true, Bool.and_false, Bool.or_true, Bool.or_false, Bool.not_true, Bool.not_false], Con.tickE_0 (h1)], by rw [Con.tick_to (c := c) (now := now) (u := false) (by rw [show Con.lost c now = false from by unfold Con.lost; simp only [h1, h2, Bool.true_and, Bool.false_and, Bool.true_or, Bool.false_or, Bool.and_true, Bool.and_false, Bool.or_true, Bool.or_false, Bool.not_true, Bool.not_false]]; simp only [h2, Bool.true_and, Bool.false_and, Bool.true_or, Bool.false_or, Bool.and_true, Bool.and_false, Bool.or_true, Bool.or_false, Bool.not_true, Bool.not_false])]; rfl⟩
  · have g1 := h1
    try simp only [kb] at g1
    refine Tr.cond_t rfl (congrArg Bool.not h1) ?_
    refine Tr.seq ?_
    refine Tr.region ?_
    refine Run.val (lt rfl) (Y.assign rfl) ?_
    refine Run.val (lt rfl) (Y.assign rfl) ?_
    refine Run.to_end ?_
    refine Ex.go ?_
    refine Tr.to_ret ?_
    refine Ex.ret_then ?_
    refine Ex.keep [0] ?_
    exact Ex.ret2 rfl rfl rfl  ⟨rfl, by rw [show Con.lost c now = false from by unfold Con.lost; simp only [h1, Bool.true_and, Bool.false_and, Bool.true_or, Bool.false_or, Bool.and_true, Bool.and_false, Bool.or_true, Bool.or_false, Bool.not_true, Bool.not_false], Con.tickE_1 (h1)], by rw [Con.tick_to (c := c) (now := now) (u := c.up) (by rw [show Con.lost c now = false from by unfold Con.lost; simp only [h1, Bool.true_and, Bool.false_and, Bool.true_or, Bool.false_or, Bool.and_true, Bool.and_false, Bool.or_true, Bool.or_false, Bool.not_true, Bool.not_false]]; simp only [Bool.true_and, Bool.false_and, Bool.true_or, Bool.false_or, Bool.and_true, Bool.and_false, Bool.or_true, Bool.or_false, Bool.not_true, Bool.not_false])]; rfl⟩

theorem rtick_c {V : Vw} {bc : Nat} {c : Con} {now : Int} (hi : c.Inv)  : Does Try.prog 57 [.pointer (some ⟨bc, 0, none⟩), .int .i64 now] V [[(bc, .cells (c : Con).b 56 (0, 0))]] (fun u V' H' => V' = V ∧ u = .tuple #[.bool (Con.lost c now), .int .i64 (Con.tickE now)] ∧ H' = [[(bc, .cells (Con.tickC c now : Con).b 56 (0, 0))]]) := by
  have hat := hi.at_
  refine Does.intro Try.func57 rfl rfl (le rfl) (fun B => ?_)
  refine Tr.seq ?_
  refine Tr.region ?_
  refine Run.val (lt rfl) (Y.assign rfl) ?_
  refine Run.val (lt rfl) (Y.assign rfl) ?_
  refine Run.to_end ?_
  refine Ex.go ?_
  refine Tr.seq ?_
  refine Tr.seq ?_
  refine Tr.region ?_
  refine Run.val (lt rfl) (Y.move rfl) ?_
  refine Run.val (lt rfl) (Y.int rfl rfl rfl) ?_
  refine Run.val (lt rfl) (Y.move rfl) ?_
  rcases Bool.eq_false_or_eq_true (decide (now < 0)) with h1 | h1
  · have g1 := h1
    try simp only [kb] at g1
    refine Run.off rfl rfl rfl h1 rfl (lt rfl) ?_
    refine Run.off rfl rfl rfl h1 rfl (lt rfl) ?_
    refine Run.val (lt rfl) (Y.pick_t rfl h1 rfl) ?_
    refine Run.to_end ?_
    refine Ex.go ?_
    refine Tr.cond_t rfl rfl ?_
    refine Tr.seq ?_
    refine Tr.region ?_
    refine Run.val (lt rfl) (Y.assign rfl) ?_
    refine Run.val (lt rfl) (Y.assign rfl) ?_
    refine Run.to_end ?_
    refine Ex.go ?_
    refine Tr.to_ret ?_
    refine Ex.ret_then ?_
    refine Ex.keep [0] ?_
    exact Ex.ret2 rfl rfl rfl  ⟨rfl, by rw [show Con.lost c now = false from by unfold Con.lost; simp only [(Con.moment_no (by omega) : Con.moment now = false), Bool.true_and, Bool.false_and, Bool.true_or, Bool.false_or, Bool.and_true, Bool.and_false, Bool.or_true, Bool.or_false, Bool.not_true, Bool.not_false], Con.tickE_1 (Con.moment_no (by omega))], by rw [Con.tick_to (c := c) (now := now) (u := c.up) (by rw [show Con.lost c now = false from by unfold Con.lost; simp only [(Con.moment_no (by omega) : Con.moment now = false), Bool.true_and, Bool.false_and, Bool.true_or, Bool.false_or, Bool.and_true, Bool.and_false, Bool.or_true, Bool.or_false, Bool.not_true, Bool.not_false]]; simp only [Bool.true_and, Bool.false_and, Bool.true_or, Bool.false_or, Bool.and_true, Bool.and_false, Bool.or_true, Bool.or_false, Bool.not_true, Bool.not_false])]; rfl⟩
  · have g1 := h1
    try simp only [kb] at g1
    refine Run.on rfl rfl rfl h1 ?_
    refine Run.val (lt rfl) (Y.move rfl) ?_
    refine Run.on rfl rfl rfl h1 ?_
    refine Run.val (lt rfl) (Y.int rfl rfl rfl) ?_
    refine Run.val (lt rfl) (Y.pick_f rfl h1 rfl) ?_
    refine Run.to_end ?_
    refine Ex.go ?_
    rcases Bool.eq_false_or_eq_true (decide (now > 1099511627776)) with h2 | h2
    · have g2 := h2
      try simp only [kb] at g2
      refine Tr.cond_t rfl h2 ?_
      refine Tr.seq ?_
      refine Tr.region ?_
      refine Run.val (lt rfl) (Y.assign rfl) ?_
      refine Run.val (lt rfl) (Y.assign rfl) ?_
      refine Run.to_end ?_
      refine Ex.go ?_
      refine Tr.to_ret ?_
      refine Ex.ret_then ?_
      refine Ex.keep [0] ?_
      exact Ex.ret2 rfl rfl rfl  ⟨rfl, by rw [show Con.lost c now = false from by unfold Con.lost; simp only [(Con.moment_no (by omega) : Con.moment now = false), Bool.true_and, Bool.false_and, Bool.true_or, Bool.false_or, Bool.and_true, Bool.and_false, Bool.or_true, Bool.or_false, Bool.not_true, Bool.not_false], Con.tickE_1 (Con.moment_no (by omega))], by rw [Con.tick_to (c := c) (now := now) (u := c.up) (by rw [show Con.lost c now = false from by unfold Con.lost; simp only [(Con.moment_no (by omega) : Con.moment now = false), Bool.true_and, Bool.false_and, Bool.true_or, Bool.false_or, Bool.and_true, Bool.and_false, Bool.or_true, Bool.or_false, Bool.not_true, Bool.not_false]]; simp only [Bool.true_and, Bool.false_and, Bool.true_or, Bool.false_or, Bool.and_true, Bool.and_false, Bool.or_true, Bool.or_false, Bool.not_true, Bool.not_false])]; rfl⟩
    · have g2 := h2
      try simp only [kb] at g2
      refine Tr.cond_f rfl h2 ?_
      refine Tr.to_end ?_
      refine Ex.go ?_
      refine Tr.seq ?_
      refine Tr.seq ?_
      refine Tr.region ?_
      refine Run.val (lt rfl) (Y.move rfl) ?_
      refine Run.val (lt rfl) (Y.nilCheck rfl) ?_
      refine Run.val (lt rfl) (Y.fieldAddr rfl Contact_fo56_6) ?_
      refine Run.val (lt rfl) (Y.load rfl Contact_ts4 (Kn.at 0 rfl) rfl) ?_
      refine Run.val (lt rfl) (Y.move rfl) ?_
      rcases Bool.eq_false_or_eq_true (c.up) with h3 | h3
      · have g3 := h3
        try simp only [kb] at g3
        refine Run.on rfl rfl rfl h3 ?_
        refine Run.val (lt rfl) (Y.move rfl) ?_
        refine Run.on rfl rfl rfl h3 ?_
        refine Run.val (lt rfl) (Y.move rfl) ?_
        refine Run.on rfl rfl rfl h3 ?_
        refine Run.val (lt rfl) (Y.nilCheck rfl) ?_
        refine Run.on rfl rfl rfl h3 ?_
        refine Run.val (lt rfl) (Y.fieldAddr rfl Contact_fo56_5) ?_
        refine Run.on rfl rfl rfl h3 ?_
        refine Run.val (lt rfl) (Y.load rfl Contact_ts3 (Kn.at 0 rfl) rfl) ?_
        refine Run.on rfl rfl rfl h3 ?_
        refine Run.val (lt rfl) (Y.sub rfl rfl (by omega)) ?_
        refine Run.on rfl rfl rfl h3 ?_
        refine Run.val (lt rfl) (Y.int rfl rfl rfl) ?_
        refine Run.val (lt rfl) (Y.pick_t rfl h3 rfl) ?_
        refine Run.to_end ?_
        refine Ex.go ?_
        rcases Bool.eq_false_or_eq_true (decide ((now - c.at_) ≥ 6)) with h4 | h4
        · have g4 := h4
          try simp only [kb] at g4
          refine Tr.cond_t rfl h4 ?_
          refine Tr.seq ?_
          refine Tr.region ?_
          refine Run.val (lt rfl) (Y.move rfl) ?_
          refine Run.val (lt rfl) (Y.nilCheck rfl) ?_
          refine Run.val (lt rfl) (Y.fieldAddr rfl Contact_fo56_6) ?_
          refine Run.store (s := [(bc, .cells #[.int .i64 c.mine, .int .i64 c.known, .int .i64 c.said, .int .i64 c.hello, .int .i64 c.st, .int .i64 c.at_, .bool false] 56 (0, 0))]) rfl rfl Contact_sz4 (i := 0) rfl rfl (le rfl) rfl rfl ?_
          refine Run.to_end ?_
          refine Ex.go ?_
          refine Tr.seq ?_
          refine Tr.region ?_
          refine Run.val (lt rfl) (Y.assign rfl) ?_
          refine Run.val (lt rfl) (Y.assign rfl) ?_
          refine Run.to_end ?_
          refine Ex.go ?_
          refine Tr.to_ret ?_
          refine Ex.ret_then ?_
          refine Ex.keep [0] ?_
          exact Ex.ret2 rfl rfl rfl  ⟨rfl, by rw [show Con.lost c now = true from by unfold Con.lost; simp only [(Con.moment_yes (by omega) : Con.moment now = true), h3, h4, Bool.true_and, Bool.false_and, Bool.true_or, Bool.false_or, Bool.and_true, Bool.and_false, Bool.or_true, Bool.or_false, Bool.not_true, Bool.not_false], Con.tickE_0 (Con.moment_yes (by omega))], by rw [Con.tick_to (c := c) (now := now) (u := false) (by rw [show Con.lost c now = true from by unfold Con.lost; simp only [(Con.moment_yes (by omega) : Con.moment now = true), h3, h4, Bool.true_and, Bool.false_and, Bool.true_or, Bool.false_or, Bool.and_true, Bool.and_false, Bool.or_true, Bool.or_false, Bool.not_true, Bool.not_false]]; simp only [h3, h4, Bool.true_and, Bool.false_and, Bool.true_or, Bool.false_or, Bool.and_true, Bool.and_false, Bool.or_true, Bool.or_false, Bool.not_true, Bool.not_false])]; rfl⟩
        · have g4 := h4
          try simp only [kb] at g4
          refine Tr.cond_f rfl h4 ?_
          refine Tr.to_end ?_
          refine Ex.go ?_
          refine Tr.seq ?_
          refine Tr.region ?_
          refine Run.val (lt rfl) (Y.assign rfl) ?_
          refine Run.val (lt rfl) (Y.assign rfl) ?_
          refine Run.to_end ?_
          refine Ex.go ?_
          refine Tr.to_ret ?_
          refine Ex.keep [0] ?_
          exact Ex.ret2 rfl rfl rfl  ⟨rfl, by rw [show Con.lost c now = false from by unfold Con.lost; simp only [(Con.moment_yes (by omega) : Con.moment now = true), h3, h4, Bool.true_and, Bool.false_and, Bool.true_or, Bool.false_or, Bool.and_true, Bool.and_false, Bool.or_true, Bool.or_false, Bool.not_true, Bool.not_false], Con.tickE_0 (Con.moment_yes (by omega))], by rw [Con.tick_to (c := c) (now := now) (u := c.up) (by rw [show Con.lost c now = false from by unfold Con.lost; simp only [(Con.moment_yes (by omega) : Con.moment now = true), h3, h4, Bool.true_and, Bool.false_and, Bool.true_or, Bool.false_or, Bool.and_true, Bool.and_false, Bool.or_true, Bool.or_false, Bool.not_true, Bool.not_false]]; simp only [h3, h4, Bool.true_and, Bool.false_and, Bool.true_or, Bool.false_or, Bool.and_true, Bool.and_false, Bool.or_true, Bool.or_false, Bool.not_true, Bool.not_false])]; rfl⟩
      · have g3 := h3
        try simp only [kb] at g3
        refine Run.off rfl rfl rfl h3 rfl (lt rfl) ?_
        refine Run.off rfl rfl rfl h3 rfl (lt rfl) ?_
        refine Run.off rfl rfl rfl h3 rfl (lt rfl) ?_
        refine Run.off rfl rfl rfl h3 rfl (lt rfl) ?_
        refine Run.off rfl rfl rfl h3 rfl (lt rfl) ?_
        refine Run.off rfl rfl rfl h3 rfl (lt rfl) ?_
        refine Run.off rfl rfl rfl h3 rfl (lt rfl) ?_
        refine Run.val (lt rfl) (Y.pick_f rfl h3 rfl) ?_
        refine Run.to_end ?_
        refine Ex.go ?_
        refine Tr.cond_f rfl rfl ?_
        refine Tr.to_end ?_
        refine Ex.go ?_
        refine Tr.seq ?_
        refine Tr.region ?_
        refine Run.val (lt rfl) (Y.assign rfl) ?_
        refine Run.val (lt rfl) (Y.assign rfl) ?_
        refine Run.to_end ?_
        refine Ex.go ?_
        refine Tr.to_ret ?_
        refine Ex.keep [0] ?_
        exact Ex.ret2 rfl rfl rfl  ⟨rfl, by rw [show Con.lost c now = false from by unfold Con.lost; simp only [(Con.moment_yes (by omega) : Con.moment now = true), h3, Bool.true_and, Bool.false_and, Bool.true_or, Bool.false_or, Bool.and_true, Bool.and_false, Bool.or_true, Bool.or_false, Bool.not_true, Bool.not_false], Con.tickE_0 (Con.moment_yes (by omega))], by rw [Con.tick_to (c := c) (now := now) (u := c.up) (by rw [show Con.lost c now = false from by unfold Con.lost; simp only [(Con.moment_yes (by omega) : Con.moment now = true), h3, Bool.true_and, Bool.false_and, Bool.true_or, Bool.false_or, Bool.and_true, Bool.and_false, Bool.or_true, Bool.or_false, Bool.not_true, Bool.not_false]]; simp only [h3, Bool.true_and, Bool.false_and, Bool.true_or, Bool.false_or, Bool.and_true, Bool.and_false, Bool.or_true, Bool.or_false, Bool.not_true, Bool.not_false])]; rfl⟩
end Go.Proofs.Ytahgaaomioffhaa
