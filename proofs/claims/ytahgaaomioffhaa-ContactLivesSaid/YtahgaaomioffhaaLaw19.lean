/- The laws ContactScripts, ContactMarks, ContactMeets, walked.
Conditions: as each theorem names them. -/
import Derived.Test.YtahgaaomioffhaaProg
import Derived.Test.YtahgaaomioffhaaC2
import Derived.Test.YtahgaaomioffhaaContact
set_option linter.unusedSimpArgs false
set_option linter.unusedVariables false
set_option maxRecDepth 4000
namespace Go.Proofs.Ytahgaaomioffhaa
open Go Go.K
attribute [local irreducible] Code.wp wpList Calls wpQuiet
theorem Law19_fo53_0 : fieldOff Try.prog 53 0 = some 0 := by kernel_rfl
theorem Law19_ts3 : scal Try.prog 3 = true := by kernel_rfl
theorem Law19_fo53_3 : fieldOff Try.prog 53 3 = some 3 := by kernel_rfl
theorem Law19_ag37 : aggsz Try.prog 37 = some 11 := by kernel_rfl
theorem Law19_fo53_1 : fieldOff Try.prog 53 1 = some 1 := by kernel_rfl
theorem Law19_tg4 : tagOf Try.prog 4 = some (1, .i64) := by kernel_rfl
theorem Law19_fo53_2 : fieldOff Try.prog 53 2 = some 2 := by kernel_rfl
theorem Law19_zo37 : zeroOf Try.prog 37 = some (.agg #[.int .i64 0, .int .i64 0, .int .i64 0, .int .i64 0, .int .i64 0, .int .u32 0, .int .i64 0, .string ⟨#[]⟩, .int .i64 0, .int .i64 0, .bool false]) := by kernel_rfl
theorem Law19_sz37 : sizeT Try.prog 37 = some 11 := by kernel_rfl
theorem Law19_tgs37 : tags Try.prog 37 = some [(0, .i64), (0, .i64), (0, .i64), (0, .i64), (0, .i64), (0, .u32), (0, .i64), (2, .i64), (0, .i64), (0, .i64), (1, .i64)] := by kernel_rfl
theorem Law19_mo : Try.prog.follows .mixedOrders = true := by kernel_rfl
theorem Law19_pt46 : ptrT Try.prog 46 = true := by kernel_rfl
theorem Law19_pt49 : ptrT Try.prog 49 = true := by kernel_rfl
theorem Law19_es45 : elemS Try.prog 45 = some (53, 14) := by kernel_rfl
theorem Law19_fo37_7 : fieldOff Try.prog 37 7 = some 7 := by kernel_rfl
theorem Law19_ts9 : scal Try.prog 9 = true := by kernel_rfl
theorem Law19_st9 : strT Try.prog 9 = true := by kernel_rfl
theorem Law19_ag53 : aggsz Try.prog 53 = some 14 := by kernel_rfl
theorem Law19_fo56_6 : fieldOff Try.prog 56 6 = some 6 := by kernel_rfl
theorem Law19_ts4 : scal Try.prog 4 = true := by kernel_rfl
theorem Law19_fo56_1 : fieldOff Try.prog 56 1 = some 1 := by kernel_rfl
theorem Law19_fo56_4 : fieldOff Try.prog 56 4 = some 4 := by kernel_rfl
theorem Law19_fo37_3 : fieldOff Try.prog 37 3 = some 3 := by kernel_rfl
theorem Law19_fo37_1 : fieldOff Try.prog 37 1 = some 1 := by kernel_rfl
theorem Law19_fo37_2 : fieldOff Try.prog 37 2 = some 2 := by kernel_rfl
theorem Law19_fo37_4 : fieldOff Try.prog 37 4 = some 4 := by kernel_rfl
theorem Law19_fo37_0 : fieldOff Try.prog 37 0 = some 0 := by kernel_rfl
theorem Law19_pl37 : placesS Try.prog 37 = some [(0, 1), (1, 1), (2, 1), (3, 1), (4, 1), (5, 1), (6, 1), (7, 1), (8, 1), (9, 1), (10, 1)] := by kernel_rfl
theorem Law19_al24 : arrT Try.prog 24 = some (2, 1) := by kernel_rfl

theorem step_c {V : Vw} {bc br : Nat} {c : Con} {s : Con.Stp} (hi : c.Inv)  : Does Try.prog 27 [.pointer (some ⟨bc, 0, none⟩), .pointer (some ⟨br, 0, none⟩), .agg #[.int .i64 s.do_, .int .i64 s.now, .int .i64 s.n, .int .i64 s.m.kind, .int .i64 s.m.life, .int .i64 s.m.seen, .int .i64 s.m.xid, .int .i64 s.m.state, .int .u32 s.m.addr, .int .i64 s.m.bind, .string s.m.client, .int .i64 s.m.pot, .int .i64 s.m.at_, .bool s.m.ok]] V [[(bc, .cells (c : Con).a 95 (0, 0))], [(br, .cells (c : Con).b 56 (0, 0))]] (fun u V' H' => V' = V ∧ u = .bool true ∧ H' = [[(bc, .cells (Con.step c s : Con).a 95 (0, 0))], [(br, .cells (Con.step c s : Con).b 56 (0, 0))]]) := by
  refine Does.intro Try.func27 rfl rfl (le rfl) (fun B => ?_)
  refine Tr.seq ?_
  refine Tr.region ?_
  refine Run.box rfl (lt rfl) (fun b1 => ?_)
  refine Run.val (lt rfl) (Y.assign rfl) ?_
  refine Run.to_end ?_
  refine Ex.go ?_
  refine Tr.seq ?_
  refine Tr.seq ?_
  refine Tr.region ?_
  refine Run.val (lt rfl) (Y.fieldAddr rfl Law19_fo53_0) ?_
  refine Run.val (lt rfl) (Y.load rfl Law19_ts3 (Kn.at 0 rfl) rfl) ?_
  refine Run.to_end ?_
  refine Ex.go ?_
  refine Tr.block ?_
  refine Tr.seq ?_
  refine Tr.region ?_
  refine Run.val (lt rfl) (Y.int rfl rfl rfl) ?_
  refine Run.val (lt rfl) (Y.assign rfl) ?_
  refine Run.to_end ?_
  refine Ex.go ?_
  rcases Bool.eq_false_or_eq_true (s.do_ == 0) with h2 | h2
  · have g2 := h2
    try simp only [kb] at g2
    refine Tr.cond_t rfl h2 ?_
    refine Tr.seq ?_
    refine Tr.region ?_
    refine Run.val (lt rfl) (Y.move rfl) ?_
    refine Run.val (lt rfl) (Y.fieldAddr rfl Law19_fo53_3) ?_
    refine Run.val (lt rfl) (Y.loadAgg rfl Law19_ag37 (Kn.at 0 rfl) rfl) ?_
    refine Run.val (lt rfl) (Y.fieldAddr rfl Law19_fo53_1) ?_
    refine Run.val (lt rfl) (Y.load rfl Law19_ts3 (Kn.at 0 rfl) rfl) ?_
    refine Run.call [1] (l := [.tmp 25, .tmp 27, .tmp 29]) rfl rfl rfl (lt rfl) (take19_c (c := c) (m := s.m) (now := s.now) hi) (fun v3 V2 H2 _ hR => ?_)
    obtain ⟨hV, rfl, rfl⟩ := hR; replace hV := hV.symm; subst hV
    refine Run.val (lt rfl) (Y.move rfl) ?_
    refine Run.val (lt rfl) (Y.extract rfl rfl) ?_
    refine Run.val (lt rfl) (Y.extract rfl rfl) ?_
    refine Run.val (lt rfl) (Y.assign rfl) ?_
    refine Run.val (lt rfl) (Y.assign rfl) ?_
    refine Run.to_end ?_
    refine Ex.go ?_
    refine Tr.seq ?_
    refine Tr.region ?_
    refine Run.val (lt rfl) (Y.move rfl) ?_
    refine Run.val (lt rfl) (Y.fieldAddr rfl Law19_fo53_3) ?_
    refine Run.val (lt rfl) (Y.loadAgg rfl Law19_ag37 (Kn.at 0 rfl) rfl) ?_
    refine Run.val (lt rfl) (Y.fieldAddr rfl Law19_fo53_1) ?_
    refine Run.val (lt rfl) (Y.load rfl Law19_ts3 (Kn.at 0 rfl) rfl) ?_
    refine Run.call [1] (l := [.tmp 34, .tmp 36, .tmp 38]) rfl rfl rfl (lt rfl) (rtake_c (c := c) (m := s.m) (now := s.now) hi) (fun v4 V2 H2 _ hR => ?_)
    obtain ⟨hV, rfl, rfl⟩ := hR; replace hV := hV.symm; subst hV
    refine Run.val (lt rfl) (Y.move rfl) ?_
    refine Run.val (lt rfl) (Y.extract rfl rfl) ?_
    refine Run.val (lt rfl) (Y.extract rfl rfl) ?_
    refine Run.val (lt rfl) (Y.assign rfl) ?_
    refine Run.val (lt rfl) (Y.assign rfl) ?_
    refine Run.to_end ?_
    refine Ex.go ?_
    refine Tr.seq ?_
    refine Tr.region ?_
    refine Run.val (lt rfl) (Y.move rfl) ?_
    refine Run.val (lt rfl) (Y.move rfl) ?_
    refine Run.val (lt rfl) (Y.eqB_t rfl rfl Law19_tg4) ?_
    refine Run.val (lt rfl) (Y.move rfl) ?_
    refine Run.on rfl rfl rfl rfl ?_
    refine Run.val (lt rfl) (Y.move rfl) ?_
    refine Run.on rfl rfl rfl rfl ?_
    refine Run.val (lt rfl) (Y.move rfl) ?_
    refine Run.on rfl rfl rfl rfl ?_
    refine Run.val (lt rfl) (Y.eqI_t rfl rfl) ?_
    refine Run.val (lt rfl) (Y.pick_t rfl rfl rfl) ?_
    refine Run.val (lt rfl) (Y.assign rfl) ?_
    refine Run.to_end ?_
    refine Ex.go ?_
    refine Tr.to_ret ?_
    refine Ex.ret_block ?_
    refine Ex.ret_then ?_
    refine Ex.keep [1, 1] ?_
    exact Ex.ret1 rfl rfl  ⟨rfl, rfl, by rw [show Con.step c s = _ from if_pos g2]; rfl⟩
  · have g2 := h2
    try simp only [kb] at g2
    refine Tr.cond_f rfl h2 ?_
    refine Tr.seq ?_
    refine Tr.region ?_
    refine Run.val (lt rfl) (Y.int rfl rfl rfl) ?_
    refine Run.val (lt rfl) (Y.assign rfl) ?_
    refine Run.to_end ?_
    refine Ex.go ?_
    rcases Bool.eq_false_or_eq_true (s.do_ == 1) with h5 | h5
    · have g5 := h5
      try simp only [kb] at g5
      refine Tr.cond_t rfl h5 ?_
      refine Tr.seq ?_
      refine Tr.region ?_
      refine Run.val (lt rfl) (Y.move rfl) ?_
      refine Run.val (lt rfl) (Y.fieldAddr rfl Law19_fo53_1) ?_
      refine Run.val (lt rfl) (Y.load rfl Law19_ts3 (Kn.at 0 rfl) rfl) ?_
      refine Run.call [1] (l := [.tmp 53, .tmp 55]) rfl rfl rfl (lt rfl) (tick_c (c := c) (now := s.now) hi) (fun v6 V2 H2 _ hR => ?_)
      obtain ⟨hV, rfl, rfl⟩ := hR; replace hV := hV.symm; subst hV
      refine Run.val (lt rfl) (Y.move rfl) ?_
      refine Run.val (lt rfl) (Y.extract rfl rfl) ?_
      refine Run.val (lt rfl) (Y.extract rfl rfl) ?_
      refine Run.val (lt rfl) (Y.assign rfl) ?_
      refine Run.val (lt rfl) (Y.assign rfl) ?_
      refine Run.to_end ?_
      refine Ex.go ?_
      refine Tr.seq ?_
      refine Tr.region ?_
      refine Run.val (lt rfl) (Y.move rfl) ?_
      refine Run.val (lt rfl) (Y.fieldAddr rfl Law19_fo53_1) ?_
      refine Run.val (lt rfl) (Y.load rfl Law19_ts3 (Kn.at 0 rfl) rfl) ?_
      refine Run.call [1] (l := [.tmp 60, .tmp 62]) rfl rfl rfl (lt rfl) (rtick_c (c := c) (now := s.now) hi) (fun v7 V2 H2 _ hR => ?_)
      obtain ⟨hV, rfl, rfl⟩ := hR; replace hV := hV.symm; subst hV
      refine Run.val (lt rfl) (Y.move rfl) ?_
      refine Run.val (lt rfl) (Y.extract rfl rfl) ?_
      refine Run.val (lt rfl) (Y.extract rfl rfl) ?_
      refine Run.val (lt rfl) (Y.assign rfl) ?_
      refine Run.val (lt rfl) (Y.assign rfl) ?_
      refine Run.to_end ?_
      refine Ex.go ?_
      refine Tr.seq ?_
      refine Tr.region ?_
      refine Run.val (lt rfl) (Y.move rfl) ?_
      refine Run.val (lt rfl) (Y.move rfl) ?_
      refine Run.val (lt rfl) (Y.eqB_t rfl rfl Law19_tg4) ?_
      refine Run.val (lt rfl) (Y.move rfl) ?_
      refine Run.on rfl rfl rfl rfl ?_
      refine Run.val (lt rfl) (Y.move rfl) ?_
      refine Run.on rfl rfl rfl rfl ?_
      refine Run.val (lt rfl) (Y.move rfl) ?_
      refine Run.on rfl rfl rfl rfl ?_
      refine Run.val (lt rfl) (Y.eqI_t rfl rfl) ?_
      refine Run.val (lt rfl) (Y.pick_t rfl rfl rfl) ?_
      refine Run.val (lt rfl) (Y.assign rfl) ?_
      refine Run.to_end ?_
      refine Ex.go ?_
      refine Tr.to_ret ?_
      refine Ex.ret_block ?_
      refine Ex.ret_then ?_
      refine Ex.keep [1, 1] ?_
      exact Ex.ret1 rfl rfl  ⟨rfl, rfl, by rw [show Con.step c s = _ from (if_neg g2).trans (if_pos g5)]; rfl⟩
    · have g5 := h5
      try simp only [kb] at g5
      refine Tr.cond_f rfl h5 ?_
      refine Tr.seq ?_
      refine Tr.region ?_
      refine Run.val (lt rfl) (Y.int rfl rfl rfl) ?_
      refine Run.val (lt rfl) (Y.assign rfl) ?_
      refine Run.to_end ?_
      refine Ex.go ?_
      rcases Bool.eq_false_or_eq_true (s.do_ == 2) with h8 | h8
      · have g8 := h8
        try simp only [kb] at g8
        refine Tr.cond_t rfl h8 ?_
        refine Tr.seq ?_
        refine Tr.region ?_
        refine Run.val (lt rfl) (Y.move rfl) ?_
        refine Run.val (lt rfl) (Y.fieldAddr rfl Law19_fo53_2) ?_
        refine Run.val (lt rfl) (Y.load rfl Law19_ts3 (Kn.at 0 rfl) rfl) ?_
        refine Run.call [1] (l := [.tmp 77, .tmp 79]) rfl rfl rfl (lt rfl) (hello_c (c := c) (n := s.n) hi) (fun v9 V2 H2 _ hR => ?_)
        obtain ⟨hV, rfl, rfl⟩ := hR; replace hV := hV.symm; subst hV
        refine Run.val (lt rfl) (Y.move rfl) ?_
        refine Run.val (lt rfl) (Y.extract rfl rfl) ?_
        refine Run.val (lt rfl) (Y.extract rfl rfl) ?_
        refine Run.alloc Law19_zo37 (lt rfl) (fun b10 => ?_)
        refine Run.store (s := [(b10, .cells #[.int .i64 ((Con.helloM c s.n).kind), .int .i64 ((Con.helloM c s.n).life), .int .i64 ((Con.helloM c s.n).seen), .int .i64 ((Con.helloM c s.n).xid), .int .i64 ((Con.helloM c s.n).state), .int .u32 ((Con.helloM c s.n).addr), .int .i64 ((Con.helloM c s.n).bind), .string ((Con.helloM c s.n).client), .int .i64 ((Con.helloM c s.n).pot), .int .i64 ((Con.helloM c s.n).at_), .bool ((Con.helloM c s.n).ok)] 37 (0, 0))]) rfl rfl Law19_sz37 (i := 0) rfl rfl (le rfl) rfl rfl ?_
        refine Run.val (lt rfl) (Y.assign rfl) ?_
        refine Run.to_end ?_
        refine Ex.go ?_
        refine Tr.seq ?_
        refine Tr.region ?_
        refine Run.val (lt rfl) (Y.move rfl) ?_
        refine Run.val (lt rfl) (Y.fieldAddr rfl Law19_fo53_2) ?_
        refine Run.val (lt rfl) (Y.load rfl Law19_ts3 (Kn.at 1 rfl) rfl) ?_
        refine Run.call [2] (l := [.tmp 84, .tmp 86]) rfl rfl rfl (lt rfl) (rhello_c (c := c) (n := s.n) hi) (fun v11 V2 H2 _ hR => ?_)
        obtain ⟨hV, rfl, rfl⟩ := hR; replace hV := hV.symm; subst hV
        refine Run.val (lt rfl) (Y.move rfl) ?_
        refine Run.val (lt rfl) (Y.extract rfl rfl) ?_
        refine Run.val (lt rfl) (Y.extract rfl rfl) ?_
        refine Run.alloc Law19_zo37 (lt rfl) (fun b12 => ?_)
        refine Run.store (s := [(b12, .cells #[.int .i64 ((Con.helloM c s.n).kind), .int .i64 ((Con.helloM c s.n).life), .int .i64 ((Con.helloM c s.n).seen), .int .i64 ((Con.helloM c s.n).xid), .int .i64 ((Con.helloM c s.n).state), .int .u32 ((Con.helloM c s.n).addr), .int .i64 ((Con.helloM c s.n).bind), .string ((Con.helloM c s.n).client), .int .i64 ((Con.helloM c s.n).pot), .int .i64 ((Con.helloM c s.n).at_), .bool ((Con.helloM c s.n).ok)] 37 (0, 0))]) rfl rfl Law19_sz37 (i := 0) rfl rfl (le rfl) rfl rfl ?_
        refine Run.val (lt rfl) (Y.assign rfl) ?_
        refine Run.to_end ?_
        refine Ex.go ?_
        refine Tr.seq ?_
        refine Tr.region ?_
        refine Run.val (lt rfl) (Y.loadAgg rfl Law19_ag37 (Kn.at 1 rfl) rfl) ?_
        refine Run.val (lt rfl) (Y.loadAgg rfl Law19_ag37 (Kn.at 0 rfl) rfl) ?_
        refine Run.val (lt rfl) (Y.eqS rfl rfl Law19_tgs37 rfl rfl) ?_
        refine Run.val (lt rfl) (Y.move rfl) ?_
        refine Run.on rfl rfl rfl (Msg.same_self (Con.helloM c s.n)) ?_
        refine Run.val (lt rfl) (Y.move rfl) ?_
        refine Run.on rfl rfl rfl (Msg.same_self (Con.helloM c s.n)) ?_
        refine Run.val (lt rfl) (Y.move rfl) ?_
        refine Run.on rfl rfl rfl (Msg.same_self (Con.helloM c s.n)) ?_
        refine Run.val (lt rfl) (Y.eqI_t rfl rfl) ?_
        refine Run.val (lt rfl) (Y.pick_t rfl (Msg.same_self (Con.helloM c s.n)) rfl) ?_
        refine Run.val (lt rfl) (Y.assign rfl) ?_
        refine Run.to_end ?_
        refine Ex.go ?_
        refine Tr.to_ret ?_
        refine Ex.ret_block ?_
        refine Ex.ret_then ?_
        refine Ex.keep [3, 3] ?_
        exact Ex.ret1 rfl rfl  ⟨rfl, rfl, by rw [show Con.step c s = _ from (if_neg g2).trans ((if_neg g5).trans (if_pos g8))]; rfl⟩
      · have g8 := h8
        try simp only [kb] at g8
        refine Tr.cond_f rfl h8 ?_
        refine Tr.to_end ?_
        refine Ex.end_block ?_
        refine Ex.go ?_
        refine Tr.seq ?_
        refine Tr.region ?_
        refine Run.val (lt rfl) (Y.move rfl) ?_
        refine Run.val (lt rfl) (Y.fieldAddr rfl Law19_fo53_3) ?_
        refine Run.val (lt rfl) (Y.loadAgg rfl Law19_ag37 (Kn.at 0 rfl) rfl) ?_
        refine Run.call0 (l := [.tmp 98, .tmp 100]) rfl rfl rfl (lt rfl) (mark_c (c := c) (m := s.m) (Kn.at 1 rfl)) ?_
        refine Run.alloc Law19_zo37 (lt rfl) (fun b13 => ?_)
        refine Run.store (s := [(b13, .cells #[.int .i64 s.m.kind, .int .i64 c.mine, .int .i64 c.known, .int .i64 s.m.xid, .int .i64 s.m.state, .int .u32 s.m.addr, .int .i64 s.m.bind, .string s.m.client, .int .i64 s.m.pot, .int .i64 s.m.at_, .bool s.m.ok] 37 (0, 0))]) rfl rfl Law19_sz37 (i := 0) rfl rfl (le rfl) rfl rfl ?_
        refine Run.to_end ?_
        refine Ex.go ?_
        refine Tr.seq ?_
        refine Tr.quiet Law19_mo (by kernel_rfl) ?_
        refine RunQ.val (lt rfl) (Y.loadAgg rfl Law19_ag37 (Kn.at 0 rfl) rfl) ?_
        refine RunQ.val (lt rfl) (Y.move rfl) ?_
        refine RunQ.val (lt rfl) (Y.fieldAddr rfl Law19_fo53_3) ?_
        refine RunQ.val (lt rfl) (Y.loadAgg rfl Law19_ag37 (Kn.at 1 rfl) rfl) ?_
        refine RunQ.call0 (l := [.tmp 103, .tmp 105]) rfl rfl rfl (lt rfl) (rmark_c (c := c) (m := s.m) (Kn.at 3 rfl)) ?_
        refine RunQ.val (lt rfl) (Y.eqS rfl rfl Law19_tgs37 rfl rfl) ?_
        refine RunQ.val (lt rfl) (Y.assign rfl) ?_
        refine RunQ.to_end ?_
        refine Ex.go ?_
        refine Tr.to_ret ?_
        refine Ex.keep [2, 2] ?_
        exact Ex.ret1 rfl rfl  ⟨rfl, congrArg Value.bool (Msg.same_self (⟨s.m.kind, c.mine, c.known, s.m.xid, s.m.state, s.m.addr, s.m.bind, s.m.client, s.m.pot, s.m.at_, s.m.ok⟩ : Msg)), by rw [show Con.step c s = _ from (if_neg g2).trans ((if_neg g5).trans (if_neg g8))]; rfl⟩

theorem awake19_c0  {V : Vw} : Does Try.prog 24 [] V [] (Pv (.bool true) V []) := by
  refine Does.intro Try.func24 rfl rfl (le rfl) (fun B => ?_)
  refine Tr.seq ?_
  refine Tr.region ?_
  refine Run.val (lt rfl) (Y.assign rfl) ?_
  refine Run.to_end ?_
  refine Ex.go ?_
  refine Tr.seq ?_
  refine Tr.region ?_
  refine Run.call [] (l := [.const (.int .i64 1)]) rfl rfl rfl (lt rfl) (new_c_yes (n := 1) (by decide)) (fun v2 V2 H2 _ hR => ?_)
  obtain ⟨hV, b1, rfl, rfl⟩ := hR; replace hV := hV.symm; subst hV
  refine Run.val (lt rfl) (Y.move rfl) ?_
  refine Run.val (lt rfl) (Y.extract rfl rfl) ?_
  refine Run.val (lt rfl) (Y.extract rfl rfl) ?_
  refine Run.val (lt rfl) (Y.assign rfl) ?_
  refine Run.val (lt rfl) (Y.assign rfl) ?_
  refine Run.to_end ?_
  refine Ex.go ?_
  refine Tr.seq ?_
  refine Tr.region ?_
  refine Run.call [] (l := [.const (.int .i64 1)]) rfl rfl rfl (lt rfl) (new_c_yes (n := 1) (by decide)) (fun v4 V2 H2 _ hR => ?_)
  obtain ⟨hV, b3, rfl, rfl⟩ := hR; replace hV := hV.symm; subst hV
  refine Run.val (lt rfl) (Y.move rfl) ?_
  refine Run.val (lt rfl) (Y.extract rfl rfl) ?_
  refine Run.val (lt rfl) (Y.extract rfl rfl) ?_
  refine Run.val (lt rfl) (Y.assign rfl) ?_
  refine Run.val (lt rfl) (Y.assign rfl) ?_
  refine Run.to_end ?_
  refine Ex.go ?_
  refine Tr.seq ?_
  refine Tr.seq ?_
  refine Tr.region ?_
  refine Run.val (lt rfl) (Y.move rfl) ?_
  refine Run.val (lt rfl) (Y.int (r := .bool false) rfl rfl rfl) ?_
  refine Run.val (lt rfl) (Y.move rfl) ?_
  refine Run.on rfl rfl rfl rfl ?_
  refine Run.val (lt rfl) (Y.move rfl) ?_
  refine Run.on rfl rfl rfl rfl ?_
  refine Run.val (lt rfl) (Y.int (r := .bool false) rfl rfl rfl) ?_
  refine Run.val (lt rfl) (Y.pick_f rfl rfl rfl) ?_
  refine Run.val (lt rfl) (Y.move rfl) ?_
  refine Run.on rfl rfl rfl rfl ?_
  refine Run.val (lt rfl) (Y.move rfl) ?_
  refine Run.on rfl rfl rfl rfl ?_
  refine Run.val (lt rfl) (Y.eqNil rfl rfl Law19_pt46) ?_
  refine Run.val (lt rfl) (Y.pick_f rfl rfl rfl) ?_
  refine Run.val (lt rfl) (Y.move rfl) ?_
  refine Run.on rfl rfl rfl rfl ?_
  refine Run.val (lt rfl) (Y.move rfl) ?_
  refine Run.on rfl rfl rfl rfl ?_
  refine Run.val (lt rfl) (Y.eqNil rfl rfl Law19_pt46) ?_
  refine Run.val (lt rfl) (Y.pick_f rfl rfl rfl) ?_
  refine Run.to_end ?_
  refine Ex.go ?_
  refine Tr.cond_f rfl rfl ?_
  refine Tr.to_end ?_
  refine Ex.go ?_
  refine Tr.seq ?_
  refine Tr.region ?_
  refine Run.val (lt rfl) (Y.move rfl) ?_
  refine Run.call [0] (l := [.tmp 34, .const (.int .i64 0)]) rfl rfl rfl (lt rfl) (hello_c (c := (Con.new 1)) (n := 0) (Con.inv_new (by decide))) (fun v5 V2 H2 _ hR => ?_)
  obtain ⟨hV, rfl, rfl⟩ := hR; replace hV := hV.symm; subst hV
  refine Run.val (lt rfl) (Y.move rfl) ?_
  refine Run.val (lt rfl) (Y.extract rfl rfl) ?_
  refine Run.val (lt rfl) (Y.extract rfl rfl) ?_
  refine Run.alloc Law19_zo37 (lt rfl) (fun b6 => ?_)
  refine Run.store (s := [(b6, .cells #[.int .i64 ((Con.helloM (Con.new 1) 0).kind), .int .i64 ((Con.helloM (Con.new 1) 0).life), .int .i64 ((Con.helloM (Con.new 1) 0).seen), .int .i64 ((Con.helloM (Con.new 1) 0).xid), .int .i64 ((Con.helloM (Con.new 1) 0).state), .int .u32 ((Con.helloM (Con.new 1) 0).addr), .int .i64 ((Con.helloM (Con.new 1) 0).bind), .string ((Con.helloM (Con.new 1) 0).client), .int .i64 ((Con.helloM (Con.new 1) 0).pot), .int .i64 ((Con.helloM (Con.new 1) 0).at_), .bool ((Con.helloM (Con.new 1) 0).ok)] 37 (0, 0))]) rfl rfl Law19_sz37 (i := 0) rfl rfl (le rfl) rfl rfl ?_
  refine Run.val (lt rfl) (Y.assign rfl) ?_
  refine Run.to_end ?_
  refine Ex.go ?_
  refine Tr.seq ?_
  refine Tr.region ?_
  refine Run.val (lt rfl) (Y.move rfl) ?_
  refine Run.val (lt rfl) (Y.loadAgg rfl Law19_ag37 (Kn.at 0 rfl) rfl) ?_
  refine Run.call [1] (l := [.tmp 39, .tmp 40, .const (.int .i64 1)]) rfl rfl rfl (lt rfl) (take19_c (c := (Con.new 1)) (m := (Con.helloM (Con.new 1) 0)) (now := 1) (Con.inv_new (by decide))) (fun v7 V2 H2 _ hR => ?_)
  obtain ⟨hV, rfl, rfl⟩ := hR; replace hV := hV.symm; subst hV
  refine Run.val (lt rfl) (Y.move rfl) ?_
  refine Run.val (lt rfl) (Y.extract rfl rfl) ?_
  refine Run.val (lt rfl) (Y.extract rfl rfl) ?_
  refine Run.val (lt rfl) (Y.assign rfl) ?_
  refine Run.val (lt rfl) (Y.assign rfl) ?_
  refine Run.to_end ?_
  refine Ex.go ?_
  refine Tr.seq ?_
  refine Tr.region ?_
  refine Run.val (lt rfl) (Y.move rfl) ?_
  refine Run.call [2] (l := [.tmp 45, .const (.int .i64 1)]) rfl rfl rfl (lt rfl) (hello_c (c := (Con.takeC (Con.new 1) (Con.helloM (Con.new 1) 0) 1)) (n := 1) (Con.inv_take (Con.inv_new (by decide)) (Con.helloM (Con.new 1) 0) 1)) (fun v8 V2 H2 _ hR => ?_)
  obtain ⟨hV, rfl, rfl⟩ := hR; replace hV := hV.symm; subst hV
  refine Run.val (lt rfl) (Y.move rfl) ?_
  refine Run.val (lt rfl) (Y.extract rfl rfl) ?_
  refine Run.val (lt rfl) (Y.extract rfl rfl) ?_
  refine Run.alloc Law19_zo37 (lt rfl) (fun b9 => ?_)
  refine Run.store (s := [(b9, .cells #[.int .i64 ((Con.helloM (Con.takeC (Con.new 1) (Con.helloM (Con.new 1) 0) 1) 1).kind), .int .i64 ((Con.helloM (Con.takeC (Con.new 1) (Con.helloM (Con.new 1) 0) 1) 1).life), .int .i64 ((Con.helloM (Con.takeC (Con.new 1) (Con.helloM (Con.new 1) 0) 1) 1).seen), .int .i64 ((Con.helloM (Con.takeC (Con.new 1) (Con.helloM (Con.new 1) 0) 1) 1).xid), .int .i64 ((Con.helloM (Con.takeC (Con.new 1) (Con.helloM (Con.new 1) 0) 1) 1).state), .int .u32 ((Con.helloM (Con.takeC (Con.new 1) (Con.helloM (Con.new 1) 0) 1) 1).addr), .int .i64 ((Con.helloM (Con.takeC (Con.new 1) (Con.helloM (Con.new 1) 0) 1) 1).bind), .string ((Con.helloM (Con.takeC (Con.new 1) (Con.helloM (Con.new 1) 0) 1) 1).client), .int .i64 ((Con.helloM (Con.takeC (Con.new 1) (Con.helloM (Con.new 1) 0) 1) 1).pot), .int .i64 ((Con.helloM (Con.takeC (Con.new 1) (Con.helloM (Con.new 1) 0) 1) 1).at_), .bool ((Con.helloM (Con.takeC (Con.new 1) (Con.helloM (Con.new 1) 0) 1) 1).ok)] 37 (0, 0))]) rfl rfl Law19_sz37 (i := 0) rfl rfl (le rfl) rfl rfl ?_
  refine Run.val (lt rfl) (Y.assign rfl) ?_
  refine Run.to_end ?_
  refine Ex.go ?_
  refine Tr.seq ?_
  refine Tr.region ?_
  refine Run.val (lt rfl) (Y.move rfl) ?_
  refine Run.val (lt rfl) (Y.loadAgg rfl Law19_ag37 (Kn.at 0 rfl) rfl) ?_
  refine Run.call [2] (l := [.tmp 49, .tmp 50, .const (.int .i64 1)]) rfl rfl rfl (lt rfl) (take19_c (c := (Con.helloC (Con.new 1) 0)) (m := (Con.helloM (Con.takeC (Con.new 1) (Con.helloM (Con.new 1) 0) 1) 1)) (now := 1) (Con.inv_hello (Con.inv_new (by decide)) 0)) (fun v10 V2 H2 _ hR => ?_)
  obtain ⟨hV, rfl, rfl⟩ := hR; replace hV := hV.symm; subst hV
  refine Run.to_end ?_
  refine Ex.go ?_
  refine Tr.seq ?_
  refine Tr.region ?_
  refine Run.val (lt rfl) (Y.move rfl) ?_
  refine Run.val (lt rfl) (Y.move rfl) ?_
  refine Run.on rfl rfl rfl (show (Con.takeF (Con.new 1) (Con.helloM (Con.new 1) 0) 1) = true from by decide +kernel) ?_
  refine Run.val (lt rfl) (Y.move rfl) ?_
  refine Run.on rfl rfl rfl (show (Con.takeF (Con.new 1) (Con.helloM (Con.new 1) 0) 1) = true from by decide +kernel) ?_
  refine Run.val (lt rfl) (Y.int rfl rfl rfl) ?_
  refine Run.val (lt rfl) (Y.pick_t rfl (show (Con.takeF (Con.new 1) (Con.helloM (Con.new 1) 0) 1) = true from by decide +kernel) rfl) ?_
  refine Run.val (lt rfl) (Y.move rfl) ?_
  refine Run.on rfl rfl rfl (show ((Con.takeE (Con.new 1) (Con.helloM (Con.new 1) 0) 1) == 0) = true from by decide +kernel) ?_
  refine Run.val (lt rfl) (Y.move rfl) ?_
  refine Run.on rfl rfl rfl (show ((Con.takeE (Con.new 1) (Con.helloM (Con.new 1) 0) 1) == 0) = true from by decide +kernel) ?_
  refine Run.call0 (l := [.tmp 58]) rfl rfl rfl (lt rfl) (up_c (c := (Con.helloC (Con.takeC (Con.new 1) (Con.helloM (Con.new 1) 0) 1) 1)) (Kn.at 2 rfl)) ?_
  refine Run.on rfl rfl rfl (show ((Con.takeE (Con.new 1) (Con.helloM (Con.new 1) 0) 1) == 0) = true from by decide +kernel) ?_
  refine Run.val (lt rfl) (Y.not rfl) ?_
  refine Run.val (lt rfl) (Y.pick_t rfl (show ((Con.takeE (Con.new 1) (Con.helloM (Con.new 1) 0) 1) == 0) = true from by decide +kernel) rfl) ?_
  refine Run.val (lt rfl) (Y.move rfl) ?_
  refine Run.on rfl rfl rfl (congrArg Bool.not (show ((Con.helloC (Con.takeC (Con.new 1) (Con.helloM (Con.new 1) 0) 1) 1).up) = false from by decide +kernel)) ?_
  refine Run.val (lt rfl) (Y.move rfl) ?_
  refine Run.on rfl rfl rfl (congrArg Bool.not (show ((Con.helloC (Con.takeC (Con.new 1) (Con.helloM (Con.new 1) 0) 1) 1).up) = false from by decide +kernel)) ?_
  refine Run.call0 (l := [.tmp 63]) rfl rfl rfl (lt rfl) (up_c (c := (Con.takeC (Con.helloC (Con.new 1) 0) (Con.helloM (Con.takeC (Con.new 1) (Con.helloM (Con.new 1) 0) 1) 1) 1)) (Kn.at 3 rfl)) ?_
  refine Run.val (lt rfl) (Y.pick_t rfl (congrArg Bool.not (show ((Con.helloC (Con.takeC (Con.new 1) (Con.helloM (Con.new 1) 0) 1) 1).up) = false from by decide +kernel)) rfl) ?_
  refine Run.val (lt rfl) (Y.move rfl) ?_
  refine Run.on rfl rfl rfl (show ((Con.takeC (Con.helloC (Con.new 1) 0) (Con.helloM (Con.takeC (Con.new 1) (Con.helloM (Con.new 1) 0) 1) 1) 1).up) = true from by decide +kernel) ?_
  refine Run.val (lt rfl) (Y.move rfl) ?_
  refine Run.on rfl rfl rfl (show ((Con.takeC (Con.helloC (Con.new 1) 0) (Con.helloM (Con.takeC (Con.new 1) (Con.helloM (Con.new 1) 0) 1) 1) 1).up) = true from by decide +kernel) ?_
  refine Run.call0 (l := [.tmp 67]) rfl rfl rfl (lt rfl) (state_c (c := (Con.takeC (Con.helloC (Con.new 1) 0) (Con.helloM (Con.takeC (Con.new 1) (Con.helloM (Con.new 1) 0) 1) 1) 1)) (Kn.at 3 rfl)) ?_
  refine Run.on rfl rfl rfl (show ((Con.takeC (Con.helloC (Con.new 1) 0) (Con.helloM (Con.takeC (Con.new 1) (Con.helloM (Con.new 1) 0) 1) 1) 1).up) = true from by decide +kernel) ?_
  refine Run.val (lt rfl) (Y.int rfl rfl rfl) ?_
  refine Run.val (lt rfl) (Y.pick_t rfl (show ((Con.takeC (Con.helloC (Con.new 1) 0) (Con.helloM (Con.takeC (Con.new 1) (Con.helloM (Con.new 1) 0) 1) 1) 1).up) = true from by decide +kernel) rfl) ?_
  refine Run.val (lt rfl) (Y.move rfl) ?_
  refine Run.on rfl rfl rfl (show (((Con.takeC (Con.helloC (Con.new 1) 0) (Con.helloM (Con.takeC (Con.new 1) (Con.helloM (Con.new 1) 0) 1) 1) 1).st) == 1) = true from by decide +kernel) ?_
  refine Run.val (lt rfl) (Y.move rfl) ?_
  refine Run.on rfl rfl rfl (show (((Con.takeC (Con.helloC (Con.new 1) 0) (Con.helloM (Con.takeC (Con.new 1) (Con.helloM (Con.new 1) 0) 1) 1) 1).st) == 1) = true from by decide +kernel) ?_
  refine Run.call0 (l := [.tmp 72]) rfl rfl rfl (lt rfl) (other_c (c := (Con.takeC (Con.helloC (Con.new 1) 0) (Con.helloM (Con.takeC (Con.new 1) (Con.helloM (Con.new 1) 0) 1) 1) 1)) (Kn.at 3 rfl)) ?_
  refine Run.on rfl rfl rfl (show (((Con.takeC (Con.helloC (Con.new 1) 0) (Con.helloM (Con.takeC (Con.new 1) (Con.helloM (Con.new 1) 0) 1) 1) 1).st) == 1) = true from by decide +kernel) ?_
  refine Run.val (lt rfl) (Y.int rfl rfl rfl) ?_
  refine Run.val (lt rfl) (Y.pick_t rfl (show (((Con.takeC (Con.helloC (Con.new 1) 0) (Con.helloM (Con.takeC (Con.new 1) (Con.helloM (Con.new 1) 0) 1) 1) 1).st) == 1) = true from by decide +kernel) rfl) ?_
  refine Run.val (lt rfl) (Y.assign rfl) ?_
  refine Run.to_end ?_
  refine Ex.go ?_
  refine Tr.to_ret ?_
  refine Ex.keep [] ?_
  exact Ex.ret1 rfl rfl  ⟨congrArg Value.bool (show (((Con.takeC (Con.helloC (Con.new 1) 0) (Con.helloM (Con.takeC (Con.new 1) (Con.helloM (Con.new 1) 0) 1) 1) 1).known) == 1) = true by decide +kernel), rfl, rfl⟩

theorem awake19_c {V : Vw} {H : Hp} : Does Try.prog 24 [] V H (Pv (.bool true) V H) := awake19_c0.frame

theorem scripts_yes {V : Vw} {n : Int} (hn : 1 ≤ n ∧ n ≤ 536870912) {l : List Con.Stp} {p : Option Addr} {c : Nat} (hv : Rd V [] 14 (.slice p l.length c) l.length (l.map Con.Stp.cells).flatten) (hl : l.length ≤ 9223372036854775807)  : Does Try.prog 8 [.int .i64 n, .slice p l.length c] V [] (fun v _ _ => v = .bool true) := by
  refine Does.intro Try.func8 rfl rfl (le rfl) (fun B => ?_)
  refine Tr.seq ?_
  refine Tr.region ?_
  refine Run.val (lt rfl) (Y.assign rfl) ?_
  refine Run.to_end ?_
  refine Ex.go ?_
  refine Tr.seq ?_
  refine Tr.region ?_
  refine Run.call0 (l := []) rfl rfl rfl (lt rfl) awake19_c ?_
  refine Run.val (lt rfl) (Y.assign rfl) ?_
  refine Run.to_end ?_
  refine Ex.go ?_
  refine Tr.seq ?_
  refine Tr.region ?_
  refine Run.val (lt rfl) (Y.move rfl) ?_
  refine Run.call [] (l := [.tmp 14]) rfl rfl rfl (lt rfl) (new_c_yes (n := n) hn) (fun v2 V2 H2 _ hR => ?_)
  obtain ⟨hV, b1, rfl, rfl⟩ := hR; replace hV := hV.symm; subst hV
  refine Run.val (lt rfl) (Y.move rfl) ?_
  refine Run.val (lt rfl) (Y.extract rfl rfl) ?_
  refine Run.val (lt rfl) (Y.extract rfl rfl) ?_
  refine Run.val (lt rfl) (Y.assign rfl) ?_
  refine Run.val (lt rfl) (Y.assign rfl) ?_
  refine Run.to_end ?_
  refine Ex.go ?_
  refine Tr.seq ?_
  refine Tr.region ?_
  refine Run.val (lt rfl) (Y.move rfl) ?_
  refine Run.call [] (l := [.tmp 19]) rfl rfl rfl (lt rfl) (rnew_c_yes (n := n) hn) (fun v4 V2 H2 _ hR => ?_)
  obtain ⟨hV, b3, rfl, rfl⟩ := hR; replace hV := hV.symm; subst hV
  refine Run.val (lt rfl) (Y.move rfl) ?_
  refine Run.val (lt rfl) (Y.extract rfl rfl) ?_
  refine Run.val (lt rfl) (Y.extract rfl rfl) ?_
  refine Run.val (lt rfl) (Y.assign rfl) ?_
  refine Run.val (lt rfl) (Y.assign rfl) ?_
  refine Run.to_end ?_
  refine Ex.go ?_
  refine Tr.seq ?_
  refine Tr.seq ?_
  refine Tr.region ?_
  refine Run.val (lt rfl) (Y.move rfl) ?_
  refine Run.val (lt rfl) (Y.not rfl) ?_
  refine Run.val (lt rfl) (Y.move rfl) ?_
  refine Run.on rfl rfl rfl rfl ?_
  refine Run.val (lt rfl) (Y.move rfl) ?_
  refine Run.on rfl rfl rfl rfl ?_
  refine Run.val (lt rfl) (Y.move rfl) ?_
  refine Run.on rfl rfl rfl rfl ?_
  refine Run.val (lt rfl) (Y.int (r := .bool false) rfl rfl rfl) ?_
  refine Run.val (lt rfl) (Y.pick_f rfl rfl rfl) ?_
  refine Run.val (lt rfl) (Y.move rfl) ?_
  refine Run.on rfl rfl rfl rfl ?_
  refine Run.val (lt rfl) (Y.move rfl) ?_
  refine Run.on rfl rfl rfl rfl ?_
  refine Run.val (lt rfl) (Y.eqNil rfl rfl Law19_pt46) ?_
  refine Run.on rfl rfl rfl rfl ?_
  refine Run.val (lt rfl) (Y.move rfl) ?_
  refine Run.on rfl rfl rfl rfl ?_
  refine Run.val (lt rfl) (Y.eqNil rfl rfl Law19_pt49) ?_
  refine Run.on rfl rfl rfl rfl ?_
  refine Run.val (lt rfl) (Y.neB_f rfl rfl Law19_tg4) ?_
  refine Run.val (lt rfl) (Y.pick_f rfl rfl rfl) ?_
  refine Run.to_end ?_
  refine Ex.go ?_
  refine Tr.cond_f rfl rfl ?_
  refine Tr.to_end ?_
  refine Ex.go ?_
  refine Tr.seq ?_
  refine Tr.seq ?_
  refine Tr.region ?_
  refine Run.val (lt rfl) (Y.assign rfl) ?_
  refine Run.to_end ?_
  refine Ex.go ?_
  refine Tr.block ?_
  refine Tr.loop (X := Con × Nat) (fun x => V) (fun x => [[(b1, .cells #[.int .i64 x.1.known, .int .i64 x.1.hello, .int .i64 x.1.st, .int .i64 x.1.mine, .int .i64 x.1.said, .int .i64 x.1.at_, .bool x.1.up] 95 (0, 0))], [(b3, .cells #[.int .i64 x.1.mine, .int .i64 x.1.known, .int .i64 x.1.said, .int .i64 x.1.hello, .int .i64 x.1.st, .int .i64 x.1.at_, .bool x.1.up] 56 (0, 0))]]) (fun x => [(1, .slice p l.length c), (6, .pointer (some ⟨b1, 0, none⟩)), (8, .pointer (some ⟨b3, 0, none⟩)), (10, .int .i64 (x.2 : Int))]) (fun x => x.1.Inv ∧ x.1.mine = n ∧ x.2 ≤ l.length) (fun x => l.length - x.2) (Con.new n, 0) ⟨Con.inv_new hn, rfl, Nat.zero_le _⟩ (fun a w i => ⟨i.1.sub (subB_cons (by first | rfl | exact congrArg (fun z => some (Value.int _ z)) (by omega)) (subB_cons (by first | rfl | exact congrArg (fun z => some (Value.int _ z)) (by omega)) (subB_cons (by first | rfl | exact congrArg (fun z => some (Value.int _ z)) (by omega)) (subB_cons (by first | rfl | exact congrArg (fun z => some (Value.int _ z)) (by omega)) (subB_nil _))))), i.2⟩) ?_
  rintro x ⟨hin, hmi, hle⟩
  refine Tr.seq ?_
  refine Tr.seq ?_
  refine Tr.region ?_
  refine Run.val (lt rfl) (Y.move rfl) ?_
  refine Run.val (lt rfl) (Y.move rfl) ?_
  refine Run.val (lt rfl) (Y.lenSl rfl Law19_es45) ?_
  refine Run.val (lt rfl) (Y.int rfl rfl rfl) ?_
  refine Run.val (lt rfl) (Y.move rfl) ?_
  rcases Bool.eq_false_or_eq_true (decide ((x.2 : Int) < ((l.length : Nat) : Int))) with h5 | h5
  · have g5 := h5
    try simp only [kb] at g5
    obtain ⟨b, off, c2, cs, e, fz, hw, hc, hk, hcs⟩ := hv.opened (by omega)
    obtain ⟨rfl, rfl⟩ : p = some ⟨b, off, none⟩ ∧ c = c2 := by cases hw; exact ⟨rfl, rfl⟩
    clear hw
    have hrow := row_at (f := Con.Stp.cells) Con.Stp.len hcs (i := x.2) (by omega) (Nat.le_refl _) Con.Stp.dflt
    generalize hs : l.getD x.2 Con.Stp.dflt = s at hrow
    refine Run.on rfl rfl rfl h5 ?_
    refine Run.val (lt rfl) (Y.move rfl) ?_
    refine Run.on rfl rfl rfl h5 ?_
    refine Run.val (lt rfl) (Y.int rfl rfl rfl) ?_
    refine Run.val (lt rfl) (Y.pick_t rfl h5 rfl) ?_
    refine Run.val (lt rfl) (Y.move rfl) ?_
    rcases Bool.eq_false_or_eq_true (decide ((x.2 : Int) < 200)) with h6 | h6
    · have g6 := h6
      try simp only [kb] at g6
      refine Run.on rfl rfl rfl h6 ?_
      refine Run.val (lt rfl) (Y.move rfl) ?_
      refine Run.on rfl rfl rfl h6 ?_
      refine Run.val (lt rfl) (Y.neNil rfl rfl Law19_pt46) ?_
      refine Run.val (lt rfl) (Y.pick_t rfl h6 rfl) ?_
      refine Run.to_end ?_
      refine Ex.go ?_
      refine Tr.cond_t rfl rfl ?_
      refine Tr.to_end ?_
      refine Ex.go ?_
      refine Tr.seq ?_
      refine Tr.block ?_
      refine Tr.seq ?_
      refine Tr.seq ?_
      refine Tr.region ?_
      refine Run.val (lt rfl) (Y.move rfl) ?_
      refine Run.val (lt rfl) (Y.move rfl) ?_
      refine Run.val (lt rfl) (Y.idxAddr rfl rfl Law19_es45 (by omega) (by omega)) ?_
      refine Run.val (lt rfl) (Y.fieldAddr rfl Law19_fo53_3) ?_
      refine Run.val (lt rfl) (Y.fieldAddr rfl Law19_fo37_7) ?_
      refine Run.val (lt rfl) (Y.load rfl Law19_ts9 hk.of_nil (hrow 10 (by decide))) ?_
      refine Run.val (lt rfl) (Y.lenStr rfl Law19_st9) ?_
      refine Run.val (lt rfl) (Y.int rfl rfl rfl) ?_
      refine Run.to_end ?_
      refine Ex.go ?_
      rcases Bool.eq_false_or_eq_true (decide ((s.m.client.size : Int) > 200)) with h7 | h7
      · have g7 := h7
        try simp only [kb] at g7
        refine Tr.cond_t rfl h7 ?_
        refine Tr.seq ?_
        refine Tr.region ?_
        refine Run.val (lt rfl) (Y.assign rfl) ?_
        refine Run.to_end ?_
        refine Ex.go ?_
        refine Tr.to_ret ?_
        refine Ex.ret_then ?_
        refine Ex.ret_block ?_
        refine Ex.ret_then ?_
        refine Ex.ret_then ?_
        refine Ex.ret_block ?_
        refine Ex.ret_then ?_
        refine Ex.keep [] ?_
        exact Ex.ret1 rfl rfl  rfl
      · have g7 := h7
        try simp only [kb] at g7
        refine Tr.cond_f rfl h7 ?_
        refine Tr.to_end ?_
        refine Ex.go ?_
        refine Tr.seq ?_
        refine Tr.region ?_
        refine Run.val (lt rfl) (Y.move rfl) ?_
        refine Run.val (lt rfl) (Y.move rfl) ?_
        refine Run.val (lt rfl) (Y.move rfl) ?_
        refine Run.val (lt rfl) (Y.move rfl) ?_
        refine Run.val (lt rfl) (Y.idxAddr rfl rfl Law19_es45 (by omega) (by omega)) ?_
        refine Run.val (lt rfl) (Y.loadAgg rfl Law19_ag53 hk.of_nil (cellsAt_of (Con.Stp.cells s) _ hrow)) ?_
        refine Run.call [0, 0] (l := [.tmp 59, .tmp 60, .tmp 64]) rfl rfl rfl (lt rfl) (step_c (c := x.1) (s := s) hin) (fun v8 V2 H2 _ hR => ?_)
        obtain ⟨hV, rfl, rfl⟩ := hR; replace hV := hV.symm; subst hV
        refine Run.val (lt rfl) (Y.assign rfl) ?_
        refine Run.to_end ?_
        refine Ex.go ?_
        refine Tr.seq ?_
        refine Tr.quiet Law19_mo (by kernel_rfl) ?_
        refine RunQ.val (lt rfl) (Y.move rfl) ?_
        refine RunQ.val (lt rfl) (Y.not rfl) ?_
        refine RunQ.val (lt rfl) (Y.move rfl) ?_
        refine RunQ.on rfl rfl rfl rfl ?_
        refine RunQ.val (lt rfl) (Y.move rfl) ?_
        refine RunQ.on rfl rfl rfl rfl ?_
        refine RunQ.call0 (l := [.tmp 69]) rfl rfl rfl (lt rfl) (up_c (c := (Con.step x.1 s)) (Kn.at 0 rfl)) ?_
        refine RunQ.on rfl rfl rfl rfl ?_
        refine RunQ.val (lt rfl) (Y.move rfl) ?_
        refine RunQ.on rfl rfl rfl rfl ?_
        refine RunQ.val (lt rfl) (Y.nilCheck rfl) ?_
        refine RunQ.on rfl rfl rfl rfl ?_
        refine RunQ.val (lt rfl) (Y.fieldAddr rfl Law19_fo56_6) ?_
        refine RunQ.on rfl rfl rfl rfl ?_
        refine RunQ.val (lt rfl) (Y.load rfl Law19_ts4 (Kn.at 1 rfl) rfl) ?_
        refine RunQ.on rfl rfl rfl rfl ?_
        refine RunQ.val (lt rfl) (Y.neB_f rfl rfl Law19_tg4) ?_
        refine RunQ.val (lt rfl) (Y.pick_f rfl rfl rfl) ?_
        refine RunQ.val (lt rfl) (Y.move rfl) ?_
        refine RunQ.on rfl rfl rfl rfl ?_
        refine RunQ.val (lt rfl) (Y.move rfl) ?_
        refine RunQ.on rfl rfl rfl rfl ?_
        refine RunQ.call0 (l := [.tmp 78]) rfl rfl rfl (lt rfl) (other_c (c := (Con.step x.1 s)) (Kn.at 0 rfl)) ?_
        refine RunQ.on rfl rfl rfl rfl ?_
        refine RunQ.val (lt rfl) (Y.move rfl) ?_
        refine RunQ.on rfl rfl rfl rfl ?_
        refine RunQ.val (lt rfl) (Y.nilCheck rfl) ?_
        refine RunQ.on rfl rfl rfl rfl ?_
        refine RunQ.val (lt rfl) (Y.fieldAddr rfl Law19_fo56_1) ?_
        refine RunQ.on rfl rfl rfl rfl ?_
        refine RunQ.val (lt rfl) (Y.load rfl Law19_ts3 (Kn.at 1 rfl) rfl) ?_
        refine RunQ.on rfl rfl rfl rfl ?_
        refine RunQ.val (lt rfl) (Y.neI_f rfl rfl) ?_
        refine RunQ.val (lt rfl) (Y.pick_f rfl rfl rfl) ?_
        refine RunQ.val (lt rfl) (Y.move rfl) ?_
        refine RunQ.on rfl rfl rfl rfl ?_
        refine RunQ.val (lt rfl) (Y.move rfl) ?_
        refine RunQ.on rfl rfl rfl rfl ?_
        refine RunQ.call0 (l := [.tmp 87]) rfl rfl rfl (lt rfl) (state_c (c := (Con.step x.1 s)) (Kn.at 0 rfl)) ?_
        refine RunQ.on rfl rfl rfl rfl ?_
        refine RunQ.val (lt rfl) (Y.move rfl) ?_
        refine RunQ.on rfl rfl rfl rfl ?_
        refine RunQ.val (lt rfl) (Y.nilCheck rfl) ?_
        refine RunQ.on rfl rfl rfl rfl ?_
        refine RunQ.val (lt rfl) (Y.fieldAddr rfl Law19_fo56_4) ?_
        refine RunQ.on rfl rfl rfl rfl ?_
        refine RunQ.val (lt rfl) (Y.load rfl Law19_ts3 (Kn.at 1 rfl) rfl) ?_
        refine RunQ.on rfl rfl rfl rfl ?_
        refine RunQ.val (lt rfl) (Y.neI_f rfl rfl) ?_
        refine RunQ.val (lt rfl) (Y.pick_f rfl rfl rfl) ?_
        refine RunQ.to_end ?_
        refine Ex.go ?_
        refine Tr.cond_f rfl rfl ?_
        refine Tr.to_end ?_
        refine Ex.end_block ?_
        refine Ex.go ?_
        refine Tr.region ?_
        refine Run.val (lt rfl) (Y.move rfl) ?_
        refine Run.val (lt rfl) (Y.add rfl rfl (by omega)) ?_
        refine Run.val (lt rfl) (Y.assign rfl) ?_
        refine Run.to_end ?_
        refine Ex.keep [0, 0] ?_
        exact Ex.round (Con.step x.1 s, x.2 + 1) ⟨Con.inv_step hin s, (Con.step_mine _ _).trans hmi, by show x.2 + 1 ≤ l.length; omega⟩ (by show l.length - (x.2 + 1) < l.length - x.2; omega) rfl rfl (subB_cons (by first | rfl | exact congrArg (fun z => some (Value.int _ z)) (by omega)) (subB_cons (by first | rfl | exact congrArg (fun z => some (Value.int _ z)) (by omega)) (subB_cons (by first | rfl | exact congrArg (fun z => some (Value.int _ z)) (by omega)) (subB_cons (by first | rfl | exact congrArg (fun z => some (Value.int _ z)) (by omega)) (subB_nil _)))))
    · have g6 := h6
      try simp only [kb] at g6
      refine Run.off rfl rfl rfl h6 rfl (lt rfl) ?_
      refine Run.off rfl rfl rfl h6 rfl (lt rfl) ?_
      refine Run.val (lt rfl) (Y.pick_f rfl h6 rfl) ?_
      refine Run.to_end ?_
      refine Ex.go ?_
      refine Tr.cond_f rfl rfl ?_
      refine Tr.to_exit ?_
      refine Ex.exit_then ?_
      refine Ex.exit_then ?_
      refine Ex.exit_in ?_
      refine Ex.go ?_
      refine Tr.seq ?_
      refine Tr.region ?_
      refine Run.val (lt rfl) (Y.assign rfl) ?_
      refine Run.to_end ?_
      refine Ex.go ?_
      refine Tr.to_ret ?_
      refine Ex.keep [] ?_
      exact Ex.ret1 rfl rfl  rfl
  · have g5 := h5
    try simp only [kb] at g5
    refine Run.off rfl rfl rfl h5 rfl (lt rfl) ?_
    refine Run.off rfl rfl rfl h5 rfl (lt rfl) ?_
    refine Run.val (lt rfl) (Y.pick_f rfl h5 rfl) ?_
    refine Run.val (lt rfl) (Y.move rfl) ?_
    refine Run.off rfl rfl rfl rfl rfl (lt rfl) ?_
    refine Run.off rfl rfl rfl rfl rfl (lt rfl) ?_
    refine Run.val (lt rfl) (Y.pick_f rfl rfl rfl) ?_
    refine Run.to_end ?_
    refine Ex.go ?_
    refine Tr.cond_f rfl rfl ?_
    refine Tr.to_exit ?_
    refine Ex.exit_then ?_
    refine Ex.exit_then ?_
    refine Ex.exit_in ?_
    refine Ex.go ?_
    refine Tr.seq ?_
    refine Tr.region ?_
    refine Run.val (lt rfl) (Y.assign rfl) ?_
    refine Run.to_end ?_
    refine Ex.go ?_
    refine Tr.to_ret ?_
    refine Ex.keep [] ?_
    exact Ex.ret1 rfl rfl  rfl

theorem scripts_no {V : Vw} {n : Int} (hn : ¬ (1 ≤ n ∧ n ≤ 536870912)) {l : List Con.Stp} {p : Option Addr} {c : Nat} (hv : Rd V [] 14 (.slice p l.length c) l.length (l.map Con.Stp.cells).flatten) (hl : l.length ≤ 9223372036854775807)  : Does Try.prog 8 [.int .i64 n, .slice p l.length c] V [] (fun v _ _ => v = .bool true) := by
  refine Does.intro Try.func8 rfl rfl (le rfl) (fun B => ?_)
  refine Tr.seq ?_
  refine Tr.region ?_
  refine Run.val (lt rfl) (Y.assign rfl) ?_
  refine Run.to_end ?_
  refine Ex.go ?_
  refine Tr.seq ?_
  refine Tr.region ?_
  refine Run.call0 (l := []) rfl rfl rfl (lt rfl) awake19_c ?_
  refine Run.val (lt rfl) (Y.assign rfl) ?_
  refine Run.to_end ?_
  refine Ex.go ?_
  refine Tr.seq ?_
  refine Tr.region ?_
  refine Run.val (lt rfl) (Y.move rfl) ?_
  refine Run.call0 (l := [.tmp 14]) rfl rfl rfl (lt rfl) (Does.frame (new_c_no (n := n) hn)) ?_
  refine Run.val (lt rfl) (Y.move rfl) ?_
  refine Run.val (lt rfl) (Y.extract rfl rfl) ?_
  refine Run.val (lt rfl) (Y.extract rfl rfl) ?_
  refine Run.val (lt rfl) (Y.assign rfl) ?_
  refine Run.val (lt rfl) (Y.assign rfl) ?_
  refine Run.to_end ?_
  refine Ex.go ?_
  refine Tr.seq ?_
  refine Tr.region ?_
  refine Run.val (lt rfl) (Y.move rfl) ?_
  refine Run.call0 (l := [.tmp 19]) rfl rfl rfl (lt rfl) (Does.frame (rnew_c_no (n := n) hn)) ?_
  refine Run.val (lt rfl) (Y.move rfl) ?_
  refine Run.val (lt rfl) (Y.extract rfl rfl) ?_
  refine Run.val (lt rfl) (Y.extract rfl rfl) ?_
  refine Run.val (lt rfl) (Y.assign rfl) ?_
  refine Run.val (lt rfl) (Y.assign rfl) ?_
  refine Run.to_end ?_
  refine Ex.go ?_
  refine Tr.seq ?_
  refine Tr.seq ?_
  refine Tr.region ?_
  refine Run.val (lt rfl) (Y.move rfl) ?_
  refine Run.val (lt rfl) (Y.not rfl) ?_
  refine Run.val (lt rfl) (Y.move rfl) ?_
  refine Run.on rfl rfl rfl rfl ?_
  refine Run.val (lt rfl) (Y.move rfl) ?_
  refine Run.on rfl rfl rfl rfl ?_
  refine Run.val (lt rfl) (Y.move rfl) ?_
  refine Run.on rfl rfl rfl rfl ?_
  refine Run.val (lt rfl) (Y.int (r := .bool false) rfl rfl rfl) ?_
  refine Run.val (lt rfl) (Y.pick_f rfl rfl rfl) ?_
  refine Run.val (lt rfl) (Y.move rfl) ?_
  refine Run.on rfl rfl rfl rfl ?_
  refine Run.val (lt rfl) (Y.move rfl) ?_
  refine Run.on rfl rfl rfl rfl ?_
  refine Run.val (lt rfl) (Y.eqNil rfl rfl Law19_pt46) ?_
  refine Run.on rfl rfl rfl rfl ?_
  refine Run.val (lt rfl) (Y.move rfl) ?_
  refine Run.on rfl rfl rfl rfl ?_
  refine Run.val (lt rfl) (Y.eqNil rfl rfl Law19_pt49) ?_
  refine Run.on rfl rfl rfl rfl ?_
  refine Run.val (lt rfl) (Y.neB_f rfl rfl Law19_tg4) ?_
  refine Run.val (lt rfl) (Y.pick_f rfl rfl rfl) ?_
  refine Run.to_end ?_
  refine Ex.go ?_
  refine Tr.cond_f rfl rfl ?_
  refine Tr.to_end ?_
  refine Ex.go ?_
  refine Tr.seq ?_
  refine Tr.seq ?_
  refine Tr.region ?_
  refine Run.val (lt rfl) (Y.assign rfl) ?_
  refine Run.to_end ?_
  refine Ex.go ?_
  refine Tr.block ?_
  refine Tr.loop (X := Con × Nat) (fun x => V) (fun x => []) (fun x => [(1, .slice p l.length c), (6, .pointer none), (8, .pointer none), (10, .int .i64 (x.2 : Int))]) (fun x => True ∧ x.1.mine = n ∧ x.2 ≤ l.length) (fun x => l.length - x.2) (Con.new n, 0) ⟨trivial, rfl, Nat.zero_le _⟩ (fun a w i => ⟨i.1.sub (subB_cons (by first | rfl | exact congrArg (fun z => some (Value.int _ z)) (by omega)) (subB_cons (by first | rfl | exact congrArg (fun z => some (Value.int _ z)) (by omega)) (subB_cons (by first | rfl | exact congrArg (fun z => some (Value.int _ z)) (by omega)) (subB_cons (by first | rfl | exact congrArg (fun z => some (Value.int _ z)) (by omega)) (subB_nil _))))), i.2⟩) ?_
  rintro x ⟨hin, hmi, hle⟩
  refine Tr.seq ?_
  refine Tr.seq ?_
  refine Tr.region ?_
  refine Run.val (lt rfl) (Y.move rfl) ?_
  refine Run.val (lt rfl) (Y.move rfl) ?_
  refine Run.val (lt rfl) (Y.lenSl rfl Law19_es45) ?_
  refine Run.val (lt rfl) (Y.int rfl rfl rfl) ?_
  refine Run.val (lt rfl) (Y.move rfl) ?_
  rcases Bool.eq_false_or_eq_true (decide ((x.2 : Int) < ((l.length : Nat) : Int))) with h1 | h1
  · have g1 := h1
    try simp only [kb] at g1
    obtain ⟨b, off, c2, cs, e, fz, hw, hc, hk, hcs⟩ := hv.opened (by omega)
    obtain ⟨rfl, rfl⟩ : p = some ⟨b, off, none⟩ ∧ c = c2 := by cases hw; exact ⟨rfl, rfl⟩
    clear hw
    have hrow := row_at (f := Con.Stp.cells) Con.Stp.len hcs (i := x.2) (by omega) (Nat.le_refl _) Con.Stp.dflt
    generalize hs : l.getD x.2 Con.Stp.dflt = s at hrow
    refine Run.on rfl rfl rfl h1 ?_
    refine Run.val (lt rfl) (Y.move rfl) ?_
    refine Run.on rfl rfl rfl h1 ?_
    refine Run.val (lt rfl) (Y.int rfl rfl rfl) ?_
    refine Run.val (lt rfl) (Y.pick_t rfl h1 rfl) ?_
    refine Run.val (lt rfl) (Y.move rfl) ?_
    rcases Bool.eq_false_or_eq_true (decide ((x.2 : Int) < 200)) with h2 | h2
    · have g2 := h2
      try simp only [kb] at g2
      refine Run.on rfl rfl rfl h2 ?_
      refine Run.val (lt rfl) (Y.move rfl) ?_
      refine Run.on rfl rfl rfl h2 ?_
      refine Run.val (lt rfl) (Y.neNil rfl rfl Law19_pt46) ?_
      refine Run.val (lt rfl) (Y.pick_t rfl h2 rfl) ?_
      refine Run.to_end ?_
      refine Ex.go ?_
      refine Tr.cond_f rfl rfl ?_
      refine Tr.to_exit ?_
      refine Ex.exit_then ?_
      refine Ex.exit_then ?_
      refine Ex.exit_in ?_
      refine Ex.go ?_
      refine Tr.seq ?_
      refine Tr.region ?_
      refine Run.val (lt rfl) (Y.assign rfl) ?_
      refine Run.to_end ?_
      refine Ex.go ?_
      refine Tr.to_ret ?_
      refine Ex.keep [] ?_
      exact Ex.ret1 rfl rfl  rfl
    · have g2 := h2
      try simp only [kb] at g2
      refine Run.off rfl rfl rfl h2 rfl (lt rfl) ?_
      refine Run.off rfl rfl rfl h2 rfl (lt rfl) ?_
      refine Run.val (lt rfl) (Y.pick_f rfl h2 rfl) ?_
      refine Run.to_end ?_
      refine Ex.go ?_
      refine Tr.cond_f rfl rfl ?_
      refine Tr.to_exit ?_
      refine Ex.exit_then ?_
      refine Ex.exit_then ?_
      refine Ex.exit_in ?_
      refine Ex.go ?_
      refine Tr.seq ?_
      refine Tr.region ?_
      refine Run.val (lt rfl) (Y.assign rfl) ?_
      refine Run.to_end ?_
      refine Ex.go ?_
      refine Tr.to_ret ?_
      refine Ex.keep [] ?_
      exact Ex.ret1 rfl rfl  rfl
  · have g1 := h1
    try simp only [kb] at g1
    refine Run.off rfl rfl rfl h1 rfl (lt rfl) ?_
    refine Run.off rfl rfl rfl h1 rfl (lt rfl) ?_
    refine Run.val (lt rfl) (Y.pick_f rfl h1 rfl) ?_
    refine Run.val (lt rfl) (Y.move rfl) ?_
    refine Run.off rfl rfl rfl rfl rfl (lt rfl) ?_
    refine Run.off rfl rfl rfl rfl rfl (lt rfl) ?_
    refine Run.val (lt rfl) (Y.pick_f rfl rfl rfl) ?_
    refine Run.to_end ?_
    refine Ex.go ?_
    refine Tr.cond_f rfl rfl ?_
    refine Tr.to_exit ?_
    refine Ex.exit_then ?_
    refine Ex.exit_then ?_
    refine Ex.exit_in ?_
    refine Ex.go ?_
    refine Tr.seq ?_
    refine Tr.region ?_
    refine Run.val (lt rfl) (Y.assign rfl) ?_
    refine Run.to_end ?_
    refine Ex.go ?_
    refine Tr.to_ret ?_
    refine Ex.keep [] ?_
    exact Ex.ret1 rfl rfl  rfl

theorem scripts_c {V : Vw} {n : Int} {l : List Con.Stp} {v0 : Value} (hv : Rd V [] 14 v0 l.length (l.map Con.Stp.cells).flatten) (hl : l.length ≤ 9223372036854775807) : Does Try.prog 8 [.int .i64 n, v0] V [] (fun v _ _ => v = .bool true) := by
  obtain ⟨p, c, rfl, _⟩ := hv.form
  by_cases hn : 1 ≤ n ∧ n ≤ 536870912
  · exact scripts_yes hn hv hl
  · exact scripts_no hn hv hl

theorem marks_yes {V : Vw} {n : Int} (hn : 1 ≤ n ∧ n ≤ 536870912) {l : List Con.Stp} {p : Option Addr} {c : Nat} (hv : Rd V [] 14 (.slice p l.length c) l.length (l.map Con.Stp.cells).flatten) (hl : l.length ≤ 9223372036854775807)  : Does Try.prog 11 [.int .i64 n, .slice p l.length c] V [] (fun v _ _ => v = .bool true) := by
  refine Does.intro Try.func11 rfl rfl (le rfl) (fun B => ?_)
  refine Tr.seq ?_
  refine Tr.region ?_
  refine Run.val (lt rfl) (Y.assign rfl) ?_
  refine Run.to_end ?_
  refine Ex.go ?_
  refine Tr.seq ?_
  refine Tr.region ?_
  refine Run.call0 (l := []) rfl rfl rfl (lt rfl) awake19_c ?_
  refine Run.val (lt rfl) (Y.assign rfl) ?_
  refine Run.to_end ?_
  refine Ex.go ?_
  refine Tr.seq ?_
  refine Tr.region ?_
  refine Run.val (lt rfl) (Y.move rfl) ?_
  refine Run.call [] (l := [.tmp 17]) rfl rfl rfl (lt rfl) (new_c_yes (n := n) hn) (fun v2 V2 H2 _ hR => ?_)
  obtain ⟨hV, b1, rfl, rfl⟩ := hR; replace hV := hV.symm; subst hV
  refine Run.val (lt rfl) (Y.move rfl) ?_
  refine Run.val (lt rfl) (Y.extract rfl rfl) ?_
  refine Run.val (lt rfl) (Y.extract rfl rfl) ?_
  refine Run.val (lt rfl) (Y.assign rfl) ?_
  refine Run.val (lt rfl) (Y.assign rfl) ?_
  refine Run.to_end ?_
  refine Ex.go ?_
  refine Tr.seq ?_
  refine Tr.seq ?_
  refine Tr.region ?_
  refine Run.val (lt rfl) (Y.move rfl) ?_
  refine Run.val (lt rfl) (Y.not rfl) ?_
  refine Run.val (lt rfl) (Y.move rfl) ?_
  refine Run.on rfl rfl rfl rfl ?_
  refine Run.val (lt rfl) (Y.move rfl) ?_
  refine Run.on rfl rfl rfl rfl ?_
  refine Run.val (lt rfl) (Y.int (r := .bool false) rfl rfl rfl) ?_
  refine Run.val (lt rfl) (Y.pick_f rfl rfl rfl) ?_
  refine Run.val (lt rfl) (Y.move rfl) ?_
  refine Run.on rfl rfl rfl rfl ?_
  refine Run.val (lt rfl) (Y.move rfl) ?_
  refine Run.on rfl rfl rfl rfl ?_
  refine Run.val (lt rfl) (Y.eqNil rfl rfl Law19_pt46) ?_
  refine Run.val (lt rfl) (Y.pick_f rfl rfl rfl) ?_
  refine Run.to_end ?_
  refine Ex.go ?_
  refine Tr.cond_f rfl rfl ?_
  refine Tr.to_end ?_
  refine Ex.go ?_
  refine Tr.seq ?_
  refine Tr.region ?_
  refine Run.val (lt rfl) (Y.move rfl) ?_
  refine Run.call [] (l := [.tmp 37]) rfl rfl rfl (lt rfl) (rnew_c_yes (n := n) hn) (fun v4 V2 H2 _ hR => ?_)
  obtain ⟨hV, b3, rfl, rfl⟩ := hR; replace hV := hV.symm; subst hV
  refine Run.val (lt rfl) (Y.move rfl) ?_
  refine Run.val (lt rfl) (Y.extract rfl rfl) ?_
  refine Run.val (lt rfl) (Y.extract rfl rfl) ?_
  refine Run.val (lt rfl) (Y.assign rfl) ?_
  refine Run.val (lt rfl) (Y.assign rfl) ?_
  refine Run.to_end ?_
  refine Ex.go ?_
  refine Tr.seq ?_
  refine Tr.region ?_
  refine Run.val (lt rfl) (Y.assign rfl) ?_
  refine Run.to_end ?_
  refine Ex.go ?_
  refine Tr.seq ?_
  refine Tr.seq ?_
  refine Tr.region ?_
  refine Run.val (lt rfl) (Y.assign rfl) ?_
  refine Run.to_end ?_
  refine Ex.go ?_
  refine Tr.block ?_
  refine Tr.loop (X := Con × Nat) (fun x => V) (fun x => [[(b1, .cells #[.int .i64 x.1.known, .int .i64 x.1.hello, .int .i64 x.1.st, .int .i64 x.1.mine, .int .i64 x.1.said, .int .i64 x.1.at_, .bool x.1.up] 95 (0, 0))], [(b3, .cells #[.int .i64 x.1.mine, .int .i64 x.1.known, .int .i64 x.1.said, .int .i64 x.1.hello, .int .i64 x.1.st, .int .i64 x.1.at_, .bool x.1.up] 56 (0, 0))]]) (fun x => [(1, .slice p l.length c), (0, .int .i64 n), (6, .pointer (some ⟨b1, 0, none⟩)), (8, .pointer (some ⟨b3, 0, none⟩)), (10, .int .i64 x.1.said), (11, .int .i64 (x.2 : Int))]) (fun x => x.1.Inv ∧ x.1.mine = n ∧ x.2 ≤ l.length) (fun x => l.length - x.2) (Con.new n, 0) ⟨Con.inv_new hn, rfl, Nat.zero_le _⟩ (fun a w i => ⟨i.1.sub (subB_cons (by first | rfl | exact congrArg (fun z => some (Value.int _ z)) (by omega)) (subB_cons (by first | rfl | exact congrArg (fun z => some (Value.int _ z)) (by omega)) (subB_cons (by first | rfl | exact congrArg (fun z => some (Value.int _ z)) (by omega)) (subB_cons (by first | rfl | exact congrArg (fun z => some (Value.int _ z)) (by omega)) (subB_cons (by first | rfl | exact congrArg (fun z => some (Value.int _ z)) (by omega)) (subB_cons (by first | rfl | exact congrArg (fun z => some (Value.int _ z)) (by omega)) (subB_nil _))))))), i.2⟩) ?_
  rintro x ⟨hin, hmi, hle⟩
  have hsd := hin.said
  refine Tr.seq ?_
  refine Tr.seq ?_
  refine Tr.region ?_
  refine Run.val (lt rfl) (Y.move rfl) ?_
  refine Run.val (lt rfl) (Y.move rfl) ?_
  refine Run.val (lt rfl) (Y.lenSl rfl Law19_es45) ?_
  refine Run.val (lt rfl) (Y.int rfl rfl rfl) ?_
  refine Run.val (lt rfl) (Y.move rfl) ?_
  rcases Bool.eq_false_or_eq_true (decide ((x.2 : Int) < ((l.length : Nat) : Int))) with h5 | h5
  · have g5 := h5
    try simp only [kb] at g5
    obtain ⟨b, off, c2, cs, e, fz, hw, hc, hk, hcs⟩ := hv.opened (by omega)
    obtain ⟨rfl, rfl⟩ : p = some ⟨b, off, none⟩ ∧ c = c2 := by cases hw; exact ⟨rfl, rfl⟩
    clear hw
    have hrow := row_at (f := Con.Stp.cells) Con.Stp.len hcs (i := x.2) (by omega) (Nat.le_refl _) Con.Stp.dflt
    generalize hs : l.getD x.2 Con.Stp.dflt = s at hrow
    refine Run.on rfl rfl rfl h5 ?_
    refine Run.val (lt rfl) (Y.move rfl) ?_
    refine Run.on rfl rfl rfl h5 ?_
    refine Run.val (lt rfl) (Y.int rfl rfl rfl) ?_
    refine Run.val (lt rfl) (Y.pick_t rfl h5 rfl) ?_
    refine Run.to_end ?_
    refine Ex.go ?_
    rcases Bool.eq_false_or_eq_true (decide ((x.2 : Int) < 100)) with h6 | h6
    · have g6 := h6
      try simp only [kb] at g6
      refine Tr.cond_t rfl h6 ?_
      refine Tr.to_end ?_
      refine Ex.go ?_
      refine Tr.seq ?_
      refine Tr.block ?_
      refine Tr.seq ?_
      refine Tr.seq ?_
      refine Tr.region ?_
      refine Run.val (lt rfl) (Y.move rfl) ?_
      refine Run.val (lt rfl) (Y.move rfl) ?_
      refine Run.val (lt rfl) (Y.idxAddr rfl rfl Law19_es45 (by omega) (by omega)) ?_
      refine Run.val (lt rfl) (Y.fieldAddr rfl Law19_fo53_3) ?_
      refine Run.val (lt rfl) (Y.fieldAddr rfl Law19_fo37_7) ?_
      refine Run.val (lt rfl) (Y.load rfl Law19_ts9 hk.of_nil (hrow 10 (by decide))) ?_
      refine Run.val (lt rfl) (Y.lenStr rfl Law19_st9) ?_
      refine Run.val (lt rfl) (Y.int rfl rfl rfl) ?_
      refine Run.to_end ?_
      refine Ex.go ?_
      rcases Bool.eq_false_or_eq_true (decide ((s.m.client.size : Int) > 200)) with h7 | h7
      · have g7 := h7
        try simp only [kb] at g7
        refine Tr.cond_t rfl h7 ?_
        refine Tr.seq ?_
        refine Tr.region ?_
        refine Run.val (lt rfl) (Y.assign rfl) ?_
        refine Run.to_end ?_
        refine Ex.go ?_
        refine Tr.to_ret ?_
        refine Ex.ret_then ?_
        refine Ex.ret_block ?_
        refine Ex.ret_then ?_
        refine Ex.ret_then ?_
        refine Ex.ret_block ?_
        refine Ex.ret_then ?_
        refine Ex.keep [] ?_
        exact Ex.ret1 rfl rfl  rfl
      · have g7 := h7
        try simp only [kb] at g7
        refine Tr.cond_f rfl h7 ?_
        refine Tr.to_end ?_
        refine Ex.go ?_
        refine Tr.seq ?_
        refine Tr.seq ?_
        refine Tr.region ?_
        refine Run.val (lt rfl) (Y.move rfl) ?_
        refine Run.val (lt rfl) (Y.move rfl) ?_
        refine Run.val (lt rfl) (Y.idxAddr rfl rfl Law19_es45 (by omega) (by omega)) ?_
        refine Run.val (lt rfl) (Y.fieldAddr rfl Law19_fo53_0) ?_
        refine Run.val (lt rfl) (Y.load rfl Law19_ts3 hk.of_nil (hrow 0 (by decide))) ?_
        refine Run.val (lt rfl) (Y.int rfl rfl rfl) ?_
        refine Run.to_end ?_
        refine Ex.go ?_
        rcases Bool.eq_false_or_eq_true (s.do_ != 2) with h8 | h8
        · have g8 := h8
          try simp only [kb] at g8
          refine Tr.cond_t rfl h8 ?_
          refine Tr.seq ?_
          refine Tr.region ?_
          refine Run.val (lt rfl) (Y.move rfl) ?_
          refine Run.val (lt rfl) (Y.move rfl) ?_
          refine Run.val (lt rfl) (Y.move rfl) ?_
          refine Run.val (lt rfl) (Y.move rfl) ?_
          refine Run.val (lt rfl) (Y.idxAddr rfl rfl Law19_es45 (by omega) (by omega)) ?_
          refine Run.val (lt rfl) (Y.loadAgg rfl Law19_ag53 hk.of_nil (cellsAt_of (Con.Stp.cells s) _ hrow)) ?_
          refine Run.call [0, 0] (l := [.tmp 65, .tmp 66, .tmp 70]) rfl rfl rfl (lt rfl) (step_c (c := x.1) (s := s) hin) (fun v9 V2 H2 _ hR => ?_)
          obtain ⟨hV, rfl, rfl⟩ := hR; replace hV := hV.symm; subst hV
          refine Run.to_end ?_
          refine Ex.go ?_
          refine Tr.to_exit ?_
          refine Ex.exit_then ?_
          refine Ex.exit_in ?_
          refine Ex.go ?_
          refine Tr.region ?_
          refine Run.val (lt rfl) (Y.move rfl) ?_
          refine Run.val (lt rfl) (Y.add rfl rfl (by omega)) ?_
          refine Run.val (lt rfl) (Y.assign rfl) ?_
          refine Run.to_end ?_
          refine Ex.keep [0, 0] ?_
          exact Ex.round ((Con.step x.1 s), x.2 + 1) ⟨(Con.inv_step hin s), (Con.step_mine _ _).trans hmi, by show x.2 + 1 ≤ l.length; omega⟩ (by show l.length - (x.2 + 1) < l.length - x.2; omega) rfl rfl (subB_cons (by first | rfl | exact congrArg (fun z => some (Value.int _ z)) (by omega) | exact congrArg (fun z => some (Value.int _ z)) (Con.step_said _ g8).symm) (subB_cons (by first | rfl | exact congrArg (fun z => some (Value.int _ z)) (by omega) | exact congrArg (fun z => some (Value.int _ z)) (Con.step_said _ g8).symm) (subB_cons (by first | rfl | exact congrArg (fun z => some (Value.int _ z)) (by omega) | exact congrArg (fun z => some (Value.int _ z)) (Con.step_said _ g8).symm) (subB_cons (by first | rfl | exact congrArg (fun z => some (Value.int _ z)) (by omega) | exact congrArg (fun z => some (Value.int _ z)) (Con.step_said _ g8).symm) (subB_cons (by first | rfl | exact congrArg (fun z => some (Value.int _ z)) (by omega) | exact congrArg (fun z => some (Value.int _ z)) (Con.step_said _ g8).symm) (subB_cons (by first | rfl | exact congrArg (fun z => some (Value.int _ z)) (by omega) | exact congrArg (fun z => some (Value.int _ z)) (Con.step_said _ g8).symm) (subB_nil _)))))))
        · have g8 := h8
          try simp only [kb] at g8
          refine Tr.cond_f rfl h8 ?_
          refine Tr.to_end ?_
          refine Ex.go ?_
          refine Tr.seq ?_
          refine Tr.region ?_
          refine Run.val (lt rfl) (Y.move rfl) ?_
          refine Run.val (lt rfl) (Y.move rfl) ?_
          refine Run.val (lt rfl) (Y.move rfl) ?_
          refine Run.val (lt rfl) (Y.idxAddr rfl rfl Law19_es45 (by omega) (by omega)) ?_
          refine Run.val (lt rfl) (Y.fieldAddr rfl Law19_fo53_2) ?_
          refine Run.val (lt rfl) (Y.load rfl Law19_ts3 hk.of_nil (hrow 2 (by decide))) ?_
          refine Run.call [0] (l := [.tmp 73, .tmp 78]) rfl rfl rfl (lt rfl) (hello_c (c := x.1) (n := s.n) hin) (fun v10 V2 H2 _ hR => ?_)
          obtain ⟨hV, rfl, rfl⟩ := hR; replace hV := hV.symm; subst hV
          refine Run.val (lt rfl) (Y.move rfl) ?_
          refine Run.val (lt rfl) (Y.extract rfl rfl) ?_
          refine Run.val (lt rfl) (Y.extract rfl rfl) ?_
          refine Run.alloc Law19_zo37 (lt rfl) (fun b11 => ?_)
          refine Run.store (s := [(b11, .cells #[.int .i64 ((Con.helloM x.1 s.n).kind), .int .i64 ((Con.helloM x.1 s.n).life), .int .i64 ((Con.helloM x.1 s.n).seen), .int .i64 ((Con.helloM x.1 s.n).xid), .int .i64 ((Con.helloM x.1 s.n).state), .int .u32 ((Con.helloM x.1 s.n).addr), .int .i64 ((Con.helloM x.1 s.n).bind), .string ((Con.helloM x.1 s.n).client), .int .i64 ((Con.helloM x.1 s.n).pot), .int .i64 ((Con.helloM x.1 s.n).at_), .bool ((Con.helloM x.1 s.n).ok)] 37 (0, 0))]) rfl rfl Law19_sz37 (i := 0) rfl rfl (le rfl) rfl rfl ?_
          refine Run.val (lt rfl) (Y.assign rfl) ?_
          refine Run.to_end ?_
          refine Ex.go ?_
          refine Tr.seq ?_
          refine Tr.region ?_
          refine Run.val (lt rfl) (Y.move rfl) ?_
          refine Run.val (lt rfl) (Y.move rfl) ?_
          refine Run.val (lt rfl) (Y.move rfl) ?_
          refine Run.val (lt rfl) (Y.idxAddr rfl rfl Law19_es45 (by omega) (by omega)) ?_
          refine Run.val (lt rfl) (Y.fieldAddr rfl Law19_fo53_2) ?_
          refine Run.val (lt rfl) (Y.load rfl Law19_ts3 hk.of_nil (hrow 2 (by decide))) ?_
          refine Run.call [1] (l := [.tmp 82, .tmp 87]) rfl rfl rfl (lt rfl) (rhello_c (c := x.1) (n := s.n) hin) (fun v12 V2 H2 _ hR => ?_)
          obtain ⟨hV, rfl, rfl⟩ := hR; replace hV := hV.symm; subst hV
          refine Run.to_end ?_
          refine Ex.go ?_
          refine Tr.seq ?_
          refine Tr.seq ?_
          refine Tr.region ?_
          refine Run.val (lt rfl) (Y.move rfl) ?_
          refine Run.val (lt rfl) (Y.int rfl rfl rfl) ?_
          refine Run.to_end ?_
          refine Ex.go ?_
          rcases Bool.eq_false_or_eq_true ((Con.helloE x.1 s.n) != 0) with h13 | h13
          · have g13 := h13
            try simp only [kb] at g13
            refine Tr.cond_t rfl h13 ?_
            refine Tr.to_exit ?_
            refine Ex.exit_then ?_
            refine Ex.exit_in ?_
            refine Ex.go ?_
            refine Tr.region ?_
            refine Run.val (lt rfl) (Y.move rfl) ?_
            refine Run.val (lt rfl) (Y.add rfl rfl (by omega)) ?_
            refine Run.val (lt rfl) (Y.assign rfl) ?_
            refine Run.to_end ?_
            refine Ex.keep [1, 1] ?_
            exact Ex.round ((Con.helloC x.1 s.n), x.2 + 1) ⟨(Con.inv_hello hin s.n), (Con.hello_mine _ _).1.trans hmi, by show x.2 + 1 ≤ l.length; omega⟩ (by show l.length - (x.2 + 1) < l.length - x.2; omega) rfl rfl (subB_cons (by first | rfl | exact congrArg (fun z => some (Value.int _ z)) (by omega) | exact congrArg (fun z => some (Value.int _ z)) (by rw [(Con.hello_no g13).1])) (subB_cons (by first | rfl | exact congrArg (fun z => some (Value.int _ z)) (by omega) | exact congrArg (fun z => some (Value.int _ z)) (by rw [(Con.hello_no g13).1])) (subB_cons (by first | rfl | exact congrArg (fun z => some (Value.int _ z)) (by omega) | exact congrArg (fun z => some (Value.int _ z)) (by rw [(Con.hello_no g13).1])) (subB_cons (by first | rfl | exact congrArg (fun z => some (Value.int _ z)) (by omega) | exact congrArg (fun z => some (Value.int _ z)) (by rw [(Con.hello_no g13).1])) (subB_cons (by first | rfl | exact congrArg (fun z => some (Value.int _ z)) (by omega) | exact congrArg (fun z => some (Value.int _ z)) (by rw [(Con.hello_no g13).1])) (subB_cons (by first | rfl | exact congrArg (fun z => some (Value.int _ z)) (by omega) | exact congrArg (fun z => some (Value.int _ z)) (by rw [(Con.hello_no g13).1])) (subB_nil _)))))))
          · have g13 := h13
            try simp only [kb] at g13
            refine Tr.cond_f rfl h13 ?_
            refine Tr.to_end ?_
            refine Ex.go ?_
            refine Tr.seq ?_
            refine Tr.region ?_
            refine Run.val (lt rfl) (Y.move rfl) ?_
            refine Run.val (lt rfl) (Y.add rfl rfl (by omega)) ?_
            refine Run.val (lt rfl) (Y.assign rfl) ?_
            refine Run.to_end ?_
            refine Ex.go ?_
            refine Tr.seq ?_
            refine Tr.quiet Law19_mo (by kernel_rfl) ?_
            refine RunQ.val (lt rfl) (Y.fieldAddr rfl Law19_fo37_3) ?_
            refine RunQ.val (lt rfl) (Y.load rfl Law19_ts3 (Kn.at 0 rfl) rfl) ?_
            refine RunQ.val (lt rfl) (Y.move rfl) ?_
            refine RunQ.val (lt rfl) (Y.int (r := .bool false) rfl rfl (by rw [(Con.hello_yes g13).2]; simp [intRes, Con.mark, hmi])) ?_
            refine RunQ.val (lt rfl) (Y.move rfl) ?_
            refine RunQ.on rfl rfl rfl rfl ?_
            refine RunQ.val (lt rfl) (Y.fieldAddr rfl Law19_fo37_1) ?_
            refine RunQ.on rfl rfl rfl rfl ?_
            refine RunQ.val (lt rfl) (Y.load rfl Law19_ts3 (Kn.at 0 rfl) rfl) ?_
            refine RunQ.on rfl rfl rfl rfl ?_
            refine RunQ.val (lt rfl) (Y.move rfl) ?_
            refine RunQ.on rfl rfl rfl rfl ?_
            refine RunQ.val (lt rfl) (Y.int (r := .bool false) rfl rfl (by rw [(Con.hello_yes g13).2]; simp [intRes, Con.mark, hmi])) ?_
            refine RunQ.val (lt rfl) (Y.pick_f rfl rfl rfl) ?_
            refine RunQ.val (lt rfl) (Y.move rfl) ?_
            refine RunQ.on rfl rfl rfl rfl ?_
            refine RunQ.val (lt rfl) (Y.fieldAddr rfl Law19_fo37_2) ?_
            refine RunQ.on rfl rfl rfl rfl ?_
            refine RunQ.val (lt rfl) (Y.load rfl Law19_ts3 (Kn.at 0 rfl) rfl) ?_
            refine RunQ.on rfl rfl rfl rfl ?_
            refine RunQ.val (lt rfl) (Y.move rfl) ?_
            refine RunQ.on rfl rfl rfl rfl ?_
            refine RunQ.call0 (l := [.tmp 106]) rfl rfl rfl (lt rfl) (other_c (c := (Con.helloC x.1 s.n)) (Kn.at 1 rfl)) ?_
            refine RunQ.on rfl rfl rfl rfl ?_
            refine RunQ.val (lt rfl) (Y.int (r := .bool false) rfl rfl (by rw [(Con.hello_yes g13).2, (Con.hello_mine _ _).2]; simp [intRes, Con.mark, hmi])) ?_
            refine RunQ.val (lt rfl) (Y.pick_f rfl rfl rfl) ?_
            refine RunQ.val (lt rfl) (Y.move rfl) ?_
            refine RunQ.on rfl rfl rfl rfl ?_
            refine RunQ.val (lt rfl) (Y.fieldAddr rfl Law19_fo37_4) ?_
            refine RunQ.on rfl rfl rfl rfl ?_
            refine RunQ.val (lt rfl) (Y.load rfl Law19_ts3 (Kn.at 0 rfl) rfl) ?_
            refine RunQ.on rfl rfl rfl rfl ?_
            refine RunQ.val (lt rfl) (Y.move rfl) ?_
            refine RunQ.on rfl rfl rfl rfl ?_
            refine RunQ.val (lt rfl) (Y.move rfl) ?_
            refine RunQ.on rfl rfl rfl rfl ?_
            refine RunQ.val (lt rfl) (Y.idxAddr rfl rfl Law19_es45 (by omega) (by omega)) ?_
            refine RunQ.on rfl rfl rfl rfl ?_
            refine RunQ.val (lt rfl) (Y.fieldAddr rfl Law19_fo53_2) ?_
            refine RunQ.on rfl rfl rfl rfl ?_
            refine RunQ.val (lt rfl) (Y.load rfl Law19_ts3 hk.of_nil (hrow 2 (by decide))) ?_
            refine RunQ.on rfl rfl rfl rfl ?_
            refine RunQ.val (lt rfl) (Y.int (r := .bool false) rfl rfl (by rw [(Con.hello_yes g13).2]; simp [intRes, Con.mark, hmi])) ?_
            refine RunQ.val (lt rfl) (Y.pick_f rfl rfl rfl) ?_
            refine RunQ.val (lt rfl) (Y.move rfl) ?_
            refine RunQ.on rfl rfl rfl rfl ?_
            refine RunQ.val (lt rfl) (Y.fieldAddr rfl Law19_fo37_0) ?_
            refine RunQ.on rfl rfl rfl rfl ?_
            refine RunQ.val (lt rfl) (Y.load rfl Law19_ts3 (Kn.at 0 rfl) rfl) ?_
            refine RunQ.on rfl rfl rfl rfl ?_
            refine RunQ.val (lt rfl) (Y.int (r := .bool false) rfl rfl (by rw [(Con.hello_yes g13).2]; simp [intRes, Con.mark, hmi])) ?_
            refine RunQ.val (lt rfl) (Y.pick_f rfl rfl rfl) ?_
            refine RunQ.to_end ?_
            refine Ex.go ?_
            refine Tr.cond_f rfl rfl ?_
            refine Tr.to_end ?_
            refine Ex.end_block ?_
            refine Ex.go ?_
            refine Tr.region ?_
            refine Run.val (lt rfl) (Y.move rfl) ?_
            refine Run.val (lt rfl) (Y.add rfl rfl (by omega)) ?_
            refine Run.val (lt rfl) (Y.assign rfl) ?_
            refine Run.to_end ?_
            refine Ex.keep [1, 1] ?_
            exact Ex.round ((Con.helloC x.1 s.n), x.2 + 1) ⟨(Con.inv_hello hin s.n), (Con.hello_mine _ _).1.trans hmi, by show x.2 + 1 ≤ l.length; omega⟩ (by show l.length - (x.2 + 1) < l.length - x.2; omega) rfl rfl (subB_cons (by first | rfl | exact congrArg (fun z => some (Value.int _ z)) (by omega) | exact congrArg (fun z => some (Value.int _ z)) (by rw [(Con.hello_yes g13).1])) (subB_cons (by first | rfl | exact congrArg (fun z => some (Value.int _ z)) (by omega) | exact congrArg (fun z => some (Value.int _ z)) (by rw [(Con.hello_yes g13).1])) (subB_cons (by first | rfl | exact congrArg (fun z => some (Value.int _ z)) (by omega) | exact congrArg (fun z => some (Value.int _ z)) (by rw [(Con.hello_yes g13).1])) (subB_cons (by first | rfl | exact congrArg (fun z => some (Value.int _ z)) (by omega) | exact congrArg (fun z => some (Value.int _ z)) (by rw [(Con.hello_yes g13).1])) (subB_cons (by first | rfl | exact congrArg (fun z => some (Value.int _ z)) (by omega) | exact congrArg (fun z => some (Value.int _ z)) (by rw [(Con.hello_yes g13).1])) (subB_cons (by first | rfl | exact congrArg (fun z => some (Value.int _ z)) (by omega) | exact congrArg (fun z => some (Value.int _ z)) (by rw [(Con.hello_yes g13).1])) (subB_nil _)))))))
    · have g6 := h6
      try simp only [kb] at g6
      refine Tr.cond_f rfl h6 ?_
      refine Tr.to_exit ?_
      refine Ex.exit_then ?_
      refine Ex.exit_then ?_
      refine Ex.exit_in ?_
      refine Ex.go ?_
      refine Tr.seq ?_
      refine Tr.region ?_
      refine Run.val (lt rfl) (Y.move rfl) ?_
      refine Run.val (lt rfl) (Y.buildS (l := [(0, .const (.int .i64 4)), (1, .const (.int .i64 77))]) Law19_zo37 Law19_pl37 rfl rfl) ?_
      refine Run.call0 (l := [.tmp 125, .tmp 126]) rfl rfl rfl (lt rfl) (mark_c (c := x.1) (m := (⟨4, 77, 0, 0, 0, 0, 0, ⟨#[]⟩, 0, 0, false⟩ : Msg)) (Kn.at 0 rfl)) ?_
      refine Run.alloc Law19_zo37 (lt rfl) (fun b14 => ?_)
      refine Run.store (s := [(b14, .cells #[.int .i64 4, .int .i64 x.1.mine, .int .i64 x.1.known, .int .i64 0, .int .i64 0, .int .u32 0, .int .i64 0, .string ⟨#[]⟩, .int .i64 0, .int .i64 0, .bool false] 37 (0, 0))]) rfl rfl Law19_sz37 (i := 0) rfl rfl (le rfl) rfl rfl ?_
      refine Run.to_end ?_
      refine Ex.go ?_
      refine Tr.seq ?_
      refine Tr.quiet Law19_mo (by kernel_rfl) ?_
      refine RunQ.val (lt rfl) (Y.fieldAddr rfl Law19_fo37_1) ?_
      refine RunQ.val (lt rfl) (Y.load rfl Law19_ts3 (Kn.at 0 rfl) rfl) ?_
      refine RunQ.val (lt rfl) (Y.move rfl) ?_
      refine RunQ.val (lt rfl) (Y.int (r := .bool true) rfl rfl (by simp [intRes, hmi])) ?_
      refine RunQ.val (lt rfl) (Y.move rfl) ?_
      refine RunQ.on rfl rfl rfl rfl ?_
      refine RunQ.val (lt rfl) (Y.fieldAddr rfl Law19_fo37_2) ?_
      refine RunQ.on rfl rfl rfl rfl ?_
      refine RunQ.val (lt rfl) (Y.load rfl Law19_ts3 (Kn.at 0 rfl) rfl) ?_
      refine RunQ.on rfl rfl rfl rfl ?_
      refine RunQ.val (lt rfl) (Y.move rfl) ?_
      refine RunQ.on rfl rfl rfl rfl ?_
      refine RunQ.call0 (l := [.tmp 135]) rfl rfl rfl (lt rfl) (other_c (c := x.1) (Kn.at 1 rfl)) ?_
      refine RunQ.on rfl rfl rfl rfl ?_
      refine RunQ.val (lt rfl) (Y.eqI_t rfl rfl) ?_
      refine RunQ.val (lt rfl) (Y.pick_t rfl rfl rfl) ?_
      refine RunQ.val (lt rfl) (Y.move rfl) ?_
      refine RunQ.on rfl rfl rfl rfl ?_
      refine RunQ.val (lt rfl) (Y.fieldAddr rfl Law19_fo37_0) ?_
      refine RunQ.on rfl rfl rfl rfl ?_
      refine RunQ.val (lt rfl) (Y.load rfl Law19_ts3 (Kn.at 0 rfl) rfl) ?_
      refine RunQ.on rfl rfl rfl rfl ?_
      refine RunQ.val (lt rfl) (Y.int (r := .bool true) rfl rfl rfl) ?_
      refine RunQ.val (lt rfl) (Y.pick_t rfl rfl rfl) ?_
      refine RunQ.val (lt rfl) (Y.assign rfl) ?_
      refine RunQ.to_end ?_
      refine Ex.go ?_
      refine Tr.to_ret ?_
      refine Ex.keep [] ?_
      exact Ex.ret1 rfl rfl  rfl
  · have g5 := h5
    try simp only [kb] at g5
    refine Run.off rfl rfl rfl h5 rfl (lt rfl) ?_
    refine Run.off rfl rfl rfl h5 rfl (lt rfl) ?_
    refine Run.val (lt rfl) (Y.pick_f rfl h5 rfl) ?_
    refine Run.to_end ?_
    refine Ex.go ?_
    refine Tr.cond_f rfl rfl ?_
    refine Tr.to_exit ?_
    refine Ex.exit_then ?_
    refine Ex.exit_then ?_
    refine Ex.exit_in ?_
    refine Ex.go ?_
    refine Tr.seq ?_
    refine Tr.region ?_
    refine Run.val (lt rfl) (Y.move rfl) ?_
    refine Run.val (lt rfl) (Y.buildS (l := [(0, .const (.int .i64 4)), (1, .const (.int .i64 77))]) Law19_zo37 Law19_pl37 rfl rfl) ?_
    refine Run.call0 (l := [.tmp 125, .tmp 126]) rfl rfl rfl (lt rfl) (mark_c (c := x.1) (m := (⟨4, 77, 0, 0, 0, 0, 0, ⟨#[]⟩, 0, 0, false⟩ : Msg)) (Kn.at 0 rfl)) ?_
    refine Run.alloc Law19_zo37 (lt rfl) (fun b15 => ?_)
    refine Run.store (s := [(b15, .cells #[.int .i64 4, .int .i64 x.1.mine, .int .i64 x.1.known, .int .i64 0, .int .i64 0, .int .u32 0, .int .i64 0, .string ⟨#[]⟩, .int .i64 0, .int .i64 0, .bool false] 37 (0, 0))]) rfl rfl Law19_sz37 (i := 0) rfl rfl (le rfl) rfl rfl ?_
    refine Run.to_end ?_
    refine Ex.go ?_
    refine Tr.seq ?_
    refine Tr.quiet Law19_mo (by kernel_rfl) ?_
    refine RunQ.val (lt rfl) (Y.fieldAddr rfl Law19_fo37_1) ?_
    refine RunQ.val (lt rfl) (Y.load rfl Law19_ts3 (Kn.at 0 rfl) rfl) ?_
    refine RunQ.val (lt rfl) (Y.move rfl) ?_
    refine RunQ.val (lt rfl) (Y.int (r := .bool true) rfl rfl (by simp [intRes, hmi])) ?_
    refine RunQ.val (lt rfl) (Y.move rfl) ?_
    refine RunQ.on rfl rfl rfl rfl ?_
    refine RunQ.val (lt rfl) (Y.fieldAddr rfl Law19_fo37_2) ?_
    refine RunQ.on rfl rfl rfl rfl ?_
    refine RunQ.val (lt rfl) (Y.load rfl Law19_ts3 (Kn.at 0 rfl) rfl) ?_
    refine RunQ.on rfl rfl rfl rfl ?_
    refine RunQ.val (lt rfl) (Y.move rfl) ?_
    refine RunQ.on rfl rfl rfl rfl ?_
    refine RunQ.call0 (l := [.tmp 135]) rfl rfl rfl (lt rfl) (other_c (c := x.1) (Kn.at 1 rfl)) ?_
    refine RunQ.on rfl rfl rfl rfl ?_
    refine RunQ.val (lt rfl) (Y.eqI_t rfl rfl) ?_
    refine RunQ.val (lt rfl) (Y.pick_t rfl rfl rfl) ?_
    refine RunQ.val (lt rfl) (Y.move rfl) ?_
    refine RunQ.on rfl rfl rfl rfl ?_
    refine RunQ.val (lt rfl) (Y.fieldAddr rfl Law19_fo37_0) ?_
    refine RunQ.on rfl rfl rfl rfl ?_
    refine RunQ.val (lt rfl) (Y.load rfl Law19_ts3 (Kn.at 0 rfl) rfl) ?_
    refine RunQ.on rfl rfl rfl rfl ?_
    refine RunQ.val (lt rfl) (Y.int (r := .bool true) rfl rfl rfl) ?_
    refine RunQ.val (lt rfl) (Y.pick_t rfl rfl rfl) ?_
    refine RunQ.val (lt rfl) (Y.assign rfl) ?_
    refine RunQ.to_end ?_
    refine Ex.go ?_
    refine Tr.to_ret ?_
    refine Ex.keep [] ?_
    exact Ex.ret1 rfl rfl  rfl

theorem marks_no {V : Vw} {n : Int} (hn : ¬ (1 ≤ n ∧ n ≤ 536870912)) {l : List Con.Stp} {p : Option Addr} {c : Nat} (hv : Rd V [] 14 (.slice p l.length c) l.length (l.map Con.Stp.cells).flatten) (hl : l.length ≤ 9223372036854775807)  : Does Try.prog 11 [.int .i64 n, .slice p l.length c] V [] (fun v _ _ => v = .bool true) := by
  refine Does.intro Try.func11 rfl rfl (le rfl) (fun B => ?_)
  refine Tr.seq ?_
  refine Tr.region ?_
  refine Run.val (lt rfl) (Y.assign rfl) ?_
  refine Run.to_end ?_
  refine Ex.go ?_
  refine Tr.seq ?_
  refine Tr.region ?_
  refine Run.call0 (l := []) rfl rfl rfl (lt rfl) awake19_c ?_
  refine Run.val (lt rfl) (Y.assign rfl) ?_
  refine Run.to_end ?_
  refine Ex.go ?_
  refine Tr.seq ?_
  refine Tr.region ?_
  refine Run.val (lt rfl) (Y.move rfl) ?_
  refine Run.call0 (l := [.tmp 17]) rfl rfl rfl (lt rfl) (Does.frame (new_c_no (n := n) hn)) ?_
  refine Run.val (lt rfl) (Y.move rfl) ?_
  refine Run.val (lt rfl) (Y.extract rfl rfl) ?_
  refine Run.val (lt rfl) (Y.extract rfl rfl) ?_
  refine Run.val (lt rfl) (Y.assign rfl) ?_
  refine Run.val (lt rfl) (Y.assign rfl) ?_
  refine Run.to_end ?_
  refine Ex.go ?_
  refine Tr.seq ?_
  refine Tr.seq ?_
  refine Tr.region ?_
  refine Run.val (lt rfl) (Y.move rfl) ?_
  refine Run.val (lt rfl) (Y.not rfl) ?_
  refine Run.val (lt rfl) (Y.move rfl) ?_
  refine Run.on rfl rfl rfl rfl ?_
  refine Run.val (lt rfl) (Y.move rfl) ?_
  refine Run.on rfl rfl rfl rfl ?_
  refine Run.val (lt rfl) (Y.int (r := .bool true) rfl rfl rfl) ?_
  refine Run.val (lt rfl) (Y.pick_f rfl rfl rfl) ?_
  refine Run.val (lt rfl) (Y.move rfl) ?_
  refine Run.off rfl rfl rfl rfl rfl (lt rfl) ?_
  refine Run.off rfl rfl rfl rfl rfl (lt rfl) ?_
  refine Run.val (lt rfl) (Y.pick_t rfl rfl rfl) ?_
  refine Run.to_end ?_
  refine Ex.go ?_
  refine Tr.cond_t rfl rfl ?_
  refine Tr.seq ?_
  refine Tr.region ?_
  refine Run.val (lt rfl) (Y.move rfl) ?_
  refine Run.val (lt rfl) (Y.move rfl) ?_
  refine Run.on rfl rfl rfl rfl ?_
  refine Run.val (lt rfl) (Y.move rfl) ?_
  refine Run.on rfl rfl rfl rfl ?_
  refine Run.val (lt rfl) (Y.int (r := .bool true) rfl rfl rfl) ?_
  refine Run.val (lt rfl) (Y.pick_t rfl rfl rfl) ?_
  refine Run.val (lt rfl) (Y.assign rfl) ?_
  refine Run.to_end ?_
  refine Ex.go ?_
  refine Tr.to_ret ?_
  refine Ex.ret_then ?_
  refine Ex.keep [] ?_
  exact Ex.ret1 rfl rfl  rfl

theorem marks_c {V : Vw} {n : Int} {l : List Con.Stp} {v0 : Value} (hv : Rd V [] 14 v0 l.length (l.map Con.Stp.cells).flatten) (hl : l.length ≤ 9223372036854775807) : Does Try.prog 11 [.int .i64 n, v0] V [] (fun v _ _ => v = .bool true) := by
  obtain ⟨p, c, rfl, _⟩ := hv.form
  by_cases hn : 1 ≤ n ∧ n ≤ 536870912
  · exact marks_yes hn hv hl
  · exact marks_no hn hv hl

theorem meets_yy {V : Vw} {l0 l1 now : Int} (hn0 : 1 ≤ l0 ∧ l0 ≤ 536870912) (hn1 : 1 ≤ l1 ∧ l1 ≤ 536870912)  : Does Try.prog 10 [.agg #[.int .i64 l0, .int .i64 l1], .int .i64 now] V [] (fun v _ _ => v = .bool true) := by
  refine Does.intro Try.func10 rfl rfl (le rfl) (fun B => ?_)
  refine Tr.seq ?_
  refine Tr.region ?_
  refine Run.box rfl (lt rfl) (fun b1 => ?_)
  refine Run.val (lt rfl) (Y.assign rfl) ?_
  refine Run.to_end ?_
  refine Ex.go ?_
  refine Tr.seq ?_
  refine Tr.region ?_
  refine Run.call0 (l := []) rfl rfl rfl (lt rfl) awake19_c ?_
  refine Run.val (lt rfl) (Y.assign rfl) ?_
  refine Run.to_end ?_
  refine Ex.go ?_
  refine Tr.seq ?_
  refine Tr.region ?_
  refine Run.val (lt rfl) (Y.idxArr rfl rfl Law19_al24 (by decide) (by decide)) ?_
  refine Run.val (lt rfl) (Y.load rfl Law19_ts3 (Kn.at 0 rfl) rfl) ?_
  refine Run.call [] (l := [.tmp 23]) rfl rfl rfl (lt rfl) (new_c_yes (n := l0) hn0) (fun v3 V2 H2 _ hR => ?_)
  obtain ⟨hV, b2, rfl, rfl⟩ := hR; replace hV := hV.symm; subst hV
  refine Run.val (lt rfl) (Y.move rfl) ?_
  refine Run.val (lt rfl) (Y.extract rfl rfl) ?_
  refine Run.val (lt rfl) (Y.extract rfl rfl) ?_
  refine Run.val (lt rfl) (Y.assign rfl) ?_
  refine Run.val (lt rfl) (Y.assign rfl) ?_
  refine Run.to_end ?_
  refine Ex.go ?_
  refine Tr.seq ?_
  refine Tr.region ?_
  refine Run.val (lt rfl) (Y.idxArr rfl rfl Law19_al24 (by decide) (by decide)) ?_
  refine Run.val (lt rfl) (Y.load rfl Law19_ts3 (Kn.at 0 rfl) rfl) ?_
  refine Run.call [] (l := [.tmp 29]) rfl rfl rfl (lt rfl) (new_c_yes (n := l1) hn1) (fun v5 V2 H2 _ hR => ?_)
  obtain ⟨hV, b4, rfl, rfl⟩ := hR; replace hV := hV.symm; subst hV
  refine Run.val (lt rfl) (Y.move rfl) ?_
  refine Run.val (lt rfl) (Y.extract rfl rfl) ?_
  refine Run.val (lt rfl) (Y.extract rfl rfl) ?_
  refine Run.val (lt rfl) (Y.assign rfl) ?_
  refine Run.val (lt rfl) (Y.assign rfl) ?_
  refine Run.to_end ?_
  refine Ex.go ?_
  refine Tr.seq ?_
  refine Tr.seq ?_
  refine Tr.region ?_
  refine Run.val (lt rfl) (Y.move rfl) ?_
  refine Run.val (lt rfl) (Y.not rfl) ?_
  refine Run.val (lt rfl) (Y.move rfl) ?_
  refine Run.on rfl rfl rfl rfl ?_
  refine Run.val (lt rfl) (Y.move rfl) ?_
  refine Run.on rfl rfl rfl rfl ?_
  refine Run.val (lt rfl) (Y.int (r := .bool false) rfl rfl rfl) ?_
  refine Run.val (lt rfl) (Y.pick_f rfl rfl rfl) ?_
  refine Run.val (lt rfl) (Y.move rfl) ?_
  refine Run.on rfl rfl rfl rfl ?_
  refine Run.val (lt rfl) (Y.move rfl) ?_
  refine Run.on rfl rfl rfl rfl ?_
  refine Run.val (lt rfl) (Y.int (r := .bool false) rfl rfl rfl) ?_
  refine Run.val (lt rfl) (Y.pick_f rfl rfl rfl) ?_
  refine Run.val (lt rfl) (Y.move rfl) ?_
  refine Run.on rfl rfl rfl rfl ?_
  refine Run.val (lt rfl) (Y.move rfl) ?_
  refine Run.on rfl rfl rfl rfl ?_
  refine Run.val (lt rfl) (Y.int rfl rfl rfl) ?_
  refine Run.val (lt rfl) (Y.pick_f rfl rfl rfl) ?_
  refine Run.val (lt rfl) (Y.move rfl) ?_
  rcases Bool.eq_false_or_eq_true (decide (now < 0)) with h6 | h6
  · have g6 := h6
    try simp only [kb] at g6
    refine Run.off rfl rfl rfl h6 rfl (lt rfl) ?_
    refine Run.off rfl rfl rfl h6 rfl (lt rfl) ?_
    refine Run.val (lt rfl) (Y.pick_t rfl h6 rfl) ?_
    refine Run.to_end ?_
    refine Ex.go ?_
    refine Tr.cond_t rfl rfl ?_
    refine Tr.seq ?_
    refine Tr.region ?_
    refine Run.val (lt rfl) (Y.move rfl) ?_
    refine Run.val (lt rfl) (Y.assign rfl) ?_
    refine Run.to_end ?_
    refine Ex.go ?_
    refine Tr.to_ret ?_
    refine Ex.ret_then ?_
    refine Ex.keep [] ?_
    exact Ex.ret1 rfl rfl  rfl
  · have g6 := h6
    try simp only [kb] at g6
    refine Run.on rfl rfl rfl h6 ?_
    refine Run.val (lt rfl) (Y.move rfl) ?_
    refine Run.on rfl rfl rfl h6 ?_
    refine Run.val (lt rfl) (Y.int rfl rfl rfl) ?_
    refine Run.val (lt rfl) (Y.pick_f rfl h6 rfl) ?_
    refine Run.to_end ?_
    refine Ex.go ?_
    rcases Bool.eq_false_or_eq_true (decide (now > 549755813888)) with h7 | h7
    · have g7 := h7
      try simp only [kb] at g7
      refine Tr.cond_t rfl h7 ?_
      refine Tr.seq ?_
      refine Tr.region ?_
      refine Run.val (lt rfl) (Y.move rfl) ?_
      refine Run.val (lt rfl) (Y.assign rfl) ?_
      refine Run.to_end ?_
      refine Ex.go ?_
      refine Tr.to_ret ?_
      refine Ex.ret_then ?_
      refine Ex.keep [] ?_
      exact Ex.ret1 rfl rfl  rfl
    · have g7 := h7
      try simp only [kb] at g7
      refine Tr.cond_f rfl h7 ?_
      refine Tr.to_end ?_
      refine Ex.go ?_
      refine Tr.seq ?_
      refine Tr.seq ?_
      refine Tr.region ?_
      refine Run.val (lt rfl) (Y.assign rfl) ?_
      refine Run.to_end ?_
      refine Ex.go ?_
      refine Tr.block ?_
      refine Tr.loop (X := Nat) (fun x => V) (fun x => [[(b1, .cells #[.int .i64 l0, .int .i64 l1] 24 (0, 0))], [(b2, .cells #[.int .i64 ((Con.meet l0 l1 now x).1.known), .int .i64 ((Con.meet l0 l1 now x).1.hello), .int .i64 ((Con.meet l0 l1 now x).1.st), .int .i64 ((Con.meet l0 l1 now x).1.mine), .int .i64 ((Con.meet l0 l1 now x).1.said), .int .i64 ((Con.meet l0 l1 now x).1.at_), .bool ((Con.meet l0 l1 now x).1.up)] 95 (0, 0))], [(b4, .cells #[.int .i64 ((Con.meet l0 l1 now x).2.known), .int .i64 ((Con.meet l0 l1 now x).2.hello), .int .i64 ((Con.meet l0 l1 now x).2.st), .int .i64 ((Con.meet l0 l1 now x).2.mine), .int .i64 ((Con.meet l0 l1 now x).2.said), .int .i64 ((Con.meet l0 l1 now x).2.at_), .bool ((Con.meet l0 l1 now x).2.up)] 95 (0, 0))]]) (fun x => [(1, .int .i64 now), (2, .pointer (some ⟨b1, 0, none⟩)), (6, .pointer (some ⟨b2, 0, none⟩)), (8, .pointer (some ⟨b4, 0, none⟩)), (10, .int .i64 (x : Int))]) (fun x => x ≤ 2) (fun x => 2 - x) 0 (Nat.zero_le _) (fun a w i => ⟨i.1.sub (subB_cons (by first | rfl | exact congrArg (fun z => some (Value.int _ z)) (by omega)) (subB_cons (by first | rfl | exact congrArg (fun z => some (Value.int _ z)) (by omega)) (subB_cons (by first | rfl | exact congrArg (fun z => some (Value.int _ z)) (by omega)) (subB_cons (by first | rfl | exact congrArg (fun z => some (Value.int _ z)) (by omega)) (subB_cons (by first | rfl | exact congrArg (fun z => some (Value.int _ z)) (by omega)) (subB_nil _)))))), i.2⟩) ?_
      rintro x hx
      refine Tr.seq ?_
      refine Tr.seq ?_
      refine Tr.region ?_
      refine Run.val (lt rfl) (Y.move rfl) ?_
      refine Run.val (lt rfl) (Y.int rfl rfl rfl) ?_
      refine Run.to_end ?_
      refine Ex.go ?_
      rcases Bool.eq_false_or_eq_true (decide ((x : Int) < 2)) with h8 | h8
      · have g8 := h8
        try simp only [kb] at g8
        refine Tr.cond_t rfl h8 ?_
        refine Tr.to_end ?_
        refine Ex.go ?_
        refine Tr.seq ?_
        refine Tr.block ?_
        refine Tr.seq ?_
        refine Tr.region ?_
        refine Run.val (lt rfl) (Y.move rfl) ?_
        refine Run.call [1] (l := [.tmp 57, .const (.int .i64 1)]) rfl rfl rfl (lt rfl) (hello_c (c := ((Con.meet l0 l1 now x).1)) (n := 1) (Con.inv_meet hn0 hn1 x).1) (fun v9 V2 H2 _ hR => ?_)
        obtain ⟨hV, rfl, rfl⟩ := hR; replace hV := hV.symm; subst hV
        refine Run.val (lt rfl) (Y.move rfl) ?_
        refine Run.val (lt rfl) (Y.extract rfl rfl) ?_
        refine Run.val (lt rfl) (Y.extract rfl rfl) ?_
        refine Run.alloc Law19_zo37 (lt rfl) (fun b10 => ?_)
        refine Run.store (s := [(b10, .cells #[.int .i64 ((Con.helloM ((Con.meet l0 l1 now x).1) 1).kind), .int .i64 ((Con.helloM ((Con.meet l0 l1 now x).1) 1).life), .int .i64 ((Con.helloM ((Con.meet l0 l1 now x).1) 1).seen), .int .i64 ((Con.helloM ((Con.meet l0 l1 now x).1) 1).xid), .int .i64 ((Con.helloM ((Con.meet l0 l1 now x).1) 1).state), .int .u32 ((Con.helloM ((Con.meet l0 l1 now x).1) 1).addr), .int .i64 ((Con.helloM ((Con.meet l0 l1 now x).1) 1).bind), .string ((Con.helloM ((Con.meet l0 l1 now x).1) 1).client), .int .i64 ((Con.helloM ((Con.meet l0 l1 now x).1) 1).pot), .int .i64 ((Con.helloM ((Con.meet l0 l1 now x).1) 1).at_), .bool ((Con.helloM ((Con.meet l0 l1 now x).1) 1).ok)] 37 (0, 0))]) rfl rfl Law19_sz37 (i := 0) rfl rfl (le rfl) rfl rfl ?_
        refine Run.val (lt rfl) (Y.assign rfl) ?_
        refine Run.to_end ?_
        refine Ex.go ?_
        refine Tr.seq ?_
        refine Tr.region ?_
        refine Run.val (lt rfl) (Y.move rfl) ?_
        refine Run.val (lt rfl) (Y.loadAgg rfl Law19_ag37 (Kn.at 0 rfl) rfl) ?_
        refine Run.val (lt rfl) (Y.move rfl) ?_
        refine Run.call [2] (l := [.tmp 61, .tmp 62, .tmp 63]) rfl rfl rfl (lt rfl) (take19_c (c := ((Con.meet l0 l1 now x).2)) (m := (Con.helloM ((Con.meet l0 l1 now x).1) 1)) (now := now) (Con.inv_meet hn0 hn1 x).2) (fun v11 V2 H2 _ hR => ?_)
        obtain ⟨hV, rfl, rfl⟩ := hR; replace hV := hV.symm; subst hV
        refine Run.to_end ?_
        refine Ex.go ?_
        refine Tr.seq ?_
        refine Tr.region ?_
        refine Run.val (lt rfl) (Y.move rfl) ?_
        refine Run.call [3] (l := [.tmp 66, .const (.int .i64 1)]) rfl rfl rfl (lt rfl) (hello_c (c := (Con.takeC ((Con.meet l0 l1 now x).2) (Con.helloM ((Con.meet l0 l1 now x).1) 1) now)) (n := 1) (Con.inv_take (Con.inv_meet hn0 hn1 x).2 (Con.helloM ((Con.meet l0 l1 now x).1) 1) now)) (fun v12 V2 H2 _ hR => ?_)
        obtain ⟨hV, rfl, rfl⟩ := hR; replace hV := hV.symm; subst hV
        refine Run.val (lt rfl) (Y.move rfl) ?_
        refine Run.val (lt rfl) (Y.extract rfl rfl) ?_
        refine Run.val (lt rfl) (Y.extract rfl rfl) ?_
        refine Run.alloc Law19_zo37 (lt rfl) (fun b13 => ?_)
        refine Run.store (s := [(b13, .cells #[.int .i64 ((Con.helloM (Con.takeC ((Con.meet l0 l1 now x).2) (Con.helloM ((Con.meet l0 l1 now x).1) 1) now) 1).kind), .int .i64 ((Con.helloM (Con.takeC ((Con.meet l0 l1 now x).2) (Con.helloM ((Con.meet l0 l1 now x).1) 1) now) 1).life), .int .i64 ((Con.helloM (Con.takeC ((Con.meet l0 l1 now x).2) (Con.helloM ((Con.meet l0 l1 now x).1) 1) now) 1).seen), .int .i64 ((Con.helloM (Con.takeC ((Con.meet l0 l1 now x).2) (Con.helloM ((Con.meet l0 l1 now x).1) 1) now) 1).xid), .int .i64 ((Con.helloM (Con.takeC ((Con.meet l0 l1 now x).2) (Con.helloM ((Con.meet l0 l1 now x).1) 1) now) 1).state), .int .u32 ((Con.helloM (Con.takeC ((Con.meet l0 l1 now x).2) (Con.helloM ((Con.meet l0 l1 now x).1) 1) now) 1).addr), .int .i64 ((Con.helloM (Con.takeC ((Con.meet l0 l1 now x).2) (Con.helloM ((Con.meet l0 l1 now x).1) 1) now) 1).bind), .string ((Con.helloM (Con.takeC ((Con.meet l0 l1 now x).2) (Con.helloM ((Con.meet l0 l1 now x).1) 1) now) 1).client), .int .i64 ((Con.helloM (Con.takeC ((Con.meet l0 l1 now x).2) (Con.helloM ((Con.meet l0 l1 now x).1) 1) now) 1).pot), .int .i64 ((Con.helloM (Con.takeC ((Con.meet l0 l1 now x).2) (Con.helloM ((Con.meet l0 l1 now x).1) 1) now) 1).at_), .bool ((Con.helloM (Con.takeC ((Con.meet l0 l1 now x).2) (Con.helloM ((Con.meet l0 l1 now x).1) 1) now) 1).ok)] 37 (0, 0))]) rfl rfl Law19_sz37 (i := 0) rfl rfl (le rfl) rfl rfl ?_
        refine Run.val (lt rfl) (Y.assign rfl) ?_
        refine Run.to_end ?_
        refine Ex.go ?_
        refine Tr.region ?_
        refine Run.val (lt rfl) (Y.move rfl) ?_
        refine Run.val (lt rfl) (Y.loadAgg rfl Law19_ag37 (Kn.at 0 rfl) rfl) ?_
        refine Run.val (lt rfl) (Y.move rfl) ?_
        refine Run.call [3] (l := [.tmp 70, .tmp 71, .tmp 72]) rfl rfl rfl (lt rfl) (take19_c (c := (Con.helloC ((Con.meet l0 l1 now x).1) 1)) (m := (Con.helloM (Con.takeC ((Con.meet l0 l1 now x).2) (Con.helloM ((Con.meet l0 l1 now x).1) 1) now) 1)) (now := now) (Con.inv_hello (Con.inv_meet hn0 hn1 x).1 1)) (fun v14 V2 H2 _ hR => ?_)
        obtain ⟨hV, rfl, rfl⟩ := hR; replace hV := hV.symm; subst hV
        refine Run.to_end ?_
        refine Ex.end_block ?_
        refine Ex.go ?_
        refine Tr.region ?_
        refine Run.val (lt rfl) (Y.move rfl) ?_
        refine Run.val (lt rfl) (Y.add rfl rfl (by omega)) ?_
        refine Run.val (lt rfl) (Y.assign rfl) ?_
        refine Run.to_end ?_
        refine Ex.keep [2, 3, 2] ?_
        exact Ex.round (x + 1) (by show x + 1 ≤ 2; omega) (by omega) rfl rfl (subB_cons (by first | rfl | exact congrArg (fun z => some (Value.int _ z)) (by omega)) (subB_cons (by first | rfl | exact congrArg (fun z => some (Value.int _ z)) (by omega)) (subB_cons (by first | rfl | exact congrArg (fun z => some (Value.int _ z)) (by omega)) (subB_cons (by first | rfl | exact congrArg (fun z => some (Value.int _ z)) (by omega)) (subB_cons (by first | rfl | exact congrArg (fun z => some (Value.int _ z)) (by omega)) (subB_nil _))))))
      · have g8 := h8
        try simp only [kb] at g8
        obtain rfl : x = 2 := by omega
        have hnow : 0 ≤ now ∧ now ≤ 549755813888 := by omega
        refine Tr.cond_f rfl h8 ?_
        refine Tr.to_exit ?_
        refine Ex.exit_then ?_
        refine Ex.exit_then ?_
        refine Ex.exit_in ?_
        refine Ex.go ?_
        refine Tr.seq ?_
        refine Tr.region ?_
        refine Run.val (lt rfl) (Y.move rfl) ?_
        refine Run.val (lt rfl) (Y.move rfl) ?_
        refine Run.val (lt rfl) (Y.add rfl rfl (by omega)) ?_
        refine Run.call [1] (l := [.tmp 75, .tmp 77]) rfl rfl rfl (lt rfl) (tick_c (c := ((Con.meet l0 l1 now 2).1)) (now := now + 5) (Con.inv_meet hn0 hn1 2).1) (fun v15 V2 H2 _ hR => ?_)
        obtain ⟨hV, rfl, rfl⟩ := hR; replace hV := hV.symm; subst hV
        refine Run.val (lt rfl) (Y.move rfl) ?_
        refine Run.val (lt rfl) (Y.extract rfl rfl) ?_
        refine Run.val (lt rfl) (Y.extract rfl rfl) ?_
        refine Run.val (lt rfl) (Y.assign rfl) ?_
        refine Run.val (lt rfl) (Y.assign rfl) ?_
        refine Run.to_end ?_
        refine Ex.go ?_
        refine Tr.seq ?_
        refine Tr.region ?_
        refine Run.val (lt rfl) (Y.move rfl) ?_
        refine Run.call0 (l := [.tmp 81]) rfl rfl rfl (lt rfl) (up_c (c := (Con.tickC ((Con.meet l0 l1 now 2).1) (now + 5))) (Kn.at 2 rfl)) ?_
        refine Run.val (lt rfl) (Y.assign rfl) ?_
        refine Run.to_end ?_
        refine Ex.go ?_
        refine Tr.seq ?_
        refine Tr.region ?_
        refine Run.val (lt rfl) (Y.move rfl) ?_
        refine Run.val (lt rfl) (Y.move rfl) ?_
        refine Run.val (lt rfl) (Y.add rfl rfl (by omega)) ?_
        refine Run.call [2] (l := [.tmp 84, .tmp 86]) rfl rfl rfl (lt rfl) (tick_c (c := (Con.tickC ((Con.meet l0 l1 now 2).1) (now + 5))) (now := now + 6) (Con.inv_tick (Con.inv_meet hn0 hn1 2).1 (now + 5))) (fun v16 V2 H2 _ hR => ?_)
        obtain ⟨hV, rfl, rfl⟩ := hR; replace hV := hV.symm; subst hV
        refine Run.val (lt rfl) (Y.move rfl) ?_
        refine Run.val (lt rfl) (Y.extract rfl rfl) ?_
        refine Run.val (lt rfl) (Y.extract rfl rfl) ?_
        refine Run.val (lt rfl) (Y.assign rfl) ?_
        refine Run.val (lt rfl) (Y.assign rfl) ?_
        refine Run.to_end ?_
        refine Ex.go ?_
        refine Tr.seq ?_
        refine Tr.quiet Law19_mo (by kernel_rfl) ?_
        refine RunQ.val (lt rfl) (Y.move rfl) ?_
        refine RunQ.val (lt rfl) (Y.move rfl) ?_
        refine RunQ.on rfl rfl rfl (Con.meet_up hn0 hn1 hnow) ?_
        refine RunQ.val (lt rfl) (Y.move rfl) ?_
        refine RunQ.on rfl rfl rfl (Con.meet_up hn0 hn1 hnow) ?_
        refine RunQ.call0 (l := [.tmp 92]) rfl rfl rfl (lt rfl) (up_c (c := ((Con.meet l0 l1 now 2).2)) (Kn.at 1 rfl)) ?_
        refine RunQ.val (lt rfl) (Y.pick_t rfl (Con.meet_up hn0 hn1 hnow) rfl) ?_
        refine RunQ.val (lt rfl) (Y.move rfl) ?_
        refine RunQ.on rfl rfl rfl (Con.meet_up2 hn0 hn1 hnow) ?_
        refine RunQ.val (lt rfl) (Y.move rfl) ?_
        refine RunQ.on rfl rfl rfl (Con.meet_up2 hn0 hn1 hnow) ?_
        refine RunQ.val (lt rfl) (Y.int rfl rfl rfl) ?_
        refine RunQ.val (lt rfl) (Y.pick_t rfl (Con.meet_up2 hn0 hn1 hnow) rfl) ?_
        refine RunQ.val (lt rfl) (Y.move rfl) ?_
        refine RunQ.on rfl rfl rfl (Con.meet_e5 hnow) ?_
        refine RunQ.val (lt rfl) (Y.move rfl) ?_
        refine RunQ.on rfl rfl rfl (Con.meet_e5 hnow) ?_
        refine RunQ.val (lt rfl) (Y.int rfl rfl rfl) ?_
        refine RunQ.val (lt rfl) (Y.pick_t rfl (Con.meet_e5 hnow) rfl) ?_
        refine RunQ.val (lt rfl) (Y.move rfl) ?_
        refine RunQ.on rfl rfl rfl (Con.meet_e6 hnow) ?_
        refine RunQ.val (lt rfl) (Y.move rfl) ?_
        refine RunQ.on rfl rfl rfl (Con.meet_e6 hnow) ?_
        refine RunQ.val (lt rfl) (Y.not rfl) ?_
        refine RunQ.val (lt rfl) (Y.pick_t rfl (Con.meet_e6 hnow) rfl) ?_
        refine RunQ.val (lt rfl) (Y.move rfl) ?_
        refine RunQ.on rfl rfl rfl (congrArg Bool.not (Con.meet_lost5 hn0 hn1 hnow)) ?_
        refine RunQ.val (lt rfl) (Y.move rfl) ?_
        refine RunQ.val (lt rfl) (Y.pick_t rfl (congrArg Bool.not (Con.meet_lost5 hn0 hn1 hnow)) rfl) ?_
        refine RunQ.val (lt rfl) (Y.move rfl) ?_
        refine RunQ.on rfl rfl rfl (Con.meet_lost6 hn0 hn1 hnow) ?_
        refine RunQ.val (lt rfl) (Y.move rfl) ?_
        refine RunQ.on rfl rfl rfl (Con.meet_lost6 hn0 hn1 hnow) ?_
        refine RunQ.call0 (l := [.tmp 111]) rfl rfl rfl (lt rfl) (up_c (c := (Con.tickC (Con.tickC ((Con.meet l0 l1 now 2).1) (now + 5)) (now + 6))) (Kn.at 2 rfl)) ?_
        refine RunQ.on rfl rfl rfl (Con.meet_lost6 hn0 hn1 hnow) ?_
        refine RunQ.val (lt rfl) (Y.not rfl) ?_
        refine RunQ.val (lt rfl) (Y.pick_t rfl (Con.meet_lost6 hn0 hn1 hnow) rfl) ?_
        refine RunQ.val (lt rfl) (Y.move rfl) ?_
        refine RunQ.on rfl rfl rfl (congrArg Bool.not (Con.meet_down hn0 hn1 hnow)) ?_
        refine RunQ.val (lt rfl) (Y.move rfl) ?_
        refine RunQ.on rfl rfl rfl (congrArg Bool.not (Con.meet_down hn0 hn1 hnow)) ?_
        refine RunQ.call0 (l := [.tmp 116]) rfl rfl rfl (lt rfl) (other_c (c := (Con.tickC (Con.tickC ((Con.meet l0 l1 now 2).1) (now + 5)) (now + 6))) (Kn.at 2 rfl)) ?_
        refine RunQ.on rfl rfl rfl (congrArg Bool.not (Con.meet_down hn0 hn1 hnow)) ?_
        refine RunQ.val (lt rfl) (Y.idxArr rfl rfl Law19_al24 (by decide) (by decide)) ?_
        refine RunQ.on rfl rfl rfl (congrArg Bool.not (Con.meet_down hn0 hn1 hnow)) ?_
        refine RunQ.val (lt rfl) (Y.load rfl Law19_ts3 (Kn.at 0 rfl) rfl) ?_
        refine RunQ.on rfl rfl rfl (congrArg Bool.not (Con.meet_down hn0 hn1 hnow)) ?_
        refine RunQ.val (lt rfl) (Y.int rfl rfl rfl) ?_
        refine RunQ.val (lt rfl) (Y.pick_t rfl (congrArg Bool.not (Con.meet_down hn0 hn1 hnow)) rfl) ?_
        refine RunQ.val (lt rfl) (Y.move rfl) ?_
        refine RunQ.on rfl rfl rfl (Con.meet_known1 hn0 hn1 hnow) ?_
        refine RunQ.val (lt rfl) (Y.move rfl) ?_
        refine RunQ.on rfl rfl rfl (Con.meet_known1 hn0 hn1 hnow) ?_
        refine RunQ.call0 (l := [.tmp 123]) rfl rfl rfl (lt rfl) (other_c (c := ((Con.meet l0 l1 now 2).2)) (Kn.at 1 rfl)) ?_
        refine RunQ.on rfl rfl rfl (Con.meet_known1 hn0 hn1 hnow) ?_
        refine RunQ.val (lt rfl) (Y.idxArr rfl rfl Law19_al24 (by decide) (by decide)) ?_
        refine RunQ.on rfl rfl rfl (Con.meet_known1 hn0 hn1 hnow) ?_
        refine RunQ.val (lt rfl) (Y.load rfl Law19_ts3 (Kn.at 0 rfl) rfl) ?_
        refine RunQ.on rfl rfl rfl (Con.meet_known1 hn0 hn1 hnow) ?_
        refine RunQ.val (lt rfl) (Y.int rfl rfl rfl) ?_
        refine RunQ.val (lt rfl) (Y.pick_t rfl (Con.meet_known1 hn0 hn1 hnow) rfl) ?_
        refine RunQ.val (lt rfl) (Y.assign rfl) ?_
        refine RunQ.to_end ?_
        refine Ex.go ?_
        refine Tr.to_ret ?_
        refine Ex.keep [] ?_
        exact Ex.ret1 rfl rfl  (congrArg Value.bool (Con.meet_known2 hn0 hn1 hnow))

theorem meets_yn {V : Vw} {l0 l1 now : Int} (hn0 : 1 ≤ l0 ∧ l0 ≤ 536870912) (hn1 : ¬ (1 ≤ l1 ∧ l1 ≤ 536870912))  : Does Try.prog 10 [.agg #[.int .i64 l0, .int .i64 l1], .int .i64 now] V [] (fun v _ _ => v = .bool true) := by
  refine Does.intro Try.func10 rfl rfl (le rfl) (fun B => ?_)
  refine Tr.seq ?_
  refine Tr.region ?_
  refine Run.box rfl (lt rfl) (fun b1 => ?_)
  refine Run.val (lt rfl) (Y.assign rfl) ?_
  refine Run.to_end ?_
  refine Ex.go ?_
  refine Tr.seq ?_
  refine Tr.region ?_
  refine Run.call0 (l := []) rfl rfl rfl (lt rfl) awake19_c ?_
  refine Run.val (lt rfl) (Y.assign rfl) ?_
  refine Run.to_end ?_
  refine Ex.go ?_
  refine Tr.seq ?_
  refine Tr.region ?_
  refine Run.val (lt rfl) (Y.idxArr rfl rfl Law19_al24 (by decide) (by decide)) ?_
  refine Run.val (lt rfl) (Y.load rfl Law19_ts3 (Kn.at 0 rfl) rfl) ?_
  refine Run.call [] (l := [.tmp 23]) rfl rfl rfl (lt rfl) (new_c_yes (n := l0) hn0) (fun v3 V2 H2 _ hR => ?_)
  obtain ⟨hV, b2, rfl, rfl⟩ := hR; replace hV := hV.symm; subst hV
  refine Run.val (lt rfl) (Y.move rfl) ?_
  refine Run.val (lt rfl) (Y.extract rfl rfl) ?_
  refine Run.val (lt rfl) (Y.extract rfl rfl) ?_
  refine Run.val (lt rfl) (Y.assign rfl) ?_
  refine Run.val (lt rfl) (Y.assign rfl) ?_
  refine Run.to_end ?_
  refine Ex.go ?_
  refine Tr.seq ?_
  refine Tr.region ?_
  refine Run.val (lt rfl) (Y.idxArr rfl rfl Law19_al24 (by decide) (by decide)) ?_
  refine Run.val (lt rfl) (Y.load rfl Law19_ts3 (Kn.at 0 rfl) rfl) ?_
  refine Run.call0 (l := [.tmp 29]) rfl rfl rfl (lt rfl) (Does.frame (new_c_no (n := l1) hn1)) ?_
  refine Run.val (lt rfl) (Y.move rfl) ?_
  refine Run.val (lt rfl) (Y.extract rfl rfl) ?_
  refine Run.val (lt rfl) (Y.extract rfl rfl) ?_
  refine Run.val (lt rfl) (Y.assign rfl) ?_
  refine Run.val (lt rfl) (Y.assign rfl) ?_
  refine Run.to_end ?_
  refine Ex.go ?_
  refine Tr.seq ?_
  refine Tr.seq ?_
  refine Tr.region ?_
  refine Run.val (lt rfl) (Y.move rfl) ?_
  refine Run.val (lt rfl) (Y.not rfl) ?_
  refine Run.val (lt rfl) (Y.move rfl) ?_
  refine Run.on rfl rfl rfl rfl ?_
  refine Run.val (lt rfl) (Y.move rfl) ?_
  refine Run.on rfl rfl rfl rfl ?_
  refine Run.val (lt rfl) (Y.int (r := .bool false) rfl rfl rfl) ?_
  refine Run.val (lt rfl) (Y.pick_f rfl rfl rfl) ?_
  refine Run.val (lt rfl) (Y.move rfl) ?_
  refine Run.on rfl rfl rfl rfl ?_
  refine Run.val (lt rfl) (Y.move rfl) ?_
  refine Run.on rfl rfl rfl rfl ?_
  refine Run.val (lt rfl) (Y.int (r := .bool true) rfl rfl rfl) ?_
  refine Run.val (lt rfl) (Y.pick_f rfl rfl rfl) ?_
  refine Run.val (lt rfl) (Y.move rfl) ?_
  refine Run.off rfl rfl rfl rfl rfl (lt rfl) ?_
  refine Run.off rfl rfl rfl rfl rfl (lt rfl) ?_
  refine Run.val (lt rfl) (Y.pick_t rfl rfl rfl) ?_
  refine Run.val (lt rfl) (Y.move rfl) ?_
  refine Run.off rfl rfl rfl rfl rfl (lt rfl) ?_
  refine Run.off rfl rfl rfl rfl rfl (lt rfl) ?_
  refine Run.val (lt rfl) (Y.pick_t rfl rfl rfl) ?_
  refine Run.to_end ?_
  refine Ex.go ?_
  refine Tr.cond_t rfl rfl ?_
  refine Tr.seq ?_
  refine Tr.region ?_
  refine Run.val (lt rfl) (Y.move rfl) ?_
  refine Run.val (lt rfl) (Y.assign rfl) ?_
  refine Run.to_end ?_
  refine Ex.go ?_
  refine Tr.to_ret ?_
  refine Ex.ret_then ?_
  refine Ex.keep [] ?_
  exact Ex.ret1 rfl rfl  rfl

theorem meets_ny {V : Vw} {l0 l1 now : Int} (hn0 : ¬ (1 ≤ l0 ∧ l0 ≤ 536870912)) (hn1 : 1 ≤ l1 ∧ l1 ≤ 536870912)  : Does Try.prog 10 [.agg #[.int .i64 l0, .int .i64 l1], .int .i64 now] V [] (fun v _ _ => v = .bool true) := by
  refine Does.intro Try.func10 rfl rfl (le rfl) (fun B => ?_)
  refine Tr.seq ?_
  refine Tr.region ?_
  refine Run.box rfl (lt rfl) (fun b1 => ?_)
  refine Run.val (lt rfl) (Y.assign rfl) ?_
  refine Run.to_end ?_
  refine Ex.go ?_
  refine Tr.seq ?_
  refine Tr.region ?_
  refine Run.call0 (l := []) rfl rfl rfl (lt rfl) awake19_c ?_
  refine Run.val (lt rfl) (Y.assign rfl) ?_
  refine Run.to_end ?_
  refine Ex.go ?_
  refine Tr.seq ?_
  refine Tr.region ?_
  refine Run.val (lt rfl) (Y.idxArr rfl rfl Law19_al24 (by decide) (by decide)) ?_
  refine Run.val (lt rfl) (Y.load rfl Law19_ts3 (Kn.at 0 rfl) rfl) ?_
  refine Run.call0 (l := [.tmp 23]) rfl rfl rfl (lt rfl) (Does.frame (new_c_no (n := l0) hn0)) ?_
  refine Run.val (lt rfl) (Y.move rfl) ?_
  refine Run.val (lt rfl) (Y.extract rfl rfl) ?_
  refine Run.val (lt rfl) (Y.extract rfl rfl) ?_
  refine Run.val (lt rfl) (Y.assign rfl) ?_
  refine Run.val (lt rfl) (Y.assign rfl) ?_
  refine Run.to_end ?_
  refine Ex.go ?_
  refine Tr.seq ?_
  refine Tr.region ?_
  refine Run.val (lt rfl) (Y.idxArr rfl rfl Law19_al24 (by decide) (by decide)) ?_
  refine Run.val (lt rfl) (Y.load rfl Law19_ts3 (Kn.at 0 rfl) rfl) ?_
  refine Run.call [] (l := [.tmp 29]) rfl rfl rfl (lt rfl) (new_c_yes (n := l1) hn1) (fun v3 V2 H2 _ hR => ?_)
  obtain ⟨hV, b2, rfl, rfl⟩ := hR; replace hV := hV.symm; subst hV
  refine Run.val (lt rfl) (Y.move rfl) ?_
  refine Run.val (lt rfl) (Y.extract rfl rfl) ?_
  refine Run.val (lt rfl) (Y.extract rfl rfl) ?_
  refine Run.val (lt rfl) (Y.assign rfl) ?_
  refine Run.val (lt rfl) (Y.assign rfl) ?_
  refine Run.to_end ?_
  refine Ex.go ?_
  refine Tr.seq ?_
  refine Tr.seq ?_
  refine Tr.region ?_
  refine Run.val (lt rfl) (Y.move rfl) ?_
  refine Run.val (lt rfl) (Y.not rfl) ?_
  refine Run.val (lt rfl) (Y.move rfl) ?_
  refine Run.on rfl rfl rfl rfl ?_
  refine Run.val (lt rfl) (Y.move rfl) ?_
  refine Run.on rfl rfl rfl rfl ?_
  refine Run.val (lt rfl) (Y.int (r := .bool true) rfl rfl rfl) ?_
  refine Run.val (lt rfl) (Y.pick_f rfl rfl rfl) ?_
  refine Run.val (lt rfl) (Y.move rfl) ?_
  refine Run.off rfl rfl rfl rfl rfl (lt rfl) ?_
  refine Run.off rfl rfl rfl rfl rfl (lt rfl) ?_
  refine Run.val (lt rfl) (Y.pick_t rfl rfl rfl) ?_
  refine Run.val (lt rfl) (Y.move rfl) ?_
  refine Run.off rfl rfl rfl rfl rfl (lt rfl) ?_
  refine Run.off rfl rfl rfl rfl rfl (lt rfl) ?_
  refine Run.val (lt rfl) (Y.pick_t rfl rfl rfl) ?_
  refine Run.val (lt rfl) (Y.move rfl) ?_
  refine Run.off rfl rfl rfl rfl rfl (lt rfl) ?_
  refine Run.off rfl rfl rfl rfl rfl (lt rfl) ?_
  refine Run.val (lt rfl) (Y.pick_t rfl rfl rfl) ?_
  refine Run.to_end ?_
  refine Ex.go ?_
  refine Tr.cond_t rfl rfl ?_
  refine Tr.seq ?_
  refine Tr.region ?_
  refine Run.val (lt rfl) (Y.move rfl) ?_
  refine Run.val (lt rfl) (Y.assign rfl) ?_
  refine Run.to_end ?_
  refine Ex.go ?_
  refine Tr.to_ret ?_
  refine Ex.ret_then ?_
  refine Ex.keep [] ?_
  exact Ex.ret1 rfl rfl  rfl

theorem meets_nn {V : Vw} {l0 l1 now : Int} (hn0 : ¬ (1 ≤ l0 ∧ l0 ≤ 536870912)) (hn1 : ¬ (1 ≤ l1 ∧ l1 ≤ 536870912))  : Does Try.prog 10 [.agg #[.int .i64 l0, .int .i64 l1], .int .i64 now] V [] (fun v _ _ => v = .bool true) := by
  refine Does.intro Try.func10 rfl rfl (le rfl) (fun B => ?_)
  refine Tr.seq ?_
  refine Tr.region ?_
  refine Run.box rfl (lt rfl) (fun b1 => ?_)
  refine Run.val (lt rfl) (Y.assign rfl) ?_
  refine Run.to_end ?_
  refine Ex.go ?_
  refine Tr.seq ?_
  refine Tr.region ?_
  refine Run.call0 (l := []) rfl rfl rfl (lt rfl) awake19_c ?_
  refine Run.val (lt rfl) (Y.assign rfl) ?_
  refine Run.to_end ?_
  refine Ex.go ?_
  refine Tr.seq ?_
  refine Tr.region ?_
  refine Run.val (lt rfl) (Y.idxArr rfl rfl Law19_al24 (by decide) (by decide)) ?_
  refine Run.val (lt rfl) (Y.load rfl Law19_ts3 (Kn.at 0 rfl) rfl) ?_
  refine Run.call0 (l := [.tmp 23]) rfl rfl rfl (lt rfl) (Does.frame (new_c_no (n := l0) hn0)) ?_
  refine Run.val (lt rfl) (Y.move rfl) ?_
  refine Run.val (lt rfl) (Y.extract rfl rfl) ?_
  refine Run.val (lt rfl) (Y.extract rfl rfl) ?_
  refine Run.val (lt rfl) (Y.assign rfl) ?_
  refine Run.val (lt rfl) (Y.assign rfl) ?_
  refine Run.to_end ?_
  refine Ex.go ?_
  refine Tr.seq ?_
  refine Tr.region ?_
  refine Run.val (lt rfl) (Y.idxArr rfl rfl Law19_al24 (by decide) (by decide)) ?_
  refine Run.val (lt rfl) (Y.load rfl Law19_ts3 (Kn.at 0 rfl) rfl) ?_
  refine Run.call0 (l := [.tmp 29]) rfl rfl rfl (lt rfl) (Does.frame (new_c_no (n := l1) hn1)) ?_
  refine Run.val (lt rfl) (Y.move rfl) ?_
  refine Run.val (lt rfl) (Y.extract rfl rfl) ?_
  refine Run.val (lt rfl) (Y.extract rfl rfl) ?_
  refine Run.val (lt rfl) (Y.assign rfl) ?_
  refine Run.val (lt rfl) (Y.assign rfl) ?_
  refine Run.to_end ?_
  refine Ex.go ?_
  refine Tr.seq ?_
  refine Tr.seq ?_
  refine Tr.region ?_
  refine Run.val (lt rfl) (Y.move rfl) ?_
  refine Run.val (lt rfl) (Y.not rfl) ?_
  refine Run.val (lt rfl) (Y.move rfl) ?_
  refine Run.on rfl rfl rfl rfl ?_
  refine Run.val (lt rfl) (Y.move rfl) ?_
  refine Run.on rfl rfl rfl rfl ?_
  refine Run.val (lt rfl) (Y.int (r := .bool true) rfl rfl rfl) ?_
  refine Run.val (lt rfl) (Y.pick_f rfl rfl rfl) ?_
  refine Run.val (lt rfl) (Y.move rfl) ?_
  refine Run.off rfl rfl rfl rfl rfl (lt rfl) ?_
  refine Run.off rfl rfl rfl rfl rfl (lt rfl) ?_
  refine Run.val (lt rfl) (Y.pick_t rfl rfl rfl) ?_
  refine Run.val (lt rfl) (Y.move rfl) ?_
  refine Run.off rfl rfl rfl rfl rfl (lt rfl) ?_
  refine Run.off rfl rfl rfl rfl rfl (lt rfl) ?_
  refine Run.val (lt rfl) (Y.pick_t rfl rfl rfl) ?_
  refine Run.val (lt rfl) (Y.move rfl) ?_
  refine Run.off rfl rfl rfl rfl rfl (lt rfl) ?_
  refine Run.off rfl rfl rfl rfl rfl (lt rfl) ?_
  refine Run.val (lt rfl) (Y.pick_t rfl rfl rfl) ?_
  refine Run.to_end ?_
  refine Ex.go ?_
  refine Tr.cond_t rfl rfl ?_
  refine Tr.seq ?_
  refine Tr.region ?_
  refine Run.val (lt rfl) (Y.move rfl) ?_
  refine Run.val (lt rfl) (Y.assign rfl) ?_
  refine Run.to_end ?_
  refine Ex.go ?_
  refine Tr.to_ret ?_
  refine Ex.ret_then ?_
  refine Ex.keep [] ?_
  exact Ex.ret1 rfl rfl  rfl

theorem meets_c {V : Vw} {l0 l1 now : Int} : Does Try.prog 10 [.agg #[.int .i64 l0, .int .i64 l1], .int .i64 now] V [] (fun v _ _ => v = .bool true) := by
  by_cases h0 : 1 ≤ l0 ∧ l0 ≤ 536870912 <;> by_cases h1 : 1 ≤ l1 ∧ l1 ≤ 536870912
  · exact meets_yy h0 h1
  · exact meets_yn h0 h1
  · exact meets_ny h0 h1
  · exact meets_nn h0 h1
end Go.Proofs.Ytahgaaomioffhaa
