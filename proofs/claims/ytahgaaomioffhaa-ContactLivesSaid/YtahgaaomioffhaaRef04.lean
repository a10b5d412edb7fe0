/- What the functions of the reference lessorref04 do.
Conditions: as each theorem names them. -/
import Derived.Test.YtahgaaomioffhaaProg
import Derived.Test.YtahgaaomioffhaaM1
import Derived.Test.YtahgaaomioffhaaK9
set_option linter.unusedSimpArgs false
set_option linter.unusedVariables false
set_option maxRecDepth 4000
namespace Go.Proofs.Ytahgaaomioffhaa
open Go Go.K
attribute [local irreducible] Code.wp wpList Calls wpQuiet
theorem Ref04_fo37_0 : fieldOff Try.prog 37 0 = some 0 := by kernel_rfl
theorem Ref04_ts3 : scal Try.prog 3 = true := by kernel_rfl
theorem Ref04_fo37_1 : fieldOff Try.prog 37 1 = some 1 := by kernel_rfl
theorem Ref04_fo37_2 : fieldOff Try.prog 37 2 = some 2 := by kernel_rfl
theorem Ref04_zo37 : zeroOf Try.prog 37 = some (.agg #[.int .i64 0, .int .i64 0, .int .i64 0, .int .i64 0, .int .i64 0, .int .u32 0, .int .i64 0, .string ⟨#[]⟩, .int .i64 0, .int .i64 0, .bool false]) := by kernel_rfl
theorem Ref04_pl37 : placesS Try.prog 37 = some [(0, 1), (1, 1), (2, 1), (3, 1), (4, 1), (5, 1), (6, 1), (7, 1), (8, 1), (9, 1), (10, 1)] := by kernel_rfl
theorem Ref04_sz37 : sizeT Try.prog 37 = some 11 := by kernel_rfl
theorem Ref04_fo37_4 : fieldOff Try.prog 37 4 = some 4 := by kernel_rfl
theorem Ref04_sz3 : sizeT Try.prog 3 = some 1 := by kernel_rfl
theorem Ref04_fo37_3 : fieldOff Try.prog 37 3 = some 3 := by kernel_rfl
theorem Ref04_ag37 : aggsz Try.prog 37 = some 11 := by kernel_rfl
theorem Ref04_tgs37 : tags Try.prog 37 = some [(0, .i64), (0, .i64), (0, .i64), (0, .i64), (0, .i64), (0, .u32), (0, .i64), (2, .i64), (0, .i64), (0, .i64), (1, .i64)] := by kernel_rfl
theorem Ref04_fo37_10 : fieldOff Try.prog 37 10 = some 10 := by kernel_rfl
theorem Ref04_ts4 : scal Try.prog 4 = true := by kernel_rfl
theorem Ref04_sz4 : sizeT Try.prog 4 = some 1 := by kernel_rfl
theorem Ref04_fo37_6 : fieldOff Try.prog 37 6 = some 6 := by kernel_rfl
theorem Ref04_fo37_8 : fieldOff Try.prog 37 8 = some 8 := by kernel_rfl
theorem Ref04_fo37_9 : fieldOff Try.prog 37 9 = some 9 := by kernel_rfl
theorem Ref04_fo37_7 : fieldOff Try.prog 37 7 = some 7 := by kernel_rfl
theorem Ref04_ts9 : scal Try.prog 9 = true := by kernel_rfl
theorem Ref04_st9 : strT Try.prog 9 = true := by kernel_rfl
theorem Ref04_es38 : elemS Try.prog 38 = some (5, 1) := by kernel_rfl
theorem Ref04_zi5 : zeroInfo Try.prog 5 = some (1, 1, .int .u8 0) := by kernel_rfl
theorem Ref04_it3_5 : intT Try.prog 3 5 = some .u8 := by kernel_rfl
theorem Ref04_sz5 : sizeT Try.prog 5 = some 1 := by kernel_rfl
theorem Ref04_mo : Try.prog.follows .mixedOrders = true := by kernel_rfl
theorem Ref04_zo5 : zeroOf Try.prog 5 = some (.int .u8 0) := by kernel_rfl
theorem Ref04_fo37_5 : fieldOff Try.prog 37 5 = some 5 := by kernel_rfl
theorem Ref04_ts35 : scal Try.prog 35 = true := by kernel_rfl
theorem Ref04_it35_3 : intT Try.prog 35 3 = some .i64 := by kernel_rfl

theorem rwithin_c0 {n lo hi : Int} {V : Vw} : Does Try.prog 55 [.int .i64 n, .int .i64 lo, .int .i64 hi] V [] (Pv (.bool (Msg.within n lo hi)) V []) := by
  refine Does.intro Try.func55 rfl rfl (le rfl) (fun B => ?_)
  refine Tr.seq ?_
  refine Tr.region ?_
  refine Run.val (lt rfl) (Y.assign rfl) ?_
  refine Run.to_end ?_
  refine Ex.go ?_
  refine Tr.seq ?_
  refine Tr.region ?_
  refine Run.val (lt rfl) (Y.move rfl) ?_
  refine Run.val (lt rfl) (Y.move rfl) ?_
  refine Run.val (lt rfl) (Y.int rfl rfl rfl) ?_
  refine Run.val (lt rfl) (Y.move rfl) ?_
  rcases Bool.eq_false_or_eq_true (decide (n ≥ lo)) with h1 | h1
  · have g1 := h1
    try simp only [kb] at g1
    refine Run.on rfl rfl rfl h1 ?_
    refine Run.val (lt rfl) (Y.move rfl) ?_
    refine Run.on rfl rfl rfl h1 ?_
    refine Run.val (lt rfl) (Y.move rfl) ?_
    refine Run.on rfl rfl rfl h1 ?_
    refine Run.val (lt rfl) (Y.int rfl rfl rfl) ?_
    refine Run.val (lt rfl) (Y.pick_t rfl h1 rfl) ?_
    refine Run.val (lt rfl) (Y.assign rfl) ?_
    refine Run.to_end ?_
    refine Ex.go ?_
    refine Tr.to_ret ?_
    exact Ex.ret1 rfl rfl  ⟨by unfold Msg.within; simp_all <;> omega, rfl, rfl⟩
  · have g1 := h1
    try simp only [kb] at g1
    refine Run.off rfl rfl rfl h1 rfl (lt rfl) ?_
    refine Run.off rfl rfl rfl h1 rfl (lt rfl) ?_
    refine Run.off rfl rfl rfl h1 rfl (lt rfl) ?_
    refine Run.val (lt rfl) (Y.pick_f rfl h1 rfl) ?_
    refine Run.val (lt rfl) (Y.assign rfl) ?_
    refine Run.to_end ?_
    refine Ex.go ?_
    refine Tr.to_ret ?_
    exact Ex.ret1 rfl rfl  ⟨by unfold Msg.within; simp_all <;> omega, rfl, rfl⟩

theorem rwithin_c0_h {n lo hi : Int} {V : Vw} {H : Hp} : Does Try.prog 55 [.int .i64 n, .int .i64 lo, .int .i64 hi] V H (Pv (.bool (Msg.within n lo hi)) V H) := rwithin_c0.frame

theorem rright_c0 {m : Msg} {V : Vw} : Does Try.prog 23 [.agg #[.int .i64 m.kind, .int .i64 m.life, .int .i64 m.seen, .int .i64 m.xid, .int .i64 m.state, .int .u32 m.addr, .int .i64 m.bind, .string m.client, .int .i64 m.pot, .int .i64 m.at_, .bool m.ok]] V [] (Pv (.bool (Msg.right m)) V []) := by
  refine Does.intro Try.func23 rfl rfl (le rfl) (fun B => ?_)
  refine Tr.seq ?_
  refine Tr.region ?_
  refine Run.box rfl (lt rfl) (fun b1 => ?_)
  refine Run.val (lt rfl) (Y.assign rfl) ?_
  refine Run.to_end ?_
  refine Ex.go ?_
  refine Tr.seq ?_
  refine Tr.seq ?_
  refine Tr.region ?_
  refine Run.val (lt rfl) (Y.fieldAddr rfl Ref04_fo37_0) ?_
  refine Run.val (lt rfl) (Y.load rfl Ref04_ts3 (Kn.at 0 rfl) rfl) ?_
  refine Run.call0 (l := [.tmp 5, .const (.int .i64 1), .const (.int .i64 5)]) rfl rfl rfl (lt rfl) rwithin_c0_h ?_
  refine Run.val (lt rfl) (Y.not rfl) ?_
  refine Run.val (lt rfl) (Y.move rfl) ?_
  rcases Bool.eq_false_or_eq_true (Msg.within m.kind 1 5) with h2 | h2
  · have g2 := h2
    try simp only [kb] at g2
    refine Run.on rfl rfl rfl (congrArg Bool.not h2) ?_
    refine Run.val (lt rfl) (Y.fieldAddr rfl Ref04_fo37_1) ?_
    refine Run.on rfl rfl rfl (congrArg Bool.not h2) ?_
    refine Run.val (lt rfl) (Y.load rfl Ref04_ts3 (Kn.at 0 rfl) rfl) ?_
    refine Run.on rfl rfl rfl (congrArg Bool.not h2) ?_
    refine Run.call0 (l := [.tmp 10, .const (.int .i64 1), .const (.int .i64 536870912)]) rfl rfl rfl (lt rfl) rwithin_c0_h ?_
    refine Run.on rfl rfl rfl (congrArg Bool.not h2) ?_
    refine Run.val (lt rfl) (Y.not rfl) ?_
    refine Run.val (lt rfl) (Y.pick_f rfl (congrArg Bool.not h2) rfl) ?_
    refine Run.val (lt rfl) (Y.move rfl) ?_
    rcases Bool.eq_false_or_eq_true (Msg.within m.life 1 536870912) with h3 | h3
    · have g3 := h3
      try simp only [kb] at g3
      refine Run.on rfl rfl rfl (congrArg Bool.not h3) ?_
      refine Run.val (lt rfl) (Y.fieldAddr rfl Ref04_fo37_2) ?_
      refine Run.on rfl rfl rfl (congrArg Bool.not h3) ?_
      refine Run.val (lt rfl) (Y.load rfl Ref04_ts3 (Kn.at 0 rfl) rfl) ?_
      refine Run.on rfl rfl rfl (congrArg Bool.not h3) ?_
      refine Run.call0 (l := [.tmp 16, .const (.int .i64 0), .const (.int .i64 536870912)]) rfl rfl rfl (lt rfl) rwithin_c0_h ?_
      refine Run.on rfl rfl rfl (congrArg Bool.not h3) ?_
      refine Run.val (lt rfl) (Y.not rfl) ?_
      refine Run.val (lt rfl) (Y.pick_f rfl (congrArg Bool.not h3) rfl) ?_
      refine Run.to_end ?_
      refine Ex.go ?_
      rcases Bool.eq_false_or_eq_true (Msg.within m.seen 0 536870912) with h4 | h4
      · have g4 := h4
        try simp only [kb] at g4
        refine Tr.cond_f rfl (congrArg Bool.not h4) ?_
        refine Tr.to_end ?_
        refine Ex.go ?_
        refine Tr.seq ?_
        refine Tr.region ?_
        refine Run.val (lt rfl) (Y.fieldAddr rfl Ref04_fo37_0) ?_
        refine Run.val (lt rfl) (Y.load rfl Ref04_ts3 (Kn.at 0 rfl) rfl) ?_
        refine Run.val (lt rfl) (Y.fieldAddr rfl Ref04_fo37_1) ?_
        refine Run.val (lt rfl) (Y.load rfl Ref04_ts3 (Kn.at 0 rfl) rfl) ?_
        refine Run.val (lt rfl) (Y.fieldAddr rfl Ref04_fo37_2) ?_
        refine Run.val (lt rfl) (Y.load rfl Ref04_ts3 (Kn.at 0 rfl) rfl) ?_
        refine Run.val (lt rfl) (Y.buildS (l := [(0, .tmp 21), (1, .tmp 23), (2, .tmp 25)]) Ref04_zo37 Ref04_pl37 rfl rfl) ?_
        refine Run.alloc Ref04_zo37 (lt rfl) (fun b5 => ?_)
        refine Run.store (s := [(b5, .cells #[.int .i64 m.kind, .int .i64 m.life, .int .i64 m.seen, .int .i64 0, .int .i64 0, .int .u32 0, .int .i64 0, .string ⟨#[]⟩, .int .i64 0, .int .i64 0, .bool false] 37 (0, 0))]) rfl rfl Ref04_sz37 (i := 0) rfl rfl (le rfl) rfl rfl ?_
        refine Run.to_end ?_
        refine Ex.go ?_
        refine Tr.seq ?_
        refine Tr.seq ?_
        refine Tr.region ?_
        refine Run.val (lt rfl) (Y.fieldAddr rfl Ref04_fo37_0) ?_
        refine Run.val (lt rfl) (Y.load rfl Ref04_ts3 (Kn.at 1 rfl) rfl) ?_
        refine Run.to_end ?_
        refine Ex.go ?_
        refine Tr.block ?_
        refine Tr.seq ?_
        refine Tr.region ?_
        refine Run.val (lt rfl) (Y.int rfl rfl rfl) ?_
        refine Run.val (lt rfl) (Y.assign rfl) ?_
        refine Run.to_end ?_
        refine Ex.go ?_
        rcases Bool.eq_false_or_eq_true (m.kind == 1) with h6 | h6
        · have g6 := h6
          try simp only [kb] at g6
          refine Tr.cond_t rfl h6 ?_
          refine Tr.seq ?_
          refine Tr.region ?_
          refine Run.val (lt rfl) (Y.fieldAddr rfl Ref04_fo37_4) ?_
          refine Run.val (lt rfl) (Y.load rfl Ref04_ts3 (Kn.at 1 rfl) rfl) ?_
          refine Run.val (lt rfl) (Y.fieldAddr rfl Ref04_fo37_4) ?_
          refine Run.store (s := [(b5, .cells #[.int .i64 m.kind, .int .i64 m.life, .int .i64 m.seen, .int .i64 0, .int .i64 m.state, .int .u32 0, .int .i64 0, .string ⟨#[]⟩, .int .i64 0, .int .i64 0, .bool false] 37 (0, 0))]) rfl rfl Ref04_sz3 (i := 0) rfl rfl (le rfl) rfl rfl ?_
          refine Run.to_end ?_
          refine Ex.go ?_
          refine Tr.seq ?_
          refine Tr.region ?_
          refine Run.val (lt rfl) (Y.fieldAddr rfl Ref04_fo37_3) ?_
          refine Run.val (lt rfl) (Y.load rfl Ref04_ts3 (Kn.at 1 rfl) rfl) ?_
          refine Run.val (lt rfl) (Y.fieldAddr rfl Ref04_fo37_3) ?_
          refine Run.store (s := [(b5, .cells #[.int .i64 m.kind, .int .i64 m.life, .int .i64 m.seen, .int .i64 m.xid, .int .i64 m.state, .int .u32 0, .int .i64 0, .string ⟨#[]⟩, .int .i64 0, .int .i64 0, .bool false] 37 (0, 0))]) rfl rfl Ref04_sz3 (i := 0) rfl rfl (le rfl) rfl rfl ?_
          refine Run.to_end ?_
          refine Ex.go ?_
          refine Tr.seq ?_
          refine Tr.region ?_
          refine Run.val (lt rfl) (Y.loadAgg rfl Ref04_ag37 (Kn.at 1 rfl) rfl) ?_
          refine Run.val (lt rfl) (Y.loadAgg rfl Ref04_ag37 (Kn.at 0 rfl) rfl) ?_
          refine Run.val (lt rfl) (Y.eqS rfl rfl Ref04_tgs37 rfl rfl) ?_
          refine Run.val (lt rfl) (Y.move rfl) ?_
          rcases Bool.eq_false_or_eq_true (Msg.same m (⟨m.kind, m.life, m.seen, m.xid, m.state, 0, 0, ⟨#[]⟩, 0, 0, false⟩ : Msg)) with h7 | h7
          · have g7 := h7
            try simp only [kb] at g7
            refine Run.on rfl rfl rfl h7 ?_
            refine Run.val (lt rfl) (Y.fieldAddr rfl Ref04_fo37_4) ?_
            refine Run.on rfl rfl rfl h7 ?_
            refine Run.val (lt rfl) (Y.load rfl Ref04_ts3 (Kn.at 1 rfl) rfl) ?_
            refine Run.on rfl rfl rfl h7 ?_
            refine Run.call0 (l := [.tmp 42, .const (.int .i64 0), .const (.int .i64 8)]) rfl rfl rfl (lt rfl) rwithin_c0_h ?_
            refine Run.val (lt rfl) (Y.pick_t rfl h7 rfl) ?_
            refine Run.val (lt rfl) (Y.move rfl) ?_
            rcases Bool.eq_false_or_eq_true (Msg.within m.state 0 8) with h8 | h8
            · have g8 := h8
              try simp only [kb] at g8
              refine Run.on rfl rfl rfl h8 ?_
              refine Run.val (lt rfl) (Y.fieldAddr rfl Ref04_fo37_3) ?_
              refine Run.on rfl rfl rfl h8 ?_
              refine Run.val (lt rfl) (Y.load rfl Ref04_ts3 (Kn.at 1 rfl) rfl) ?_
              refine Run.on rfl rfl rfl h8 ?_
              refine Run.call0 (l := [.tmp 47, .const (.int .i64 1), .const (.int .i64 1073741824)]) rfl rfl rfl (lt rfl) rwithin_c0_h ?_
              refine Run.val (lt rfl) (Y.pick_t rfl h8 rfl) ?_
              refine Run.val (lt rfl) (Y.assign rfl) ?_
              refine Run.to_end ?_
              refine Ex.go ?_
              refine Tr.to_ret ?_
              refine Ex.ret_block ?_
              refine Ex.ret_then ?_
              refine Ex.keep [] ?_
              exact Ex.ret1 rfl rfl  ⟨by rw [← Msg.rright_eq]; simp only [Msg.rright, h2, h3, h4, h6, h7, h8, Bool.true_and, Bool.false_and, Bool.and_true, Bool.not_true, Bool.not_false, Bool.or_true, Bool.true_or, Bool.or_false, Bool.false_or, Bool.false_eq_true, if_true, if_false]; try rfl, rfl, rfl⟩
            · have g8 := h8
              try simp only [kb] at g8
              refine Run.off rfl rfl rfl h8 rfl (lt rfl) ?_
              refine Run.off rfl rfl rfl h8 rfl (lt rfl) ?_
              refine Run.off rfl rfl rfl h8 rfl (lt rfl) ?_
              refine Run.val (lt rfl) (Y.pick_f rfl h8 rfl) ?_
              refine Run.val (lt rfl) (Y.assign rfl) ?_
              refine Run.to_end ?_
              refine Ex.go ?_
              refine Tr.to_ret ?_
              refine Ex.ret_block ?_
              refine Ex.ret_then ?_
              refine Ex.keep [] ?_
              exact Ex.ret1 rfl rfl  ⟨by rw [← Msg.rright_eq]; simp only [Msg.rright, h2, h3, h4, h6, h7, h8, Bool.true_and, Bool.false_and, Bool.and_true, Bool.not_true, Bool.not_false, Bool.or_true, Bool.true_or, Bool.or_false, Bool.false_or, Bool.false_eq_true, if_true, if_false]; try rfl, rfl, rfl⟩
          · have g7 := h7
            try simp only [kb] at g7
            refine Run.off rfl rfl rfl h7 rfl (lt rfl) ?_
            refine Run.off rfl rfl rfl h7 rfl (lt rfl) ?_
            refine Run.off rfl rfl rfl h7 rfl (lt rfl) ?_
            refine Run.val (lt rfl) (Y.pick_f rfl h7 rfl) ?_
            refine Run.val (lt rfl) (Y.move rfl) ?_
            refine Run.off rfl rfl rfl rfl rfl (lt rfl) ?_
            refine Run.off rfl rfl rfl rfl rfl (lt rfl) ?_
            refine Run.off rfl rfl rfl rfl rfl (lt rfl) ?_
            refine Run.val (lt rfl) (Y.pick_f rfl rfl rfl) ?_
            refine Run.val (lt rfl) (Y.assign rfl) ?_
            refine Run.to_end ?_
            refine Ex.go ?_
            refine Tr.to_ret ?_
            refine Ex.ret_block ?_
            refine Ex.ret_then ?_
            refine Ex.keep [] ?_
            exact Ex.ret1 rfl rfl  ⟨by rw [← Msg.rright_eq]; simp only [Msg.rright, h2, h3, h4, h6, h7, Bool.true_and, Bool.false_and, Bool.and_true, Bool.not_true, Bool.not_false, Bool.or_true, Bool.true_or, Bool.or_false, Bool.false_or, Bool.false_eq_true, if_true, if_false]; try rfl, rfl, rfl⟩
        · have g6 := h6
          try simp only [kb] at g6
          refine Tr.cond_f rfl h6 ?_
          refine Tr.seq ?_
          refine Tr.region ?_
          refine Run.val (lt rfl) (Y.int rfl rfl rfl) ?_
          refine Run.val (lt rfl) (Y.assign rfl) ?_
          refine Run.to_end ?_
          refine Ex.go ?_
          rcases Bool.eq_false_or_eq_true (m.kind == 3) with h9 | h9
          · have g9 := h9
            try simp only [kb] at g9
            refine Tr.cond_t rfl h9 ?_
            refine Tr.seq ?_
            refine Tr.region ?_
            refine Run.val (lt rfl) (Y.fieldAddr rfl Ref04_fo37_3) ?_
            refine Run.val (lt rfl) (Y.load rfl Ref04_ts3 (Kn.at 1 rfl) rfl) ?_
            refine Run.val (lt rfl) (Y.fieldAddr rfl Ref04_fo37_3) ?_
            refine Run.store (s := [(b5, .cells #[.int .i64 m.kind, .int .i64 m.life, .int .i64 m.seen, .int .i64 m.xid, .int .i64 0, .int .u32 0, .int .i64 0, .string ⟨#[]⟩, .int .i64 0, .int .i64 0, .bool false] 37 (0, 0))]) rfl rfl Ref04_sz3 (i := 0) rfl rfl (le rfl) rfl rfl ?_
            refine Run.to_end ?_
            refine Ex.go ?_
            refine Tr.seq ?_
            refine Tr.region ?_
            refine Run.val (lt rfl) (Y.fieldAddr rfl Ref04_fo37_10) ?_
            refine Run.val (lt rfl) (Y.load rfl Ref04_ts4 (Kn.at 1 rfl) rfl) ?_
            refine Run.val (lt rfl) (Y.fieldAddr rfl Ref04_fo37_10) ?_
            refine Run.store (s := [(b5, .cells #[.int .i64 m.kind, .int .i64 m.life, .int .i64 m.seen, .int .i64 m.xid, .int .i64 0, .int .u32 0, .int .i64 0, .string ⟨#[]⟩, .int .i64 0, .int .i64 0, .bool m.ok] 37 (0, 0))]) rfl rfl Ref04_sz4 (i := 0) rfl rfl (le rfl) rfl rfl ?_
            refine Run.to_end ?_
            refine Ex.go ?_
            refine Tr.seq ?_
            refine Tr.region ?_
            refine Run.val (lt rfl) (Y.loadAgg rfl Ref04_ag37 (Kn.at 1 rfl) rfl) ?_
            refine Run.val (lt rfl) (Y.loadAgg rfl Ref04_ag37 (Kn.at 0 rfl) rfl) ?_
            refine Run.val (lt rfl) (Y.eqS rfl rfl Ref04_tgs37 rfl rfl) ?_
            refine Run.val (lt rfl) (Y.move rfl) ?_
            rcases Bool.eq_false_or_eq_true (Msg.same m (⟨m.kind, m.life, m.seen, m.xid, 0, 0, 0, ⟨#[]⟩, 0, 0, m.ok⟩ : Msg)) with h10 | h10
            · have g10 := h10
              try simp only [kb] at g10
              refine Run.on rfl rfl rfl h10 ?_
              refine Run.val (lt rfl) (Y.fieldAddr rfl Ref04_fo37_3) ?_
              refine Run.on rfl rfl rfl h10 ?_
              refine Run.val (lt rfl) (Y.load rfl Ref04_ts3 (Kn.at 1 rfl) rfl) ?_
              refine Run.on rfl rfl rfl h10 ?_
              refine Run.call0 (l := [.tmp 63, .const (.int .i64 1), .const (.int .i64 1073741824)]) rfl rfl rfl (lt rfl) rwithin_c0_h ?_
              refine Run.val (lt rfl) (Y.pick_t rfl h10 rfl) ?_
              refine Run.val (lt rfl) (Y.assign rfl) ?_
              refine Run.to_end ?_
              refine Ex.go ?_
              refine Tr.to_ret ?_
              refine Ex.ret_block ?_
              refine Ex.ret_then ?_
              refine Ex.keep [] ?_
              exact Ex.ret1 rfl rfl  ⟨by rw [← Msg.rright_eq]; simp only [Msg.rright, h2, h3, h4, h6, h9, h10, Bool.true_and, Bool.false_and, Bool.and_true, Bool.not_true, Bool.not_false, Bool.or_true, Bool.true_or, Bool.or_false, Bool.false_or, Bool.false_eq_true, if_true, if_false]; try rfl, rfl, rfl⟩
            · have g10 := h10
              try simp only [kb] at g10
              refine Run.off rfl rfl rfl h10 rfl (lt rfl) ?_
              refine Run.off rfl rfl rfl h10 rfl (lt rfl) ?_
              refine Run.off rfl rfl rfl h10 rfl (lt rfl) ?_
              refine Run.val (lt rfl) (Y.pick_f rfl h10 rfl) ?_
              refine Run.val (lt rfl) (Y.assign rfl) ?_
              refine Run.to_end ?_
              refine Ex.go ?_
              refine Tr.to_ret ?_
              refine Ex.ret_block ?_
              refine Ex.ret_then ?_
              refine Ex.keep [] ?_
              exact Ex.ret1 rfl rfl  ⟨by rw [← Msg.rright_eq]; simp only [Msg.rright, h2, h3, h4, h6, h9, h10, Bool.true_and, Bool.false_and, Bool.and_true, Bool.not_true, Bool.not_false, Bool.or_true, Bool.true_or, Bool.or_false, Bool.false_or, Bool.false_eq_true, if_true, if_false]; try rfl, rfl, rfl⟩
          · have g9 := h9
            try simp only [kb] at g9
            refine Tr.cond_f rfl h9 ?_
            refine Tr.seq ?_
            refine Tr.region ?_
            refine Run.val (lt rfl) (Y.int rfl rfl rfl) ?_
            refine Run.val (lt rfl) (Y.assign rfl) ?_
            refine Run.to_end ?_
            refine Ex.go ?_
            rcases Bool.eq_false_or_eq_true (m.kind == 2) with h11 | h11
            · have g11 := h11
              try simp only [kb] at g11
              refine Tr.cond_t rfl h11 ?_
              refine Tr.seq ?_
              refine Tr.region ?_
              refine Run.val (lt rfl) (Y.loadAgg rfl Ref04_ag37 (Kn.at 1 rfl) rfl) ?_
              refine Run.store (s := [(b5, .cells #[.int .i64 m.kind, .int .i64 m.life, .int .i64 m.seen, .int .i64 m.xid, .int .i64 m.state, .int .u32 m.addr, .int .i64 m.bind, .string m.client, .int .i64 m.pot, .int .i64 m.at_, .bool m.ok] 37 (0, 0))]) rfl rfl Ref04_sz37 (i := 0) rfl rfl (le rfl) rfl rfl ?_
              refine Run.to_end ?_
              refine Ex.go ?_
              refine Tr.seq ?_
              refine Tr.region ?_
              refine Run.val (lt rfl) (Y.fieldAddr rfl Ref04_fo37_4) ?_
              refine Run.store (s := [(b5, .cells #[.int .i64 m.kind, .int .i64 m.life, .int .i64 m.seen, .int .i64 m.xid, .int .i64 0, .int .u32 m.addr, .int .i64 m.bind, .string m.client, .int .i64 m.pot, .int .i64 m.at_, .bool m.ok] 37 (0, 0))]) rfl rfl Ref04_sz3 (i := 0) rfl rfl (le rfl) rfl rfl ?_
              refine Run.to_end ?_
              refine Ex.go ?_
              refine Tr.seq ?_
              refine Tr.region ?_
              refine Run.val (lt rfl) (Y.fieldAddr rfl Ref04_fo37_10) ?_
              refine Run.store (s := [(b5, .cells #[.int .i64 m.kind, .int .i64 m.life, .int .i64 m.seen, .int .i64 m.xid, .int .i64 0, .int .u32 m.addr, .int .i64 m.bind, .string m.client, .int .i64 m.pot, .int .i64 m.at_, .bool false] 37 (0, 0))]) rfl rfl Ref04_sz4 (i := 0) rfl rfl (le rfl) rfl rfl ?_
              refine Run.to_end ?_
              refine Ex.go ?_
              refine Tr.seq ?_
              refine Tr.region ?_
              refine Run.val (lt rfl) (Y.loadAgg rfl Ref04_ag37 (Kn.at 1 rfl) rfl) ?_
              refine Run.val (lt rfl) (Y.loadAgg rfl Ref04_ag37 (Kn.at 0 rfl) rfl) ?_
              refine Run.val (lt rfl) (Y.eqS rfl rfl Ref04_tgs37 rfl rfl) ?_
              refine Run.val (lt rfl) (Y.move rfl) ?_
              rcases Bool.eq_false_or_eq_true (Msg.same m (⟨m.kind, m.life, m.seen, m.xid, 0, m.addr, m.bind, m.client, m.pot, m.at_, false⟩ : Msg)) with h12 | h12
              · have g12 := h12
                try simp only [kb] at g12
                refine Run.on rfl rfl rfl h12 ?_
                refine Run.val (lt rfl) (Y.fieldAddr rfl Ref04_fo37_3) ?_
                refine Run.on rfl rfl rfl h12 ?_
                refine Run.val (lt rfl) (Y.load rfl Ref04_ts3 (Kn.at 1 rfl) rfl) ?_
                refine Run.on rfl rfl rfl h12 ?_
                refine Run.call0 (l := [.tmp 76, .const (.int .i64 1), .const (.int .i64 1073741824)]) rfl rfl rfl (lt rfl) rwithin_c0_h ?_
                refine Run.val (lt rfl) (Y.pick_t rfl h12 rfl) ?_
                refine Run.val (lt rfl) (Y.move rfl) ?_
                rcases Bool.eq_false_or_eq_true (Msg.within m.xid 1 1073741824) with h13 | h13
                · have g13 := h13
                  try simp only [kb] at g13
                  refine Run.on rfl rfl rfl h13 ?_
                  refine Run.val (lt rfl) (Y.fieldAddr rfl Ref04_fo37_6) ?_
                  refine Run.on rfl rfl rfl h13 ?_
                  refine Run.val (lt rfl) (Y.load rfl Ref04_ts3 (Kn.at 1 rfl) rfl) ?_
                  refine Run.on rfl rfl rfl h13 ?_
                  refine Run.call0 (l := [.tmp 81, .const (.int .i64 0), .const (.int .i64 5)]) rfl rfl rfl (lt rfl) rwithin_c0_h ?_
                  refine Run.val (lt rfl) (Y.pick_t rfl h13 rfl) ?_
                  refine Run.val (lt rfl) (Y.move rfl) ?_
                  rcases Bool.eq_false_or_eq_true (Msg.within m.bind 0 5) with h14 | h14
                  · have g14 := h14
                    try simp only [kb] at g14
                    refine Run.on rfl rfl rfl h14 ?_
                    refine Run.val (lt rfl) (Y.fieldAddr rfl Ref04_fo37_8) ?_
                    refine Run.on rfl rfl rfl h14 ?_
                    refine Run.val (lt rfl) (Y.load rfl Ref04_ts3 (Kn.at 1 rfl) rfl) ?_
                    refine Run.on rfl rfl rfl h14 ?_
                    refine Run.call0 (l := [.tmp 86, .const (.int .i64 0), .const (.int .i64 1099511627776)]) rfl rfl rfl (lt rfl) rwithin_c0_h ?_
                    refine Run.val (lt rfl) (Y.pick_t rfl h14 rfl) ?_
                    refine Run.val (lt rfl) (Y.move rfl) ?_
                    rcases Bool.eq_false_or_eq_true (Msg.within m.pot 0 1099511627776) with h15 | h15
                    · have g15 := h15
                      try simp only [kb] at g15
                      refine Run.on rfl rfl rfl h15 ?_
                      refine Run.val (lt rfl) (Y.fieldAddr rfl Ref04_fo37_9) ?_
                      refine Run.on rfl rfl rfl h15 ?_
                      refine Run.val (lt rfl) (Y.load rfl Ref04_ts3 (Kn.at 1 rfl) rfl) ?_
                      refine Run.on rfl rfl rfl h15 ?_
                      refine Run.call0 (l := [.tmp 91, .const (.int .i64 0), .const (.int .i64 1099511627776)]) rfl rfl rfl (lt rfl) rwithin_c0_h ?_
                      refine Run.val (lt rfl) (Y.pick_t rfl h15 rfl) ?_
                      refine Run.val (lt rfl) (Y.move rfl) ?_
                      rcases Bool.eq_false_or_eq_true (Msg.within m.at_ 0 1099511627776) with h16 | h16
                      · have g16 := h16
                        try simp only [kb] at g16
                        refine Run.on rfl rfl rfl h16 ?_
                        refine Run.val (lt rfl) (Y.fieldAddr rfl Ref04_fo37_7) ?_
                        refine Run.on rfl rfl rfl h16 ?_
                        refine Run.val (lt rfl) (Y.load rfl Ref04_ts9 (Kn.at 1 rfl) rfl) ?_
                        refine Run.on rfl rfl rfl h16 ?_
                        refine Run.val (lt rfl) (Y.lenStr rfl Ref04_st9) ?_
                        refine Run.on rfl rfl rfl h16 ?_
                        refine Run.val (lt rfl) (Y.int rfl rfl rfl) ?_
                        refine Run.val (lt rfl) (Y.pick_t rfl h16 rfl) ?_
                        refine Run.val (lt rfl) (Y.assign rfl) ?_
                        refine Run.to_end ?_
                        refine Ex.go ?_
                        refine Tr.to_ret ?_
                        refine Ex.ret_block ?_
                        refine Ex.ret_then ?_
                        refine Ex.keep [] ?_
                        exact Ex.ret1 rfl rfl  ⟨by rw [← Msg.rright_eq]; simp only [Msg.rright, h2, h3, h4, h6, h9, h11, h12, h13, h14, h15, h16, Bool.true_and, Bool.false_and, Bool.and_true, Bool.not_true, Bool.not_false, Bool.or_true, Bool.true_or, Bool.or_false, Bool.false_or, Bool.false_eq_true, if_true, if_false]; try rfl, rfl, rfl⟩
                      · have g16 := h16
                        try simp only [kb] at g16
                        refine Run.off rfl rfl rfl h16 rfl (lt rfl) ?_
                        refine Run.off rfl rfl rfl h16 rfl (lt rfl) ?_
                        refine Run.off rfl rfl rfl h16 rfl (lt rfl) ?_
                        refine Run.off rfl rfl rfl h16 rfl (lt rfl) ?_
                        refine Run.val (lt rfl) (Y.pick_f rfl h16 rfl) ?_
                        refine Run.val (lt rfl) (Y.assign rfl) ?_
                        refine Run.to_end ?_
                        refine Ex.go ?_
                        refine Tr.to_ret ?_
                        refine Ex.ret_block ?_
                        refine Ex.ret_then ?_
                        refine Ex.keep [] ?_
                        exact Ex.ret1 rfl rfl  ⟨by rw [← Msg.rright_eq]; simp only [Msg.rright, h2, h3, h4, h6, h9, h11, h12, h13, h14, h15, h16, Bool.true_and, Bool.false_and, Bool.and_true, Bool.not_true, Bool.not_false, Bool.or_true, Bool.true_or, Bool.or_false, Bool.false_or, Bool.false_eq_true, if_true, if_false]; try rfl, rfl, rfl⟩
                    · have g15 := h15
                      try simp only [kb] at g15
                      refine Run.off rfl rfl rfl h15 rfl (lt rfl) ?_
                      refine Run.off rfl rfl rfl h15 rfl (lt rfl) ?_
                      refine Run.off rfl rfl rfl h15 rfl (lt rfl) ?_
                      refine Run.val (lt rfl) (Y.pick_f rfl h15 rfl) ?_
                      refine Run.val (lt rfl) (Y.move rfl) ?_
                      refine Run.off rfl rfl rfl rfl rfl (lt rfl) ?_
                      refine Run.off rfl rfl rfl rfl rfl (lt rfl) ?_
                      refine Run.off rfl rfl rfl rfl rfl (lt rfl) ?_
                      refine Run.off rfl rfl rfl rfl rfl (lt rfl) ?_
                      refine Run.val (lt rfl) (Y.pick_f rfl rfl rfl) ?_
                      refine Run.val (lt rfl) (Y.assign rfl) ?_
                      refine Run.to_end ?_
                      refine Ex.go ?_
                      refine Tr.to_ret ?_
                      refine Ex.ret_block ?_
                      refine Ex.ret_then ?_
                      refine Ex.keep [] ?_
                      exact Ex.ret1 rfl rfl  ⟨by rw [← Msg.rright_eq]; simp only [Msg.rright, h2, h3, h4, h6, h9, h11, h12, h13, h14, h15, Bool.true_and, Bool.false_and, Bool.and_true, Bool.not_true, Bool.not_false, Bool.or_true, Bool.true_or, Bool.or_false, Bool.false_or, Bool.false_eq_true, if_true, if_false]; try rfl, rfl, rfl⟩
                  · have g14 := h14
                    try simp only [kb] at g14
                    refine Run.off rfl rfl rfl h14 rfl (lt rfl) ?_
                    refine Run.off rfl rfl rfl h14 rfl (lt rfl) ?_
                    refine Run.off rfl rfl rfl h14 rfl (lt rfl) ?_
                    refine Run.val (lt rfl) (Y.pick_f rfl h14 rfl) ?_
                    refine Run.val (lt rfl) (Y.move rfl) ?_
                    refine Run.off rfl rfl rfl rfl rfl (lt rfl) ?_
                    refine Run.off rfl rfl rfl rfl rfl (lt rfl) ?_
                    refine Run.off rfl rfl rfl rfl rfl (lt rfl) ?_
                    refine Run.val (lt rfl) (Y.pick_f rfl rfl rfl) ?_
                    refine Run.val (lt rfl) (Y.move rfl) ?_
                    refine Run.off rfl rfl rfl rfl rfl (lt rfl) ?_
                    refine Run.off rfl rfl rfl rfl rfl (lt rfl) ?_
                    refine Run.off rfl rfl rfl rfl rfl (lt rfl) ?_
                    refine Run.off rfl rfl rfl rfl rfl (lt rfl) ?_
                    refine Run.val (lt rfl) (Y.pick_f rfl rfl rfl) ?_
                    refine Run.val (lt rfl) (Y.assign rfl) ?_
                    refine Run.to_end ?_
                    refine Ex.go ?_
                    refine Tr.to_ret ?_
                    refine Ex.ret_block ?_
                    refine Ex.ret_then ?_
                    refine Ex.keep [] ?_
                    exact Ex.ret1 rfl rfl  ⟨by rw [← Msg.rright_eq]; simp only [Msg.rright, h2, h3, h4, h6, h9, h11, h12, h13, h14, Bool.true_and, Bool.false_and, Bool.and_true, Bool.not_true, Bool.not_false, Bool.or_true, Bool.true_or, Bool.or_false, Bool.false_or, Bool.false_eq_true, if_true, if_false]; try rfl, rfl, rfl⟩
                · have g13 := h13
                  try simp only [kb] at g13
                  refine Run.off rfl rfl rfl h13 rfl (lt rfl) ?_
                  refine Run.off rfl rfl rfl h13 rfl (lt rfl) ?_
                  refine Run.off rfl rfl rfl h13 rfl (lt rfl) ?_
                  refine Run.val (lt rfl) (Y.pick_f rfl h13 rfl) ?_
                  refine Run.val (lt rfl) (Y.move rfl) ?_
                  refine Run.off rfl rfl rfl rfl rfl (lt rfl) ?_
                  refine Run.off rfl rfl rfl rfl rfl (lt rfl) ?_
                  refine Run.off rfl rfl rfl rfl rfl (lt rfl) ?_
                  refine Run.val (lt rfl) (Y.pick_f rfl rfl rfl) ?_
                  refine Run.val (lt rfl) (Y.move rfl) ?_
                  refine Run.off rfl rfl rfl rfl rfl (lt rfl) ?_
                  refine Run.off rfl rfl rfl rfl rfl (lt rfl) ?_
                  refine Run.off rfl rfl rfl rfl rfl (lt rfl) ?_
                  refine Run.val (lt rfl) (Y.pick_f rfl rfl rfl) ?_
                  refine Run.val (lt rfl) (Y.move rfl) ?_
                  refine Run.off rfl rfl rfl rfl rfl (lt rfl) ?_
                  refine Run.off rfl rfl rfl rfl rfl (lt rfl) ?_
                  refine Run.off rfl rfl rfl rfl rfl (lt rfl) ?_
                  refine Run.off rfl rfl rfl rfl rfl (lt rfl) ?_
                  refine Run.val (lt rfl) (Y.pick_f rfl rfl rfl) ?_
                  refine Run.val (lt rfl) (Y.assign rfl) ?_
                  refine Run.to_end ?_
                  refine Ex.go ?_
                  refine Tr.to_ret ?_
                  refine Ex.ret_block ?_
                  refine Ex.ret_then ?_
                  refine Ex.keep [] ?_
                  exact Ex.ret1 rfl rfl  ⟨by rw [← Msg.rright_eq]; simp only [Msg.rright, h2, h3, h4, h6, h9, h11, h12, h13, Bool.true_and, Bool.false_and, Bool.and_true, Bool.not_true, Bool.not_false, Bool.or_true, Bool.true_or, Bool.or_false, Bool.false_or, Bool.false_eq_true, if_true, if_false]; try rfl, rfl, rfl⟩
              · have g12 := h12
                try simp only [kb] at g12
                refine Run.off rfl rfl rfl h12 rfl (lt rfl) ?_
                refine Run.off rfl rfl rfl h12 rfl (lt rfl) ?_
                refine Run.off rfl rfl rfl h12 rfl (lt rfl) ?_
                refine Run.val (lt rfl) (Y.pick_f rfl h12 rfl) ?_
                refine Run.val (lt rfl) (Y.move rfl) ?_
                refine Run.off rfl rfl rfl rfl rfl (lt rfl) ?_
                refine Run.off rfl rfl rfl rfl rfl (lt rfl) ?_
                refine Run.off rfl rfl rfl rfl rfl (lt rfl) ?_
                refine Run.val (lt rfl) (Y.pick_f rfl rfl rfl) ?_
                refine Run.val (lt rfl) (Y.move rfl) ?_
                refine Run.off rfl rfl rfl rfl rfl (lt rfl) ?_
                refine Run.off rfl rfl rfl rfl rfl (lt rfl) ?_
                refine Run.off rfl rfl rfl rfl rfl (lt rfl) ?_
                refine Run.val (lt rfl) (Y.pick_f rfl rfl rfl) ?_
                refine Run.val (lt rfl) (Y.move rfl) ?_
                refine Run.off rfl rfl rfl rfl rfl (lt rfl) ?_
                refine Run.off rfl rfl rfl rfl rfl (lt rfl) ?_
                refine Run.off rfl rfl rfl rfl rfl (lt rfl) ?_
                refine Run.val (lt rfl) (Y.pick_f rfl rfl rfl) ?_
                refine Run.val (lt rfl) (Y.move rfl) ?_
                refine Run.off rfl rfl rfl rfl rfl (lt rfl) ?_
                refine Run.off rfl rfl rfl rfl rfl (lt rfl) ?_
                refine Run.off rfl rfl rfl rfl rfl (lt rfl) ?_
                refine Run.off rfl rfl rfl rfl rfl (lt rfl) ?_
                refine Run.val (lt rfl) (Y.pick_f rfl rfl rfl) ?_
                refine Run.val (lt rfl) (Y.assign rfl) ?_
                refine Run.to_end ?_
                refine Ex.go ?_
                refine Tr.to_ret ?_
                refine Ex.ret_block ?_
                refine Ex.ret_then ?_
                refine Ex.keep [] ?_
                exact Ex.ret1 rfl rfl  ⟨by rw [← Msg.rright_eq]; simp only [Msg.rright, h2, h3, h4, h6, h9, h11, h12, Bool.true_and, Bool.false_and, Bool.and_true, Bool.not_true, Bool.not_false, Bool.or_true, Bool.true_or, Bool.or_false, Bool.false_or, Bool.false_eq_true, if_true, if_false]; try rfl, rfl, rfl⟩
            · have g11 := h11
              try simp only [kb] at g11
              refine Tr.cond_f rfl h11 ?_
              refine Tr.to_end ?_
              refine Ex.end_block ?_
              refine Ex.go ?_
              refine Tr.seq ?_
              refine Tr.region ?_
              refine Run.val (lt rfl) (Y.loadAgg rfl Ref04_ag37 (Kn.at 1 rfl) rfl) ?_
              refine Run.val (lt rfl) (Y.loadAgg rfl Ref04_ag37 (Kn.at 0 rfl) rfl) ?_
              refine Run.val (lt rfl) (Y.eqS rfl rfl Ref04_tgs37 rfl rfl) ?_
              refine Run.val (lt rfl) (Y.assign rfl) ?_
              refine Run.to_end ?_
              refine Ex.go ?_
              refine Tr.to_ret ?_
              refine Ex.keep [] ?_
              exact Ex.ret1 rfl rfl  ⟨by rw [← Msg.rright_eq]; simp only [Msg.rright, h2, h3, h4, h6, h9, h11, Bool.true_and, Bool.false_and, Bool.and_true, Bool.not_true, Bool.not_false, Bool.or_true, Bool.true_or, Bool.or_false, Bool.false_or, Bool.false_eq_true, if_true, if_false]; try rfl, rfl, rfl⟩
      · have g4 := h4
        try simp only [kb] at g4
        refine Tr.cond_t rfl (congrArg Bool.not h4) ?_
        refine Tr.seq ?_
        refine Tr.region ?_
        refine Run.val (lt rfl) (Y.assign rfl) ?_
        refine Run.to_end ?_
        refine Ex.go ?_
        refine Tr.to_ret ?_
        refine Ex.ret_then ?_
        refine Ex.keep [] ?_
        exact Ex.ret1 rfl rfl  ⟨by rw [← Msg.rright_eq]; simp only [Msg.rright, h2, h3, h4, Bool.true_and, Bool.false_and, Bool.and_true, Bool.not_true, Bool.not_false, Bool.or_true, Bool.true_or, Bool.or_false, Bool.false_or, Bool.false_eq_true, if_true, if_false]; try rfl, rfl, rfl⟩
    · have g3 := h3
      try simp only [kb] at g3
      refine Run.off rfl rfl rfl (congrArg Bool.not h3) rfl (lt rfl) ?_
      refine Run.off rfl rfl rfl (congrArg Bool.not h3) rfl (lt rfl) ?_
      refine Run.off rfl rfl rfl (congrArg Bool.not h3) rfl (lt rfl) ?_
      refine Run.off rfl rfl rfl (congrArg Bool.not h3) rfl (lt rfl) ?_
      refine Run.val (lt rfl) (Y.pick_t rfl (congrArg Bool.not h3) rfl) ?_
      refine Run.to_end ?_
      refine Ex.go ?_
      refine Tr.cond_t rfl rfl ?_
      refine Tr.seq ?_
      refine Tr.region ?_
      refine Run.val (lt rfl) (Y.assign rfl) ?_
      refine Run.to_end ?_
      refine Ex.go ?_
      refine Tr.to_ret ?_
      refine Ex.ret_then ?_
      refine Ex.keep [] ?_
      exact Ex.ret1 rfl rfl  ⟨by rw [← Msg.rright_eq]; simp only [Msg.rright, h2, h3, Bool.true_and, Bool.false_and, Bool.and_true, Bool.not_true, Bool.not_false, Bool.or_true, Bool.true_or, Bool.or_false, Bool.false_or, Bool.false_eq_true, if_true, if_false]; try rfl, rfl, rfl⟩
  · have g2 := h2
    try simp only [kb] at g2
    refine Run.off rfl rfl rfl (congrArg Bool.not h2) rfl (lt rfl) ?_
    refine Run.off rfl rfl rfl (congrArg Bool.not h2) rfl (lt rfl) ?_
    refine Run.off rfl rfl rfl (congrArg Bool.not h2) rfl (lt rfl) ?_
    refine Run.off rfl rfl rfl (congrArg Bool.not h2) rfl (lt rfl) ?_
    refine Run.val (lt rfl) (Y.pick_t rfl (congrArg Bool.not h2) rfl) ?_
    refine Run.val (lt rfl) (Y.move rfl) ?_
    refine Run.off rfl rfl rfl rfl rfl (lt rfl) ?_
    refine Run.off rfl rfl rfl rfl rfl (lt rfl) ?_
    refine Run.off rfl rfl rfl rfl rfl (lt rfl) ?_
    refine Run.off rfl rfl rfl rfl rfl (lt rfl) ?_
    refine Run.val (lt rfl) (Y.pick_t rfl rfl rfl) ?_
    refine Run.to_end ?_
    refine Ex.go ?_
    refine Tr.cond_t rfl rfl ?_
    refine Tr.seq ?_
    refine Tr.region ?_
    refine Run.val (lt rfl) (Y.assign rfl) ?_
    refine Run.to_end ?_
    refine Ex.go ?_
    refine Tr.to_ret ?_
    refine Ex.ret_then ?_
    refine Ex.keep [] ?_
    exact Ex.ret1 rfl rfl  ⟨by rw [← Msg.rright_eq]; simp only [Msg.rright, h2, Bool.true_and, Bool.false_and, Bool.and_true, Bool.not_true, Bool.not_false, Bool.or_true, Bool.true_or, Bool.or_false, Bool.false_or, Bool.false_eq_true, if_true, if_false]; try rfl, rfl, rfl⟩

theorem rright_c {m : Msg} {V : Vw} {H : Hp} : Does Try.prog 23 [.agg m.cells] V H (Pv (.bool (Msg.right m)) V H) := rright_c0.frame

theorem number_c {n : Int} {k : Nat} (hk : k ≤ 8) (hn : 0 ≤ n ∧ n ≤ 9223372036854775807) {V : Vw} : Does Try.prog 49 [.int .i64 n, .int .i64 (k : Int)] V [] (fun v V' H' => V' = V ∧ ∃ s', H' = [s'] ∧ Ow 5 1 v k ((Msg.be k n).map byteV) s') := by
  refine Does.intro Try.func49 rfl rfl (le rfl) (fun B => ?_)
  refine Tr.seq ?_
  refine Tr.region ?_
  refine Run.val (lt rfl) (Y.assign rfl) ?_
  refine Run.to_end ?_
  refine Ex.go ?_
  refine Tr.seq ?_
  refine Tr.region ?_
  refine Run.val (lt rfl) (Y.move rfl) ?_
  refine Run.makeSlice rfl rfl Ref04_es38 Ref04_zi5 (by decide) (by omega) (by omega) (lt rfl) (fun b1 => ?_)
  rw [show rep (Value.int .u8 0).cells.toList k = Msg.row k 0 n from Msg.row_zero k n]
  refine Run.val (lt rfl) (Y.assign rfl) ?_
  refine Run.to_end ?_
  refine Ex.go ?_
  refine Tr.seq ?_
  refine Tr.seq ?_
  refine Tr.region ?_
  refine Run.val (lt rfl) (Y.move rfl) ?_
  refine Run.val (lt rfl) (Y.sub rfl rfl (by omega)) ?_
  refine Run.val (lt rfl) (Y.assign rfl) ?_
  refine Run.to_end ?_
  refine Ex.go ?_
  refine Tr.block ?_
  refine Tr.loop (X := Nat) (fun x => V) (fun x => [[(b1, .cells (Msg.row k x n).toArray 5 (0, 0))]]) (fun x => [(0, .int .i64 (n / 256 ^ x)), (1, .int .i64 (k : Int)), (5, .slice (some ⟨b1, 0, none⟩) k k), (6, .int .i64 ((k : Int) - 1 - (x : Int)))]) (fun x => x ≤ k) (fun x => k - x) 0 (Nat.zero_le _) (fun a w i => ⟨i.1.sub (subB_cons (by first | rfl | exact congrArg (fun z => some (Value.int _ z)) (by omega)) (subB_cons (by first | rfl | exact congrArg (fun z => some (Value.int _ z)) (by omega)) (subB_cons (by first | rfl | exact congrArg (fun z => some (Value.int _ z)) (by omega)) (subB_cons (by first | rfl | exact congrArg (fun z => some (Value.int _ z)) (by omega)) (subB_nil _))))), i.2⟩) ?_
  rintro x hx
  refine Tr.seq ?_
  refine Tr.seq ?_
  refine Tr.region ?_
  refine Run.val (lt rfl) (Y.move rfl) ?_
  refine Run.val (lt rfl) (Y.int rfl rfl rfl) ?_
  refine Run.to_end ?_
  refine Ex.go ?_
  rcases Bool.eq_false_or_eq_true (decide (((k : Int) - 1 - (x : Int)) ≥ 0)) with h2 | h2
  · have g2 := h2
    try simp only [kb] at g2
    refine Tr.cond_t rfl h2 ?_
    refine Tr.to_end ?_
    refine Ex.go ?_
    refine Tr.seq ?_
    refine Tr.block ?_
    refine Tr.seq ?_
    refine Tr.region ?_
    refine Run.val (lt rfl) (Y.move rfl) ?_
    refine Run.val (lt rfl) (Y.move rfl) ?_
    refine Run.val (lt rfl) (Y.move rfl) ?_
    refine Run.val (lt rfl) (Y.rem (n / 256 ^ x % 256) rfl rfl (by decide) (Msg.tmod_256 hn.1 x)) ?_
    refine Run.val (lt rfl) (Y.conv (n / 256 ^ x % 256) rfl Ref04_it3_5 (wrap_u8 (by omega))) ?_
    refine Run.val (lt rfl) (Y.idxAddr rfl rfl Ref04_es38 (by omega) (by omega)) ?_
    refine Run.store (off := 0 + (((k : Int) - 1 - (x : Int)).toNat * 1)) (z := 1) (c := Msg.row k x n) (s := [(b1, .cells (Msg.row k (x + 1) n).toArray 5 (0, 0))]) rfl rfl Ref04_sz5 (i := 0) rfl rfl (by rw [Msg.row_length (by omega)]; omega) rfl (by rw [Msg.row_step (by omega) (by omega)]; rfl) ?_
    refine Run.to_end ?_
    refine Ex.go ?_
    refine Tr.region ?_
    refine Run.val (lt rfl) (Y.move rfl) ?_
    refine Run.val (lt rfl) (Y.quo (n / 256 ^ (x + 1)) rfl rfl (by decide) (Msg.tdiv_256 hn x)) ?_
    refine Run.val (lt rfl) (Y.assign rfl) ?_
    refine Run.to_end ?_
    refine Ex.end_block ?_
    refine Ex.go ?_
    refine Tr.region ?_
    refine Run.val (lt rfl) (Y.move rfl) ?_
    refine Run.val (lt rfl) (Y.sub rfl rfl (by omega)) ?_
    refine Run.val (lt rfl) (Y.assign rfl) ?_
    refine Run.to_end ?_
    exact Ex.round (x + 1) (by show x + 1 ≤ k; omega) (by omega) rfl rfl (subB_cons (by first | rfl | exact congrArg (fun z => some (Value.int _ z)) (by omega)) (subB_cons (by first | rfl | exact congrArg (fun z => some (Value.int _ z)) (by omega)) (subB_cons (by first | rfl | exact congrArg (fun z => some (Value.int _ z)) (by omega)) (subB_cons (by first | rfl | exact congrArg (fun z => some (Value.int _ z)) (by omega)) (subB_nil _)))))
  · have g2 := h2
    try simp only [kb] at g2
    refine Tr.cond_f rfl h2 ?_
    refine Tr.to_exit ?_
    refine Ex.exit_then ?_
    refine Ex.exit_then ?_
    refine Ex.exit_in ?_
    refine Ex.go ?_
    refine Tr.seq ?_
    refine Tr.region ?_
    refine Run.val (lt rfl) (Y.move rfl) ?_
    refine Run.val (lt rfl) (Y.assign rfl) ?_
    refine Run.to_end ?_
    refine Ex.go ?_
    refine Tr.to_ret ?_
    exact Ex.ret1 rfl rfl  ⟨rfl, _, rfl, by rw [show x = k from by omega]; exact Msg.row_ow k n _ _ (by omega)⟩

set_option maxHeartbeats 4000000 in
theorem rencode_yes {m : Msg} (hr : Msg.right m = true) (ha : 0 ≤ m.addr ∧ m.addr ≤ 4294967295) {V : Vw} : Does Try.prog 21 [.agg #[.int .i64 m.kind, .int .i64 m.life, .int .i64 m.seen, .int .i64 m.xid, .int .i64 m.state, .int .u32 m.addr, .int .i64 m.bind, .string m.client, .int .i64 m.pot, .int .i64 m.at_, .bool m.ok]] V [] (fun v V' H' => V' = V ∧ ∃ w s', v = .tuple #[w, .int .i64 0] ∧ H' = [s'] ∧ Ow 5 1 w (Msg.enc m).length ((Msg.enc m).map byteV) s') := by
  have hb := Msg.right_bounds hr
  refine Does.intro Try.func21 rfl rfl (le rfl) (fun B => ?_)
  refine Tr.seq ?_
  refine Tr.region ?_
  refine Run.box rfl (lt rfl) (fun b1 => ?_)
  refine Run.val (lt rfl) (Y.assign rfl) ?_
  refine Run.val (lt rfl) (Y.assign rfl) ?_
  refine Run.to_end ?_
  refine Ex.go ?_
  refine Tr.seq ?_
  refine Tr.region ?_
  refine Run.val (lt rfl) (Y.loadAgg rfl Ref04_ag37 (Kn.at 0 rfl) rfl) ?_
  refine Run.call0 (l := [.tmp 7]) rfl rfl rfl (lt rfl) rright_c ?_
  refine Run.val (lt rfl) (Y.assign rfl) ?_
  refine Run.to_end ?_
  refine Ex.go ?_
  refine Tr.seq ?_
  refine Tr.seq ?_
  refine Tr.region ?_
  refine Run.val (lt rfl) (Y.move rfl) ?_
  refine Run.val (lt rfl) (Y.not rfl) ?_
  refine Run.to_end ?_
  refine Ex.go ?_
  refine Tr.cond_f rfl (congrArg Bool.not hr) ?_
  refine Tr.to_end ?_
  refine Ex.go ?_
  refine Tr.seq ?_
  refine Tr.anyD [(b1, .cells #[.int .i64 m.kind, .int .i64 m.life, .int .i64 m.seen, .int .i64 m.xid, .int .i64 m.state, .int .u32 m.addr, .int .i64 m.bind, .string m.client, .int .i64 m.pot, .int .i64 m.at_, .bool m.ok] 37 (0, 0))] Ref04_mo ?_
  refine RunD.pure (i := 0) rfl (by kernel_rfl) (by kernel_rfl) (by kernel_rfl) (fun _ _ _ h => h) (lt rfl) (KnAll.cons (Kn.at 0 rfl) KnAll.nil) (fun _ => (Y.fieldAddr rfl Ref04_fo37_0)) ?_
  refine RunD.take (i := 1) 0 rfl rfl (by kernel_rfl) (by kernel_rfl) (by kernel_rfl) (fun _ _ _ h => h) (lt rfl) (KnAll.cons (Kn.at 0 rfl) KnAll.nil) (fun _ => (Y.load rfl Ref04_ts3 Kn.vk1 rfl)) ?_
  refine RunD.pure (i := 2) rfl (by kernel_rfl) (by kernel_rfl) (by kernel_rfl) (fun _ _ _ h => h) (lt rfl) (KnAll.cons (Kn.at 0 rfl) KnAll.nil) (fun _ => (Y.conv (m.kind % 256) rfl Ref04_it3_5 (wrap_u8_mod _))) ?_
  refine RunD.pure (i := 4) rfl (by kernel_rfl) (by kernel_rfl) (by kernel_rfl) (fun _ _ _ h => h) (lt rfl) (KnAll.cons (Kn.at 0 rfl) KnAll.nil) (fun _ => (Y.fieldAddr rfl Ref04_fo37_1)) ?_
  refine RunD.take (i := 5) 0 rfl rfl (by kernel_rfl) (by kernel_rfl) (by kernel_rfl) (fun _ _ _ h => h) (lt rfl) (KnAll.cons (Kn.at 0 rfl) KnAll.nil) (fun _ => (Y.load rfl Ref04_ts3 Kn.vk1 rfl)) ?_
  refine RunD.two (i := 3) (j := 6) (by kernel_rfl) rfl rfl  ?_ ?_ 
  · refine Run.buildSlice (l := [(0, .tmp 13)]) Ref04_es38 Ref04_zo5 rfl (by decide) rfl rfl (by decide) (lt rfl) (fun b2 => ?_)
    refine Run.to_end ?_
    refine Ex.anyD (KnAll.cons (Kn.at 1 rfl) KnAll.nil) ?_
    refine RunD.one (i := 6) (by kernel_rfl) rfl  ?_ 
    refine Run.call [] (l := [.tmp 16, .const (.int .i64 4)]) rfl rfl rfl (lt rfl) (number_c (k := 4) (by decide) (by omega)) (fun v3 V2 H2 _ hR => ?_)
    obtain ⟨hV, s4, rfl, ho5⟩ := hR; replace hV := hV.symm; subst hV
    obtain ⟨p3, c3, rfl⟩ := ho5.form
    refine Run.to_end ?_
    refine Ex.anyD (KnAll.cons (Kn.at 1 rfl) KnAll.nil) ?_
    refine RunD.one (i := 7) (by kernel_rfl) rfl  ?_ 
    refine Run.append (n := 1) (m := 4) (xs := [.int .u8 (m.kind % 256)]) (ys := (Msg.be 4 m.life).map byteV) rfl rfl Ref04_es38 Ref04_zi5 (by decide) (j := 0) rfl (Ow.lit (cur := #[.int .u8 (m.kind % 256)]) rfl (by decide)) (Src.of_rd Ref04_es38 (ho5.rd 2 rfl)) (by omega) (by omega) (all_one_bytes _) (lt rfl) (fun v6 s7 ho8 hf => ?_)
    obtain ⟨p6, c6, rfl⟩ := hf
    refine Run.to_end ?_
    refine Ex.anyD (KnAll.cons (Kn.at 1 rfl) KnAll.nil) ?_
    refine RunD.pure (i := 8) rfl (by kernel_rfl) (by kernel_rfl) (by kernel_rfl) (fun _ _ _ h => h) (lt rfl) (KnAll.cons (Kn.at 1 rfl) KnAll.nil) (fun _ => (Y.assign rfl)) ?_
    refine RunD.done (by kernel_rfl) ?_
    refine Ex.go ?_
    refine Tr.seq ?_
    refine Tr.region ?_
    refine Run.val (lt rfl) (Y.move rfl) ?_
    refine Run.val (lt rfl) (Y.fieldAddr rfl Ref04_fo37_2) ?_
    refine Run.val (lt rfl) (Y.load rfl Ref04_ts3 (Kn.at 1 rfl) rfl) ?_
    refine Run.call [] (l := [.tmp 21, .const (.int .i64 4)]) rfl rfl rfl (lt rfl) (number_c (k := 4) (by decide) (by omega)) (fun v9 V2 H2 _ hR => ?_)
    obtain ⟨hV, s10, rfl, ho11⟩ := hR; replace hV := hV.symm; subst hV
    obtain ⟨p9, c9, rfl⟩ := ho11.form
    refine Run.append (n := 1 + 4) (m := 4) (xs := [.int .u8 (m.kind % 256)] ++ ((Msg.be 4 m.life).map byteV)) (ys := (Msg.be 4 m.seen).map byteV) rfl rfl Ref04_es38 Ref04_zi5 (by decide) (j := 0) rfl ho8 (Src.of_rd Ref04_es38 (ho11.rd 3 rfl)) (by omega) (by omega) (all_one_bytes _) (lt rfl) (fun v12 s13 ho14 hf => ?_)
    obtain ⟨p12, c12, rfl⟩ := hf
    refine Run.val (lt rfl) (Y.assign rfl) ?_
    refine Run.to_end ?_
    refine Ex.go ?_
    refine Tr.seq ?_
    refine Tr.seq ?_
    refine Tr.region ?_
    refine Run.val (lt rfl) (Y.fieldAddr rfl Ref04_fo37_0) ?_
    refine Run.val (lt rfl) (Y.load rfl Ref04_ts3 (Kn.at 1 rfl) rfl) ?_
    refine Run.to_end ?_
    refine Ex.go ?_
    refine Tr.block ?_
    refine Tr.seq ?_
    refine Tr.region ?_
    refine Run.val (lt rfl) (Y.int rfl rfl rfl) ?_
    refine Run.val (lt rfl) (Y.assign rfl) ?_
    refine Run.to_end ?_
    refine Ex.go ?_
    rcases Bool.eq_false_or_eq_true (m.kind == 1) with h15 | h15
    · have g15 := h15
      try simp only [kb] at g15
      refine Tr.cond_t rfl h15 ?_
      refine Tr.anyD [(b1, .cells #[.int .i64 m.kind, .int .i64 m.life, .int .i64 m.seen, .int .i64 m.xid, .int .i64 m.state, .int .u32 m.addr, .int .i64 m.bind, .string m.client, .int .i64 m.pot, .int .i64 m.at_, .bool m.ok] 37 (0, 0))] Ref04_mo ?_
      refine RunD.pure (i := 0) rfl (by kernel_rfl) (by kernel_rfl) (by kernel_rfl) (fun _ _ _ h => h) (lt rfl) (KnAll.cons (Kn.at 1 rfl) KnAll.nil) (fun _ => (Y.move rfl)) ?_
      refine RunD.pure (i := 1) rfl (by kernel_rfl) (by kernel_rfl) (by kernel_rfl) (fun _ _ _ h => h) (lt rfl) (KnAll.cons (Kn.at 1 rfl) KnAll.nil) (fun _ => (Y.fieldAddr rfl Ref04_fo37_3)) ?_
      refine RunD.take (i := 2) 0 rfl rfl (by kernel_rfl) (by kernel_rfl) (by kernel_rfl) (fun _ _ _ h => h) (lt rfl) (KnAll.cons (Kn.at 1 rfl) KnAll.nil) (fun _ => (Y.load rfl Ref04_ts3 Kn.vk1 rfl)) ?_
      refine RunD.pure (i := 5) rfl (by kernel_rfl) (by kernel_rfl) (by kernel_rfl) (fun _ _ _ h => h) (lt rfl) (KnAll.cons (Kn.at 1 rfl) KnAll.nil) (fun _ => (Y.fieldAddr rfl Ref04_fo37_4)) ?_
      refine RunD.take (i := 6) 0 rfl rfl (by kernel_rfl) (by kernel_rfl) (by kernel_rfl) (fun _ _ _ h => h) (lt rfl) (KnAll.cons (Kn.at 1 rfl) KnAll.nil) (fun _ => (Y.load rfl Ref04_ts3 Kn.vk1 rfl)) ?_
      refine RunD.pure (i := 7) rfl (by kernel_rfl) (by kernel_rfl) (by kernel_rfl) (fun _ _ _ h => h) (lt rfl) (KnAll.cons (Kn.at 1 rfl) KnAll.nil) (fun _ => (Y.conv (m.state) rfl Ref04_it3_5 (wrap_u8 (by omega)))) ?_
      refine RunD.two (i := 3) (j := 8) (by kernel_rfl) rfl rfl  ?_ ?_ 
      · refine Run.call [] (l := [.tmp 30, .const (.int .i64 4)]) rfl rfl rfl (lt rfl) (number_c (k := 4) (by decide) (by omega)) (fun v16 V2 H2 _ hR => ?_)
        obtain ⟨hV, s17, rfl, ho18⟩ := hR; replace hV := hV.symm; subst hV
        obtain ⟨p16, c16, rfl⟩ := ho18.form
        refine Run.to_end ?_
        refine Ex.anyD (KnAll.cons (Kn.at 1 rfl) KnAll.nil) ?_
        refine RunD.two (i := 4) (j := 8) (by kernel_rfl) rfl rfl  ?_ ?_ 
        · refine Run.append (n := 1 + 4 + 4) (m := 4) (xs := ([.int .u8 (m.kind % 256)] ++ ((Msg.be 4 m.life).map byteV)) ++ ((Msg.be 4 m.seen).map byteV)) (ys := (Msg.be 4 m.xid).map byteV) rfl rfl Ref04_es38 Ref04_zi5 (by decide) (j := 0) rfl ho14 (Src.of_rd Ref04_es38 (ho18.rd 4 rfl)) (by omega) (by omega) (all_one_bytes _) (lt rfl) (fun v19 s20 ho21 hf => ?_)
          obtain ⟨p19, c19, rfl⟩ := hf
          refine Run.to_end ?_
          refine Ex.anyD (KnAll.cons (Kn.at 1 rfl) KnAll.nil) ?_
          refine RunD.one (i := 8) (by kernel_rfl) rfl  ?_ 
          refine Run.buildSlice (l := [(0, .tmp 35)]) Ref04_es38 Ref04_zo5 rfl (by decide) rfl rfl (by decide) (lt rfl) (fun b22 => ?_)
          refine Run.to_end ?_
          refine Ex.anyD (KnAll.cons (Kn.at 2 rfl) KnAll.nil) ?_
          refine RunD.one (i := 9) (by kernel_rfl) rfl  ?_ 
          refine Run.append (n := 1 + 4 + 4 + 4) (m := 1) (xs := (([.int .u8 (m.kind % 256)] ++ ((Msg.be 4 m.life).map byteV)) ++ ((Msg.be 4 m.seen).map byteV)) ++ ((Msg.be 4 m.xid).map byteV)) (ys := [.int .u8 m.state]) rfl rfl Ref04_es38 Ref04_zi5 (by decide) (j := 1) rfl ho21 (Src.of_rd Ref04_es38 (Rd.one (Kn.at 0 rfl) rfl)) (by omega) (by omega) rfl (lt rfl) (fun v23 s24 ho25 hf => ?_)
          obtain ⟨p23, c23, rfl⟩ := hf
          refine Run.to_end ?_
          refine Ex.anyD (KnAll.cons (Kn.at 2 rfl) KnAll.nil) ?_
          refine RunD.pure (i := 10) rfl (by kernel_rfl) (by kernel_rfl) (by kernel_rfl) (fun _ _ _ h => h) (lt rfl) (KnAll.cons (Kn.at 2 rfl) KnAll.nil) (fun _ => (Y.assign rfl)) ?_
          refine RunD.done (by kernel_rfl) ?_
          refine Ex.end_block ?_
          refine Ex.go ?_
          refine Tr.seq ?_
          refine Tr.region ?_
          refine Run.val (lt rfl) (Y.move rfl) ?_
          refine Run.val (lt rfl) (Y.assign rfl) ?_
          refine Run.val (lt rfl) (Y.assign rfl) ?_
          refine Run.to_end ?_
          refine Ex.go ?_
          refine Tr.to_ret ?_
          refine Ex.keep [1] ?_
          exact Ex.ret2 rfl rfl rfl  ⟨rfl, _, s24, rfl, rfl, ho25.bytes (by rw [Msg.enc_1 g15]; simp only [List.map_append, Msg.be_one (n := m.state) (by omega), List.map_cons, List.map_nil, List.nil_append, List.append_assoc, g15]; rfl)⟩
        · refine Run.buildSlice (l := [(0, .tmp 35)]) Ref04_es38 Ref04_zo5 rfl (by decide) rfl rfl (by decide) (lt rfl) (fun b26 => ?_)
          refine Run.to_end ?_
          refine Ex.anyD (KnAll.cons (Kn.at 2 rfl) KnAll.nil) ?_
          refine RunD.one (i := 4) (by kernel_rfl) rfl  ?_ 
          refine Run.append (n := 1 + 4 + 4) (m := 4) (xs := ([.int .u8 (m.kind % 256)] ++ ((Msg.be 4 m.life).map byteV)) ++ ((Msg.be 4 m.seen).map byteV)) (ys := (Msg.be 4 m.xid).map byteV) rfl rfl Ref04_es38 Ref04_zi5 (by decide) (j := 1) rfl ho14 (Src.of_rd Ref04_es38 (ho18.rd 5 rfl)) (by omega) (by omega) (all_one_bytes _) (lt rfl) (fun v27 s28 ho29 hf => ?_)
          obtain ⟨p27, c27, rfl⟩ := hf
          refine Run.to_end ?_
          refine Ex.anyD (KnAll.cons (Kn.at 2 rfl) KnAll.nil) ?_
          refine RunD.one (i := 9) (by kernel_rfl) rfl  ?_ 
          refine Run.append (n := 1 + 4 + 4 + 4) (m := 1) (xs := (([.int .u8 (m.kind % 256)] ++ ((Msg.be 4 m.life).map byteV)) ++ ((Msg.be 4 m.seen).map byteV)) ++ ((Msg.be 4 m.xid).map byteV)) (ys := [.int .u8 m.state]) rfl rfl Ref04_es38 Ref04_zi5 (by decide) (j := 1) rfl ho29 (Src.of_rd Ref04_es38 (Rd.one (Kn.at 0 rfl) rfl)) (by omega) (by omega) rfl (lt rfl) (fun v30 s31 ho32 hf => ?_)
          obtain ⟨p30, c30, rfl⟩ := hf
          refine Run.to_end ?_
          refine Ex.anyD (KnAll.cons (Kn.at 2 rfl) KnAll.nil) ?_
          refine RunD.pure (i := 10) rfl (by kernel_rfl) (by kernel_rfl) (by kernel_rfl) (fun _ _ _ h => h) (lt rfl) (KnAll.cons (Kn.at 2 rfl) KnAll.nil) (fun _ => (Y.assign rfl)) ?_
          refine RunD.done (by kernel_rfl) ?_
          refine Ex.end_block ?_
          refine Ex.go ?_
          refine Tr.seq ?_
          refine Tr.region ?_
          refine Run.val (lt rfl) (Y.move rfl) ?_
          refine Run.val (lt rfl) (Y.assign rfl) ?_
          refine Run.val (lt rfl) (Y.assign rfl) ?_
          refine Run.to_end ?_
          refine Ex.go ?_
          refine Tr.to_ret ?_
          refine Ex.keep [1] ?_
          exact Ex.ret2 rfl rfl rfl  ⟨rfl, _, s31, rfl, rfl, ho32.bytes (by rw [Msg.enc_1 g15]; simp only [List.map_append, Msg.be_one (n := m.state) (by omega), List.map_cons, List.map_nil, List.nil_append, List.append_assoc, g15]; rfl)⟩
      · refine Run.buildSlice (l := [(0, .tmp 35)]) Ref04_es38 Ref04_zo5 rfl (by decide) rfl rfl (by decide) (lt rfl) (fun b33 => ?_)
        refine Run.to_end ?_
        refine Ex.anyD (KnAll.cons (Kn.at 2 rfl) KnAll.nil) ?_
        refine RunD.one (i := 3) (by kernel_rfl) rfl  ?_ 
        refine Run.call [] (l := [.tmp 30, .const (.int .i64 4)]) rfl rfl rfl (lt rfl) (number_c (k := 4) (by decide) (by omega)) (fun v34 V2 H2 _ hR => ?_)
        obtain ⟨hV, s35, rfl, ho36⟩ := hR; replace hV := hV.symm; subst hV
        obtain ⟨p34, c34, rfl⟩ := ho36.form
        refine Run.to_end ?_
        refine Ex.anyD (KnAll.cons (Kn.at 2 rfl) KnAll.nil) ?_
        refine RunD.one (i := 4) (by kernel_rfl) rfl  ?_ 
        refine Run.append (n := 1 + 4 + 4) (m := 4) (xs := ([.int .u8 (m.kind % 256)] ++ ((Msg.be 4 m.life).map byteV)) ++ ((Msg.be 4 m.seen).map byteV)) (ys := (Msg.be 4 m.xid).map byteV) rfl rfl Ref04_es38 Ref04_zi5 (by decide) (j := 1) rfl ho14 (Src.of_rd Ref04_es38 (ho36.rd 5 rfl)) (by omega) (by omega) (all_one_bytes _) (lt rfl) (fun v37 s38 ho39 hf => ?_)
        obtain ⟨p37, c37, rfl⟩ := hf
        refine Run.to_end ?_
        refine Ex.anyD (KnAll.cons (Kn.at 2 rfl) KnAll.nil) ?_
        refine RunD.one (i := 9) (by kernel_rfl) rfl  ?_ 
        refine Run.append (n := 1 + 4 + 4 + 4) (m := 1) (xs := (([.int .u8 (m.kind % 256)] ++ ((Msg.be 4 m.life).map byteV)) ++ ((Msg.be 4 m.seen).map byteV)) ++ ((Msg.be 4 m.xid).map byteV)) (ys := [.int .u8 m.state]) rfl rfl Ref04_es38 Ref04_zi5 (by decide) (j := 1) rfl ho39 (Src.of_rd Ref04_es38 (Rd.one (Kn.at 0 rfl) rfl)) (by omega) (by omega) rfl (lt rfl) (fun v40 s41 ho42 hf => ?_)
        obtain ⟨p40, c40, rfl⟩ := hf
        refine Run.to_end ?_
        refine Ex.anyD (KnAll.cons (Kn.at 2 rfl) KnAll.nil) ?_
        refine RunD.pure (i := 10) rfl (by kernel_rfl) (by kernel_rfl) (by kernel_rfl) (fun _ _ _ h => h) (lt rfl) (KnAll.cons (Kn.at 2 rfl) KnAll.nil) (fun _ => (Y.assign rfl)) ?_
        refine RunD.done (by kernel_rfl) ?_
        refine Ex.end_block ?_
        refine Ex.go ?_
        refine Tr.seq ?_
        refine Tr.region ?_
        refine Run.val (lt rfl) (Y.move rfl) ?_
        refine Run.val (lt rfl) (Y.assign rfl) ?_
        refine Run.val (lt rfl) (Y.assign rfl) ?_
        refine Run.to_end ?_
        refine Ex.go ?_
        refine Tr.to_ret ?_
        refine Ex.keep [1] ?_
        exact Ex.ret2 rfl rfl rfl  ⟨rfl, _, s41, rfl, rfl, ho42.bytes (by rw [Msg.enc_1 g15]; simp only [List.map_append, Msg.be_one (n := m.state) (by omega), List.map_cons, List.map_nil, List.nil_append, List.append_assoc, g15]; rfl)⟩
    · have g15 := h15
      try simp only [kb] at g15
      refine Tr.cond_f rfl h15 ?_
      refine Tr.seq ?_
      refine Tr.region ?_
      refine Run.val (lt rfl) (Y.int rfl rfl rfl) ?_
      refine Run.val (lt rfl) (Y.assign rfl) ?_
      refine Run.to_end ?_
      refine Ex.go ?_
      rcases Bool.eq_false_or_eq_true (m.kind == 3) with h43 | h43
      · have g43 := h43
        try simp only [kb] at g43
        refine Tr.cond_t rfl h43 ?_
        refine Tr.seq ?_
        refine Tr.region ?_
        refine Run.val (lt rfl) (Y.assign rfl) ?_
        refine Run.to_end ?_
        refine Ex.go ?_
        refine Tr.seq ?_
        refine Tr.seq ?_
        refine Tr.region ?_
        refine Run.val (lt rfl) (Y.fieldAddr rfl Ref04_fo37_10) ?_
        refine Run.val (lt rfl) (Y.load rfl Ref04_ts4 (Kn.at 1 rfl) rfl) ?_
        refine Run.to_end ?_
        refine Ex.go ?_
        rcases Bool.eq_false_or_eq_true (m.ok) with h44 | h44
        · have g44 := h44
          try simp only [kb] at g44
          refine Tr.cond_t rfl h44 ?_
          refine Tr.region ?_
          refine Run.val (lt rfl) (Y.assign rfl) ?_
          refine Run.to_end ?_
          refine Ex.go ?_
          refine Tr.region ?_
          refine Run.val (lt rfl) (Y.move rfl) ?_
          refine Run.val (lt rfl) (Y.fieldAddr rfl Ref04_fo37_3) ?_
          refine Run.val (lt rfl) (Y.load rfl Ref04_ts3 (Kn.at 1 rfl) rfl) ?_
          refine Run.call [] (l := [.tmp 44, .const (.int .i64 4)]) rfl rfl rfl (lt rfl) (number_c (k := 4) (by decide) (by omega)) (fun v45 V2 H2 _ hR => ?_)
          obtain ⟨hV, s46, rfl, ho47⟩ := hR; replace hV := hV.symm; subst hV
          obtain ⟨p45, c45, rfl⟩ := ho47.form
          refine Run.append (n := 1 + 4 + 4) (m := 4) (xs := ([.int .u8 (m.kind % 256)] ++ ((Msg.be 4 m.life).map byteV)) ++ ((Msg.be 4 m.seen).map byteV)) (ys := (Msg.be 4 m.xid).map byteV) rfl rfl Ref04_es38 Ref04_zi5 (by decide) (j := 0) rfl ho14 (Src.of_rd Ref04_es38 (ho47.rd 4 rfl)) (by omega) (by omega) (all_one_bytes _) (lt rfl) (fun v48 s49 ho50 hf => ?_)
          obtain ⟨p48, c48, rfl⟩ := hf
          refine Run.val (lt rfl) (Y.move rfl) ?_
          refine Run.buildSlice (l := [(0, .tmp 47)]) Ref04_es38 Ref04_zo5 rfl (by decide) rfl rfl (by decide) (lt rfl) (fun b51 => ?_)
          refine Run.append (n := 1 + 4 + 4 + 4) (m := 1) (xs := (([.int .u8 (m.kind % 256)] ++ ((Msg.be 4 m.life).map byteV)) ++ ((Msg.be 4 m.seen).map byteV)) ++ ((Msg.be 4 m.xid).map byteV)) (ys := [.int .u8 1]) rfl rfl Ref04_es38 Ref04_zi5 (by decide) (j := 1) rfl ho50 (Src.of_rd Ref04_es38 (Rd.one (Kn.at 0 rfl) rfl)) (by omega) (by omega) rfl (lt rfl) (fun v52 s53 ho54 hf => ?_)
          obtain ⟨p52, c52, rfl⟩ := hf
          refine Run.val (lt rfl) (Y.assign rfl) ?_
          refine Run.to_end ?_
          refine Ex.end_block ?_
          refine Ex.go ?_
          refine Tr.seq ?_
          refine Tr.region ?_
          refine Run.val (lt rfl) (Y.move rfl) ?_
          refine Run.val (lt rfl) (Y.assign rfl) ?_
          refine Run.val (lt rfl) (Y.assign rfl) ?_
          refine Run.to_end ?_
          refine Ex.go ?_
          refine Tr.to_ret ?_
          refine Ex.keep [1] ?_
          exact Ex.ret2 rfl rfl rfl  ⟨rfl, _, s53, rfl, rfl, ho54.bytes (by rw [Msg.enc_3 g43, h44]; simp only [List.map_append, List.map_cons, List.map_nil, List.nil_append, List.append_assoc, g43]; rfl)⟩
        · have g44 := h44
          try simp only [kb] at g44
          refine Tr.cond_f rfl h44 ?_
          refine Tr.to_end ?_
          refine Ex.go ?_
          refine Tr.region ?_
          refine Run.val (lt rfl) (Y.move rfl) ?_
          refine Run.val (lt rfl) (Y.fieldAddr rfl Ref04_fo37_3) ?_
          refine Run.val (lt rfl) (Y.load rfl Ref04_ts3 (Kn.at 1 rfl) rfl) ?_
          refine Run.call [] (l := [.tmp 44, .const (.int .i64 4)]) rfl rfl rfl (lt rfl) (number_c (k := 4) (by decide) (by omega)) (fun v55 V2 H2 _ hR => ?_)
          obtain ⟨hV, s56, rfl, ho57⟩ := hR; replace hV := hV.symm; subst hV
          obtain ⟨p55, c55, rfl⟩ := ho57.form
          refine Run.append (n := 1 + 4 + 4) (m := 4) (xs := ([.int .u8 (m.kind % 256)] ++ ((Msg.be 4 m.life).map byteV)) ++ ((Msg.be 4 m.seen).map byteV)) (ys := (Msg.be 4 m.xid).map byteV) rfl rfl Ref04_es38 Ref04_zi5 (by decide) (j := 0) rfl ho14 (Src.of_rd Ref04_es38 (ho57.rd 4 rfl)) (by omega) (by omega) (all_one_bytes _) (lt rfl) (fun v58 s59 ho60 hf => ?_)
          obtain ⟨p58, c58, rfl⟩ := hf
          refine Run.val (lt rfl) (Y.move rfl) ?_
          refine Run.buildSlice (l := [(0, .tmp 47)]) Ref04_es38 Ref04_zo5 rfl (by decide) rfl rfl (by decide) (lt rfl) (fun b61 => ?_)
          refine Run.append (n := 1 + 4 + 4 + 4) (m := 1) (xs := (([.int .u8 (m.kind % 256)] ++ ((Msg.be 4 m.life).map byteV)) ++ ((Msg.be 4 m.seen).map byteV)) ++ ((Msg.be 4 m.xid).map byteV)) (ys := [.int .u8 0]) rfl rfl Ref04_es38 Ref04_zi5 (by decide) (j := 1) rfl ho60 (Src.of_rd Ref04_es38 (Rd.one (Kn.at 0 rfl) rfl)) (by omega) (by omega) rfl (lt rfl) (fun v62 s63 ho64 hf => ?_)
          obtain ⟨p62, c62, rfl⟩ := hf
          refine Run.val (lt rfl) (Y.assign rfl) ?_
          refine Run.to_end ?_
          refine Ex.end_block ?_
          refine Ex.go ?_
          refine Tr.seq ?_
          refine Tr.region ?_
          refine Run.val (lt rfl) (Y.move rfl) ?_
          refine Run.val (lt rfl) (Y.assign rfl) ?_
          refine Run.val (lt rfl) (Y.assign rfl) ?_
          refine Run.to_end ?_
          refine Ex.go ?_
          refine Tr.to_ret ?_
          refine Ex.keep [1] ?_
          exact Ex.ret2 rfl rfl rfl  ⟨rfl, _, s63, rfl, rfl, ho64.bytes (by rw [Msg.enc_3 g43, h44]; simp only [List.map_append, List.map_cons, List.map_nil, List.nil_append, List.append_assoc, g43]; rfl)⟩
      · have g43 := h43
        try simp only [kb] at g43
        refine Tr.cond_f rfl h43 ?_
        refine Tr.seq ?_
        refine Tr.region ?_
        refine Run.val (lt rfl) (Y.int rfl rfl rfl) ?_
        refine Run.val (lt rfl) (Y.assign rfl) ?_
        refine Run.to_end ?_
        refine Ex.go ?_
        rcases Bool.eq_false_or_eq_true (m.kind == 2) with h65 | h65
        · have g65 := h65
          try simp only [kb] at g65
          refine Tr.cond_t rfl h65 ?_
          refine Tr.seq ?_
          refine Tr.region ?_
          refine Run.val (lt rfl) (Y.move rfl) ?_
          refine Run.val (lt rfl) (Y.fieldAddr rfl Ref04_fo37_3) ?_
          refine Run.val (lt rfl) (Y.load rfl Ref04_ts3 (Kn.at 1 rfl) rfl) ?_
          refine Run.call [] (l := [.tmp 54, .const (.int .i64 4)]) rfl rfl rfl (lt rfl) (number_c (k := 4) (by decide) (by omega)) (fun v66 V2 H2 _ hR => ?_)
          obtain ⟨hV, s67, rfl, ho68⟩ := hR; replace hV := hV.symm; subst hV
          obtain ⟨p66, c66, rfl⟩ := ho68.form
          refine Run.append (n := 1 + 4 + 4) (m := 4) (xs := ([.int .u8 (m.kind % 256)] ++ ((Msg.be 4 m.life).map byteV)) ++ ((Msg.be 4 m.seen).map byteV)) (ys := (Msg.be 4 m.xid).map byteV) rfl rfl Ref04_es38 Ref04_zi5 (by decide) (j := 0) rfl ho14 (Src.of_rd Ref04_es38 (ho68.rd 4 rfl)) (by omega) (by omega) (all_one_bytes _) (lt rfl) (fun v69 s70 ho71 hf => ?_)
          obtain ⟨p69, c69, rfl⟩ := hf
          refine Run.val (lt rfl) (Y.assign rfl) ?_
          refine Run.to_end ?_
          refine Ex.go ?_
          refine Tr.seq ?_
          refine Tr.region ?_
          refine Run.val (lt rfl) (Y.move rfl) ?_
          refine Run.val (lt rfl) (Y.fieldAddr rfl Ref04_fo37_5) ?_
          refine Run.val (lt rfl) (Y.load rfl Ref04_ts35 (Kn.at 1 rfl) rfl) ?_
          refine Run.val (lt rfl) (Y.conv (m.addr) rfl Ref04_it35_3 (wrap_i64 (by omega))) ?_
          refine Run.call [] (l := [.tmp 60, .const (.int .i64 4)]) rfl rfl rfl (lt rfl) (number_c (k := 4) (by decide) (by omega)) (fun v72 V2 H2 _ hR => ?_)
          obtain ⟨hV, s73, rfl, ho74⟩ := hR; replace hV := hV.symm; subst hV
          obtain ⟨p72, c72, rfl⟩ := ho74.form
          refine Run.append (n := 1 + 4 + 4 + 4) (m := 4) (xs := (([.int .u8 (m.kind % 256)] ++ ((Msg.be 4 m.life).map byteV)) ++ ((Msg.be 4 m.seen).map byteV)) ++ ((Msg.be 4 m.xid).map byteV)) (ys := (Msg.be 4 m.addr).map byteV) rfl rfl Ref04_es38 Ref04_zi5 (by decide) (j := 0) rfl ho71 (Src.of_rd Ref04_es38 (ho74.rd 5 rfl)) (by omega) (by omega) (all_one_bytes _) (lt rfl) (fun v75 s76 ho77 hf => ?_)
          obtain ⟨p75, c75, rfl⟩ := hf
          refine Run.val (lt rfl) (Y.assign rfl) ?_
          refine Run.to_end ?_
          refine Ex.go ?_
          refine Tr.seq ?_
          refine Tr.region ?_
          refine Run.val (lt rfl) (Y.move rfl) ?_
          refine Run.val (lt rfl) (Y.fieldAddr rfl Ref04_fo37_6) ?_
          refine Run.val (lt rfl) (Y.load rfl Ref04_ts3 (Kn.at 1 rfl) rfl) ?_
          refine Run.val (lt rfl) (Y.conv (m.bind) rfl Ref04_it3_5 (wrap_u8 (by omega))) ?_
          refine Run.buildSlice (l := [(0, .tmp 66)]) Ref04_es38 Ref04_zo5 rfl (by decide) rfl rfl (by decide) (lt rfl) (fun b78 => ?_)
          refine Run.append (n := 1 + 4 + 4 + 4 + 4) (m := 1) (xs := ((([.int .u8 (m.kind % 256)] ++ ((Msg.be 4 m.life).map byteV)) ++ ((Msg.be 4 m.seen).map byteV)) ++ ((Msg.be 4 m.xid).map byteV)) ++ ((Msg.be 4 m.addr).map byteV)) (ys := [.int .u8 m.bind]) rfl rfl Ref04_es38 Ref04_zi5 (by decide) (j := 1) rfl ho77 (Src.of_rd Ref04_es38 (Rd.one (Kn.at 0 rfl) rfl)) (by omega) (by omega) rfl (lt rfl) (fun v79 s80 ho81 hf => ?_)
          obtain ⟨p79, c79, rfl⟩ := hf
          refine Run.val (lt rfl) (Y.assign rfl) ?_
          refine Run.to_end ?_
          refine Ex.go ?_
          refine Tr.seq ?_
          refine Tr.region ?_
          refine Run.val (lt rfl) (Y.move rfl) ?_
          refine Run.val (lt rfl) (Y.fieldAddr rfl Ref04_fo37_8) ?_
          refine Run.val (lt rfl) (Y.load rfl Ref04_ts3 (Kn.at 2 rfl) rfl) ?_
          refine Run.call [] (l := [.tmp 71, .const (.int .i64 6)]) rfl rfl rfl (lt rfl) (number_c (k := 6) (by decide) (by omega)) (fun v82 V2 H2 _ hR => ?_)
          obtain ⟨hV, s83, rfl, ho84⟩ := hR; replace hV := hV.symm; subst hV
          obtain ⟨p82, c82, rfl⟩ := ho84.form
          refine Run.append (n := 1 + 4 + 4 + 4 + 4 + 1) (m := 6) (xs := (((([.int .u8 (m.kind % 256)] ++ ((Msg.be 4 m.life).map byteV)) ++ ((Msg.be 4 m.seen).map byteV)) ++ ((Msg.be 4 m.xid).map byteV)) ++ ((Msg.be 4 m.addr).map byteV)) ++ [.int .u8 m.bind]) (ys := (Msg.be 6 m.pot).map byteV) rfl rfl Ref04_es38 Ref04_zi5 (by decide) (j := 1) rfl ho81 (Src.of_rd Ref04_es38 (ho84.rd 7 rfl)) (by omega) (by omega) (all_one_bytes _) (lt rfl) (fun v85 s86 ho87 hf => ?_)
          obtain ⟨p85, c85, rfl⟩ := hf
          refine Run.val (lt rfl) (Y.assign rfl) ?_
          refine Run.to_end ?_
          refine Ex.go ?_
          refine Tr.seq ?_
          refine Tr.region ?_
          refine Run.val (lt rfl) (Y.move rfl) ?_
          refine Run.val (lt rfl) (Y.fieldAddr rfl Ref04_fo37_9) ?_
          refine Run.val (lt rfl) (Y.load rfl Ref04_ts3 (Kn.at 2 rfl) rfl) ?_
          refine Run.call [] (l := [.tmp 76, .const (.int .i64 6)]) rfl rfl rfl (lt rfl) (number_c (k := 6) (by decide) (by omega)) (fun v88 V2 H2 _ hR => ?_)
          obtain ⟨hV, s89, rfl, ho90⟩ := hR; replace hV := hV.symm; subst hV
          obtain ⟨p88, c88, rfl⟩ := ho90.form
          refine Run.append (n := 1 + 4 + 4 + 4 + 4 + 1 + 6) (m := 6) (xs := ((((([.int .u8 (m.kind % 256)] ++ ((Msg.be 4 m.life).map byteV)) ++ ((Msg.be 4 m.seen).map byteV)) ++ ((Msg.be 4 m.xid).map byteV)) ++ ((Msg.be 4 m.addr).map byteV)) ++ [.int .u8 m.bind]) ++ ((Msg.be 6 m.pot).map byteV)) (ys := (Msg.be 6 m.at_).map byteV) rfl rfl Ref04_es38 Ref04_zi5 (by decide) (j := 1) rfl ho87 (Src.of_rd Ref04_es38 (ho90.rd 8 rfl)) (by omega) (by omega) (all_one_bytes _) (lt rfl) (fun v91 s92 ho93 hf => ?_)
          obtain ⟨p91, c91, rfl⟩ := hf
          refine Run.val (lt rfl) (Y.assign rfl) ?_
          refine Run.to_end ?_
          refine Ex.go ?_
          refine Tr.seq ?_
          refine Tr.region ?_
          refine Run.val (lt rfl) (Y.move rfl) ?_
          refine Run.val (lt rfl) (Y.fieldAddr rfl Ref04_fo37_7) ?_
          refine Run.val (lt rfl) (Y.load rfl Ref04_ts9 (Kn.at 2 rfl) rfl) ?_
          refine Run.val (lt rfl) (Y.lenStr rfl Ref04_st9) ?_
          refine Run.val (lt rfl) (Y.conv ((m.client.size : Int)) rfl Ref04_it3_5 (wrap_u8 (by omega))) ?_
          refine Run.buildSlice (l := [(0, .tmp 83)]) Ref04_es38 Ref04_zo5 rfl (by decide) rfl rfl (by decide) (lt rfl) (fun b94 => ?_)
          refine Run.append (n := 1 + 4 + 4 + 4 + 4 + 1 + 6 + 6) (m := 1) (xs := (((((([.int .u8 (m.kind % 256)] ++ ((Msg.be 4 m.life).map byteV)) ++ ((Msg.be 4 m.seen).map byteV)) ++ ((Msg.be 4 m.xid).map byteV)) ++ ((Msg.be 4 m.addr).map byteV)) ++ [.int .u8 m.bind]) ++ ((Msg.be 6 m.pot).map byteV)) ++ ((Msg.be 6 m.at_).map byteV)) (ys := [.int .u8 (m.client.size : Int)]) rfl rfl Ref04_es38 Ref04_zi5 (by decide) (j := 2) rfl ho93 (Src.of_rd Ref04_es38 (Rd.one (Kn.at 0 rfl) rfl)) (by omega) (by omega) rfl (lt rfl) (fun v95 s96 ho97 hf => ?_)
          obtain ⟨p95, c95, rfl⟩ := hf
          refine Run.val (lt rfl) (Y.assign rfl) ?_
          refine Run.to_end ?_
          refine Ex.go ?_
          refine Tr.region ?_
          refine Run.val (lt rfl) (Y.move rfl) ?_
          refine Run.val (lt rfl) (Y.fieldAddr rfl Ref04_fo37_7) ?_
          refine Run.val (lt rfl) (Y.load rfl Ref04_ts9 (Kn.at 3 rfl) rfl) ?_
          refine Run.append (n := 1 + 4 + 4 + 4 + 4 + 1 + 6 + 6 + 1) (m := m.client.size) (xs := ((((((([.int .u8 (m.kind % 256)] ++ ((Msg.be 4 m.life).map byteV)) ++ ((Msg.be 4 m.seen).map byteV)) ++ ((Msg.be 4 m.xid).map byteV)) ++ ((Msg.be 4 m.addr).map byteV)) ++ [.int .u8 m.bind]) ++ ((Msg.be 6 m.pot).map byteV)) ++ ((Msg.be 6 m.at_).map byteV)) ++ [.int .u8 (m.client.size : Int)]) (ys := m.client.toList.map byteV) rfl rfl Ref04_es38 Ref04_zi5 (by decide) (j := 2) rfl ho97 (Src.of_str m.client Ref04_st9) (by omega) (by omega) (all_one_bytes _) (lt rfl) (fun v98 s99 ho100 hf => ?_)
          obtain ⟨p98, c98, rfl⟩ := hf
          refine Run.val (lt rfl) (Y.assign rfl) ?_
          refine Run.to_end ?_
          refine Ex.end_block ?_
          refine Ex.go ?_
          refine Tr.seq ?_
          refine Tr.region ?_
          refine Run.val (lt rfl) (Y.move rfl) ?_
          refine Run.val (lt rfl) (Y.assign rfl) ?_
          refine Run.val (lt rfl) (Y.assign rfl) ?_
          refine Run.to_end ?_
          refine Ex.go ?_
          refine Tr.to_ret ?_
          refine Ex.keep [2] ?_
          exact Ex.ret2 rfl rfl rfl  ⟨rfl, _, s99, rfl, rfl, ho100.bytes (by rw [Msg.enc_2 g65]; simp only [List.map_append, Msg.be_one (n := m.bind) (by omega), List.map_cons, List.map_nil, List.nil_append, List.append_assoc, byteV_nat (n := m.client.size) (by omega), g65]; rfl)⟩
        · have g65 := h65
          try simp only [kb] at g65
          refine Tr.cond_f rfl h65 ?_
          refine Tr.to_end ?_
          refine Ex.end_block ?_
          refine Ex.go ?_
          refine Tr.seq ?_
          refine Tr.region ?_
          refine Run.val (lt rfl) (Y.move rfl) ?_
          refine Run.val (lt rfl) (Y.assign rfl) ?_
          refine Run.val (lt rfl) (Y.assign rfl) ?_
          refine Run.to_end ?_
          refine Ex.go ?_
          refine Tr.to_ret ?_
          refine Ex.keep [0] ?_
          exact Ex.ret2 rfl rfl rfl  ⟨rfl, _, s13, rfl, rfl, ho14.bytes (by rw [Msg.enc_0 g15 g65 g43]; simp only [List.map_append, List.map_cons, List.map_nil, List.nil_append, List.append_assoc, byteV_of (z := m.kind % 256) (by omega)])⟩
  · refine Run.call [] (l := [.tmp 16, .const (.int .i64 4)]) rfl rfl rfl (lt rfl) (number_c (k := 4) (by decide) (by omega)) (fun v101 V2 H2 _ hR => ?_)
    obtain ⟨hV, s102, rfl, ho103⟩ := hR; replace hV := hV.symm; subst hV
    obtain ⟨p101, c101, rfl⟩ := ho103.form
    refine Run.to_end ?_
    refine Ex.anyD (KnAll.cons (Kn.at 0 rfl) KnAll.nil) ?_
    refine RunD.one (i := 3) (by kernel_rfl) rfl  ?_ 
    refine Run.buildSlice (l := [(0, .tmp 13)]) Ref04_es38 Ref04_zo5 rfl (by decide) rfl rfl (by decide) (lt rfl) (fun b104 => ?_)
    refine Run.to_end ?_
    refine Ex.anyD (KnAll.cons (Kn.at 1 rfl) KnAll.nil) ?_
    refine RunD.one (i := 7) (by kernel_rfl) rfl  ?_ 
    refine Run.append (n := 1) (m := 4) (xs := [.int .u8 (m.kind % 256)]) (ys := (Msg.be 4 m.life).map byteV) rfl rfl Ref04_es38 Ref04_zi5 (by decide) (j := 0) rfl (Ow.lit (cur := #[.int .u8 (m.kind % 256)]) rfl (by decide)) (Src.of_rd Ref04_es38 (ho103.rd 2 rfl)) (by omega) (by omega) (all_one_bytes _) (lt rfl) (fun v105 s106 ho107 hf => ?_)
    obtain ⟨p105, c105, rfl⟩ := hf
    refine Run.to_end ?_
    refine Ex.anyD (KnAll.cons (Kn.at 1 rfl) KnAll.nil) ?_
    refine RunD.pure (i := 8) rfl (by kernel_rfl) (by kernel_rfl) (by kernel_rfl) (fun _ _ _ h => h) (lt rfl) (KnAll.cons (Kn.at 1 rfl) KnAll.nil) (fun _ => (Y.assign rfl)) ?_
    refine RunD.done (by kernel_rfl) ?_
    refine Ex.go ?_
    refine Tr.seq ?_
    refine Tr.region ?_
    refine Run.val (lt rfl) (Y.move rfl) ?_
    refine Run.val (lt rfl) (Y.fieldAddr rfl Ref04_fo37_2) ?_
    refine Run.val (lt rfl) (Y.load rfl Ref04_ts3 (Kn.at 1 rfl) rfl) ?_
    refine Run.call [] (l := [.tmp 21, .const (.int .i64 4)]) rfl rfl rfl (lt rfl) (number_c (k := 4) (by decide) (by omega)) (fun v108 V2 H2 _ hR => ?_)
    obtain ⟨hV, s109, rfl, ho110⟩ := hR; replace hV := hV.symm; subst hV
    obtain ⟨p108, c108, rfl⟩ := ho110.form
    refine Run.append (n := 1 + 4) (m := 4) (xs := [.int .u8 (m.kind % 256)] ++ ((Msg.be 4 m.life).map byteV)) (ys := (Msg.be 4 m.seen).map byteV) rfl rfl Ref04_es38 Ref04_zi5 (by decide) (j := 0) rfl ho107 (Src.of_rd Ref04_es38 (ho110.rd 3 rfl)) (by omega) (by omega) (all_one_bytes _) (lt rfl) (fun v111 s112 ho113 hf => ?_)
    obtain ⟨p111, c111, rfl⟩ := hf
    refine Run.val (lt rfl) (Y.assign rfl) ?_
    refine Run.to_end ?_
    refine Ex.go ?_
    refine Tr.seq ?_
    refine Tr.seq ?_
    refine Tr.region ?_
    refine Run.val (lt rfl) (Y.fieldAddr rfl Ref04_fo37_0) ?_
    refine Run.val (lt rfl) (Y.load rfl Ref04_ts3 (Kn.at 1 rfl) rfl) ?_
    refine Run.to_end ?_
    refine Ex.go ?_
    refine Tr.block ?_
    refine Tr.seq ?_
    refine Tr.region ?_
    refine Run.val (lt rfl) (Y.int rfl rfl rfl) ?_
    refine Run.val (lt rfl) (Y.assign rfl) ?_
    refine Run.to_end ?_
    refine Ex.go ?_
    rcases Bool.eq_false_or_eq_true (m.kind == 1) with h114 | h114
    · have g114 := h114
      try simp only [kb] at g114
      refine Tr.cond_t rfl h114 ?_
      refine Tr.anyD [(b1, .cells #[.int .i64 m.kind, .int .i64 m.life, .int .i64 m.seen, .int .i64 m.xid, .int .i64 m.state, .int .u32 m.addr, .int .i64 m.bind, .string m.client, .int .i64 m.pot, .int .i64 m.at_, .bool m.ok] 37 (0, 0))] Ref04_mo ?_
      refine RunD.pure (i := 0) rfl (by kernel_rfl) (by kernel_rfl) (by kernel_rfl) (fun _ _ _ h => h) (lt rfl) (KnAll.cons (Kn.at 1 rfl) KnAll.nil) (fun _ => (Y.move rfl)) ?_
      refine RunD.pure (i := 1) rfl (by kernel_rfl) (by kernel_rfl) (by kernel_rfl) (fun _ _ _ h => h) (lt rfl) (KnAll.cons (Kn.at 1 rfl) KnAll.nil) (fun _ => (Y.fieldAddr rfl Ref04_fo37_3)) ?_
      refine RunD.take (i := 2) 0 rfl rfl (by kernel_rfl) (by kernel_rfl) (by kernel_rfl) (fun _ _ _ h => h) (lt rfl) (KnAll.cons (Kn.at 1 rfl) KnAll.nil) (fun _ => (Y.load rfl Ref04_ts3 Kn.vk1 rfl)) ?_
      refine RunD.pure (i := 5) rfl (by kernel_rfl) (by kernel_rfl) (by kernel_rfl) (fun _ _ _ h => h) (lt rfl) (KnAll.cons (Kn.at 1 rfl) KnAll.nil) (fun _ => (Y.fieldAddr rfl Ref04_fo37_4)) ?_
      refine RunD.take (i := 6) 0 rfl rfl (by kernel_rfl) (by kernel_rfl) (by kernel_rfl) (fun _ _ _ h => h) (lt rfl) (KnAll.cons (Kn.at 1 rfl) KnAll.nil) (fun _ => (Y.load rfl Ref04_ts3 Kn.vk1 rfl)) ?_
      refine RunD.pure (i := 7) rfl (by kernel_rfl) (by kernel_rfl) (by kernel_rfl) (fun _ _ _ h => h) (lt rfl) (KnAll.cons (Kn.at 1 rfl) KnAll.nil) (fun _ => (Y.conv (m.state) rfl Ref04_it3_5 (wrap_u8 (by omega)))) ?_
      refine RunD.two (i := 3) (j := 8) (by kernel_rfl) rfl rfl  ?_ ?_ 
      · refine Run.call [] (l := [.tmp 30, .const (.int .i64 4)]) rfl rfl rfl (lt rfl) (number_c (k := 4) (by decide) (by omega)) (fun v115 V2 H2 _ hR => ?_)
        obtain ⟨hV, s116, rfl, ho117⟩ := hR; replace hV := hV.symm; subst hV
        obtain ⟨p115, c115, rfl⟩ := ho117.form
        refine Run.to_end ?_
        refine Ex.anyD (KnAll.cons (Kn.at 1 rfl) KnAll.nil) ?_
        refine RunD.two (i := 4) (j := 8) (by kernel_rfl) rfl rfl  ?_ ?_ 
        · refine Run.append (n := 1 + 4 + 4) (m := 4) (xs := ([.int .u8 (m.kind % 256)] ++ ((Msg.be 4 m.life).map byteV)) ++ ((Msg.be 4 m.seen).map byteV)) (ys := (Msg.be 4 m.xid).map byteV) rfl rfl Ref04_es38 Ref04_zi5 (by decide) (j := 0) rfl ho113 (Src.of_rd Ref04_es38 (ho117.rd 4 rfl)) (by omega) (by omega) (all_one_bytes _) (lt rfl) (fun v118 s119 ho120 hf => ?_)
          obtain ⟨p118, c118, rfl⟩ := hf
          refine Run.to_end ?_
          refine Ex.anyD (KnAll.cons (Kn.at 1 rfl) KnAll.nil) ?_
          refine RunD.one (i := 8) (by kernel_rfl) rfl  ?_ 
          refine Run.buildSlice (l := [(0, .tmp 35)]) Ref04_es38 Ref04_zo5 rfl (by decide) rfl rfl (by decide) (lt rfl) (fun b121 => ?_)
          refine Run.to_end ?_
          refine Ex.anyD (KnAll.cons (Kn.at 2 rfl) KnAll.nil) ?_
          refine RunD.one (i := 9) (by kernel_rfl) rfl  ?_ 
          refine Run.append (n := 1 + 4 + 4 + 4) (m := 1) (xs := (([.int .u8 (m.kind % 256)] ++ ((Msg.be 4 m.life).map byteV)) ++ ((Msg.be 4 m.seen).map byteV)) ++ ((Msg.be 4 m.xid).map byteV)) (ys := [.int .u8 m.state]) rfl rfl Ref04_es38 Ref04_zi5 (by decide) (j := 1) rfl ho120 (Src.of_rd Ref04_es38 (Rd.one (Kn.at 0 rfl) rfl)) (by omega) (by omega) rfl (lt rfl) (fun v122 s123 ho124 hf => ?_)
          obtain ⟨p122, c122, rfl⟩ := hf
          refine Run.to_end ?_
          refine Ex.anyD (KnAll.cons (Kn.at 2 rfl) KnAll.nil) ?_
          refine RunD.pure (i := 10) rfl (by kernel_rfl) (by kernel_rfl) (by kernel_rfl) (fun _ _ _ h => h) (lt rfl) (KnAll.cons (Kn.at 2 rfl) KnAll.nil) (fun _ => (Y.assign rfl)) ?_
          refine RunD.done (by kernel_rfl) ?_
          refine Ex.end_block ?_
          refine Ex.go ?_
          refine Tr.seq ?_
          refine Tr.region ?_
          refine Run.val (lt rfl) (Y.move rfl) ?_
          refine Run.val (lt rfl) (Y.assign rfl) ?_
          refine Run.val (lt rfl) (Y.assign rfl) ?_
          refine Run.to_end ?_
          refine Ex.go ?_
          refine Tr.to_ret ?_
          refine Ex.keep [1] ?_
          exact Ex.ret2 rfl rfl rfl  ⟨rfl, _, s123, rfl, rfl, ho124.bytes (by rw [Msg.enc_1 g114]; simp only [List.map_append, Msg.be_one (n := m.state) (by omega), List.map_cons, List.map_nil, List.nil_append, List.append_assoc, g114]; rfl)⟩
        · refine Run.buildSlice (l := [(0, .tmp 35)]) Ref04_es38 Ref04_zo5 rfl (by decide) rfl rfl (by decide) (lt rfl) (fun b125 => ?_)
          refine Run.to_end ?_
          refine Ex.anyD (KnAll.cons (Kn.at 2 rfl) KnAll.nil) ?_
          refine RunD.one (i := 4) (by kernel_rfl) rfl  ?_ 
          refine Run.append (n := 1 + 4 + 4) (m := 4) (xs := ([.int .u8 (m.kind % 256)] ++ ((Msg.be 4 m.life).map byteV)) ++ ((Msg.be 4 m.seen).map byteV)) (ys := (Msg.be 4 m.xid).map byteV) rfl rfl Ref04_es38 Ref04_zi5 (by decide) (j := 1) rfl ho113 (Src.of_rd Ref04_es38 (ho117.rd 5 rfl)) (by omega) (by omega) (all_one_bytes _) (lt rfl) (fun v126 s127 ho128 hf => ?_)
          obtain ⟨p126, c126, rfl⟩ := hf
          refine Run.to_end ?_
          refine Ex.anyD (KnAll.cons (Kn.at 2 rfl) KnAll.nil) ?_
          refine RunD.one (i := 9) (by kernel_rfl) rfl  ?_ 
          refine Run.append (n := 1 + 4 + 4 + 4) (m := 1) (xs := (([.int .u8 (m.kind % 256)] ++ ((Msg.be 4 m.life).map byteV)) ++ ((Msg.be 4 m.seen).map byteV)) ++ ((Msg.be 4 m.xid).map byteV)) (ys := [.int .u8 m.state]) rfl rfl Ref04_es38 Ref04_zi5 (by decide) (j := 1) rfl ho128 (Src.of_rd Ref04_es38 (Rd.one (Kn.at 0 rfl) rfl)) (by omega) (by omega) rfl (lt rfl) (fun v129 s130 ho131 hf => ?_)
          obtain ⟨p129, c129, rfl⟩ := hf
          refine Run.to_end ?_
          refine Ex.anyD (KnAll.cons (Kn.at 2 rfl) KnAll.nil) ?_
          refine RunD.pure (i := 10) rfl (by kernel_rfl) (by kernel_rfl) (by kernel_rfl) (fun _ _ _ h => h) (lt rfl) (KnAll.cons (Kn.at 2 rfl) KnAll.nil) (fun _ => (Y.assign rfl)) ?_
          refine RunD.done (by kernel_rfl) ?_
          refine Ex.end_block ?_
          refine Ex.go ?_
          refine Tr.seq ?_
          refine Tr.region ?_
          refine Run.val (lt rfl) (Y.move rfl) ?_
          refine Run.val (lt rfl) (Y.assign rfl) ?_
          refine Run.val (lt rfl) (Y.assign rfl) ?_
          refine Run.to_end ?_
          refine Ex.go ?_
          refine Tr.to_ret ?_
          refine Ex.keep [1] ?_
          exact Ex.ret2 rfl rfl rfl  ⟨rfl, _, s130, rfl, rfl, ho131.bytes (by rw [Msg.enc_1 g114]; simp only [List.map_append, Msg.be_one (n := m.state) (by omega), List.map_cons, List.map_nil, List.nil_append, List.append_assoc, g114]; rfl)⟩
      · refine Run.buildSlice (l := [(0, .tmp 35)]) Ref04_es38 Ref04_zo5 rfl (by decide) rfl rfl (by decide) (lt rfl) (fun b132 => ?_)
        refine Run.to_end ?_
        refine Ex.anyD (KnAll.cons (Kn.at 2 rfl) KnAll.nil) ?_
        refine RunD.one (i := 3) (by kernel_rfl) rfl  ?_ 
        refine Run.call [] (l := [.tmp 30, .const (.int .i64 4)]) rfl rfl rfl (lt rfl) (number_c (k := 4) (by decide) (by omega)) (fun v133 V2 H2 _ hR => ?_)
        obtain ⟨hV, s134, rfl, ho135⟩ := hR; replace hV := hV.symm; subst hV
        obtain ⟨p133, c133, rfl⟩ := ho135.form
        refine Run.to_end ?_
        refine Ex.anyD (KnAll.cons (Kn.at 2 rfl) KnAll.nil) ?_
        refine RunD.one (i := 4) (by kernel_rfl) rfl  ?_ 
        refine Run.append (n := 1 + 4 + 4) (m := 4) (xs := ([.int .u8 (m.kind % 256)] ++ ((Msg.be 4 m.life).map byteV)) ++ ((Msg.be 4 m.seen).map byteV)) (ys := (Msg.be 4 m.xid).map byteV) rfl rfl Ref04_es38 Ref04_zi5 (by decide) (j := 1) rfl ho113 (Src.of_rd Ref04_es38 (ho135.rd 5 rfl)) (by omega) (by omega) (all_one_bytes _) (lt rfl) (fun v136 s137 ho138 hf => ?_)
        obtain ⟨p136, c136, rfl⟩ := hf
        refine Run.to_end ?_
        refine Ex.anyD (KnAll.cons (Kn.at 2 rfl) KnAll.nil) ?_
        refine RunD.one (i := 9) (by kernel_rfl) rfl  ?_ 
        refine Run.append (n := 1 + 4 + 4 + 4) (m := 1) (xs := (([.int .u8 (m.kind % 256)] ++ ((Msg.be 4 m.life).map byteV)) ++ ((Msg.be 4 m.seen).map byteV)) ++ ((Msg.be 4 m.xid).map byteV)) (ys := [.int .u8 m.state]) rfl rfl Ref04_es38 Ref04_zi5 (by decide) (j := 1) rfl ho138 (Src.of_rd Ref04_es38 (Rd.one (Kn.at 0 rfl) rfl)) (by omega) (by omega) rfl (lt rfl) (fun v139 s140 ho141 hf => ?_)
        obtain ⟨p139, c139, rfl⟩ := hf
        refine Run.to_end ?_
        refine Ex.anyD (KnAll.cons (Kn.at 2 rfl) KnAll.nil) ?_
        refine RunD.pure (i := 10) rfl (by kernel_rfl) (by kernel_rfl) (by kernel_rfl) (fun _ _ _ h => h) (lt rfl) (KnAll.cons (Kn.at 2 rfl) KnAll.nil) (fun _ => (Y.assign rfl)) ?_
        refine RunD.done (by kernel_rfl) ?_
        refine Ex.end_block ?_
        refine Ex.go ?_
        refine Tr.seq ?_
        refine Tr.region ?_
        refine Run.val (lt rfl) (Y.move rfl) ?_
        refine Run.val (lt rfl) (Y.assign rfl) ?_
        refine Run.val (lt rfl) (Y.assign rfl) ?_
        refine Run.to_end ?_
        refine Ex.go ?_
        refine Tr.to_ret ?_
        refine Ex.keep [1] ?_
        exact Ex.ret2 rfl rfl rfl  ⟨rfl, _, s140, rfl, rfl, ho141.bytes (by rw [Msg.enc_1 g114]; simp only [List.map_append, Msg.be_one (n := m.state) (by omega), List.map_cons, List.map_nil, List.nil_append, List.append_assoc, g114]; rfl)⟩
    · have g114 := h114
      try simp only [kb] at g114
      refine Tr.cond_f rfl h114 ?_
      refine Tr.seq ?_
      refine Tr.region ?_
      refine Run.val (lt rfl) (Y.int rfl rfl rfl) ?_
      refine Run.val (lt rfl) (Y.assign rfl) ?_
      refine Run.to_end ?_
      refine Ex.go ?_
      rcases Bool.eq_false_or_eq_true (m.kind == 3) with h142 | h142
      · have g142 := h142
        try simp only [kb] at g142
        refine Tr.cond_t rfl h142 ?_
        refine Tr.seq ?_
        refine Tr.region ?_
        refine Run.val (lt rfl) (Y.assign rfl) ?_
        refine Run.to_end ?_
        refine Ex.go ?_
        refine Tr.seq ?_
        refine Tr.seq ?_
        refine Tr.region ?_
        refine Run.val (lt rfl) (Y.fieldAddr rfl Ref04_fo37_10) ?_
        refine Run.val (lt rfl) (Y.load rfl Ref04_ts4 (Kn.at 1 rfl) rfl) ?_
        refine Run.to_end ?_
        refine Ex.go ?_
        rcases Bool.eq_false_or_eq_true (m.ok) with h143 | h143
        · have g143 := h143
          try simp only [kb] at g143
          refine Tr.cond_t rfl h143 ?_
          refine Tr.region ?_
          refine Run.val (lt rfl) (Y.assign rfl) ?_
          refine Run.to_end ?_
          refine Ex.go ?_
          refine Tr.region ?_
          refine Run.val (lt rfl) (Y.move rfl) ?_
          refine Run.val (lt rfl) (Y.fieldAddr rfl Ref04_fo37_3) ?_
          refine Run.val (lt rfl) (Y.load rfl Ref04_ts3 (Kn.at 1 rfl) rfl) ?_
          refine Run.call [] (l := [.tmp 44, .const (.int .i64 4)]) rfl rfl rfl (lt rfl) (number_c (k := 4) (by decide) (by omega)) (fun v144 V2 H2 _ hR => ?_)
          obtain ⟨hV, s145, rfl, ho146⟩ := hR; replace hV := hV.symm; subst hV
          obtain ⟨p144, c144, rfl⟩ := ho146.form
          refine Run.append (n := 1 + 4 + 4) (m := 4) (xs := ([.int .u8 (m.kind % 256)] ++ ((Msg.be 4 m.life).map byteV)) ++ ((Msg.be 4 m.seen).map byteV)) (ys := (Msg.be 4 m.xid).map byteV) rfl rfl Ref04_es38 Ref04_zi5 (by decide) (j := 0) rfl ho113 (Src.of_rd Ref04_es38 (ho146.rd 4 rfl)) (by omega) (by omega) (all_one_bytes _) (lt rfl) (fun v147 s148 ho149 hf => ?_)
          obtain ⟨p147, c147, rfl⟩ := hf
          refine Run.val (lt rfl) (Y.move rfl) ?_
          refine Run.buildSlice (l := [(0, .tmp 47)]) Ref04_es38 Ref04_zo5 rfl (by decide) rfl rfl (by decide) (lt rfl) (fun b150 => ?_)
          refine Run.append (n := 1 + 4 + 4 + 4) (m := 1) (xs := (([.int .u8 (m.kind % 256)] ++ ((Msg.be 4 m.life).map byteV)) ++ ((Msg.be 4 m.seen).map byteV)) ++ ((Msg.be 4 m.xid).map byteV)) (ys := [.int .u8 1]) rfl rfl Ref04_es38 Ref04_zi5 (by decide) (j := 1) rfl ho149 (Src.of_rd Ref04_es38 (Rd.one (Kn.at 0 rfl) rfl)) (by omega) (by omega) rfl (lt rfl) (fun v151 s152 ho153 hf => ?_)
          obtain ⟨p151, c151, rfl⟩ := hf
          refine Run.val (lt rfl) (Y.assign rfl) ?_
          refine Run.to_end ?_
          refine Ex.end_block ?_
          refine Ex.go ?_
          refine Tr.seq ?_
          refine Tr.region ?_
          refine Run.val (lt rfl) (Y.move rfl) ?_
          refine Run.val (lt rfl) (Y.assign rfl) ?_
          refine Run.val (lt rfl) (Y.assign rfl) ?_
          refine Run.to_end ?_
          refine Ex.go ?_
          refine Tr.to_ret ?_
          refine Ex.keep [1] ?_
          exact Ex.ret2 rfl rfl rfl  ⟨rfl, _, s152, rfl, rfl, ho153.bytes (by rw [Msg.enc_3 g142, h143]; simp only [List.map_append, List.map_cons, List.map_nil, List.nil_append, List.append_assoc, g142]; rfl)⟩
        · have g143 := h143
          try simp only [kb] at g143
          refine Tr.cond_f rfl h143 ?_
          refine Tr.to_end ?_
          refine Ex.go ?_
          refine Tr.region ?_
          refine Run.val (lt rfl) (Y.move rfl) ?_
          refine Run.val (lt rfl) (Y.fieldAddr rfl Ref04_fo37_3) ?_
          refine Run.val (lt rfl) (Y.load rfl Ref04_ts3 (Kn.at 1 rfl) rfl) ?_
          refine Run.call [] (l := [.tmp 44, .const (.int .i64 4)]) rfl rfl rfl (lt rfl) (number_c (k := 4) (by decide) (by omega)) (fun v154 V2 H2 _ hR => ?_)
          obtain ⟨hV, s155, rfl, ho156⟩ := hR; replace hV := hV.symm; subst hV
          obtain ⟨p154, c154, rfl⟩ := ho156.form
          refine Run.append (n := 1 + 4 + 4) (m := 4) (xs := ([.int .u8 (m.kind % 256)] ++ ((Msg.be 4 m.life).map byteV)) ++ ((Msg.be 4 m.seen).map byteV)) (ys := (Msg.be 4 m.xid).map byteV) rfl rfl Ref04_es38 Ref04_zi5 (by decide) (j := 0) rfl ho113 (Src.of_rd Ref04_es38 (ho156.rd 4 rfl)) (by omega) (by omega) (all_one_bytes _) (lt rfl) (fun v157 s158 ho159 hf => ?_)
          obtain ⟨p157, c157, rfl⟩ := hf
          refine Run.val (lt rfl) (Y.move rfl) ?_
          refine Run.buildSlice (l := [(0, .tmp 47)]) Ref04_es38 Ref04_zo5 rfl (by decide) rfl rfl (by decide) (lt rfl) (fun b160 => ?_)
          refine Run.append (n := 1 + 4 + 4 + 4) (m := 1) (xs := (([.int .u8 (m.kind % 256)] ++ ((Msg.be 4 m.life).map byteV)) ++ ((Msg.be 4 m.seen).map byteV)) ++ ((Msg.be 4 m.xid).map byteV)) (ys := [.int .u8 0]) rfl rfl Ref04_es38 Ref04_zi5 (by decide) (j := 1) rfl ho159 (Src.of_rd Ref04_es38 (Rd.one (Kn.at 0 rfl) rfl)) (by omega) (by omega) rfl (lt rfl) (fun v161 s162 ho163 hf => ?_)
          obtain ⟨p161, c161, rfl⟩ := hf
          refine Run.val (lt rfl) (Y.assign rfl) ?_
          refine Run.to_end ?_
          refine Ex.end_block ?_
          refine Ex.go ?_
          refine Tr.seq ?_
          refine Tr.region ?_
          refine Run.val (lt rfl) (Y.move rfl) ?_
          refine Run.val (lt rfl) (Y.assign rfl) ?_
          refine Run.val (lt rfl) (Y.assign rfl) ?_
          refine Run.to_end ?_
          refine Ex.go ?_
          refine Tr.to_ret ?_
          refine Ex.keep [1] ?_
          exact Ex.ret2 rfl rfl rfl  ⟨rfl, _, s162, rfl, rfl, ho163.bytes (by rw [Msg.enc_3 g142, h143]; simp only [List.map_append, List.map_cons, List.map_nil, List.nil_append, List.append_assoc, g142]; rfl)⟩
      · have g142 := h142
        try simp only [kb] at g142
        refine Tr.cond_f rfl h142 ?_
        refine Tr.seq ?_
        refine Tr.region ?_
        refine Run.val (lt rfl) (Y.int rfl rfl rfl) ?_
        refine Run.val (lt rfl) (Y.assign rfl) ?_
        refine Run.to_end ?_
        refine Ex.go ?_
        rcases Bool.eq_false_or_eq_true (m.kind == 2) with h164 | h164
        · have g164 := h164
          try simp only [kb] at g164
          refine Tr.cond_t rfl h164 ?_
          refine Tr.seq ?_
          refine Tr.region ?_
          refine Run.val (lt rfl) (Y.move rfl) ?_
          refine Run.val (lt rfl) (Y.fieldAddr rfl Ref04_fo37_3) ?_
          refine Run.val (lt rfl) (Y.load rfl Ref04_ts3 (Kn.at 1 rfl) rfl) ?_
          refine Run.call [] (l := [.tmp 54, .const (.int .i64 4)]) rfl rfl rfl (lt rfl) (number_c (k := 4) (by decide) (by omega)) (fun v165 V2 H2 _ hR => ?_)
          obtain ⟨hV, s166, rfl, ho167⟩ := hR; replace hV := hV.symm; subst hV
          obtain ⟨p165, c165, rfl⟩ := ho167.form
          refine Run.append (n := 1 + 4 + 4) (m := 4) (xs := ([.int .u8 (m.kind % 256)] ++ ((Msg.be 4 m.life).map byteV)) ++ ((Msg.be 4 m.seen).map byteV)) (ys := (Msg.be 4 m.xid).map byteV) rfl rfl Ref04_es38 Ref04_zi5 (by decide) (j := 0) rfl ho113 (Src.of_rd Ref04_es38 (ho167.rd 4 rfl)) (by omega) (by omega) (all_one_bytes _) (lt rfl) (fun v168 s169 ho170 hf => ?_)
          obtain ⟨p168, c168, rfl⟩ := hf
          refine Run.val (lt rfl) (Y.assign rfl) ?_
          refine Run.to_end ?_
          refine Ex.go ?_
          refine Tr.seq ?_
          refine Tr.region ?_
          refine Run.val (lt rfl) (Y.move rfl) ?_
          refine Run.val (lt rfl) (Y.fieldAddr rfl Ref04_fo37_5) ?_
          refine Run.val (lt rfl) (Y.load rfl Ref04_ts35 (Kn.at 1 rfl) rfl) ?_
          refine Run.val (lt rfl) (Y.conv (m.addr) rfl Ref04_it35_3 (wrap_i64 (by omega))) ?_
          refine Run.call [] (l := [.tmp 60, .const (.int .i64 4)]) rfl rfl rfl (lt rfl) (number_c (k := 4) (by decide) (by omega)) (fun v171 V2 H2 _ hR => ?_)
          obtain ⟨hV, s172, rfl, ho173⟩ := hR; replace hV := hV.symm; subst hV
          obtain ⟨p171, c171, rfl⟩ := ho173.form
          refine Run.append (n := 1 + 4 + 4 + 4) (m := 4) (xs := (([.int .u8 (m.kind % 256)] ++ ((Msg.be 4 m.life).map byteV)) ++ ((Msg.be 4 m.seen).map byteV)) ++ ((Msg.be 4 m.xid).map byteV)) (ys := (Msg.be 4 m.addr).map byteV) rfl rfl Ref04_es38 Ref04_zi5 (by decide) (j := 0) rfl ho170 (Src.of_rd Ref04_es38 (ho173.rd 5 rfl)) (by omega) (by omega) (all_one_bytes _) (lt rfl) (fun v174 s175 ho176 hf => ?_)
          obtain ⟨p174, c174, rfl⟩ := hf
          refine Run.val (lt rfl) (Y.assign rfl) ?_
          refine Run.to_end ?_
          refine Ex.go ?_
          refine Tr.seq ?_
          refine Tr.region ?_
          refine Run.val (lt rfl) (Y.move rfl) ?_
          refine Run.val (lt rfl) (Y.fieldAddr rfl Ref04_fo37_6) ?_
          refine Run.val (lt rfl) (Y.load rfl Ref04_ts3 (Kn.at 1 rfl) rfl) ?_
          refine Run.val (lt rfl) (Y.conv (m.bind) rfl Ref04_it3_5 (wrap_u8 (by omega))) ?_
          refine Run.buildSlice (l := [(0, .tmp 66)]) Ref04_es38 Ref04_zo5 rfl (by decide) rfl rfl (by decide) (lt rfl) (fun b177 => ?_)
          refine Run.append (n := 1 + 4 + 4 + 4 + 4) (m := 1) (xs := ((([.int .u8 (m.kind % 256)] ++ ((Msg.be 4 m.life).map byteV)) ++ ((Msg.be 4 m.seen).map byteV)) ++ ((Msg.be 4 m.xid).map byteV)) ++ ((Msg.be 4 m.addr).map byteV)) (ys := [.int .u8 m.bind]) rfl rfl Ref04_es38 Ref04_zi5 (by decide) (j := 1) rfl ho176 (Src.of_rd Ref04_es38 (Rd.one (Kn.at 0 rfl) rfl)) (by omega) (by omega) rfl (lt rfl) (fun v178 s179 ho180 hf => ?_)
          obtain ⟨p178, c178, rfl⟩ := hf
          refine Run.val (lt rfl) (Y.assign rfl) ?_
          refine Run.to_end ?_
          refine Ex.go ?_
          refine Tr.seq ?_
          refine Tr.region ?_
          refine Run.val (lt rfl) (Y.move rfl) ?_
          refine Run.val (lt rfl) (Y.fieldAddr rfl Ref04_fo37_8) ?_
          refine Run.val (lt rfl) (Y.load rfl Ref04_ts3 (Kn.at 2 rfl) rfl) ?_
          refine Run.call [] (l := [.tmp 71, .const (.int .i64 6)]) rfl rfl rfl (lt rfl) (number_c (k := 6) (by decide) (by omega)) (fun v181 V2 H2 _ hR => ?_)
          obtain ⟨hV, s182, rfl, ho183⟩ := hR; replace hV := hV.symm; subst hV
          obtain ⟨p181, c181, rfl⟩ := ho183.form
          refine Run.append (n := 1 + 4 + 4 + 4 + 4 + 1) (m := 6) (xs := (((([.int .u8 (m.kind % 256)] ++ ((Msg.be 4 m.life).map byteV)) ++ ((Msg.be 4 m.seen).map byteV)) ++ ((Msg.be 4 m.xid).map byteV)) ++ ((Msg.be 4 m.addr).map byteV)) ++ [.int .u8 m.bind]) (ys := (Msg.be 6 m.pot).map byteV) rfl rfl Ref04_es38 Ref04_zi5 (by decide) (j := 1) rfl ho180 (Src.of_rd Ref04_es38 (ho183.rd 7 rfl)) (by omega) (by omega) (all_one_bytes _) (lt rfl) (fun v184 s185 ho186 hf => ?_)
          obtain ⟨p184, c184, rfl⟩ := hf
          refine Run.val (lt rfl) (Y.assign rfl) ?_
          refine Run.to_end ?_
          refine Ex.go ?_
          refine Tr.seq ?_
          refine Tr.region ?_
          refine Run.val (lt rfl) (Y.move rfl) ?_
          refine Run.val (lt rfl) (Y.fieldAddr rfl Ref04_fo37_9) ?_
          refine Run.val (lt rfl) (Y.load rfl Ref04_ts3 (Kn.at 2 rfl) rfl) ?_
          refine Run.call [] (l := [.tmp 76, .const (.int .i64 6)]) rfl rfl rfl (lt rfl) (number_c (k := 6) (by decide) (by omega)) (fun v187 V2 H2 _ hR => ?_)
          obtain ⟨hV, s188, rfl, ho189⟩ := hR; replace hV := hV.symm; subst hV
          obtain ⟨p187, c187, rfl⟩ := ho189.form
          refine Run.append (n := 1 + 4 + 4 + 4 + 4 + 1 + 6) (m := 6) (xs := ((((([.int .u8 (m.kind % 256)] ++ ((Msg.be 4 m.life).map byteV)) ++ ((Msg.be 4 m.seen).map byteV)) ++ ((Msg.be 4 m.xid).map byteV)) ++ ((Msg.be 4 m.addr).map byteV)) ++ [.int .u8 m.bind]) ++ ((Msg.be 6 m.pot).map byteV)) (ys := (Msg.be 6 m.at_).map byteV) rfl rfl Ref04_es38 Ref04_zi5 (by decide) (j := 1) rfl ho186 (Src.of_rd Ref04_es38 (ho189.rd 8 rfl)) (by omega) (by omega) (all_one_bytes _) (lt rfl) (fun v190 s191 ho192 hf => ?_)
          obtain ⟨p190, c190, rfl⟩ := hf
          refine Run.val (lt rfl) (Y.assign rfl) ?_
          refine Run.to_end ?_
          refine Ex.go ?_
          refine Tr.seq ?_
          refine Tr.region ?_
          refine Run.val (lt rfl) (Y.move rfl) ?_
          refine Run.val (lt rfl) (Y.fieldAddr rfl Ref04_fo37_7) ?_
          refine Run.val (lt rfl) (Y.load rfl Ref04_ts9 (Kn.at 2 rfl) rfl) ?_
          refine Run.val (lt rfl) (Y.lenStr rfl Ref04_st9) ?_
          refine Run.val (lt rfl) (Y.conv ((m.client.size : Int)) rfl Ref04_it3_5 (wrap_u8 (by omega))) ?_
          refine Run.buildSlice (l := [(0, .tmp 83)]) Ref04_es38 Ref04_zo5 rfl (by decide) rfl rfl (by decide) (lt rfl) (fun b193 => ?_)
          refine Run.append (n := 1 + 4 + 4 + 4 + 4 + 1 + 6 + 6) (m := 1) (xs := (((((([.int .u8 (m.kind % 256)] ++ ((Msg.be 4 m.life).map byteV)) ++ ((Msg.be 4 m.seen).map byteV)) ++ ((Msg.be 4 m.xid).map byteV)) ++ ((Msg.be 4 m.addr).map byteV)) ++ [.int .u8 m.bind]) ++ ((Msg.be 6 m.pot).map byteV)) ++ ((Msg.be 6 m.at_).map byteV)) (ys := [.int .u8 (m.client.size : Int)]) rfl rfl Ref04_es38 Ref04_zi5 (by decide) (j := 2) rfl ho192 (Src.of_rd Ref04_es38 (Rd.one (Kn.at 0 rfl) rfl)) (by omega) (by omega) rfl (lt rfl) (fun v194 s195 ho196 hf => ?_)
          obtain ⟨p194, c194, rfl⟩ := hf
          refine Run.val (lt rfl) (Y.assign rfl) ?_
          refine Run.to_end ?_
          refine Ex.go ?_
          refine Tr.region ?_
          refine Run.val (lt rfl) (Y.move rfl) ?_
          refine Run.val (lt rfl) (Y.fieldAddr rfl Ref04_fo37_7) ?_
          refine Run.val (lt rfl) (Y.load rfl Ref04_ts9 (Kn.at 3 rfl) rfl) ?_
          refine Run.append (n := 1 + 4 + 4 + 4 + 4 + 1 + 6 + 6 + 1) (m := m.client.size) (xs := ((((((([.int .u8 (m.kind % 256)] ++ ((Msg.be 4 m.life).map byteV)) ++ ((Msg.be 4 m.seen).map byteV)) ++ ((Msg.be 4 m.xid).map byteV)) ++ ((Msg.be 4 m.addr).map byteV)) ++ [.int .u8 m.bind]) ++ ((Msg.be 6 m.pot).map byteV)) ++ ((Msg.be 6 m.at_).map byteV)) ++ [.int .u8 (m.client.size : Int)]) (ys := m.client.toList.map byteV) rfl rfl Ref04_es38 Ref04_zi5 (by decide) (j := 2) rfl ho196 (Src.of_str m.client Ref04_st9) (by omega) (by omega) (all_one_bytes _) (lt rfl) (fun v197 s198 ho199 hf => ?_)
          obtain ⟨p197, c197, rfl⟩ := hf
          refine Run.val (lt rfl) (Y.assign rfl) ?_
          refine Run.to_end ?_
          refine Ex.end_block ?_
          refine Ex.go ?_
          refine Tr.seq ?_
          refine Tr.region ?_
          refine Run.val (lt rfl) (Y.move rfl) ?_
          refine Run.val (lt rfl) (Y.assign rfl) ?_
          refine Run.val (lt rfl) (Y.assign rfl) ?_
          refine Run.to_end ?_
          refine Ex.go ?_
          refine Tr.to_ret ?_
          refine Ex.keep [2] ?_
          exact Ex.ret2 rfl rfl rfl  ⟨rfl, _, s198, rfl, rfl, ho199.bytes (by rw [Msg.enc_2 g164]; simp only [List.map_append, Msg.be_one (n := m.bind) (by omega), List.map_cons, List.map_nil, List.nil_append, List.append_assoc, byteV_nat (n := m.client.size) (by omega), g164]; rfl)⟩
        · have g164 := h164
          try simp only [kb] at g164
          refine Tr.cond_f rfl h164 ?_
          refine Tr.to_end ?_
          refine Ex.end_block ?_
          refine Ex.go ?_
          refine Tr.seq ?_
          refine Tr.region ?_
          refine Run.val (lt rfl) (Y.move rfl) ?_
          refine Run.val (lt rfl) (Y.assign rfl) ?_
          refine Run.val (lt rfl) (Y.assign rfl) ?_
          refine Run.to_end ?_
          refine Ex.go ?_
          refine Tr.to_ret ?_
          refine Ex.keep [0] ?_
          exact Ex.ret2 rfl rfl rfl  ⟨rfl, _, s112, rfl, rfl, ho113.bytes (by rw [Msg.enc_0 g114 g164 g142]; simp only [List.map_append, List.map_cons, List.map_nil, List.nil_append, List.append_assoc, byteV_of (z := m.kind % 256) (by omega)])⟩

set_option maxHeartbeats 4000000 in
theorem rencode_no {m : Msg} (hr : Msg.right m = false) {V : Vw} : Does Try.prog 21 [.agg #[.int .i64 m.kind, .int .i64 m.life, .int .i64 m.seen, .int .i64 m.xid, .int .i64 m.state, .int .u32 m.addr, .int .i64 m.bind, .string m.client, .int .i64 m.pot, .int .i64 m.at_, .bool m.ok]] V [] (fun v V' H' => v = .tuple #[.slice none 0 0, .int .i64 1] ∧ V' = V ∧ H' = []) := by
  refine Does.intro Try.func21 rfl rfl (le rfl) (fun B => ?_)
  refine Tr.seq ?_
  refine Tr.region ?_
  refine Run.box rfl (lt rfl) (fun b1 => ?_)
  refine Run.val (lt rfl) (Y.assign rfl) ?_
  refine Run.val (lt rfl) (Y.assign rfl) ?_
  refine Run.to_end ?_
  refine Ex.go ?_
  refine Tr.seq ?_
  refine Tr.region ?_
  refine Run.val (lt rfl) (Y.loadAgg rfl Ref04_ag37 (Kn.at 0 rfl) rfl) ?_
  refine Run.call0 (l := [.tmp 7]) rfl rfl rfl (lt rfl) rright_c ?_
  refine Run.val (lt rfl) (Y.assign rfl) ?_
  refine Run.to_end ?_
  refine Ex.go ?_
  refine Tr.seq ?_
  refine Tr.seq ?_
  refine Tr.region ?_
  refine Run.val (lt rfl) (Y.move rfl) ?_
  refine Run.val (lt rfl) (Y.not rfl) ?_
  refine Run.to_end ?_
  refine Ex.go ?_
  refine Tr.cond_t rfl (congrArg Bool.not hr) ?_
  refine Tr.seq ?_
  refine Tr.region ?_
  refine Run.val (lt rfl) (Y.assign rfl) ?_
  refine Run.val (lt rfl) (Y.assign rfl) ?_
  refine Run.to_end ?_
  refine Ex.go ?_
  refine Tr.to_ret ?_
  refine Ex.ret_then ?_
  refine Ex.keep [] ?_
  exact Ex.ret2 rfl rfl rfl  ⟨rfl, rfl, rfl⟩
end Go.Proofs.Ytahgaaomioffhaa
