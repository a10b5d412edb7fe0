/- The laws MessageEncodes, MessageFields, MessageSizes, walked.
Conditions: as each theorem names them. -/
import Derived.Test.YtahgaaomioffhaaProg
import Derived.Test.YtahgaaomioffhaaM2
import Derived.Test.YtahgaaomioffhaaMessage
import Derived.Test.YtahgaaomioffhaaRef04
set_option linter.unusedSimpArgs false
set_option linter.unusedVariables false
set_option maxRecDepth 4000
namespace Go.Proofs.Ytahgaaomioffhaa
open Go Go.K
attribute [local irreducible] Code.wp wpList Calls wpQuiet
theorem Law04_zo37 : zeroOf Try.prog 37 = some (.agg #[.int .i64 0, .int .i64 0, .int .i64 0, .int .i64 0, .int .i64 0, .int .u32 0, .int .i64 0, .string ⟨#[]⟩, .int .i64 0, .int .i64 0, .bool false]) := by kernel_rfl
theorem Law04_pl37 : placesS Try.prog 37 = some [(0, 1), (1, 1), (2, 1), (3, 1), (4, 1), (5, 1), (6, 1), (7, 1), (8, 1), (9, 1), (10, 1)] := by kernel_rfl
theorem Law04_es38 : elemS Try.prog 38 = some (5, 1) := by kernel_rfl
theorem Law04_tg5 : tagOf Try.prog 5 = some (0, .u8) := by kernel_rfl
theorem Law04_st9 : strT Try.prog 9 = true := by kernel_rfl
theorem Law04_fo37_7 : fieldOff Try.prog 37 7 = some 7 := by kernel_rfl
theorem Law04_ts9 : scal Try.prog 9 = true := by kernel_rfl
theorem Law04_ag37 : aggsz Try.prog 37 = some 11 := by kernel_rfl
theorem Law04_mo : Try.prog.follows .mixedOrders = true := by kernel_rfl
theorem Law04_tg4 : tagOf Try.prog 4 = some (1, .i64) := by kernel_rfl
theorem Law04_fo37_0 : fieldOff Try.prog 37 0 = some 0 := by kernel_rfl
theorem Law04_ts3 : scal Try.prog 3 = true := by kernel_rfl
theorem Law04_sz37 : sizeT Try.prog 37 = some 11 := by kernel_rfl
theorem Law04_sz3 : sizeT Try.prog 3 = some 1 := by kernel_rfl
theorem Law04_fo37_1 : fieldOff Try.prog 37 1 = some 1 := by kernel_rfl
theorem Law04_fo37_2 : fieldOff Try.prog 37 2 = some 2 := by kernel_rfl
theorem Law04_tgs37 : tags Try.prog 37 = some [(0, .i64), (0, .i64), (0, .i64), (0, .i64), (0, .i64), (0, .u32), (0, .i64), (2, .i64), (0, .i64), (0, .i64), (1, .i64)] := by kernel_rfl
theorem Law04_zo44 : zeroOf Try.prog 44 = some (.agg #[.int .i64 0, .int .i64 0, .int .i64 0, .int .i64 0, .int .i64 0, .int .i64 0]) := by kernel_rfl
theorem Law04_ea44 : elemA Try.prog 44 = some 1 := by kernel_rfl
theorem Law04_as44 : arrS Try.prog 44 = some 6 := by kernel_rfl
theorem Law04_ts5 : scal Try.prog 5 = true := by kernel_rfl
theorem Law04_it5_3 : intT Try.prog 5 3 = some .i64 := by kernel_rfl

theorem awake_c0  {V : Vw} : Does Try.prog 19 [] V [] (Pv (.bool true) V []) := by
  refine Does.intro Try.func19 rfl rfl (le rfl) (fun B => ?_)
  refine Tr.seq ?_
  refine Tr.region ?_
  refine Run.val (lt rfl) (Y.assign rfl) ?_
  refine Run.to_end ?_
  refine Ex.go ?_
  refine Tr.seq ?_
  refine Tr.region ?_
  refine Run.val (lt rfl) (Y.buildS (l := [(0, .const (.int .i64 1)), (1, .const (.int .i64 1)), (2, .const (.int .i64 2)), (3, .const (.int .i64 4)), (4, .const (.int .i64 3))]) Law04_zo37 Law04_pl37 rfl rfl) ?_
  refine Run.call [] (l := [.tmp 4]) rfl rfl rfl (lt rfl) (encode_yes (m := (⟨1, 1, 2, 4, 3, 0, 0, ⟨#[]⟩, 0, 0, false⟩ : Msg)) (by decide +kernel) (by decide)) (fun v1 V2 H2 _ hR => ?_)
  obtain ⟨hV, x1, s1, rfl, rfl, ho1⟩ := hR; replace hV := hV.symm; subst hV; obtain ⟨p1, c1, rfl⟩ := ho1.form
  refine Run.val (lt rfl) (Y.move rfl) ?_
  refine Run.val (lt rfl) (Y.extract rfl rfl) ?_
  refine Run.val (lt rfl) (Y.extract rfl rfl) ?_
  refine Run.val (lt rfl) (Y.assign rfl) ?_
  refine Run.val (lt rfl) (Y.assign rfl) ?_
  refine Run.to_end ?_
  refine Ex.go ?_
  refine Tr.seq ?_
  refine Tr.region ?_
  refine Run.val (lt rfl) (Y.move rfl) ?_
  refine Run.val (lt rfl) (Y.int (r := .bool true) rfl rfl rfl) ?_
  refine Run.val (lt rfl) (Y.move rfl) ?_
  refine Run.on rfl rfl rfl rfl ?_
  refine Run.val (lt rfl) (Y.move rfl) ?_
  refine Run.on rfl rfl rfl rfl ?_
  refine Run.val (lt rfl) (Y.bytesStr (bs := (Msg.enc (⟨1, 1, 2, 4, 3, 0, 0, ⟨#[]⟩, 0, 0, false⟩ : Msg))) rfl Law04_es38 Law04_tg5 Law04_st9 (ho1.rd 0 rfl)) ?_
  refine Run.on rfl rfl rfl rfl ?_
  refine Run.val (lt rfl) (Y.eqStr_t rfl rfl (by rw [ByteArray.toList_eq, ByteArray.toList_eq]; decide +kernel)) ?_
  refine Run.val (lt rfl) (Y.pick_t rfl rfl rfl) ?_
  refine Run.val (lt rfl) (Y.assign rfl) ?_
  refine Run.to_end ?_
  refine Ex.go ?_
  refine Tr.to_ret ?_
  refine Ex.keep [] ?_
  exact Ex.ret1 rfl rfl  ⟨rfl, rfl, rfl⟩

theorem awake_c {V : Vw} {H : Hp} : Does Try.prog 19 [] V H (Pv (.bool true) V H) := awake_c0.frame

theorem mencodes_yes {m : Msg} (ha : 0 ≤ m.addr ∧ m.addr ≤ 4294967295) (hr : Msg.right m = true) {V : Vw} : Does Try.prog 5 [.agg #[.int .i64 m.kind, .int .i64 m.life, .int .i64 m.seen, .int .i64 m.xid, .int .i64 m.state, .int .u32 m.addr, .int .i64 m.bind, .string m.client, .int .i64 m.pot, .int .i64 m.at_, .bool m.ok]] V [] (Pv (.bool true) V []) := by
  refine Does.intro Try.func5 rfl rfl (le rfl) (fun B => ?_)
  refine Tr.seq ?_
  refine Tr.region ?_
  refine Run.box rfl (lt rfl) (fun b1 => ?_)
  refine Run.val (lt rfl) (Y.assign rfl) ?_
  refine Run.to_end ?_
  refine Ex.go ?_
  refine Tr.seq ?_
  refine Tr.region ?_
  refine Run.call0 (l := []) rfl rfl rfl (lt rfl) awake_c ?_
  refine Run.val (lt rfl) (Y.assign rfl) ?_
  refine Run.to_end ?_
  refine Ex.go ?_
  refine Tr.seq ?_
  refine Tr.seq ?_
  refine Tr.region ?_
  refine Run.val (lt rfl) (Y.move rfl) ?_
  refine Run.val (lt rfl) (Y.not rfl) ?_
  refine Run.val (lt rfl) (Y.move rfl) ?_
  refine Run.on rfl rfl rfl rfl ?_
  refine Run.val (lt rfl) (Y.fieldAddr rfl Law04_fo37_7) ?_
  refine Run.on rfl rfl rfl rfl ?_
  refine Run.val (lt rfl) (Y.load rfl Law04_ts9 (Kn.at 0 rfl) rfl) ?_
  refine Run.on rfl rfl rfl rfl ?_
  refine Run.val (lt rfl) (Y.lenStr rfl Law04_st9) ?_
  refine Run.on rfl rfl rfl rfl ?_
  refine Run.val (lt rfl) (Y.int rfl rfl rfl) ?_
  refine Run.val (lt rfl) (Y.pick_f rfl rfl rfl) ?_
  refine Run.to_end ?_
  refine Ex.go ?_
  rcases Bool.eq_false_or_eq_true (decide ((m.client.size : Int) > 1000)) with h2 | h2
  · have g2 := h2
    try simp only [kb] at g2
    refine Tr.cond_t rfl h2 ?_
    refine Tr.seq ?_
    refine Tr.region ?_
    refine Run.val (lt rfl) (Y.move rfl) ?_
    refine Run.val (lt rfl) (Y.assign rfl) ?_
    refine Run.to_end ?_
    refine Ex.go ?_
    refine Tr.to_ret ?_
    refine Ex.ret_then ?_
    refine Ex.keep [] ?_
    exact Ex.ret1 rfl rfl  ⟨rfl, rfl, rfl⟩
  · have g2 := h2
    try simp only [kb] at g2
    refine Tr.cond_f rfl h2 ?_
    refine Tr.to_end ?_
    refine Ex.go ?_
    refine Tr.seq ?_
    refine Tr.region ?_
    refine Run.val (lt rfl) (Y.loadAgg rfl Law04_ag37 (Kn.at 0 rfl) rfl) ?_
    refine Run.call [] (l := [.tmp 19]) rfl rfl rfl (lt rfl) (encode_yes (m := m) hr ha) (fun v3 V2 H2 _ hR => ?_)
    obtain ⟨hV, x3, s3, rfl, rfl, ho3⟩ := hR; replace hV := hV.symm; subst hV; obtain ⟨p3, c3, rfl⟩ := ho3.form
    refine Run.val (lt rfl) (Y.move rfl) ?_
    refine Run.val (lt rfl) (Y.extract rfl rfl) ?_
    refine Run.val (lt rfl) (Y.extract rfl rfl) ?_
    refine Run.val (lt rfl) (Y.assign rfl) ?_
    refine Run.val (lt rfl) (Y.assign rfl) ?_
    refine Run.to_end ?_
    refine Ex.go ?_
    refine Tr.seq ?_
    refine Tr.region ?_
    refine Run.val (lt rfl) (Y.loadAgg rfl Law04_ag37 (Kn.at 0 rfl) rfl) ?_
    refine Run.call [] (l := [.tmp 24]) rfl rfl rfl (lt rfl) (rencode_yes (m := m) hr ha) (fun v4 V2 H2 _ hR => ?_)
    obtain ⟨hV, x4, s4, rfl, rfl, ho4⟩ := hR; replace hV := hV.symm; subst hV; obtain ⟨p4, c4, rfl⟩ := ho4.form
    refine Run.val (lt rfl) (Y.move rfl) ?_
    refine Run.val (lt rfl) (Y.extract rfl rfl) ?_
    refine Run.val (lt rfl) (Y.extract rfl rfl) ?_
    refine Run.val (lt rfl) (Y.assign rfl) ?_
    refine Run.val (lt rfl) (Y.assign rfl) ?_
    refine Run.to_end ?_
    refine Ex.go ?_
    refine Tr.seq ?_
    refine Tr.quiet Law04_mo (by kernel_rfl) ?_
    refine RunQ.val (lt rfl) (Y.move rfl) ?_
    refine RunQ.val (lt rfl) (Y.bytesStr (bs := (Msg.enc m)) rfl Law04_es38 Law04_tg5 Law04_st9 (ho3.rd 1 rfl)) ?_
    refine RunQ.val (lt rfl) (Y.move rfl) ?_
    refine RunQ.val (lt rfl) (Y.bytesStr (bs := (Msg.enc m)) rfl Law04_es38 Law04_tg5 Law04_st9 (ho4.rd 2 rfl)) ?_
    refine RunQ.val (lt rfl) (Y.eqStr_t rfl rfl rfl) ?_
    refine RunQ.val (lt rfl) (Y.move rfl) ?_
    refine RunQ.on rfl rfl rfl rfl ?_
    refine RunQ.val (lt rfl) (Y.move rfl) ?_
    refine RunQ.on rfl rfl rfl rfl ?_
    refine RunQ.val (lt rfl) (Y.move rfl) ?_
    refine RunQ.on rfl rfl rfl rfl ?_
    refine RunQ.val (lt rfl) (Y.int (r := .bool true) rfl rfl rfl) ?_
    refine RunQ.val (lt rfl) (Y.pick_t rfl rfl rfl) ?_
    refine RunQ.val (lt rfl) (Y.move rfl) ?_
    refine RunQ.on rfl rfl rfl rfl ?_
    refine RunQ.val (lt rfl) (Y.loadAgg rfl Law04_ag37 (Kn.at 0 rfl) rfl) ?_
    refine RunQ.on rfl rfl rfl rfl ?_
    refine RunQ.call0 (l := [.tmp 39]) rfl rfl rfl (lt rfl) (right_c (m := m)) ?_
    refine RunQ.on rfl rfl rfl rfl ?_
    refine RunQ.val (lt rfl) (Y.loadAgg rfl Law04_ag37 (Kn.at 0 rfl) rfl) ?_
    refine RunQ.on rfl rfl rfl rfl ?_
    refine RunQ.call0 (l := [.tmp 41]) rfl rfl rfl (lt rfl) (rright_c (m := m)) ?_
    refine RunQ.on rfl rfl rfl rfl ?_
    refine RunQ.val (lt rfl) (Y.eqB rfl rfl Law04_tg4) ?_
    refine RunQ.val (lt rfl) (Y.pick_t rfl rfl rfl) ?_
    refine RunQ.val (lt rfl) (Y.assign rfl) ?_
    refine RunQ.to_end ?_
    refine Ex.go ?_
    refine Tr.to_ret ?_
    refine Ex.keep [] ?_
    exact Ex.ret1 rfl rfl  ⟨by rw [hr]; rfl, rfl, rfl⟩

theorem mencodes_no {m : Msg} (ha : 0 ≤ m.addr ∧ m.addr ≤ 4294967295) (hr : Msg.right m = false) {V : Vw} : Does Try.prog 5 [.agg #[.int .i64 m.kind, .int .i64 m.life, .int .i64 m.seen, .int .i64 m.xid, .int .i64 m.state, .int .u32 m.addr, .int .i64 m.bind, .string m.client, .int .i64 m.pot, .int .i64 m.at_, .bool m.ok]] V [] (Pv (.bool true) V []) := by
  refine Does.intro Try.func5 rfl rfl (le rfl) (fun B => ?_)
  refine Tr.seq ?_
  refine Tr.region ?_
  refine Run.box rfl (lt rfl) (fun b1 => ?_)
  refine Run.val (lt rfl) (Y.assign rfl) ?_
  refine Run.to_end ?_
  refine Ex.go ?_
  refine Tr.seq ?_
  refine Tr.region ?_
  refine Run.call0 (l := []) rfl rfl rfl (lt rfl) awake_c ?_
  refine Run.val (lt rfl) (Y.assign rfl) ?_
  refine Run.to_end ?_
  refine Ex.go ?_
  refine Tr.seq ?_
  refine Tr.seq ?_
  refine Tr.region ?_
  refine Run.val (lt rfl) (Y.move rfl) ?_
  refine Run.val (lt rfl) (Y.not rfl) ?_
  refine Run.val (lt rfl) (Y.move rfl) ?_
  refine Run.on rfl rfl rfl rfl ?_
  refine Run.val (lt rfl) (Y.fieldAddr rfl Law04_fo37_7) ?_
  refine Run.on rfl rfl rfl rfl ?_
  refine Run.val (lt rfl) (Y.load rfl Law04_ts9 (Kn.at 0 rfl) rfl) ?_
  refine Run.on rfl rfl rfl rfl ?_
  refine Run.val (lt rfl) (Y.lenStr rfl Law04_st9) ?_
  refine Run.on rfl rfl rfl rfl ?_
  refine Run.val (lt rfl) (Y.int rfl rfl rfl) ?_
  refine Run.val (lt rfl) (Y.pick_f rfl rfl rfl) ?_
  refine Run.to_end ?_
  refine Ex.go ?_
  rcases Bool.eq_false_or_eq_true (decide ((m.client.size : Int) > 1000)) with h2 | h2
  · have g2 := h2
    try simp only [kb] at g2
    refine Tr.cond_t rfl h2 ?_
    refine Tr.seq ?_
    refine Tr.region ?_
    refine Run.val (lt rfl) (Y.move rfl) ?_
    refine Run.val (lt rfl) (Y.assign rfl) ?_
    refine Run.to_end ?_
    refine Ex.go ?_
    refine Tr.to_ret ?_
    refine Ex.ret_then ?_
    refine Ex.keep [] ?_
    exact Ex.ret1 rfl rfl  ⟨rfl, rfl, rfl⟩
  · have g2 := h2
    try simp only [kb] at g2
    refine Tr.cond_f rfl h2 ?_
    refine Tr.to_end ?_
    refine Ex.go ?_
    refine Tr.seq ?_
    refine Tr.region ?_
    refine Run.val (lt rfl) (Y.loadAgg rfl Law04_ag37 (Kn.at 0 rfl) rfl) ?_
    refine Run.call [] (l := [.tmp 19]) rfl rfl rfl (lt rfl) (encode_no (m := m) hr) (fun v3 V2 H2 _ hR => ?_)
    obtain ⟨rfl, hV, rfl⟩ := hR; replace hV := hV.symm; subst hV
    refine Run.val (lt rfl) (Y.move rfl) ?_
    refine Run.val (lt rfl) (Y.extract rfl rfl) ?_
    refine Run.val (lt rfl) (Y.extract rfl rfl) ?_
    refine Run.val (lt rfl) (Y.assign rfl) ?_
    refine Run.val (lt rfl) (Y.assign rfl) ?_
    refine Run.to_end ?_
    refine Ex.go ?_
    refine Tr.seq ?_
    refine Tr.region ?_
    refine Run.val (lt rfl) (Y.loadAgg rfl Law04_ag37 (Kn.at 0 rfl) rfl) ?_
    refine Run.call [] (l := [.tmp 24]) rfl rfl rfl (lt rfl) (rencode_no (m := m) hr) (fun v4 V2 H2 _ hR => ?_)
    obtain ⟨rfl, hV, rfl⟩ := hR; replace hV := hV.symm; subst hV
    refine Run.val (lt rfl) (Y.move rfl) ?_
    refine Run.val (lt rfl) (Y.extract rfl rfl) ?_
    refine Run.val (lt rfl) (Y.extract rfl rfl) ?_
    refine Run.val (lt rfl) (Y.assign rfl) ?_
    refine Run.val (lt rfl) (Y.assign rfl) ?_
    refine Run.to_end ?_
    refine Ex.go ?_
    refine Tr.seq ?_
    refine Tr.quiet Law04_mo (by kernel_rfl) ?_
    refine RunQ.val (lt rfl) (Y.move rfl) ?_
    refine RunQ.val (lt rfl) (Y.bytesStr (bs := []) rfl Law04_es38 Law04_tg5 Law04_st9 (Rd.nil _ _ _)) ?_
    refine RunQ.val (lt rfl) (Y.move rfl) ?_
    refine RunQ.val (lt rfl) (Y.bytesStr (bs := []) rfl Law04_es38 Law04_tg5 Law04_st9 (Rd.nil _ _ _)) ?_
    refine RunQ.val (lt rfl) (Y.eqStr_t rfl rfl rfl) ?_
    refine RunQ.val (lt rfl) (Y.move rfl) ?_
    refine RunQ.on rfl rfl rfl rfl ?_
    refine RunQ.val (lt rfl) (Y.move rfl) ?_
    refine RunQ.on rfl rfl rfl rfl ?_
    refine RunQ.val (lt rfl) (Y.move rfl) ?_
    refine RunQ.on rfl rfl rfl rfl ?_
    refine RunQ.val (lt rfl) (Y.int (r := .bool true) rfl rfl rfl) ?_
    refine RunQ.val (lt rfl) (Y.pick_t rfl rfl rfl) ?_
    refine RunQ.val (lt rfl) (Y.move rfl) ?_
    refine RunQ.on rfl rfl rfl rfl ?_
    refine RunQ.val (lt rfl) (Y.loadAgg rfl Law04_ag37 (Kn.at 0 rfl) rfl) ?_
    refine RunQ.on rfl rfl rfl rfl ?_
    refine RunQ.call0 (l := [.tmp 39]) rfl rfl rfl (lt rfl) (right_c (m := m)) ?_
    refine RunQ.on rfl rfl rfl rfl ?_
    refine RunQ.val (lt rfl) (Y.loadAgg rfl Law04_ag37 (Kn.at 0 rfl) rfl) ?_
    refine RunQ.on rfl rfl rfl rfl ?_
    refine RunQ.call0 (l := [.tmp 41]) rfl rfl rfl (lt rfl) (rright_c (m := m)) ?_
    refine RunQ.on rfl rfl rfl rfl ?_
    refine RunQ.val (lt rfl) (Y.eqB rfl rfl Law04_tg4) ?_
    refine RunQ.val (lt rfl) (Y.pick_t rfl rfl rfl) ?_
    refine RunQ.val (lt rfl) (Y.assign rfl) ?_
    refine RunQ.to_end ?_
    refine Ex.go ?_
    refine Tr.to_ret ?_
    refine Ex.keep [] ?_
    exact Ex.ret1 rfl rfl  ⟨by rw [hr]; rfl, rfl, rfl⟩

theorem mencodes_c {m : Msg} (ha : 0 ≤ m.addr ∧ m.addr ≤ 4294967295) {V : Vw} : Does Try.prog 5 [.agg m.cells] V [] (Pv (.bool true) V []) := by
  cases hr : Msg.right m with
  | true => exact mencodes_yes ha hr
  | false => exact mencodes_no ha hr

theorem mfields_c {m : Msg} {k : Int} {V : Vw} : Does Try.prog 6 [.agg #[.int .i64 m.kind, .int .i64 m.life, .int .i64 m.seen, .int .i64 m.xid, .int .i64 m.state, .int .u32 m.addr, .int .i64 m.bind, .string m.client, .int .i64 m.pot, .int .i64 m.at_, .bool m.ok], .int .i64 k] V [] (Pv (.bool true) V []) := by
  refine Does.intro Try.func6 rfl rfl (le rfl) (fun B => ?_)
  refine Tr.seq ?_
  refine Tr.region ?_
  refine Run.box rfl (lt rfl) (fun b1 => ?_)
  refine Run.val (lt rfl) (Y.assign rfl) ?_
  refine Run.to_end ?_
  refine Ex.go ?_
  refine Tr.seq ?_
  refine Tr.region ?_
  refine Run.call0 (l := []) rfl rfl rfl (lt rfl) awake_c ?_
  refine Run.val (lt rfl) (Y.assign rfl) ?_
  refine Run.to_end ?_
  refine Ex.go ?_
  refine Tr.seq ?_
  refine Tr.seq ?_
  refine Tr.region ?_
  refine Run.val (lt rfl) (Y.move rfl) ?_
  refine Run.val (lt rfl) (Y.not rfl) ?_
  refine Run.val (lt rfl) (Y.move rfl) ?_
  refine Run.on rfl rfl rfl rfl ?_
  refine Run.val (lt rfl) (Y.fieldAddr rfl Law04_fo37_7) ?_
  refine Run.on rfl rfl rfl rfl ?_
  refine Run.val (lt rfl) (Y.load rfl Law04_ts9 (Kn.at 0 rfl) rfl) ?_
  refine Run.on rfl rfl rfl rfl ?_
  refine Run.val (lt rfl) (Y.lenStr rfl Law04_st9) ?_
  refine Run.on rfl rfl rfl rfl ?_
  refine Run.val (lt rfl) (Y.int rfl rfl rfl) ?_
  refine Run.val (lt rfl) (Y.pick_f rfl rfl rfl) ?_
  refine Run.val (lt rfl) (Y.move rfl) ?_
  rcases Bool.eq_false_or_eq_true (decide ((m.client.size : Int) > 1000)) with h2 | h2
  · have g2 := h2
    try simp only [kb] at g2
    refine Run.off rfl rfl rfl h2 rfl (lt rfl) ?_
    refine Run.off rfl rfl rfl h2 rfl (lt rfl) ?_
    refine Run.off rfl rfl rfl h2 rfl (lt rfl) ?_
    refine Run.val (lt rfl) (Y.pick_t rfl h2 rfl) ?_
    refine Run.val (lt rfl) (Y.move rfl) ?_
    refine Run.off rfl rfl rfl rfl rfl (lt rfl) ?_
    refine Run.off rfl rfl rfl rfl rfl (lt rfl) ?_
    refine Run.off rfl rfl rfl rfl rfl (lt rfl) ?_
    refine Run.off rfl rfl rfl rfl rfl (lt rfl) ?_
    refine Run.val (lt rfl) (Y.pick_t rfl rfl rfl) ?_
    refine Run.to_end ?_
    refine Ex.go ?_
    refine Tr.cond_t rfl rfl ?_
    refine Tr.seq ?_
    refine Tr.region ?_
    refine Run.val (lt rfl) (Y.move rfl) ?_
    refine Run.val (lt rfl) (Y.assign rfl) ?_
    refine Run.to_end ?_
    refine Ex.go ?_
    refine Tr.to_ret ?_
    refine Ex.ret_then ?_
    refine Ex.keep [] ?_
    exact Ex.ret1 rfl rfl  ⟨rfl, rfl, rfl⟩
  · have g2 := h2
    try simp only [kb] at g2
    refine Run.on rfl rfl rfl h2 ?_
    refine Run.val (lt rfl) (Y.loadAgg rfl Law04_ag37 (Kn.at 0 rfl) rfl) ?_
    refine Run.on rfl rfl rfl h2 ?_
    refine Run.call0 (l := [.tmp 18]) rfl rfl rfl (lt rfl) (right_c (m := m)) ?_
    refine Run.on rfl rfl rfl h2 ?_
    refine Run.val (lt rfl) (Y.not rfl) ?_
    refine Run.val (lt rfl) (Y.pick_f rfl h2 rfl) ?_
    refine Run.val (lt rfl) (Y.move rfl) ?_
    rcases Bool.eq_false_or_eq_true (Msg.right m) with h3 | h3
    · have g3 := h3
      try simp only [kb] at g3
      refine Run.on rfl rfl rfl (by rw [h3]; try rfl) ?_
      refine Run.val (lt rfl) (Y.move rfl) ?_
      refine Run.on rfl rfl rfl (by rw [h3]; try rfl) ?_
      refine Run.val (lt rfl) (Y.fieldAddr rfl Law04_fo37_0) ?_
      refine Run.on rfl rfl rfl (by rw [h3]; try rfl) ?_
      refine Run.val (lt rfl) (Y.load rfl Law04_ts3 (Kn.at 0 rfl) rfl) ?_
      refine Run.on rfl rfl rfl (by rw [h3]; try rfl) ?_
      refine Run.val (lt rfl) (Y.int rfl rfl rfl) ?_
      refine Run.val (lt rfl) (Y.pick_f rfl (by rw [h3]; try rfl) rfl) ?_
      refine Run.to_end ?_
      refine Ex.go ?_
      rcases Bool.eq_false_or_eq_true (k == m.kind) with h4 | h4
      · have g4 := h4
        try simp only [kb] at g4
        refine Tr.cond_t rfl h4 ?_
        refine Tr.seq ?_
        refine Tr.region ?_
        refine Run.val (lt rfl) (Y.move rfl) ?_
        refine Run.val (lt rfl) (Y.assign rfl) ?_
        refine Run.to_end ?_
        refine Ex.go ?_
        refine Tr.to_ret ?_
        refine Ex.ret_then ?_
        refine Ex.keep [] ?_
        exact Ex.ret1 rfl rfl  ⟨rfl, rfl, rfl⟩
      · have g4 := h4
        try simp only [kb] at g4
        refine Tr.cond_f rfl h4 ?_
        refine Tr.to_end ?_
        refine Ex.go ?_
        refine Tr.seq ?_
        refine Tr.region ?_
        refine Run.val (lt rfl) (Y.loadAgg rfl Law04_ag37 (Kn.at 0 rfl) rfl) ?_
        refine Run.alloc Law04_zo37 (lt rfl) (fun b5 => ?_)
        refine Run.store (s := [(b5, .cells #[.int .i64 m.kind, .int .i64 m.life, .int .i64 m.seen, .int .i64 m.xid, .int .i64 m.state, .int .u32 m.addr, .int .i64 m.bind, .string m.client, .int .i64 m.pot, .int .i64 m.at_, .bool m.ok] 37 (0, 0))]) rfl rfl Law04_sz37 (i := 0) rfl rfl (le rfl) rfl rfl ?_
        refine Run.to_end ?_
        refine Ex.go ?_
        refine Tr.seq ?_
        refine Tr.region ?_
        refine Run.val (lt rfl) (Y.move rfl) ?_
        refine Run.val (lt rfl) (Y.fieldAddr rfl Law04_fo37_0) ?_
        refine Run.store (s := [(b5, .cells #[.int .i64 k, .int .i64 m.life, .int .i64 m.seen, .int .i64 m.xid, .int .i64 m.state, .int .u32 m.addr, .int .i64 m.bind, .string m.client, .int .i64 m.pot, .int .i64 m.at_, .bool m.ok] 37 (0, 0))]) rfl rfl Law04_sz3 (i := 0) rfl rfl (le rfl) rfl rfl ?_
        refine Run.to_end ?_
        refine Ex.go ?_
        refine Tr.seq ?_
        refine Tr.region ?_
        refine Run.val (lt rfl) (Y.move rfl) ?_
        refine Run.val (lt rfl) (Y.fieldAddr rfl Law04_fo37_1) ?_
        refine Run.val (lt rfl) (Y.load rfl Law04_ts3 (Kn.at 1 rfl) rfl) ?_
        refine Run.val (lt rfl) (Y.fieldAddr rfl Law04_fo37_2) ?_
        refine Run.val (lt rfl) (Y.load rfl Law04_ts3 (Kn.at 1 rfl) rfl) ?_
        refine Run.val (lt rfl) (Y.buildS (l := [(0, .tmp 32), (1, .tmp 34), (2, .tmp 36)]) Law04_zo37 Law04_pl37 rfl rfl) ?_
        refine Run.alloc Law04_zo37 (lt rfl) (fun b6 => ?_)
        refine Run.store (s := [(b6, .cells #[.int .i64 k, .int .i64 m.life, .int .i64 m.seen, .int .i64 0, .int .i64 0, .int .u32 0, .int .i64 0, .string ⟨#[]⟩, .int .i64 0, .int .i64 0, .bool false] 37 (0, 0))]) rfl rfl Law04_sz37 (i := 0) rfl rfl (le rfl) rfl rfl ?_
        refine Run.to_end ?_
        refine Ex.go ?_
        refine Tr.seq ?_
        refine Tr.seq ?_
        refine Tr.region ?_
        refine Run.val (lt rfl) (Y.move rfl) ?_
        refine Run.val (lt rfl) (Y.int rfl rfl rfl) ?_
        refine Run.val (lt rfl) (Y.move rfl) ?_
        rcases Bool.eq_false_or_eq_true (k == 4) with h7 | h7
        · have g7 := h7
          try simp only [kb] at g7
          refine Run.off rfl rfl rfl h7 rfl (lt rfl) ?_
          refine Run.off rfl rfl rfl h7 rfl (lt rfl) ?_
          refine Run.val (lt rfl) (Y.pick_t rfl h7 rfl) ?_
          refine Run.to_end ?_
          refine Ex.go ?_
          refine Tr.cond_t rfl rfl ?_
          refine Tr.seq ?_
          refine Tr.quiet Law04_mo (by kernel_rfl) ?_
          refine RunQ.val (lt rfl) (Y.loadAgg rfl Law04_ag37 (Kn.at 1 rfl) rfl) ?_
          refine RunQ.call0 (l := [.tmp 44]) rfl rfl rfl (lt rfl) (right_c (m := (⟨k, m.life, m.seen, m.xid, m.state, m.addr, m.bind, m.client, m.pot, m.at_, m.ok⟩ : Msg))) ?_
          refine RunQ.val (lt rfl) (Y.loadAgg rfl Law04_ag37 (Kn.at 1 rfl) rfl) ?_
          refine RunQ.val (lt rfl) (Y.loadAgg rfl Law04_ag37 (Kn.at 0 rfl) rfl) ?_
          refine RunQ.val (lt rfl) (Y.eqS rfl rfl Law04_tgs37 rfl rfl) ?_
          refine RunQ.val (lt rfl) (Y.eqB rfl rfl Law04_tg4) ?_
          refine RunQ.val (lt rfl) (Y.assign rfl) ?_
          refine RunQ.to_end ?_
          refine Ex.go ?_
          refine Tr.to_ret ?_
          refine Ex.ret_then ?_
          refine Ex.keep [] ?_
          exact Ex.ret1 rfl rfl  ⟨by rw [Msg.right_other h3 (by omega)]; exact congrArg Value.bool (beq_self_eq_true (Msg.same _ _)), rfl, rfl⟩
        · have g7 := h7
          try simp only [kb] at g7
          refine Run.on rfl rfl rfl h7 ?_
          refine Run.val (lt rfl) (Y.move rfl) ?_
          refine Run.on rfl rfl rfl h7 ?_
          refine Run.val (lt rfl) (Y.int rfl rfl rfl) ?_
          refine Run.val (lt rfl) (Y.pick_f rfl h7 rfl) ?_
          refine Run.to_end ?_
          refine Ex.go ?_
          rcases Bool.eq_false_or_eq_true (k == 5) with h8 | h8
          · have g8 := h8
            try simp only [kb] at g8
            refine Tr.cond_t rfl h8 ?_
            refine Tr.seq ?_
            refine Tr.quiet Law04_mo (by kernel_rfl) ?_
            refine RunQ.val (lt rfl) (Y.loadAgg rfl Law04_ag37 (Kn.at 1 rfl) rfl) ?_
            refine RunQ.call0 (l := [.tmp 44]) rfl rfl rfl (lt rfl) (right_c (m := (⟨k, m.life, m.seen, m.xid, m.state, m.addr, m.bind, m.client, m.pot, m.at_, m.ok⟩ : Msg))) ?_
            refine RunQ.val (lt rfl) (Y.loadAgg rfl Law04_ag37 (Kn.at 1 rfl) rfl) ?_
            refine RunQ.val (lt rfl) (Y.loadAgg rfl Law04_ag37 (Kn.at 0 rfl) rfl) ?_
            refine RunQ.val (lt rfl) (Y.eqS rfl rfl Law04_tgs37 rfl rfl) ?_
            refine RunQ.val (lt rfl) (Y.eqB rfl rfl Law04_tg4) ?_
            refine RunQ.val (lt rfl) (Y.assign rfl) ?_
            refine RunQ.to_end ?_
            refine Ex.go ?_
            refine Tr.to_ret ?_
            refine Ex.ret_then ?_
            refine Ex.keep [] ?_
            exact Ex.ret1 rfl rfl  ⟨by rw [Msg.right_other h3 (by omega)]; exact congrArg Value.bool (beq_self_eq_true (Msg.same _ _)), rfl, rfl⟩
          · have g8 := h8
            try simp only [kb] at g8
            refine Tr.cond_f rfl h8 ?_
            refine Tr.to_end ?_
            refine Ex.go ?_
            refine Tr.seq ?_
            refine Tr.seq ?_
            refine Tr.region ?_
            refine Run.val (lt rfl) (Y.move rfl) ?_
            refine Run.val (lt rfl) (Y.int rfl rfl rfl) ?_
            refine Run.val (lt rfl) (Y.move rfl) ?_
            rcases Bool.eq_false_or_eq_true (decide (k < 1)) with h9 | h9
            · have g9 := h9
              try simp only [kb] at g9
              refine Run.off rfl rfl rfl h9 rfl (lt rfl) ?_
              refine Run.off rfl rfl rfl h9 rfl (lt rfl) ?_
              refine Run.val (lt rfl) (Y.pick_t rfl h9 rfl) ?_
              refine Run.to_end ?_
              refine Ex.go ?_
              refine Tr.cond_t rfl rfl ?_
              refine Tr.seq ?_
              refine Tr.region ?_
              refine Run.val (lt rfl) (Y.loadAgg rfl Law04_ag37 (Kn.at 1 rfl) rfl) ?_
              refine Run.call0 (l := [.tmp 56]) rfl rfl rfl (lt rfl) (right_c (m := (⟨k, m.life, m.seen, m.xid, m.state, m.addr, m.bind, m.client, m.pot, m.at_, m.ok⟩ : Msg))) ?_
              refine Run.val (lt rfl) (Y.not rfl) ?_
              refine Run.val (lt rfl) (Y.assign rfl) ?_
              refine Run.to_end ?_
              refine Ex.go ?_
              refine Tr.to_ret ?_
              refine Ex.ret_then ?_
              refine Ex.keep [] ?_
              exact Ex.ret1 rfl rfl  ⟨by rw [Msg.right_bad (by first | (left; show k < 1; omega) | (right; show 5 < k; omega))]; rfl, rfl, rfl⟩
            · have g9 := h9
              try simp only [kb] at g9
              refine Run.on rfl rfl rfl h9 ?_
              refine Run.val (lt rfl) (Y.move rfl) ?_
              refine Run.on rfl rfl rfl h9 ?_
              refine Run.val (lt rfl) (Y.int rfl rfl rfl) ?_
              refine Run.val (lt rfl) (Y.pick_f rfl h9 rfl) ?_
              refine Run.to_end ?_
              refine Ex.go ?_
              rcases Bool.eq_false_or_eq_true (decide (k > 5)) with h10 | h10
              · have g10 := h10
                try simp only [kb] at g10
                refine Tr.cond_t rfl h10 ?_
                refine Tr.seq ?_
                refine Tr.region ?_
                refine Run.val (lt rfl) (Y.loadAgg rfl Law04_ag37 (Kn.at 1 rfl) rfl) ?_
                refine Run.call0 (l := [.tmp 56]) rfl rfl rfl (lt rfl) (right_c (m := (⟨k, m.life, m.seen, m.xid, m.state, m.addr, m.bind, m.client, m.pot, m.at_, m.ok⟩ : Msg))) ?_
                refine Run.val (lt rfl) (Y.not rfl) ?_
                refine Run.val (lt rfl) (Y.assign rfl) ?_
                refine Run.to_end ?_
                refine Ex.go ?_
                refine Tr.to_ret ?_
                refine Ex.ret_then ?_
                refine Ex.keep [] ?_
                exact Ex.ret1 rfl rfl  ⟨by rw [Msg.right_bad (by first | (left; show k < 1; omega) | (right; show 5 < k; omega))]; rfl, rfl, rfl⟩
              · have g10 := h10
                try simp only [kb] at g10
                refine Tr.cond_f rfl h10 ?_
                refine Tr.to_end ?_
                refine Ex.go ?_
                refine Tr.seq ?_
                refine Tr.quiet Law04_mo (by kernel_rfl) ?_
                refine RunQ.val (lt rfl) (Y.loadAgg rfl Law04_ag37 (Kn.at 1 rfl) rfl) ?_
                refine RunQ.call0 (l := [.tmp 59]) rfl rfl rfl (lt rfl) (right_c (m := (⟨k, m.life, m.seen, m.xid, m.state, m.addr, m.bind, m.client, m.pot, m.at_, m.ok⟩ : Msg))) ?_
                refine RunQ.val (lt rfl) (Y.loadAgg rfl Law04_ag37 (Kn.at 1 rfl) rfl) ?_
                refine RunQ.call0 (l := [.tmp 61]) rfl rfl rfl (lt rfl) (rright_c (m := (⟨k, m.life, m.seen, m.xid, m.state, m.addr, m.bind, m.client, m.pot, m.at_, m.ok⟩ : Msg))) ?_
                refine RunQ.val (lt rfl) (Y.eqB rfl rfl Law04_tg4) ?_
                refine RunQ.val (lt rfl) (Y.assign rfl) ?_
                refine RunQ.to_end ?_
                refine Ex.go ?_
                refine Tr.to_ret ?_
                refine Ex.keep [] ?_
                exact Ex.ret1 rfl rfl  ⟨by simp, rfl, rfl⟩
    · have g3 := h3
      try simp only [kb] at g3
      refine Run.off rfl rfl rfl (by rw [h3]; try rfl) rfl (lt rfl) ?_
      refine Run.off rfl rfl rfl (by rw [h3]; try rfl) rfl (lt rfl) ?_
      refine Run.off rfl rfl rfl (by rw [h3]; try rfl) rfl (lt rfl) ?_
      refine Run.off rfl rfl rfl (by rw [h3]; try rfl) rfl (lt rfl) ?_
      refine Run.val (lt rfl) (Y.pick_t rfl (by rw [h3]; try rfl) rfl) ?_
      refine Run.to_end ?_
      refine Ex.go ?_
      refine Tr.cond_t rfl rfl ?_
      refine Tr.seq ?_
      refine Tr.region ?_
      refine Run.val (lt rfl) (Y.move rfl) ?_
      refine Run.val (lt rfl) (Y.assign rfl) ?_
      refine Run.to_end ?_
      refine Ex.go ?_
      refine Tr.to_ret ?_
      refine Ex.ret_then ?_
      refine Ex.keep [] ?_
      exact Ex.ret1 rfl rfl  ⟨rfl, rfl, rfl⟩

theorem msizes_yes {m : Msg} (ha : 0 ≤ m.addr ∧ m.addr ≤ 4294967295) (hr : Msg.right m = true) {V : Vw} : Does Try.prog 7 [.agg #[.int .i64 m.kind, .int .i64 m.life, .int .i64 m.seen, .int .i64 m.xid, .int .i64 m.state, .int .u32 m.addr, .int .i64 m.bind, .string m.client, .int .i64 m.pot, .int .i64 m.at_, .bool m.ok]] V [] (Pv (.bool true) V []) := by
  have hb := Msg.right_bounds hr
  refine Does.intro Try.func7 rfl rfl (le rfl) (fun B => ?_)
  refine Tr.seq ?_
  refine Tr.region ?_
  refine Run.box rfl (lt rfl) (fun b1 => ?_)
  refine Run.val (lt rfl) (Y.assign rfl) ?_
  refine Run.to_end ?_
  refine Ex.go ?_
  refine Tr.seq ?_
  refine Tr.region ?_
  refine Run.call0 (l := []) rfl rfl rfl (lt rfl) awake_c ?_
  refine Run.val (lt rfl) (Y.assign rfl) ?_
  refine Run.to_end ?_
  refine Ex.go ?_
  refine Tr.seq ?_
  refine Tr.seq ?_
  refine Tr.region ?_
  refine Run.val (lt rfl) (Y.move rfl) ?_
  refine Run.val (lt rfl) (Y.not rfl) ?_
  refine Run.val (lt rfl) (Y.move rfl) ?_
  refine Run.on rfl rfl rfl rfl ?_
  refine Run.val (lt rfl) (Y.fieldAddr rfl Law04_fo37_7) ?_
  refine Run.on rfl rfl rfl rfl ?_
  refine Run.val (lt rfl) (Y.load rfl Law04_ts9 (Kn.at 0 rfl) rfl) ?_
  refine Run.on rfl rfl rfl rfl ?_
  refine Run.val (lt rfl) (Y.lenStr rfl Law04_st9) ?_
  refine Run.on rfl rfl rfl rfl ?_
  refine Run.val (lt rfl) (Y.int rfl rfl rfl) ?_
  refine Run.val (lt rfl) (Y.pick_f rfl rfl rfl) ?_
  refine Run.to_end ?_
  refine Ex.go ?_
  rcases Bool.eq_false_or_eq_true (decide ((m.client.size : Int) > 1000)) with h2 | h2
  · have g2 := h2
    try simp only [kb] at g2
    refine Tr.cond_t rfl h2 ?_
    refine Tr.seq ?_
    refine Tr.region ?_
    refine Run.val (lt rfl) (Y.move rfl) ?_
    refine Run.val (lt rfl) (Y.assign rfl) ?_
    refine Run.to_end ?_
    refine Ex.go ?_
    refine Tr.to_ret ?_
    refine Ex.ret_then ?_
    refine Ex.keep [] ?_
    exact Ex.ret1 rfl rfl  ⟨rfl, rfl, rfl⟩
  · have g2 := h2
    try simp only [kb] at g2
    refine Tr.cond_f rfl h2 ?_
    refine Tr.to_end ?_
    refine Ex.go ?_
    refine Tr.seq ?_
    refine Tr.region ?_
    refine Run.val (lt rfl) (Y.loadAgg rfl Law04_ag37 (Kn.at 0 rfl) rfl) ?_
    refine Run.call [] (l := [.tmp 18]) rfl rfl rfl (lt rfl) (encode_yes (m := m) hr ha) (fun v3 V2 H2 _ hR => ?_)
    obtain ⟨hV, x3, s3, rfl, rfl, ho3⟩ := hR; replace hV := hV.symm; subst hV; obtain ⟨p3, c3, rfl⟩ := ho3.form
    refine Run.val (lt rfl) (Y.move rfl) ?_
    refine Run.val (lt rfl) (Y.extract rfl rfl) ?_
    refine Run.val (lt rfl) (Y.extract rfl rfl) ?_
    refine Run.val (lt rfl) (Y.assign rfl) ?_
    refine Run.val (lt rfl) (Y.assign rfl) ?_
    refine Run.to_end ?_
    refine Ex.go ?_
    refine Tr.seq ?_
    refine Tr.seq ?_
    refine Tr.region ?_
    refine Run.val (lt rfl) (Y.move rfl) ?_
    refine Run.val (lt rfl) (Y.int (r := .bool false) rfl rfl rfl) ?_
    refine Run.to_end ?_
    refine Ex.go ?_
    refine Tr.cond_f rfl rfl ?_
    refine Tr.to_end ?_
    refine Ex.go ?_
    refine Tr.seq ?_
    refine Tr.region ?_
    refine Run.val (lt rfl) (Y.fieldAddr rfl Law04_fo37_7) ?_
    refine Run.val (lt rfl) (Y.load rfl Law04_ts9 (Kn.at 0 rfl) rfl) ?_
    refine Run.val (lt rfl) (Y.lenStr rfl Law04_st9) ?_
    refine Run.val (lt rfl) (Y.add rfl rfl (by omega)) ?_
    refine Run.val (lt rfl) (Y.buildA (l := [(0, .const (.int .i64 0)), (1, .const (.int .i64 14)), (2, .tmp 30), (3, .const (.int .i64 14)), (4, .const (.int .i64 9)), (5, .const (.int .i64 9))]) Law04_zo44 Law04_ea44 rfl rfl) ?_
    refine Run.val (lt rfl) (Y.fieldAddr rfl Law04_fo37_0) ?_
    refine Run.val (lt rfl) (Y.load rfl Law04_ts3 (Kn.at 0 rfl) rfl) ?_
    refine Run.val (lt rfl) (Y.idxAgg rfl rfl Law04_as44 (by omega) (by omega) (Msg.size_at hr)) ?_
    refine Run.val (lt rfl) (Y.assign rfl) ?_
    refine Run.to_end ?_
    refine Ex.go ?_
    refine Tr.seq ?_
    refine Tr.quiet Law04_mo (by kernel_rfl) ?_
    refine RunQ.val (lt rfl) (Y.move rfl) ?_
    refine RunQ.val (lt rfl) (Y.lenSl rfl Law04_es38) ?_
    refine RunQ.val (lt rfl) (Y.move rfl) ?_
    refine RunQ.val (lt rfl) (Y.int (r := .bool true) rfl rfl (by simp [intRes])) ?_
    refine RunQ.val (lt rfl) (Y.move rfl) ?_
    refine RunQ.on rfl rfl rfl rfl ?_
    refine RunQ.val (lt rfl) (Y.move rfl) ?_
    obtain ⟨b, off, c2, cs, e, fz, hv, hc, hk, hcs⟩ := (ho3.rd 1 rfl : Rd V [[(b1, .cells #[.int .i64 m.kind, .int .i64 m.life, .int .i64 m.seen, .int .i64 m.xid, .int .i64 m.state, .int .u32 m.addr, .int .i64 m.bind, .string m.client, .int .i64 m.pot, .int .i64 m.at_, .bool m.ok] 37 (0, 0))], s3] 1 _ _ _).opened (Msg.enc_pos hr)
    obtain ⟨rfl, rfl⟩ : p3 = some ⟨b, off, none⟩ ∧ c3 = c2 := by cases hv; exact ⟨rfl, rfl⟩
    clear hv
    have hp := Msg.enc_pos hr
    refine RunQ.on rfl rfl rfl rfl ?_
    refine RunQ.val (lt rfl) (Y.idxAddr rfl rfl Law04_es38 (by omega) (by omega)) ?_
    refine RunQ.on rfl rfl rfl rfl ?_
    refine RunQ.val (lt rfl) (Y.load rfl Law04_ts5 hk (at1 (i := 0) hcs (by omega) (Msg.enc_at0 hr))) ?_
    refine RunQ.on rfl rfl rfl rfl ?_
    refine RunQ.val (lt rfl) (Y.conv (m.kind) rfl Law04_it5_3 (wrap_i64 (by omega))) ?_
    refine RunQ.on rfl rfl rfl rfl ?_
    refine RunQ.val (lt rfl) (Y.fieldAddr rfl Law04_fo37_0) ?_
    refine RunQ.on rfl rfl rfl rfl ?_
    refine RunQ.val (lt rfl) (Y.load rfl Law04_ts3 (Kn.at 0 rfl) rfl) ?_
    refine RunQ.on rfl rfl rfl rfl ?_
    refine RunQ.val (lt rfl) (Y.int rfl rfl rfl) ?_
    refine RunQ.val (lt rfl) (Y.pick_t rfl rfl rfl) ?_
    refine RunQ.val (lt rfl) (Y.assign rfl) ?_
    refine RunQ.to_end ?_
    refine Ex.go ?_
    refine Tr.to_ret ?_
    refine Ex.keep [] ?_
    exact Ex.ret1 rfl rfl  ⟨by simp, rfl, rfl⟩

theorem msizes_no {m : Msg} (ha : 0 ≤ m.addr ∧ m.addr ≤ 4294967295) (hr : Msg.right m = false) {V : Vw} : Does Try.prog 7 [.agg #[.int .i64 m.kind, .int .i64 m.life, .int .i64 m.seen, .int .i64 m.xid, .int .i64 m.state, .int .u32 m.addr, .int .i64 m.bind, .string m.client, .int .i64 m.pot, .int .i64 m.at_, .bool m.ok]] V [] (Pv (.bool true) V []) := by
  refine Does.intro Try.func7 rfl rfl (le rfl) (fun B => ?_)
  refine Tr.seq ?_
  refine Tr.region ?_
  refine Run.box rfl (lt rfl) (fun b1 => ?_)
  refine Run.val (lt rfl) (Y.assign rfl) ?_
  refine Run.to_end ?_
  refine Ex.go ?_
  refine Tr.seq ?_
  refine Tr.region ?_
  refine Run.call0 (l := []) rfl rfl rfl (lt rfl) awake_c ?_
  refine Run.val (lt rfl) (Y.assign rfl) ?_
  refine Run.to_end ?_
  refine Ex.go ?_
  refine Tr.seq ?_
  refine Tr.seq ?_
  refine Tr.region ?_
  refine Run.val (lt rfl) (Y.move rfl) ?_
  refine Run.val (lt rfl) (Y.not rfl) ?_
  refine Run.val (lt rfl) (Y.move rfl) ?_
  refine Run.on rfl rfl rfl rfl ?_
  refine Run.val (lt rfl) (Y.fieldAddr rfl Law04_fo37_7) ?_
  refine Run.on rfl rfl rfl rfl ?_
  refine Run.val (lt rfl) (Y.load rfl Law04_ts9 (Kn.at 0 rfl) rfl) ?_
  refine Run.on rfl rfl rfl rfl ?_
  refine Run.val (lt rfl) (Y.lenStr rfl Law04_st9) ?_
  refine Run.on rfl rfl rfl rfl ?_
  refine Run.val (lt rfl) (Y.int rfl rfl rfl) ?_
  refine Run.val (lt rfl) (Y.pick_f rfl rfl rfl) ?_
  refine Run.to_end ?_
  refine Ex.go ?_
  rcases Bool.eq_false_or_eq_true (decide ((m.client.size : Int) > 1000)) with h2 | h2
  · have g2 := h2
    try simp only [kb] at g2
    refine Tr.cond_t rfl h2 ?_
    refine Tr.seq ?_
    refine Tr.region ?_
    refine Run.val (lt rfl) (Y.move rfl) ?_
    refine Run.val (lt rfl) (Y.assign rfl) ?_
    refine Run.to_end ?_
    refine Ex.go ?_
    refine Tr.to_ret ?_
    refine Ex.ret_then ?_
    refine Ex.keep [] ?_
    exact Ex.ret1 rfl rfl  ⟨rfl, rfl, rfl⟩
  · have g2 := h2
    try simp only [kb] at g2
    refine Tr.cond_f rfl h2 ?_
    refine Tr.to_end ?_
    refine Ex.go ?_
    refine Tr.seq ?_
    refine Tr.region ?_
    refine Run.val (lt rfl) (Y.loadAgg rfl Law04_ag37 (Kn.at 0 rfl) rfl) ?_
    refine Run.call [] (l := [.tmp 18]) rfl rfl rfl (lt rfl) (encode_no (m := m) hr) (fun v3 V2 H2 _ hR => ?_)
    obtain ⟨rfl, hV, rfl⟩ := hR; replace hV := hV.symm; subst hV
    refine Run.val (lt rfl) (Y.move rfl) ?_
    refine Run.val (lt rfl) (Y.extract rfl rfl) ?_
    refine Run.val (lt rfl) (Y.extract rfl rfl) ?_
    refine Run.val (lt rfl) (Y.assign rfl) ?_
    refine Run.val (lt rfl) (Y.assign rfl) ?_
    refine Run.to_end ?_
    refine Ex.go ?_
    refine Tr.seq ?_
    refine Tr.seq ?_
    refine Tr.region ?_
    refine Run.val (lt rfl) (Y.move rfl) ?_
    refine Run.val (lt rfl) (Y.int (r := .bool true) rfl rfl rfl) ?_
    refine Run.to_end ?_
    refine Ex.go ?_
    refine Tr.cond_t rfl rfl ?_
    refine Tr.seq ?_
    refine Tr.region ?_
    refine Run.val (lt rfl) (Y.move rfl) ?_
    refine Run.val (lt rfl) (Y.lenSl rfl Law04_es38) ?_
    refine Run.val (lt rfl) (Y.int (r := .bool true) rfl rfl rfl) ?_
    refine Run.val (lt rfl) (Y.assign rfl) ?_
    refine Run.to_end ?_
    refine Ex.go ?_
    refine Tr.to_ret ?_
    refine Ex.ret_then ?_
    refine Ex.keep [] ?_
    exact Ex.ret1 rfl rfl  ⟨rfl, rfl, rfl⟩

theorem msizes_c {m : Msg} (ha : 0 ≤ m.addr ∧ m.addr ≤ 4294967295) {V : Vw} : Does Try.prog 7 [.agg m.cells] V [] (Pv (.bool true) V []) := by
  cases hr : Msg.right m with
  | true => exact msizes_yes ha hr
  | false => exact msizes_no ha hr
end Go.Proofs.Ytahgaaomioffhaa
