/- The laws MessageDecodes, MessageBack, MessageOnce, walked.
Conditions: as each theorem names them. -/
import Derived.Test.YtahgaaomioffhaaProg
import Derived.Test.YtahgaaomioffhaaM8
import Derived.Test.YtahgaaomioffhaaLaw04
import Derived.Test.YtahgaaomioffhaaDecode
import Derived.Test.YtahgaaomioffhaaRef04d
set_option linter.unusedSimpArgs false
set_option linter.unusedVariables false
set_option maxRecDepth 4000
namespace Go.Proofs.Ytahgaaomioffhaa
open Go Go.K
attribute [local irreducible] Code.wp wpList Calls wpQuiet
theorem Law04b_es38 : elemS Try.prog 38 = some (5, 1) := by kernel_rfl
theorem Law04b_zo37 : zeroOf Try.prog 37 = some (.agg #[.int .i64 0, .int .i64 0, .int .i64 0, .int .i64 0, .int .i64 0, .int .u32 0, .int .i64 0, .string ⟨#[]⟩, .int .i64 0, .int .i64 0, .bool false]) := by kernel_rfl
theorem Law04b_sz37 : sizeT Try.prog 37 = some 11 := by kernel_rfl
theorem Law04b_ag37 : aggsz Try.prog 37 = some 11 := by kernel_rfl
theorem Law04b_tgs37 : tags Try.prog 37 = some [(0, .i64), (0, .i64), (0, .i64), (0, .i64), (0, .i64), (0, .u32), (0, .i64), (2, .i64), (0, .i64), (0, .i64), (1, .i64)] := by kernel_rfl
theorem Law04b_fo37_7 : fieldOff Try.prog 37 7 = some 7 := by kernel_rfl
theorem Law04b_ts9 : scal Try.prog 9 = true := by kernel_rfl
theorem Law04b_st9 : strT Try.prog 9 = true := by kernel_rfl
theorem Law04b_pl37 : placesS Try.prog 37 = some [(0, 1), (1, 1), (2, 1), (3, 1), (4, 1), (5, 1), (6, 1), (7, 1), (8, 1), (9, 1), (10, 1)] := by kernel_rfl
theorem Law04b_tg5 : tagOf Try.prog 5 = some (0, .u8) := by kernel_rfl
theorem Law04b_zi5 : zeroInfo Try.prog 5 = some (1, 1, .int .u8 0) := by kernel_rfl
theorem Law04b_mo : Try.prog.follows .mixedOrders = true := by kernel_rfl
theorem Law04b_tg4 : tagOf Try.prog 4 = some (1, .i64) := by kernel_rfl

theorem decode_yes {V : Vw} {H : Hp} {bs : List UInt8} {v0 : Value} (hv : Rd V [] 1 v0 bs.length (bs.map byteV)) (hl : bs.length ≤ 9223372036854775807) (hb : Msg.bad bs = false) : Does Try.prog 36 [v0] V H (Pv (.tuple #[.agg (Msg.dec1 bs).1.cells, .int .i64 0]) V H) := by
  have := decode_c (H := H) hv hl; rw [hb] at this; exact this
theorem decode_no {V : Vw} {H : Hp} {bs : List UInt8} {v0 : Value} (hv : Rd V [] 1 v0 bs.length (bs.map byteV)) (hl : bs.length ≤ 9223372036854775807) (hb : Msg.bad bs = true) : Does Try.prog 36 [v0] V H (Pv (.tuple #[.agg Msg.zero.cells, .int .i64 2]) V H) := by
  have := decode_c (H := H) hv hl; rw [hb] at this; exact this
theorem rdecode_yes {V : Vw} {H : Hp} {bs : List UInt8} {v0 : Value} (hv : Rd V [] 1 v0 bs.length (bs.map byteV)) (hl : bs.length ≤ 9223372036854775807) (hb : Msg.bad bs = false) : Does Try.prog 37 [v0] V H (Pv (.tuple #[.agg (Msg.dec1 bs).1.cells, .int .i64 0]) V H) := by
  have := rdecode_c (H := H) hv hl; rw [Msg.rbad_eq, hb, Msg.parse_dec hb] at this; exact this
theorem rdecode_no {V : Vw} {H : Hp} {bs : List UInt8} {v0 : Value} (hv : Rd V [] 1 v0 bs.length (bs.map byteV)) (hl : bs.length ≤ 9223372036854775807) (hb : Msg.bad bs = true) : Does Try.prog 37 [v0] V H (Pv (.tuple #[.agg Msg.zero.cells, .int .i64 2]) V H) := by
  have := rdecode_c (H := H) hv hl; rw [Msg.rbad_eq, hb] at this; exact this

theorem mdecodes_no {V : Vw} {bs : List UInt8} {p : Option Addr} {c : Nat} (hv : Rd V [] 1 (.slice p bs.length c) bs.length (bs.map byteV)) (hl : bs.length ≤ 9223372036854775807) (hb : Msg.bad bs = true)  : Does Try.prog 12 [.slice p bs.length c] V [] (fun v _ _ => v = .bool true) := by
  refine Does.intro Try.func12 rfl rfl (le rfl) (fun B => ?_)
  refine Tr.seq ?_
  refine Tr.region ?_
  refine Run.val (lt rfl) (Y.assign rfl) ?_
  refine Run.to_end ?_
  refine Ex.go ?_
  refine Tr.seq ?_
  refine Tr.region ?_
  refine Run.call0 (l := []) rfl rfl rfl (lt rfl) awake_c ?_
  refine Run.val (lt rfl) (Y.assign rfl) ?_
  refine Run.to_end ?_
  refine Ex.go ?_
  refine Tr.seq ?_
  refine Tr.seq ?_
  refine Tr.region ?_
  refine Run.val (lt rfl) (Y.move rfl) ?_
  refine Run.val (lt rfl) (Y.not rfl) ?_
  refine Run.val (lt rfl) (Y.move rfl) ?_
  refine Run.on rfl rfl rfl rfl ?_
  refine Run.val (lt rfl) (Y.move rfl) ?_
  refine Run.on rfl rfl rfl rfl ?_
  refine Run.val (lt rfl) (Y.lenSl rfl Law04b_es38) ?_
  refine Run.on rfl rfl rfl rfl ?_
  refine Run.val (lt rfl) (Y.int rfl rfl rfl) ?_
  refine Run.val (lt rfl) (Y.pick_f rfl rfl rfl) ?_
  refine Run.to_end ?_
  refine Ex.go ?_
  rcases Bool.eq_false_or_eq_true (decide (((bs.length : Nat) : Int) > 1000)) with h1 | h1
  · have g1 := h1
    try simp only [kb] at g1
    refine Tr.cond_t rfl h1 ?_
    refine Tr.seq ?_
    refine Tr.region ?_
    refine Run.val (lt rfl) (Y.move rfl) ?_
    refine Run.val (lt rfl) (Y.assign rfl) ?_
    refine Run.to_end ?_
    refine Ex.go ?_
    refine Tr.to_ret ?_
    refine Ex.ret_then ?_
    refine Ex.keep [] ?_
    exact Ex.ret1 rfl rfl  rfl
  · have g1 := h1
    try simp only [kb] at g1
    refine Tr.cond_f rfl h1 ?_
    refine Tr.to_end ?_
    refine Ex.go ?_
    refine Tr.seq ?_
    refine Tr.region ?_
    refine Run.val (lt rfl) (Y.move rfl) ?_
    refine Run.call0 (l := [.tmp 18]) rfl rfl rfl (lt rfl) (decode_no (bs := bs) hv hl hb) ?_
    refine Run.val (lt rfl) (Y.move rfl) ?_
    refine Run.val (lt rfl) (Y.extract rfl rfl) ?_
    refine Run.val (lt rfl) (Y.extract rfl rfl) ?_
    refine Run.alloc Law04b_zo37 (lt rfl) (fun b2 => ?_)
    refine Run.store (s := [(b2, .cells #[.int .i64 0, .int .i64 0, .int .i64 0, .int .i64 0, .int .i64 0, .int .u32 0, .int .i64 0, .string ⟨#[]⟩, .int .i64 0, .int .i64 0, .bool false] 37 (0, 0))]) rfl rfl Law04b_sz37 (i := 0) rfl rfl (le rfl) rfl rfl ?_
    refine Run.val (lt rfl) (Y.assign rfl) ?_
    refine Run.to_end ?_
    refine Ex.go ?_
    refine Tr.seq ?_
    refine Tr.region ?_
    refine Run.val (lt rfl) (Y.move rfl) ?_
    refine Run.call0 (l := [.tmp 23]) rfl rfl rfl (lt rfl) (rdecode_no (bs := bs) hv hl hb) ?_
    refine Run.val (lt rfl) (Y.move rfl) ?_
    refine Run.val (lt rfl) (Y.extract rfl rfl) ?_
    refine Run.val (lt rfl) (Y.extract rfl rfl) ?_
    refine Run.alloc Law04b_zo37 (lt rfl) (fun b3 => ?_)
    refine Run.store (s := [(b3, .cells #[.int .i64 0, .int .i64 0, .int .i64 0, .int .i64 0, .int .i64 0, .int .u32 0, .int .i64 0, .string ⟨#[]⟩, .int .i64 0, .int .i64 0, .bool false] 37 (0, 0))]) rfl rfl Law04b_sz37 (i := 0) rfl rfl (le rfl) rfl rfl ?_
    refine Run.val (lt rfl) (Y.assign rfl) ?_
    refine Run.to_end ?_
    refine Ex.go ?_
    refine Tr.seq ?_
    refine Tr.region ?_
    refine Run.val (lt rfl) (Y.loadAgg rfl Law04b_ag37 (Kn.at 1 rfl) rfl) ?_
    refine Run.val (lt rfl) (Y.loadAgg rfl Law04b_ag37 (Kn.at 0 rfl) rfl) ?_
    refine Run.val (lt rfl) (Y.eqS rfl rfl Law04b_tgs37 rfl rfl) ?_
    refine Run.val (lt rfl) (Y.move rfl) ?_
    refine Run.on rfl rfl rfl (Msg.same_self (⟨0, 0, 0, 0, 0, 0, 0, ⟨#[]⟩, 0, 0, false⟩ : Msg)) ?_
    refine Run.val (lt rfl) (Y.move rfl) ?_
    refine Run.on rfl rfl rfl (Msg.same_self (⟨0, 0, 0, 0, 0, 0, 0, ⟨#[]⟩, 0, 0, false⟩ : Msg)) ?_
    refine Run.val (lt rfl) (Y.move rfl) ?_
    refine Run.on rfl rfl rfl (Msg.same_self (⟨0, 0, 0, 0, 0, 0, 0, ⟨#[]⟩, 0, 0, false⟩ : Msg)) ?_
    refine Run.val (lt rfl) (Y.int (r := .bool true) rfl rfl rfl) ?_
    refine Run.val (lt rfl) (Y.pick_t rfl (Msg.same_self (⟨0, 0, 0, 0, 0, 0, 0, ⟨#[]⟩, 0, 0, false⟩ : Msg)) rfl) ?_
    refine Run.val (lt rfl) (Y.assign rfl) ?_
    refine Run.to_end ?_
    refine Ex.go ?_
    refine Tr.to_ret ?_
    refine Ex.keep [] ?_
    exact Ex.ret1 rfl rfl  rfl

theorem mdecodes_yes {V : Vw} {bs : List UInt8} {p : Option Addr} {c : Nat} (hv : Rd V [] 1 (.slice p bs.length c) bs.length (bs.map byteV)) (hl : bs.length ≤ 9223372036854775807) (hb : Msg.bad bs = false)  : Does Try.prog 12 [.slice p bs.length c] V [] (fun v _ _ => v = .bool true) := by
  refine Does.intro Try.func12 rfl rfl (le rfl) (fun B => ?_)
  refine Tr.seq ?_
  refine Tr.region ?_
  refine Run.val (lt rfl) (Y.assign rfl) ?_
  refine Run.to_end ?_
  refine Ex.go ?_
  refine Tr.seq ?_
  refine Tr.region ?_
  refine Run.call0 (l := []) rfl rfl rfl (lt rfl) awake_c ?_
  refine Run.val (lt rfl) (Y.assign rfl) ?_
  refine Run.to_end ?_
  refine Ex.go ?_
  refine Tr.seq ?_
  refine Tr.seq ?_
  refine Tr.region ?_
  refine Run.val (lt rfl) (Y.move rfl) ?_
  refine Run.val (lt rfl) (Y.not rfl) ?_
  refine Run.val (lt rfl) (Y.move rfl) ?_
  refine Run.on rfl rfl rfl rfl ?_
  refine Run.val (lt rfl) (Y.move rfl) ?_
  refine Run.on rfl rfl rfl rfl ?_
  refine Run.val (lt rfl) (Y.lenSl rfl Law04b_es38) ?_
  refine Run.on rfl rfl rfl rfl ?_
  refine Run.val (lt rfl) (Y.int rfl rfl rfl) ?_
  refine Run.val (lt rfl) (Y.pick_f rfl rfl rfl) ?_
  refine Run.to_end ?_
  refine Ex.go ?_
  rcases Bool.eq_false_or_eq_true (decide (((bs.length : Nat) : Int) > 1000)) with h1 | h1
  · have g1 := h1
    try simp only [kb] at g1
    refine Tr.cond_t rfl h1 ?_
    refine Tr.seq ?_
    refine Tr.region ?_
    refine Run.val (lt rfl) (Y.move rfl) ?_
    refine Run.val (lt rfl) (Y.assign rfl) ?_
    refine Run.to_end ?_
    refine Ex.go ?_
    refine Tr.to_ret ?_
    refine Ex.ret_then ?_
    refine Ex.keep [] ?_
    exact Ex.ret1 rfl rfl  rfl
  · have g1 := h1
    try simp only [kb] at g1
    refine Tr.cond_f rfl h1 ?_
    refine Tr.to_end ?_
    refine Ex.go ?_
    refine Tr.seq ?_
    refine Tr.region ?_
    refine Run.val (lt rfl) (Y.move rfl) ?_
    refine Run.call0 (l := [.tmp 18]) rfl rfl rfl (lt rfl) (decode_yes (bs := bs) hv hl hb) ?_
    refine Run.val (lt rfl) (Y.move rfl) ?_
    refine Run.val (lt rfl) (Y.extract rfl rfl) ?_
    refine Run.val (lt rfl) (Y.extract rfl rfl) ?_
    refine Run.alloc Law04b_zo37 (lt rfl) (fun b2 => ?_)
    refine Run.store (s := [(b2, .cells #[.int .i64 ((Msg.dec1 bs).1.kind), .int .i64 ((Msg.dec1 bs).1.life), .int .i64 ((Msg.dec1 bs).1.seen), .int .i64 ((Msg.dec1 bs).1.xid), .int .i64 ((Msg.dec1 bs).1.state), .int .u32 ((Msg.dec1 bs).1.addr), .int .i64 ((Msg.dec1 bs).1.bind), .string ((Msg.dec1 bs).1.client), .int .i64 ((Msg.dec1 bs).1.pot), .int .i64 ((Msg.dec1 bs).1.at_), .bool ((Msg.dec1 bs).1.ok)] 37 (0, 0))]) rfl rfl Law04b_sz37 (i := 0) rfl rfl (le rfl) rfl rfl ?_
    refine Run.val (lt rfl) (Y.assign rfl) ?_
    refine Run.to_end ?_
    refine Ex.go ?_
    refine Tr.seq ?_
    refine Tr.region ?_
    refine Run.val (lt rfl) (Y.move rfl) ?_
    refine Run.call0 (l := [.tmp 23]) rfl rfl rfl (lt rfl) (rdecode_yes (bs := bs) hv hl hb) ?_
    refine Run.val (lt rfl) (Y.move rfl) ?_
    refine Run.val (lt rfl) (Y.extract rfl rfl) ?_
    refine Run.val (lt rfl) (Y.extract rfl rfl) ?_
    refine Run.alloc Law04b_zo37 (lt rfl) (fun b3 => ?_)
    refine Run.store (s := [(b3, .cells #[.int .i64 ((Msg.dec1 bs).1.kind), .int .i64 ((Msg.dec1 bs).1.life), .int .i64 ((Msg.dec1 bs).1.seen), .int .i64 ((Msg.dec1 bs).1.xid), .int .i64 ((Msg.dec1 bs).1.state), .int .u32 ((Msg.dec1 bs).1.addr), .int .i64 ((Msg.dec1 bs).1.bind), .string ((Msg.dec1 bs).1.client), .int .i64 ((Msg.dec1 bs).1.pot), .int .i64 ((Msg.dec1 bs).1.at_), .bool ((Msg.dec1 bs).1.ok)] 37 (0, 0))]) rfl rfl Law04b_sz37 (i := 0) rfl rfl (le rfl) rfl rfl ?_
    refine Run.val (lt rfl) (Y.assign rfl) ?_
    refine Run.to_end ?_
    refine Ex.go ?_
    refine Tr.seq ?_
    refine Tr.region ?_
    refine Run.val (lt rfl) (Y.loadAgg rfl Law04b_ag37 (Kn.at 1 rfl) rfl) ?_
    refine Run.val (lt rfl) (Y.loadAgg rfl Law04b_ag37 (Kn.at 0 rfl) rfl) ?_
    refine Run.val (lt rfl) (Y.eqS rfl rfl Law04b_tgs37 rfl rfl) ?_
    refine Run.val (lt rfl) (Y.move rfl) ?_
    refine Run.on rfl rfl rfl (Msg.same_self ((Msg.dec1 bs).1)) ?_
    refine Run.val (lt rfl) (Y.move rfl) ?_
    refine Run.on rfl rfl rfl (Msg.same_self ((Msg.dec1 bs).1)) ?_
    refine Run.val (lt rfl) (Y.move rfl) ?_
    refine Run.on rfl rfl rfl (Msg.same_self ((Msg.dec1 bs).1)) ?_
    refine Run.val (lt rfl) (Y.int (r := .bool true) rfl rfl rfl) ?_
    refine Run.val (lt rfl) (Y.pick_t rfl (Msg.same_self ((Msg.dec1 bs).1)) rfl) ?_
    refine Run.val (lt rfl) (Y.assign rfl) ?_
    refine Run.to_end ?_
    refine Ex.go ?_
    refine Tr.to_ret ?_
    refine Ex.keep [] ?_
    exact Ex.ret1 rfl rfl  rfl

theorem mdecodes_c {V : Vw} {bs : List UInt8} {v0 : Value} (hv : Rd V [] 1 v0 bs.length (bs.map byteV)) (hl : bs.length ≤ 9223372036854775807) : Does Try.prog 12 [v0] V [] (fun v _ _ => v = .bool true) := by
  obtain ⟨p, c, rfl, _⟩ := hv.form
  cases hb : Msg.bad bs with
  | true => exact mdecodes_no hv hl hb
  | false => exact mdecodes_yes hv hl hb

theorem mback_yn {V : Vw} {m : Msg} {bs : List UInt8} {p : Option Addr} {c : Nat} (ha : 0 ≤ m.addr ∧ m.addr ≤ 4294967295) (hv : Rd V [] 1 (.slice p bs.length c) bs.length (bs.map byteV)) (hl : bs.length ≤ 9223372036854775807) (hr : Msg.right m = true) (hb : Msg.bad bs = true)  : Does Try.prog 13 [.agg #[.int .i64 m.kind, .int .i64 m.life, .int .i64 m.seen, .int .i64 m.xid, .int .i64 m.state, .int .u32 m.addr, .int .i64 m.bind, .string m.client, .int .i64 m.pot, .int .i64 m.at_, .bool m.ok], .slice p bs.length c] V [] (fun v _ _ => v = .bool true) := by
  have hel := Msg.enc_bounds hr
  refine Does.intro Try.func13 rfl rfl (le rfl) (fun B => ?_)
  refine Tr.seq ?_
  refine Tr.region ?_
  refine Run.box rfl (lt rfl) (fun b1 => ?_)
  refine Run.val (lt rfl) (Y.assign rfl) ?_
  refine Run.to_end ?_
  refine Ex.go ?_
  refine Tr.seq ?_
  refine Tr.region ?_
  refine Run.call0 (l := []) rfl rfl rfl (lt rfl) awake_c ?_
  refine Run.val (lt rfl) (Y.assign rfl) ?_
  refine Run.to_end ?_
  refine Ex.go ?_
  refine Tr.seq ?_
  refine Tr.seq ?_
  refine Tr.region ?_
  refine Run.val (lt rfl) (Y.move rfl) ?_
  refine Run.val (lt rfl) (Y.not rfl) ?_
  refine Run.val (lt rfl) (Y.move rfl) ?_
  refine Run.on rfl rfl rfl rfl ?_
  refine Run.val (lt rfl) (Y.fieldAddr rfl Law04b_fo37_7) ?_
  refine Run.on rfl rfl rfl rfl ?_
  refine Run.val (lt rfl) (Y.load rfl Law04b_ts9 (Kn.at 0 rfl) rfl) ?_
  refine Run.on rfl rfl rfl rfl ?_
  refine Run.val (lt rfl) (Y.lenStr rfl Law04b_st9) ?_
  refine Run.on rfl rfl rfl rfl ?_
  refine Run.val (lt rfl) (Y.int rfl rfl rfl) ?_
  refine Run.val (lt rfl) (Y.pick_f rfl rfl rfl) ?_
  refine Run.val (lt rfl) (Y.move rfl) ?_
  rcases Bool.eq_false_or_eq_true (decide ((m.client.size : Int) > 1000)) with h2 | h2
  · have g2 := h2
    try simp only [kb] at g2
    refine Run.off rfl rfl rfl h2 rfl (lt rfl) ?_
    refine Run.off rfl rfl rfl h2 rfl (lt rfl) ?_
    refine Run.off rfl rfl rfl h2 rfl (lt rfl) ?_
    refine Run.val (lt rfl) (Y.pick_t rfl h2 rfl) ?_
    refine Run.to_end ?_
    refine Ex.go ?_
    refine Tr.cond_t rfl rfl ?_
    refine Tr.seq ?_
    refine Tr.region ?_
    refine Run.val (lt rfl) (Y.move rfl) ?_
    refine Run.val (lt rfl) (Y.assign rfl) ?_
    refine Run.to_end ?_
    refine Ex.go ?_
    refine Tr.to_ret ?_
    refine Ex.ret_then ?_
    refine Ex.keep [] ?_
    exact Ex.ret1 rfl rfl  rfl
  · have g2 := h2
    try simp only [kb] at g2
    refine Run.on rfl rfl rfl h2 ?_
    refine Run.val (lt rfl) (Y.move rfl) ?_
    refine Run.on rfl rfl rfl h2 ?_
    refine Run.val (lt rfl) (Y.lenSl rfl Law04b_es38) ?_
    refine Run.on rfl rfl rfl h2 ?_
    refine Run.val (lt rfl) (Y.int rfl rfl rfl) ?_
    refine Run.val (lt rfl) (Y.pick_f rfl h2 rfl) ?_
    refine Run.to_end ?_
    refine Ex.go ?_
    rcases Bool.eq_false_or_eq_true (decide (((bs.length : Nat) : Int) > 1000)) with h3 | h3
    · have g3 := h3
      try simp only [kb] at g3
      refine Tr.cond_t rfl h3 ?_
      refine Tr.seq ?_
      refine Tr.region ?_
      refine Run.val (lt rfl) (Y.move rfl) ?_
      refine Run.val (lt rfl) (Y.assign rfl) ?_
      refine Run.to_end ?_
      refine Ex.go ?_
      refine Tr.to_ret ?_
      refine Ex.ret_then ?_
      refine Ex.keep [] ?_
      exact Ex.ret1 rfl rfl  rfl
    · have g3 := h3
      try simp only [kb] at g3
      refine Tr.cond_f rfl h3 ?_
      refine Tr.to_end ?_
      refine Ex.go ?_
      refine Tr.seq ?_
      refine Tr.region ?_
      refine Run.val (lt rfl) (Y.loadAgg rfl Law04b_ag37 (Kn.at 0 rfl) rfl) ?_
      refine Run.call [] (l := [.tmp 30]) rfl rfl rfl (lt rfl) (encode_yes (m := m) hr ha) (fun v4 V2 H2 _ hR => ?_)
      obtain ⟨hV, x4, s4, rfl, rfl, ho4⟩ := hR; replace hV := hV.symm; subst hV; obtain ⟨p4, c4, rfl⟩ := ho4.form
      refine Run.val (lt rfl) (Y.move rfl) ?_
      refine Run.val (lt rfl) (Y.extract rfl rfl) ?_
      refine Run.val (lt rfl) (Y.extract rfl rfl) ?_
      refine Run.val (lt rfl) (Y.assign rfl) ?_
      refine Run.val (lt rfl) (Y.assign rfl) ?_
      refine Run.to_end ?_
      refine Ex.go ?_
      refine Tr.seq ?_
      refine Tr.seq ?_
      refine Tr.region ?_
      refine Run.val (lt rfl) (Y.move rfl) ?_
      refine Run.val (lt rfl) (Y.int (r := .bool true) rfl rfl rfl) ?_
      refine Run.to_end ?_
      refine Ex.go ?_
      refine Tr.cond_t rfl rfl ?_
      refine Tr.seq ?_
      refine Tr.region ?_
      refine Run.val (lt rfl) (Y.move rfl) ?_
      refine Run.keep [1, 0] ?_
      refine Run.show (fun Vl hlel hshl => ?_)
      have hvl : Rd Vl [] 1 _ (Msg.enc m).length ((Msg.enc m).map byteV) := ho4.show hshl
      have hvl0 := hv.le hlel
      refine Run.call0 (l := [.tmp 37]) rfl rfl rfl (lt rfl) (decode_yes (bs := (Msg.enc m)) hvl (by omega) (Msg.bad_enc hr ha)) ?_
      refine Run.val (lt rfl) (Y.move rfl) ?_
      refine Run.val (lt rfl) (Y.extract rfl rfl) ?_
      refine Run.val (lt rfl) (Y.extract rfl rfl) ?_
      refine Run.alloc Law04b_zo37 (lt rfl) (fun b5 => ?_)
      refine Run.store (s := [(b5, .cells #[.int .i64 ((Msg.dec1 (Msg.enc m)).1.kind), .int .i64 ((Msg.dec1 (Msg.enc m)).1.life), .int .i64 ((Msg.dec1 (Msg.enc m)).1.seen), .int .i64 ((Msg.dec1 (Msg.enc m)).1.xid), .int .i64 ((Msg.dec1 (Msg.enc m)).1.state), .int .u32 ((Msg.dec1 (Msg.enc m)).1.addr), .int .i64 ((Msg.dec1 (Msg.enc m)).1.bind), .string ((Msg.dec1 (Msg.enc m)).1.client), .int .i64 ((Msg.dec1 (Msg.enc m)).1.pot), .int .i64 ((Msg.dec1 (Msg.enc m)).1.at_), .bool ((Msg.dec1 (Msg.enc m)).1.ok)] 37 (0, 0))]) rfl rfl Law04b_sz37 (i := 0) rfl rfl (le rfl) rfl rfl ?_
      refine Run.val (lt rfl) (Y.assign rfl) ?_
      refine Run.to_end ?_
      refine Ex.go ?_
      refine Tr.seq ?_
      refine Tr.region ?_
      refine Run.val (lt rfl) (Y.move rfl) ?_
      refine Run.val (lt rfl) (Y.int (r := .bool false) rfl rfl rfl) ?_
      refine Run.val (lt rfl) (Y.move rfl) ?_
      refine Run.on rfl rfl rfl rfl ?_
      refine Run.val (lt rfl) (Y.loadAgg rfl Law04b_ag37 (Kn.at 0 rfl) rfl) ?_
      refine Run.on rfl rfl rfl rfl ?_
      refine Run.val (lt rfl) (Y.loadAgg rfl Law04b_ag37 (Kn.at 1 rfl) rfl) ?_
      refine Run.on rfl rfl rfl rfl ?_
      refine Run.val (lt rfl) (Y.neS rfl rfl Law04b_tgs37 rfl rfl) ?_
      refine Run.val (lt rfl) (Y.pick_f rfl rfl rfl) ?_
      refine Run.to_end ?_
      refine Ex.go ?_
      refine Tr.cond_f rfl (congrArg Bool.not (Msg.same_dec hr ha)) ?_
      refine Tr.to_end ?_
      refine Ex.go ?_
      refine Tr.seq ?_
      refine Tr.region ?_
      refine Run.val (lt rfl) (Y.move rfl) ?_
      refine Run.call0 (l := [.tmp 49]) rfl rfl rfl (lt rfl) (decode_no (bs := bs) hvl0 hl hb) ?_
      refine Run.val (lt rfl) (Y.move rfl) ?_
      refine Run.val (lt rfl) (Y.extract rfl rfl) ?_
      refine Run.val (lt rfl) (Y.extract rfl rfl) ?_
      refine Run.alloc Law04b_zo37 (lt rfl) (fun b6 => ?_)
      refine Run.store (s := [(b6, .cells #[.int .i64 0, .int .i64 0, .int .i64 0, .int .i64 0, .int .i64 0, .int .u32 0, .int .i64 0, .string ⟨#[]⟩, .int .i64 0, .int .i64 0, .bool false] 37 (0, 0))]) rfl rfl Law04b_sz37 (i := 0) rfl rfl (le rfl) rfl rfl ?_
      refine Run.val (lt rfl) (Y.assign rfl) ?_
      refine Run.to_end ?_
      refine Ex.go ?_
      refine Tr.seq ?_
      refine Tr.seq ?_
      refine Tr.region ?_
      refine Run.val (lt rfl) (Y.move rfl) ?_
      refine Run.val (lt rfl) (Y.int (r := .bool true) rfl rfl rfl) ?_
      refine Run.to_end ?_
      refine Ex.go ?_
      refine Tr.cond_t rfl rfl ?_
      refine Tr.seq ?_
      refine Tr.region ?_
      refine Run.val (lt rfl) (Y.move rfl) ?_
      refine Run.val (lt rfl) (Y.int (r := .bool true) rfl rfl rfl) ?_
      refine Run.val (lt rfl) (Y.move rfl) ?_
      refine Run.on rfl rfl rfl rfl ?_
      refine Run.val (lt rfl) (Y.loadAgg rfl Law04b_ag37 (Kn.at 0 rfl) rfl) ?_
      refine Run.on rfl rfl rfl rfl ?_
      refine Run.val (lt rfl) (Y.buildS (l := []) Law04b_zo37 Law04b_pl37 rfl rfl) ?_
      refine Run.on rfl rfl rfl rfl ?_
      refine Run.val (lt rfl) (Y.eqS rfl rfl Law04b_tgs37 rfl rfl) ?_
      refine Run.val (lt rfl) (Y.pick_t rfl rfl rfl) ?_
      refine Run.val (lt rfl) (Y.assign rfl) ?_
      refine Run.to_end ?_
      refine Ex.go ?_
      refine Tr.to_ret ?_
      refine Ex.ret_then ?_
      refine Ex.keep [] ?_
      exact Ex.ret1 rfl rfl  (congrArg Value.bool (Msg.same_self (⟨0, 0, 0, 0, 0, 0, 0, ⟨#[]⟩, 0, 0, false⟩ : Msg)))

theorem mback_yy {V : Vw} {m : Msg} {bs : List UInt8} {p : Option Addr} {c : Nat} (ha : 0 ≤ m.addr ∧ m.addr ≤ 4294967295) (hv : Rd V [] 1 (.slice p bs.length c) bs.length (bs.map byteV)) (hl : bs.length ≤ 9223372036854775807) (hr : Msg.right m = true) (hb : Msg.bad bs = false)  : Does Try.prog 13 [.agg #[.int .i64 m.kind, .int .i64 m.life, .int .i64 m.seen, .int .i64 m.xid, .int .i64 m.state, .int .u32 m.addr, .int .i64 m.bind, .string m.client, .int .i64 m.pot, .int .i64 m.at_, .bool m.ok], .slice p bs.length c] V [] (fun v _ _ => v = .bool true) := by
  have hel := Msg.enc_bounds hr
  refine Does.intro Try.func13 rfl rfl (le rfl) (fun B => ?_)
  refine Tr.seq ?_
  refine Tr.region ?_
  refine Run.box rfl (lt rfl) (fun b1 => ?_)
  refine Run.val (lt rfl) (Y.assign rfl) ?_
  refine Run.to_end ?_
  refine Ex.go ?_
  refine Tr.seq ?_
  refine Tr.region ?_
  refine Run.call0 (l := []) rfl rfl rfl (lt rfl) awake_c ?_
  refine Run.val (lt rfl) (Y.assign rfl) ?_
  refine Run.to_end ?_
  refine Ex.go ?_
  refine Tr.seq ?_
  refine Tr.seq ?_
  refine Tr.region ?_
  refine Run.val (lt rfl) (Y.move rfl) ?_
  refine Run.val (lt rfl) (Y.not rfl) ?_
  refine Run.val (lt rfl) (Y.move rfl) ?_
  refine Run.on rfl rfl rfl rfl ?_
  refine Run.val (lt rfl) (Y.fieldAddr rfl Law04b_fo37_7) ?_
  refine Run.on rfl rfl rfl rfl ?_
  refine Run.val (lt rfl) (Y.load rfl Law04b_ts9 (Kn.at 0 rfl) rfl) ?_
  refine Run.on rfl rfl rfl rfl ?_
  refine Run.val (lt rfl) (Y.lenStr rfl Law04b_st9) ?_
  refine Run.on rfl rfl rfl rfl ?_
  refine Run.val (lt rfl) (Y.int rfl rfl rfl) ?_
  refine Run.val (lt rfl) (Y.pick_f rfl rfl rfl) ?_
  refine Run.val (lt rfl) (Y.move rfl) ?_
  rcases Bool.eq_false_or_eq_true (decide ((m.client.size : Int) > 1000)) with h2 | h2
  · have g2 := h2
    try simp only [kb] at g2
    refine Run.off rfl rfl rfl h2 rfl (lt rfl) ?_
    refine Run.off rfl rfl rfl h2 rfl (lt rfl) ?_
    refine Run.off rfl rfl rfl h2 rfl (lt rfl) ?_
    refine Run.val (lt rfl) (Y.pick_t rfl h2 rfl) ?_
    refine Run.to_end ?_
    refine Ex.go ?_
    refine Tr.cond_t rfl rfl ?_
    refine Tr.seq ?_
    refine Tr.region ?_
    refine Run.val (lt rfl) (Y.move rfl) ?_
    refine Run.val (lt rfl) (Y.assign rfl) ?_
    refine Run.to_end ?_
    refine Ex.go ?_
    refine Tr.to_ret ?_
    refine Ex.ret_then ?_
    refine Ex.keep [] ?_
    exact Ex.ret1 rfl rfl  rfl
  · have g2 := h2
    try simp only [kb] at g2
    refine Run.on rfl rfl rfl h2 ?_
    refine Run.val (lt rfl) (Y.move rfl) ?_
    refine Run.on rfl rfl rfl h2 ?_
    refine Run.val (lt rfl) (Y.lenSl rfl Law04b_es38) ?_
    refine Run.on rfl rfl rfl h2 ?_
    refine Run.val (lt rfl) (Y.int rfl rfl rfl) ?_
    refine Run.val (lt rfl) (Y.pick_f rfl h2 rfl) ?_
    refine Run.to_end ?_
    refine Ex.go ?_
    rcases Bool.eq_false_or_eq_true (decide (((bs.length : Nat) : Int) > 1000)) with h3 | h3
    · have g3 := h3
      try simp only [kb] at g3
      refine Tr.cond_t rfl h3 ?_
      refine Tr.seq ?_
      refine Tr.region ?_
      refine Run.val (lt rfl) (Y.move rfl) ?_
      refine Run.val (lt rfl) (Y.assign rfl) ?_
      refine Run.to_end ?_
      refine Ex.go ?_
      refine Tr.to_ret ?_
      refine Ex.ret_then ?_
      refine Ex.keep [] ?_
      exact Ex.ret1 rfl rfl  rfl
    · have g3 := h3
      try simp only [kb] at g3
      refine Tr.cond_f rfl h3 ?_
      refine Tr.to_end ?_
      refine Ex.go ?_
      refine Tr.seq ?_
      refine Tr.region ?_
      refine Run.val (lt rfl) (Y.loadAgg rfl Law04b_ag37 (Kn.at 0 rfl) rfl) ?_
      refine Run.call [] (l := [.tmp 30]) rfl rfl rfl (lt rfl) (encode_yes (m := m) hr ha) (fun v4 V2 H2 _ hR => ?_)
      obtain ⟨hV, x4, s4, rfl, rfl, ho4⟩ := hR; replace hV := hV.symm; subst hV; obtain ⟨p4, c4, rfl⟩ := ho4.form
      refine Run.val (lt rfl) (Y.move rfl) ?_
      refine Run.val (lt rfl) (Y.extract rfl rfl) ?_
      refine Run.val (lt rfl) (Y.extract rfl rfl) ?_
      refine Run.val (lt rfl) (Y.assign rfl) ?_
      refine Run.val (lt rfl) (Y.assign rfl) ?_
      refine Run.to_end ?_
      refine Ex.go ?_
      refine Tr.seq ?_
      refine Tr.seq ?_
      refine Tr.region ?_
      refine Run.val (lt rfl) (Y.move rfl) ?_
      refine Run.val (lt rfl) (Y.int (r := .bool true) rfl rfl rfl) ?_
      refine Run.to_end ?_
      refine Ex.go ?_
      refine Tr.cond_t rfl rfl ?_
      refine Tr.seq ?_
      refine Tr.region ?_
      refine Run.val (lt rfl) (Y.move rfl) ?_
      refine Run.keep [1, 0] ?_
      refine Run.show (fun Vl hlel hshl => ?_)
      have hvl : Rd Vl [] 1 _ (Msg.enc m).length ((Msg.enc m).map byteV) := ho4.show hshl
      have hvl0 := hv.le hlel
      refine Run.call0 (l := [.tmp 37]) rfl rfl rfl (lt rfl) (decode_yes (bs := (Msg.enc m)) hvl (by omega) (Msg.bad_enc hr ha)) ?_
      refine Run.val (lt rfl) (Y.move rfl) ?_
      refine Run.val (lt rfl) (Y.extract rfl rfl) ?_
      refine Run.val (lt rfl) (Y.extract rfl rfl) ?_
      refine Run.alloc Law04b_zo37 (lt rfl) (fun b5 => ?_)
      refine Run.store (s := [(b5, .cells #[.int .i64 ((Msg.dec1 (Msg.enc m)).1.kind), .int .i64 ((Msg.dec1 (Msg.enc m)).1.life), .int .i64 ((Msg.dec1 (Msg.enc m)).1.seen), .int .i64 ((Msg.dec1 (Msg.enc m)).1.xid), .int .i64 ((Msg.dec1 (Msg.enc m)).1.state), .int .u32 ((Msg.dec1 (Msg.enc m)).1.addr), .int .i64 ((Msg.dec1 (Msg.enc m)).1.bind), .string ((Msg.dec1 (Msg.enc m)).1.client), .int .i64 ((Msg.dec1 (Msg.enc m)).1.pot), .int .i64 ((Msg.dec1 (Msg.enc m)).1.at_), .bool ((Msg.dec1 (Msg.enc m)).1.ok)] 37 (0, 0))]) rfl rfl Law04b_sz37 (i := 0) rfl rfl (le rfl) rfl rfl ?_
      refine Run.val (lt rfl) (Y.assign rfl) ?_
      refine Run.to_end ?_
      refine Ex.go ?_
      refine Tr.seq ?_
      refine Tr.region ?_
      refine Run.val (lt rfl) (Y.move rfl) ?_
      refine Run.val (lt rfl) (Y.int (r := .bool false) rfl rfl rfl) ?_
      refine Run.val (lt rfl) (Y.move rfl) ?_
      refine Run.on rfl rfl rfl rfl ?_
      refine Run.val (lt rfl) (Y.loadAgg rfl Law04b_ag37 (Kn.at 0 rfl) rfl) ?_
      refine Run.on rfl rfl rfl rfl ?_
      refine Run.val (lt rfl) (Y.loadAgg rfl Law04b_ag37 (Kn.at 1 rfl) rfl) ?_
      refine Run.on rfl rfl rfl rfl ?_
      refine Run.val (lt rfl) (Y.neS rfl rfl Law04b_tgs37 rfl rfl) ?_
      refine Run.val (lt rfl) (Y.pick_f rfl rfl rfl) ?_
      refine Run.to_end ?_
      refine Ex.go ?_
      refine Tr.cond_f rfl (congrArg Bool.not (Msg.same_dec hr ha)) ?_
      refine Tr.to_end ?_
      refine Ex.go ?_
      refine Tr.seq ?_
      refine Tr.region ?_
      refine Run.val (lt rfl) (Y.move rfl) ?_
      refine Run.call0 (l := [.tmp 49]) rfl rfl rfl (lt rfl) (decode_yes (bs := bs) hvl0 hl hb) ?_
      refine Run.val (lt rfl) (Y.move rfl) ?_
      refine Run.val (lt rfl) (Y.extract rfl rfl) ?_
      refine Run.val (lt rfl) (Y.extract rfl rfl) ?_
      refine Run.alloc Law04b_zo37 (lt rfl) (fun b6 => ?_)
      refine Run.store (s := [(b6, .cells #[.int .i64 ((Msg.dec1 bs).1.kind), .int .i64 ((Msg.dec1 bs).1.life), .int .i64 ((Msg.dec1 bs).1.seen), .int .i64 ((Msg.dec1 bs).1.xid), .int .i64 ((Msg.dec1 bs).1.state), .int .u32 ((Msg.dec1 bs).1.addr), .int .i64 ((Msg.dec1 bs).1.bind), .string ((Msg.dec1 bs).1.client), .int .i64 ((Msg.dec1 bs).1.pot), .int .i64 ((Msg.dec1 bs).1.at_), .bool ((Msg.dec1 bs).1.ok)] 37 (0, 0))]) rfl rfl Law04b_sz37 (i := 0) rfl rfl (le rfl) rfl rfl ?_
      refine Run.val (lt rfl) (Y.assign rfl) ?_
      refine Run.to_end ?_
      refine Ex.go ?_
      refine Tr.seq ?_
      refine Tr.seq ?_
      refine Tr.region ?_
      refine Run.val (lt rfl) (Y.move rfl) ?_
      refine Run.val (lt rfl) (Y.int (r := .bool false) rfl rfl rfl) ?_
      refine Run.to_end ?_
      refine Ex.go ?_
      refine Tr.cond_f rfl rfl ?_
      refine Tr.to_end ?_
      refine Ex.go ?_
      refine Tr.seq ?_
      refine Tr.region ?_
      refine Run.val (lt rfl) (Y.loadAgg rfl Law04b_ag37 (Kn.at 0 rfl) rfl) ?_
      refine Run.call [] (l := [.tmp 63]) rfl rfl rfl (lt rfl) (encode_yes (m := ((Msg.dec1 bs).1)) (Msg.not_bad hb).1 (Msg.not_bad hb).2.2) (fun v7 V2 H2 _ hR => ?_)
      obtain ⟨hV, x7, s7, rfl, rfl, ho7⟩ := hR; replace hV := hV.symm; subst hV; obtain ⟨p7, c7, rfl⟩ := ho7.form
      refine Run.val (lt rfl) (Y.move rfl) ?_
      refine Run.val (lt rfl) (Y.extract rfl rfl) ?_
      refine Run.val (lt rfl) (Y.extract rfl rfl) ?_
      refine Run.val (lt rfl) (Y.assign rfl) ?_
      refine Run.val (lt rfl) (Y.assign rfl) ?_
      refine Run.to_end ?_
      refine Ex.go ?_
      refine Tr.seq ?_
      refine Tr.region ?_
      refine Run.val (lt rfl) (Y.move rfl) ?_
      refine Run.val (lt rfl) (Y.int (r := .bool true) rfl rfl rfl) ?_
      refine Run.val (lt rfl) (Y.move rfl) ?_
      refine Run.on rfl rfl rfl rfl ?_
      refine Run.val (lt rfl) (Y.move rfl) ?_
      refine Run.on rfl rfl rfl rfl ?_
      refine Run.val (lt rfl) (Y.bytesStr (bs := (Msg.enc ((Msg.dec1 bs).1))) rfl Law04b_es38 Law04b_tg5 Law04b_st9 (ho7.rd 3 rfl)) ?_
      refine Run.on rfl rfl rfl rfl ?_
      refine Run.val (lt rfl) (Y.move rfl) ?_
      refine Run.on rfl rfl rfl rfl ?_
      refine Run.val (lt rfl) (Y.bytesStr (bs := bs) rfl Law04b_es38 Law04b_tg5 Law04b_st9 hvl0.of_nil) ?_
      refine Run.on rfl rfl rfl rfl ?_
      refine Run.val (lt rfl) (Y.eqStr_t rfl rfl (by rw [(Msg.not_bad hb).2.1])) ?_
      refine Run.val (lt rfl) (Y.pick_t rfl rfl rfl) ?_
      refine Run.val (lt rfl) (Y.assign rfl) ?_
      refine Run.to_end ?_
      refine Ex.go ?_
      refine Tr.to_ret ?_
      refine Ex.keep [] ?_
      exact Ex.ret1 rfl rfl  rfl

theorem mback_nn {V : Vw} {m : Msg} {bs : List UInt8} {p : Option Addr} {c : Nat} (ha : 0 ≤ m.addr ∧ m.addr ≤ 4294967295) (hv : Rd V [] 1 (.slice p bs.length c) bs.length (bs.map byteV)) (hl : bs.length ≤ 9223372036854775807) (hr : Msg.right m = false) (hb : Msg.bad bs = true)  : Does Try.prog 13 [.agg #[.int .i64 m.kind, .int .i64 m.life, .int .i64 m.seen, .int .i64 m.xid, .int .i64 m.state, .int .u32 m.addr, .int .i64 m.bind, .string m.client, .int .i64 m.pot, .int .i64 m.at_, .bool m.ok], .slice p bs.length c] V [] (fun v _ _ => v = .bool true) := by
  refine Does.intro Try.func13 rfl rfl (le rfl) (fun B => ?_)
  refine Tr.seq ?_
  refine Tr.region ?_
  refine Run.box rfl (lt rfl) (fun b1 => ?_)
  refine Run.val (lt rfl) (Y.assign rfl) ?_
  refine Run.to_end ?_
  refine Ex.go ?_
  refine Tr.seq ?_
  refine Tr.region ?_
  refine Run.call0 (l := []) rfl rfl rfl (lt rfl) awake_c ?_
  refine Run.val (lt rfl) (Y.assign rfl) ?_
  refine Run.to_end ?_
  refine Ex.go ?_
  refine Tr.seq ?_
  refine Tr.seq ?_
  refine Tr.region ?_
  refine Run.val (lt rfl) (Y.move rfl) ?_
  refine Run.val (lt rfl) (Y.not rfl) ?_
  refine Run.val (lt rfl) (Y.move rfl) ?_
  refine Run.on rfl rfl rfl rfl ?_
  refine Run.val (lt rfl) (Y.fieldAddr rfl Law04b_fo37_7) ?_
  refine Run.on rfl rfl rfl rfl ?_
  refine Run.val (lt rfl) (Y.load rfl Law04b_ts9 (Kn.at 0 rfl) rfl) ?_
  refine Run.on rfl rfl rfl rfl ?_
  refine Run.val (lt rfl) (Y.lenStr rfl Law04b_st9) ?_
  refine Run.on rfl rfl rfl rfl ?_
  refine Run.val (lt rfl) (Y.int rfl rfl rfl) ?_
  refine Run.val (lt rfl) (Y.pick_f rfl rfl rfl) ?_
  refine Run.val (lt rfl) (Y.move rfl) ?_
  rcases Bool.eq_false_or_eq_true (decide ((m.client.size : Int) > 1000)) with h2 | h2
  · have g2 := h2
    try simp only [kb] at g2
    refine Run.off rfl rfl rfl h2 rfl (lt rfl) ?_
    refine Run.off rfl rfl rfl h2 rfl (lt rfl) ?_
    refine Run.off rfl rfl rfl h2 rfl (lt rfl) ?_
    refine Run.val (lt rfl) (Y.pick_t rfl h2 rfl) ?_
    refine Run.to_end ?_
    refine Ex.go ?_
    refine Tr.cond_t rfl rfl ?_
    refine Tr.seq ?_
    refine Tr.region ?_
    refine Run.val (lt rfl) (Y.move rfl) ?_
    refine Run.val (lt rfl) (Y.assign rfl) ?_
    refine Run.to_end ?_
    refine Ex.go ?_
    refine Tr.to_ret ?_
    refine Ex.ret_then ?_
    refine Ex.keep [] ?_
    exact Ex.ret1 rfl rfl  rfl
  · have g2 := h2
    try simp only [kb] at g2
    refine Run.on rfl rfl rfl h2 ?_
    refine Run.val (lt rfl) (Y.move rfl) ?_
    refine Run.on rfl rfl rfl h2 ?_
    refine Run.val (lt rfl) (Y.lenSl rfl Law04b_es38) ?_
    refine Run.on rfl rfl rfl h2 ?_
    refine Run.val (lt rfl) (Y.int rfl rfl rfl) ?_
    refine Run.val (lt rfl) (Y.pick_f rfl h2 rfl) ?_
    refine Run.to_end ?_
    refine Ex.go ?_
    rcases Bool.eq_false_or_eq_true (decide (((bs.length : Nat) : Int) > 1000)) with h3 | h3
    · have g3 := h3
      try simp only [kb] at g3
      refine Tr.cond_t rfl h3 ?_
      refine Tr.seq ?_
      refine Tr.region ?_
      refine Run.val (lt rfl) (Y.move rfl) ?_
      refine Run.val (lt rfl) (Y.assign rfl) ?_
      refine Run.to_end ?_
      refine Ex.go ?_
      refine Tr.to_ret ?_
      refine Ex.ret_then ?_
      refine Ex.keep [] ?_
      exact Ex.ret1 rfl rfl  rfl
    · have g3 := h3
      try simp only [kb] at g3
      refine Tr.cond_f rfl h3 ?_
      refine Tr.to_end ?_
      refine Ex.go ?_
      refine Tr.seq ?_
      refine Tr.region ?_
      refine Run.val (lt rfl) (Y.loadAgg rfl Law04b_ag37 (Kn.at 0 rfl) rfl) ?_
      refine Run.call [] (l := [.tmp 30]) rfl rfl rfl (lt rfl) (encode_no (m := m) hr) (fun v4 V2 H2 _ hR => ?_)
      obtain ⟨rfl, hV, rfl⟩ := hR; replace hV := hV.symm; subst hV
      refine Run.val (lt rfl) (Y.move rfl) ?_
      refine Run.val (lt rfl) (Y.extract rfl rfl) ?_
      refine Run.val (lt rfl) (Y.extract rfl rfl) ?_
      refine Run.val (lt rfl) (Y.assign rfl) ?_
      refine Run.val (lt rfl) (Y.assign rfl) ?_
      refine Run.to_end ?_
      refine Ex.go ?_
      refine Tr.seq ?_
      refine Tr.seq ?_
      refine Tr.region ?_
      refine Run.val (lt rfl) (Y.move rfl) ?_
      refine Run.val (lt rfl) (Y.int (r := .bool false) rfl rfl rfl) ?_
      refine Run.to_end ?_
      refine Ex.go ?_
      refine Tr.cond_f rfl rfl ?_
      refine Tr.to_end ?_
      refine Ex.go ?_
      refine Tr.seq ?_
      refine Tr.region ?_
      refine Run.val (lt rfl) (Y.move rfl) ?_
      refine Run.call0 (l := [.tmp 49]) rfl rfl rfl (lt rfl) (decode_no (bs := bs) hv hl hb) ?_
      refine Run.val (lt rfl) (Y.move rfl) ?_
      refine Run.val (lt rfl) (Y.extract rfl rfl) ?_
      refine Run.val (lt rfl) (Y.extract rfl rfl) ?_
      refine Run.alloc Law04b_zo37 (lt rfl) (fun b5 => ?_)
      refine Run.store (s := [(b5, .cells #[.int .i64 0, .int .i64 0, .int .i64 0, .int .i64 0, .int .i64 0, .int .u32 0, .int .i64 0, .string ⟨#[]⟩, .int .i64 0, .int .i64 0, .bool false] 37 (0, 0))]) rfl rfl Law04b_sz37 (i := 0) rfl rfl (le rfl) rfl rfl ?_
      refine Run.val (lt rfl) (Y.assign rfl) ?_
      refine Run.to_end ?_
      refine Ex.go ?_
      refine Tr.seq ?_
      refine Tr.seq ?_
      refine Tr.region ?_
      refine Run.val (lt rfl) (Y.move rfl) ?_
      refine Run.val (lt rfl) (Y.int (r := .bool true) rfl rfl rfl) ?_
      refine Run.to_end ?_
      refine Ex.go ?_
      refine Tr.cond_t rfl rfl ?_
      refine Tr.seq ?_
      refine Tr.region ?_
      refine Run.val (lt rfl) (Y.move rfl) ?_
      refine Run.val (lt rfl) (Y.int (r := .bool true) rfl rfl rfl) ?_
      refine Run.val (lt rfl) (Y.move rfl) ?_
      refine Run.on rfl rfl rfl rfl ?_
      refine Run.val (lt rfl) (Y.loadAgg rfl Law04b_ag37 (Kn.at 0 rfl) rfl) ?_
      refine Run.on rfl rfl rfl rfl ?_
      refine Run.val (lt rfl) (Y.buildS (l := []) Law04b_zo37 Law04b_pl37 rfl rfl) ?_
      refine Run.on rfl rfl rfl rfl ?_
      refine Run.val (lt rfl) (Y.eqS rfl rfl Law04b_tgs37 rfl rfl) ?_
      refine Run.val (lt rfl) (Y.pick_t rfl rfl rfl) ?_
      refine Run.val (lt rfl) (Y.assign rfl) ?_
      refine Run.to_end ?_
      refine Ex.go ?_
      refine Tr.to_ret ?_
      refine Ex.ret_then ?_
      refine Ex.keep [] ?_
      exact Ex.ret1 rfl rfl  (congrArg Value.bool (Msg.same_self (⟨0, 0, 0, 0, 0, 0, 0, ⟨#[]⟩, 0, 0, false⟩ : Msg)))

theorem mback_ny {V : Vw} {m : Msg} {bs : List UInt8} {p : Option Addr} {c : Nat} (ha : 0 ≤ m.addr ∧ m.addr ≤ 4294967295) (hv : Rd V [] 1 (.slice p bs.length c) bs.length (bs.map byteV)) (hl : bs.length ≤ 9223372036854775807) (hr : Msg.right m = false) (hb : Msg.bad bs = false)  : Does Try.prog 13 [.agg #[.int .i64 m.kind, .int .i64 m.life, .int .i64 m.seen, .int .i64 m.xid, .int .i64 m.state, .int .u32 m.addr, .int .i64 m.bind, .string m.client, .int .i64 m.pot, .int .i64 m.at_, .bool m.ok], .slice p bs.length c] V [] (fun v _ _ => v = .bool true) := by
  refine Does.intro Try.func13 rfl rfl (le rfl) (fun B => ?_)
  refine Tr.seq ?_
  refine Tr.region ?_
  refine Run.box rfl (lt rfl) (fun b1 => ?_)
  refine Run.val (lt rfl) (Y.assign rfl) ?_
  refine Run.to_end ?_
  refine Ex.go ?_
  refine Tr.seq ?_
  refine Tr.region ?_
  refine Run.call0 (l := []) rfl rfl rfl (lt rfl) awake_c ?_
  refine Run.val (lt rfl) (Y.assign rfl) ?_
  refine Run.to_end ?_
  refine Ex.go ?_
  refine Tr.seq ?_
  refine Tr.seq ?_
  refine Tr.region ?_
  refine Run.val (lt rfl) (Y.move rfl) ?_
  refine Run.val (lt rfl) (Y.not rfl) ?_
  refine Run.val (lt rfl) (Y.move rfl) ?_
  refine Run.on rfl rfl rfl rfl ?_
  refine Run.val (lt rfl) (Y.fieldAddr rfl Law04b_fo37_7) ?_
  refine Run.on rfl rfl rfl rfl ?_
  refine Run.val (lt rfl) (Y.load rfl Law04b_ts9 (Kn.at 0 rfl) rfl) ?_
  refine Run.on rfl rfl rfl rfl ?_
  refine Run.val (lt rfl) (Y.lenStr rfl Law04b_st9) ?_
  refine Run.on rfl rfl rfl rfl ?_
  refine Run.val (lt rfl) (Y.int rfl rfl rfl) ?_
  refine Run.val (lt rfl) (Y.pick_f rfl rfl rfl) ?_
  refine Run.val (lt rfl) (Y.move rfl) ?_
  rcases Bool.eq_false_or_eq_true (decide ((m.client.size : Int) > 1000)) with h2 | h2
  · have g2 := h2
    try simp only [kb] at g2
    refine Run.off rfl rfl rfl h2 rfl (lt rfl) ?_
    refine Run.off rfl rfl rfl h2 rfl (lt rfl) ?_
    refine Run.off rfl rfl rfl h2 rfl (lt rfl) ?_
    refine Run.val (lt rfl) (Y.pick_t rfl h2 rfl) ?_
    refine Run.to_end ?_
    refine Ex.go ?_
    refine Tr.cond_t rfl rfl ?_
    refine Tr.seq ?_
    refine Tr.region ?_
    refine Run.val (lt rfl) (Y.move rfl) ?_
    refine Run.val (lt rfl) (Y.assign rfl) ?_
    refine Run.to_end ?_
    refine Ex.go ?_
    refine Tr.to_ret ?_
    refine Ex.ret_then ?_
    refine Ex.keep [] ?_
    exact Ex.ret1 rfl rfl  rfl
  · have g2 := h2
    try simp only [kb] at g2
    refine Run.on rfl rfl rfl h2 ?_
    refine Run.val (lt rfl) (Y.move rfl) ?_
    refine Run.on rfl rfl rfl h2 ?_
    refine Run.val (lt rfl) (Y.lenSl rfl Law04b_es38) ?_
    refine Run.on rfl rfl rfl h2 ?_
    refine Run.val (lt rfl) (Y.int rfl rfl rfl) ?_
    refine Run.val (lt rfl) (Y.pick_f rfl h2 rfl) ?_
    refine Run.to_end ?_
    refine Ex.go ?_
    rcases Bool.eq_false_or_eq_true (decide (((bs.length : Nat) : Int) > 1000)) with h3 | h3
    · have g3 := h3
      try simp only [kb] at g3
      refine Tr.cond_t rfl h3 ?_
      refine Tr.seq ?_
      refine Tr.region ?_
      refine Run.val (lt rfl) (Y.move rfl) ?_
      refine Run.val (lt rfl) (Y.assign rfl) ?_
      refine Run.to_end ?_
      refine Ex.go ?_
      refine Tr.to_ret ?_
      refine Ex.ret_then ?_
      refine Ex.keep [] ?_
      exact Ex.ret1 rfl rfl  rfl
    · have g3 := h3
      try simp only [kb] at g3
      refine Tr.cond_f rfl h3 ?_
      refine Tr.to_end ?_
      refine Ex.go ?_
      refine Tr.seq ?_
      refine Tr.region ?_
      refine Run.val (lt rfl) (Y.loadAgg rfl Law04b_ag37 (Kn.at 0 rfl) rfl) ?_
      refine Run.call [] (l := [.tmp 30]) rfl rfl rfl (lt rfl) (encode_no (m := m) hr) (fun v4 V2 H2 _ hR => ?_)
      obtain ⟨rfl, hV, rfl⟩ := hR; replace hV := hV.symm; subst hV
      refine Run.val (lt rfl) (Y.move rfl) ?_
      refine Run.val (lt rfl) (Y.extract rfl rfl) ?_
      refine Run.val (lt rfl) (Y.extract rfl rfl) ?_
      refine Run.val (lt rfl) (Y.assign rfl) ?_
      refine Run.val (lt rfl) (Y.assign rfl) ?_
      refine Run.to_end ?_
      refine Ex.go ?_
      refine Tr.seq ?_
      refine Tr.seq ?_
      refine Tr.region ?_
      refine Run.val (lt rfl) (Y.move rfl) ?_
      refine Run.val (lt rfl) (Y.int (r := .bool false) rfl rfl rfl) ?_
      refine Run.to_end ?_
      refine Ex.go ?_
      refine Tr.cond_f rfl rfl ?_
      refine Tr.to_end ?_
      refine Ex.go ?_
      refine Tr.seq ?_
      refine Tr.region ?_
      refine Run.val (lt rfl) (Y.move rfl) ?_
      refine Run.call0 (l := [.tmp 49]) rfl rfl rfl (lt rfl) (decode_yes (bs := bs) hv hl hb) ?_
      refine Run.val (lt rfl) (Y.move rfl) ?_
      refine Run.val (lt rfl) (Y.extract rfl rfl) ?_
      refine Run.val (lt rfl) (Y.extract rfl rfl) ?_
      refine Run.alloc Law04b_zo37 (lt rfl) (fun b5 => ?_)
      refine Run.store (s := [(b5, .cells #[.int .i64 ((Msg.dec1 bs).1.kind), .int .i64 ((Msg.dec1 bs).1.life), .int .i64 ((Msg.dec1 bs).1.seen), .int .i64 ((Msg.dec1 bs).1.xid), .int .i64 ((Msg.dec1 bs).1.state), .int .u32 ((Msg.dec1 bs).1.addr), .int .i64 ((Msg.dec1 bs).1.bind), .string ((Msg.dec1 bs).1.client), .int .i64 ((Msg.dec1 bs).1.pot), .int .i64 ((Msg.dec1 bs).1.at_), .bool ((Msg.dec1 bs).1.ok)] 37 (0, 0))]) rfl rfl Law04b_sz37 (i := 0) rfl rfl (le rfl) rfl rfl ?_
      refine Run.val (lt rfl) (Y.assign rfl) ?_
      refine Run.to_end ?_
      refine Ex.go ?_
      refine Tr.seq ?_
      refine Tr.seq ?_
      refine Tr.region ?_
      refine Run.val (lt rfl) (Y.move rfl) ?_
      refine Run.val (lt rfl) (Y.int (r := .bool false) rfl rfl rfl) ?_
      refine Run.to_end ?_
      refine Ex.go ?_
      refine Tr.cond_f rfl rfl ?_
      refine Tr.to_end ?_
      refine Ex.go ?_
      refine Tr.seq ?_
      refine Tr.region ?_
      refine Run.val (lt rfl) (Y.loadAgg rfl Law04b_ag37 (Kn.at 0 rfl) rfl) ?_
      refine Run.call [] (l := [.tmp 63]) rfl rfl rfl (lt rfl) (encode_yes (m := ((Msg.dec1 bs).1)) (Msg.not_bad hb).1 (Msg.not_bad hb).2.2) (fun v6 V2 H2 _ hR => ?_)
      obtain ⟨hV, x6, s6, rfl, rfl, ho6⟩ := hR; replace hV := hV.symm; subst hV; obtain ⟨p6, c6, rfl⟩ := ho6.form
      refine Run.val (lt rfl) (Y.move rfl) ?_
      refine Run.val (lt rfl) (Y.extract rfl rfl) ?_
      refine Run.val (lt rfl) (Y.extract rfl rfl) ?_
      refine Run.val (lt rfl) (Y.assign rfl) ?_
      refine Run.val (lt rfl) (Y.assign rfl) ?_
      refine Run.to_end ?_
      refine Ex.go ?_
      refine Tr.seq ?_
      refine Tr.region ?_
      refine Run.val (lt rfl) (Y.move rfl) ?_
      refine Run.val (lt rfl) (Y.int (r := .bool true) rfl rfl rfl) ?_
      refine Run.val (lt rfl) (Y.move rfl) ?_
      refine Run.on rfl rfl rfl rfl ?_
      refine Run.val (lt rfl) (Y.move rfl) ?_
      refine Run.on rfl rfl rfl rfl ?_
      refine Run.val (lt rfl) (Y.bytesStr (bs := (Msg.enc ((Msg.dec1 bs).1))) rfl Law04b_es38 Law04b_tg5 Law04b_st9 (ho6.rd 2 rfl)) ?_
      refine Run.on rfl rfl rfl rfl ?_
      refine Run.val (lt rfl) (Y.move rfl) ?_
      refine Run.on rfl rfl rfl rfl ?_
      refine Run.val (lt rfl) (Y.bytesStr (bs := bs) rfl Law04b_es38 Law04b_tg5 Law04b_st9 hv.of_nil) ?_
      refine Run.on rfl rfl rfl rfl ?_
      refine Run.val (lt rfl) (Y.eqStr_t rfl rfl (by rw [(Msg.not_bad hb).2.1])) ?_
      refine Run.val (lt rfl) (Y.pick_t rfl rfl rfl) ?_
      refine Run.val (lt rfl) (Y.assign rfl) ?_
      refine Run.to_end ?_
      refine Ex.go ?_
      refine Tr.to_ret ?_
      refine Ex.keep [] ?_
      exact Ex.ret1 rfl rfl  rfl

theorem mback_c {V : Vw} {m : Msg} {bs : List UInt8} {v0 : Value} (ha : 0 ≤ m.addr ∧ m.addr ≤ 4294967295) (hv : Rd V [] 1 v0 bs.length (bs.map byteV)) (hl : bs.length ≤ 9223372036854775807) : Does Try.prog 13 [.agg m.cells, v0] V [] (fun v _ _ => v = .bool true) := by
  obtain ⟨p, c, rfl, _⟩ := hv.form
  cases hr : Msg.right m with
  | true => cases hb : Msg.bad bs with
    | true => exact mback_yn ha hv hl hr hb
    | false => exact mback_yy ha hv hl hr hb
  | false => cases hb : Msg.bad bs with
    | true => exact mback_nn ha hv hl hr hb
    | false => exact mback_ny ha hv hl hr hb

theorem monce_yy {V : Vw} {m n : Msg} {bs : List UInt8} {p : Option Addr} {c : Nat} (ha : 0 ≤ m.addr ∧ m.addr ≤ 4294967295) (ha2 : 0 ≤ n.addr ∧ n.addr ≤ 4294967295) (hv : Rd V [] 1 (.slice p bs.length c) bs.length (bs.map byteV)) (hl : bs.length ≤ 9223372036854775807) (hr : Msg.right m = true) (hr2 : Msg.right n = true)  : Does Try.prog 14 [.agg #[.int .i64 m.kind, .int .i64 m.life, .int .i64 m.seen, .int .i64 m.xid, .int .i64 m.state, .int .u32 m.addr, .int .i64 m.bind, .string m.client, .int .i64 m.pot, .int .i64 m.at_, .bool m.ok], .agg #[.int .i64 n.kind, .int .i64 n.life, .int .i64 n.seen, .int .i64 n.xid, .int .i64 n.state, .int .u32 n.addr, .int .i64 n.bind, .string n.client, .int .i64 n.pot, .int .i64 n.at_, .bool n.ok], .slice p bs.length c] V [] (fun v _ _ => v = .bool true) := by
  have hel := Msg.enc_bounds hr
  refine Does.intro Try.func14 rfl rfl (le rfl) (fun B => ?_)
  refine Tr.seq ?_
  refine Tr.region ?_
  refine Run.box rfl (lt rfl) (fun b1 => ?_)
  refine Run.box rfl (lt rfl) (fun b2 => ?_)
  refine Run.val (lt rfl) (Y.assign rfl) ?_
  refine Run.to_end ?_
  refine Ex.go ?_
  refine Tr.seq ?_
  refine Tr.region ?_
  refine Run.call0 (l := []) rfl rfl rfl (lt rfl) awake_c ?_
  refine Run.val (lt rfl) (Y.assign rfl) ?_
  refine Run.to_end ?_
  refine Ex.go ?_
  refine Tr.seq ?_
  refine Tr.seq ?_
  refine Tr.region ?_
  refine Run.val (lt rfl) (Y.move rfl) ?_
  refine Run.val (lt rfl) (Y.not rfl) ?_
  refine Run.val (lt rfl) (Y.move rfl) ?_
  refine Run.on rfl rfl rfl rfl ?_
  refine Run.val (lt rfl) (Y.fieldAddr rfl Law04b_fo37_7) ?_
  refine Run.on rfl rfl rfl rfl ?_
  refine Run.val (lt rfl) (Y.load rfl Law04b_ts9 (Kn.at 1 rfl) rfl) ?_
  refine Run.on rfl rfl rfl rfl ?_
  refine Run.val (lt rfl) (Y.lenStr rfl Law04b_st9) ?_
  refine Run.on rfl rfl rfl rfl ?_
  refine Run.val (lt rfl) (Y.int rfl rfl rfl) ?_
  refine Run.val (lt rfl) (Y.pick_f rfl rfl rfl) ?_
  refine Run.val (lt rfl) (Y.move rfl) ?_
  rcases Bool.eq_false_or_eq_true (decide ((m.client.size : Int) > 1000)) with h3 | h3
  · have g3 := h3
    try simp only [kb] at g3
    refine Run.off rfl rfl rfl h3 rfl (lt rfl) ?_
    refine Run.off rfl rfl rfl h3 rfl (lt rfl) ?_
    refine Run.off rfl rfl rfl h3 rfl (lt rfl) ?_
    refine Run.off rfl rfl rfl h3 rfl (lt rfl) ?_
    refine Run.val (lt rfl) (Y.pick_t rfl h3 rfl) ?_
    refine Run.val (lt rfl) (Y.move rfl) ?_
    refine Run.off rfl rfl rfl rfl rfl (lt rfl) ?_
    refine Run.off rfl rfl rfl rfl rfl (lt rfl) ?_
    refine Run.off rfl rfl rfl rfl rfl (lt rfl) ?_
    refine Run.val (lt rfl) (Y.pick_t rfl rfl rfl) ?_
    refine Run.val (lt rfl) (Y.move rfl) ?_
    refine Run.off rfl rfl rfl rfl rfl (lt rfl) ?_
    refine Run.off rfl rfl rfl rfl rfl (lt rfl) ?_
    refine Run.off rfl rfl rfl rfl rfl (lt rfl) ?_
    refine Run.val (lt rfl) (Y.pick_t rfl rfl rfl) ?_
    refine Run.to_end ?_
    refine Ex.go ?_
    refine Tr.cond_t rfl rfl ?_
    refine Tr.seq ?_
    refine Tr.region ?_
    refine Run.val (lt rfl) (Y.move rfl) ?_
    refine Run.val (lt rfl) (Y.assign rfl) ?_
    refine Run.to_end ?_
    refine Ex.go ?_
    refine Tr.to_ret ?_
    refine Ex.ret_then ?_
    refine Ex.keep [] ?_
    exact Ex.ret1 rfl rfl  rfl
  · have g3 := h3
    try simp only [kb] at g3
    refine Run.on rfl rfl rfl h3 ?_
    refine Run.val (lt rfl) (Y.fieldAddr rfl Law04b_fo37_7) ?_
    refine Run.on rfl rfl rfl h3 ?_
    refine Run.val (lt rfl) (Y.load rfl Law04b_ts9 (Kn.at 0 rfl) rfl) ?_
    refine Run.on rfl rfl rfl h3 ?_
    refine Run.val (lt rfl) (Y.lenStr rfl Law04b_st9) ?_
    refine Run.on rfl rfl rfl h3 ?_
    refine Run.val (lt rfl) (Y.int rfl rfl rfl) ?_
    refine Run.val (lt rfl) (Y.pick_f rfl h3 rfl) ?_
    refine Run.val (lt rfl) (Y.move rfl) ?_
    rcases Bool.eq_false_or_eq_true (decide ((n.client.size : Int) > 1000)) with h4 | h4
    · have g4 := h4
      try simp only [kb] at g4
      refine Run.off rfl rfl rfl h4 rfl (lt rfl) ?_
      refine Run.off rfl rfl rfl h4 rfl (lt rfl) ?_
      refine Run.off rfl rfl rfl h4 rfl (lt rfl) ?_
      refine Run.val (lt rfl) (Y.pick_t rfl h4 rfl) ?_
      refine Run.val (lt rfl) (Y.move rfl) ?_
      refine Run.off rfl rfl rfl rfl rfl (lt rfl) ?_
      refine Run.off rfl rfl rfl rfl rfl (lt rfl) ?_
      refine Run.off rfl rfl rfl rfl rfl (lt rfl) ?_
      refine Run.val (lt rfl) (Y.pick_t rfl rfl rfl) ?_
      refine Run.to_end ?_
      refine Ex.go ?_
      refine Tr.cond_t rfl rfl ?_
      refine Tr.seq ?_
      refine Tr.region ?_
      refine Run.val (lt rfl) (Y.move rfl) ?_
      refine Run.val (lt rfl) (Y.assign rfl) ?_
      refine Run.to_end ?_
      refine Ex.go ?_
      refine Tr.to_ret ?_
      refine Ex.ret_then ?_
      refine Ex.keep [] ?_
      exact Ex.ret1 rfl rfl  rfl
    · have g4 := h4
      try simp only [kb] at g4
      refine Run.on rfl rfl rfl h4 ?_
      refine Run.val (lt rfl) (Y.move rfl) ?_
      refine Run.on rfl rfl rfl h4 ?_
      refine Run.val (lt rfl) (Y.lenSl rfl Law04b_es38) ?_
      refine Run.on rfl rfl rfl h4 ?_
      refine Run.val (lt rfl) (Y.int rfl rfl rfl) ?_
      refine Run.val (lt rfl) (Y.pick_f rfl h4 rfl) ?_
      refine Run.val (lt rfl) (Y.move rfl) ?_
      rcases Bool.eq_false_or_eq_true (decide (((bs.length : Nat) : Int) < 1)) with h5 | h5
      · have g5 := h5
        try simp only [kb] at g5
        refine Run.off rfl rfl rfl h5 rfl (lt rfl) ?_
        refine Run.off rfl rfl rfl h5 rfl (lt rfl) ?_
        refine Run.off rfl rfl rfl h5 rfl (lt rfl) ?_
        refine Run.val (lt rfl) (Y.pick_t rfl h5 rfl) ?_
        refine Run.to_end ?_
        refine Ex.go ?_
        refine Tr.cond_t rfl rfl ?_
        refine Tr.seq ?_
        refine Tr.region ?_
        refine Run.val (lt rfl) (Y.move rfl) ?_
        refine Run.val (lt rfl) (Y.assign rfl) ?_
        refine Run.to_end ?_
        refine Ex.go ?_
        refine Tr.to_ret ?_
        refine Ex.ret_then ?_
        refine Ex.keep [] ?_
        exact Ex.ret1 rfl rfl  rfl
      · have g5 := h5
        try simp only [kb] at g5
        refine Run.on rfl rfl rfl h5 ?_
        refine Run.val (lt rfl) (Y.move rfl) ?_
        refine Run.on rfl rfl rfl h5 ?_
        refine Run.val (lt rfl) (Y.lenSl rfl Law04b_es38) ?_
        refine Run.on rfl rfl rfl h5 ?_
        refine Run.val (lt rfl) (Y.int rfl rfl rfl) ?_
        refine Run.val (lt rfl) (Y.pick_f rfl h5 rfl) ?_
        refine Run.to_end ?_
        refine Ex.go ?_
        rcases Bool.eq_false_or_eq_true (decide (((bs.length : Nat) : Int) > 100)) with h6 | h6
        · have g6 := h6
          try simp only [kb] at g6
          refine Tr.cond_t rfl h6 ?_
          refine Tr.seq ?_
          refine Tr.region ?_
          refine Run.val (lt rfl) (Y.move rfl) ?_
          refine Run.val (lt rfl) (Y.assign rfl) ?_
          refine Run.to_end ?_
          refine Ex.go ?_
          refine Tr.to_ret ?_
          refine Ex.ret_then ?_
          refine Ex.keep [] ?_
          exact Ex.ret1 rfl rfl  rfl
        · have g6 := h6
          try simp only [kb] at g6
          refine Tr.cond_f rfl h6 ?_
          refine Tr.to_end ?_
          refine Ex.go ?_
          refine Tr.seq ?_
          refine Tr.region ?_
          refine Run.val (lt rfl) (Y.loadAgg rfl Law04b_ag37 (Kn.at 1 rfl) rfl) ?_
          refine Run.call [] (l := [.tmp 43]) rfl rfl rfl (lt rfl) (encode_yes (m := m) hr ha) (fun v7 V2 H2 _ hR => ?_)
          obtain ⟨hV, x7, s7, rfl, rfl, ho7⟩ := hR; replace hV := hV.symm; subst hV; obtain ⟨p7, c7, rfl⟩ := ho7.form
          refine Run.val (lt rfl) (Y.move rfl) ?_
          refine Run.val (lt rfl) (Y.extract rfl rfl) ?_
          refine Run.val (lt rfl) (Y.extract rfl rfl) ?_
          refine Run.val (lt rfl) (Y.assign rfl) ?_
          refine Run.val (lt rfl) (Y.assign rfl) ?_
          refine Run.to_end ?_
          refine Ex.go ?_
          refine Tr.seq ?_
          refine Tr.region ?_
          refine Run.val (lt rfl) (Y.loadAgg rfl Law04b_ag37 (Kn.at 0 rfl) rfl) ?_
          refine Run.call [] (l := [.tmp 48]) rfl rfl rfl (lt rfl) (encode_yes (m := n) hr2 ha2) (fun v8 V2 H2 _ hR => ?_)
          obtain ⟨hV, x8, s8, rfl, rfl, ho8⟩ := hR; replace hV := hV.symm; subst hV; obtain ⟨p8, c8, rfl⟩ := ho8.form
          refine Run.val (lt rfl) (Y.move rfl) ?_
          refine Run.val (lt rfl) (Y.extract rfl rfl) ?_
          refine Run.val (lt rfl) (Y.extract rfl rfl) ?_
          refine Run.val (lt rfl) (Y.assign rfl) ?_
          refine Run.val (lt rfl) (Y.assign rfl) ?_
          refine Run.to_end ?_
          refine Ex.go ?_
          refine Tr.seq ?_
          refine Tr.seq ?_
          refine Tr.region ?_
          refine Run.val (lt rfl) (Y.move rfl) ?_
          refine Run.val (lt rfl) (Y.int (r := .bool false) rfl rfl rfl) ?_
          refine Run.val (lt rfl) (Y.move rfl) ?_
          refine Run.on rfl rfl rfl rfl ?_
          refine Run.val (lt rfl) (Y.move rfl) ?_
          refine Run.on rfl rfl rfl rfl ?_
          refine Run.val (lt rfl) (Y.int (r := .bool false) rfl rfl rfl) ?_
          refine Run.val (lt rfl) (Y.pick_f rfl rfl rfl) ?_
          refine Run.to_end ?_
          refine Ex.go ?_
          refine Tr.cond_f rfl rfl ?_
          refine Tr.to_end ?_
          refine Ex.go ?_
          refine Tr.seq ?_
          refine Tr.region ?_
          refine Run.buildSlice0 Law04b_es38 (lt rfl) (fun b9 => ?_)
          refine Run.val (lt rfl) (Y.move rfl) ?_
          refine Run.append (n := 0) (m := (Msg.enc m).length) (xs := []) (ys := (Msg.enc m).map byteV) rfl rfl Law04b_es38 Law04b_zi5 (by decide) (j := 0) rfl (Ow.lit (cur := #[]) rfl (by decide)) (Src.of_rd Law04b_es38 (ho7.rd 3 rfl)) (by omega) (by omega) (all_one_bytes _) (lt rfl) (fun v10 s11 ho12 hf => ?_)
          obtain ⟨p10, c10, rfl⟩ := hf
          refine Run.val (lt rfl) (Y.move rfl) ?_
          refine Run.append (n := 0 + (Msg.enc m).length) (m := bs.length) (xs := [] ++ ((Msg.enc m).map byteV)) (ys := bs.map byteV) rfl rfl Law04b_es38 Law04b_zi5 (by decide) (j := 0) rfl ho12 (Src.of_rd Law04b_es38 hv.of_nil) (by omega) (by omega) (all_one_bytes _) (lt rfl) (fun v13 s14 ho15 hf => ?_)
          obtain ⟨p13, c13, rfl⟩ := hf
          have hl1 : 0 < bs.length := by omega
          have hob := ho15.bytes (bs := Msg.enc m ++ bs) (by simp)
          have hlen8 : (0 + (Msg.enc m).length + bs.length) = (Msg.enc m ++ bs).length := by simp
          refine Run.keep [0, 0, 0, 0, 0] ?_
          refine Run.show (fun Vl hlel hshl => ?_)
          have hvl : Rd Vl [] 1 _ (Msg.enc m ++ bs).length ((Msg.enc m ++ bs).map byteV) := hob.show hshl
          have hvl0 := hv.le hlel
          refine Run.call0 (l := [.tmp 63]) rfl rfl rfl (lt rfl) (decode_no (bs := (Msg.enc m ++ bs)) hvl (by simp; omega) (Msg.bad_more hr ha (by intro e; rw [e] at hl1; exact absurd hl1 (by decide)))) ?_
          refine Run.val (lt rfl) (Y.move rfl) ?_
          refine Run.val (lt rfl) (Y.extract rfl rfl) ?_
          refine Run.val (lt rfl) (Y.extract rfl rfl) ?_
          refine Run.alloc Law04b_zo37 (lt rfl) (fun b16 => ?_)
          refine Run.store (s := [(b16, .cells #[.int .i64 0, .int .i64 0, .int .i64 0, .int .i64 0, .int .i64 0, .int .u32 0, .int .i64 0, .string ⟨#[]⟩, .int .i64 0, .int .i64 0, .bool false] 37 (0, 0))]) rfl rfl Law04b_sz37 (i := 0) rfl rfl (le rfl) rfl rfl ?_
          refine Run.val (lt rfl) (Y.assign rfl) ?_
          refine Run.to_end ?_
          refine Ex.go ?_
          refine Tr.seq ?_
          refine Tr.region ?_
          refine Run.keep [3, 0, 0, 0, 0] ?_
          refine Run.show (fun Vk hlek hshk => ?_)
          have hvk : Rd Vk [] 1 _ (Msg.enc m).length ((Msg.enc m).map byteV) := ho7.show hshk
          have hcapk := hvk.cap
          refine Run.val (lt rfl) (Y.move rfl) ?_
          refine Run.val (lt rfl) (Y.move rfl) ?_
          refine Run.val (lt rfl) (Y.lenSl rfl Law04b_es38) ?_
          refine Run.val (lt rfl) (Y.sub rfl rfl (by omega)) ?_
          refine Run.sub [(0, .agg #[.int .i64 m.kind, .int .i64 m.life, .int .i64 m.seen, .int .i64 m.xid, .int .i64 m.state, .int .u32 m.addr, .int .i64 m.bind, .string m.client, .int .i64 m.pot, .int .i64 m.at_, .bool m.ok]), (1, .agg #[.int .i64 n.kind, .int .i64 n.life, .int .i64 n.seen, .int .i64 n.xid, .int .i64 n.state, .int .u32 n.addr, .int .i64 n.bind, .string n.client, .int .i64 n.pot, .int .i64 n.at_, .bool n.ok]), (2, .slice p bs.length c), (3, .pointer (some ⟨b1, 0, none⟩)), (4, .pointer (some ⟨b2, 0, none⟩)), (6, .bool false), (16, .bool true), (7, .bool true), (17, .bool true), (18, .bool (!true)), (19, .bool (!true)), (20, .pointer (some ⟨b1, 7, none⟩)), (21, .string m.client), (22, .int .i64 (m.client.size : Int)), (23, .bool (decide ((m.client.size : Int) > 1000))), (24, .bool (decide ((m.client.size : Int) > 1000))), (25, .bool (decide ((m.client.size : Int) > 1000))), (26, .pointer (some ⟨b2, 7, none⟩)), (27, .string n.client), (28, .int .i64 (n.client.size : Int)), (29, .bool (decide ((n.client.size : Int) > 1000))), (30, .bool (decide ((n.client.size : Int) > 1000))), (31, .bool (decide ((n.client.size : Int) > 1000))), (32, .slice p bs.length c), (33, .int .i64 ((bs.length : Nat) : Int)), (34, .bool (decide (((bs.length : Nat) : Int) < 1))), (35, .bool (decide (((bs.length : Nat) : Int) < 1))), (36, .bool (decide (((bs.length : Nat) : Int) < 1))), (37, .slice p bs.length c), (38, .int .i64 ((bs.length : Nat) : Int)), (39, .bool (decide (((bs.length : Nat) : Int) > 100))), (40, .bool (decide (((bs.length : Nat) : Int) > 100))), (43, .agg #[.int .i64 m.kind, .int .i64 m.life, .int .i64 m.seen, .int .i64 m.xid, .int .i64 m.state, .int .u32 m.addr, .int .i64 m.bind, .string m.client, .int .i64 m.pot, .int .i64 m.at_, .bool m.ok]), (44, .tuple #[.slice p7 (Msg.enc m).length c7, .int .i64 0]), (42, .tuple #[.slice p7 (Msg.enc m).length c7, .int .i64 0]), (45, .slice p7 (Msg.enc m).length c7), (46, .int .i64 0), (8, .slice p7 (Msg.enc m).length c7), (9, .int .i64 0), (48, .agg #[.int .i64 n.kind, .int .i64 n.life, .int .i64 n.seen, .int .i64 n.xid, .int .i64 n.state, .int .u32 n.addr, .int .i64 n.bind, .string n.client, .int .i64 n.pot, .int .i64 n.at_, .bool n.ok]), (49, .tuple #[.slice p8 (Msg.enc n).length c8, .int .i64 0]), (47, .tuple #[.slice p8 (Msg.enc n).length c8, .int .i64 0]), (50, .slice p8 (Msg.enc n).length c8), (51, .int .i64 0), (10, .slice p8 (Msg.enc n).length c8), (11, .int .i64 0), (52, .int .i64 0), (53, .bool false), (54, .bool false), (55, .int .i64 0), (56, .bool false), (57, .bool false), (59, .slice (some ⟨b9, 0, none⟩) 0 0), (60, .slice p7 (Msg.enc m).length c7), (61, .slice p10 (0 + (Msg.enc m).length) c10), (62, .slice p bs.length c), (63, .slice p13 (0 + (Msg.enc m).length + bs.length) c13), (64, .tuple #[.agg #[.int .i64 0, .int .i64 0, .int .i64 0, .int .i64 0, .int .i64 0, .int .u32 0, .int .i64 0, .string ⟨#[]⟩, .int .i64 0, .int .i64 0, .bool false], .int .i64 2]), (58, .tuple #[.agg #[.int .i64 0, .int .i64 0, .int .i64 0, .int .i64 0, .int .i64 0, .int .u32 0, .int .i64 0, .string ⟨#[]⟩, .int .i64 0, .int .i64 0, .bool false], .int .i64 2]), (65, .agg #[.int .i64 0, .int .i64 0, .int .i64 0, .int .i64 0, .int .i64 0, .int .u32 0, .int .i64 0, .string ⟨#[]⟩, .int .i64 0, .int .i64 0, .bool false]), (66, .int .i64 2), (12, .pointer (some ⟨b16, 0, none⟩)), (13, .int .i64 2), (68, .slice p7 (Msg.enc m).length c7), (69, .slice p7 (Msg.enc m).length c7), (70, .int .i64 (((Msg.enc m).length : Nat) : Int)), (71, .int .i64 (((Msg.enc m).length - 1 : Nat) : Int))] (subB_cons (by first | rfl | exact congrArg (fun z => some (Value.int _ z)) (by omega)) (subB_cons (by first | rfl | exact congrArg (fun z => some (Value.int _ z)) (by omega)) (subB_cons (by first | rfl | exact congrArg (fun z => some (Value.int _ z)) (by omega)) (subB_cons (by first | rfl | exact congrArg (fun z => some (Value.int _ z)) (by omega)) (subB_cons (by first | rfl | exact congrArg (fun z => some (Value.int _ z)) (by omega)) (subB_cons (by first | rfl | exact congrArg (fun z => some (Value.int _ z)) (by omega)) (subB_cons (by first | rfl | exact congrArg (fun z => some (Value.int _ z)) (by omega)) (subB_cons (by first | rfl | exact congrArg (fun z => some (Value.int _ z)) (by omega)) (subB_cons (by first | rfl | exact congrArg (fun z => some (Value.int _ z)) (by omega)) (subB_cons (by first | rfl | exact congrArg (fun z => some (Value.int _ z)) (by omega)) (subB_cons (by first | rfl | exact congrArg (fun z => some (Value.int _ z)) (by omega)) (subB_cons (by first | rfl | exact congrArg (fun z => some (Value.int _ z)) (by omega)) (subB_cons (by first | rfl | exact congrArg (fun z => some (Value.int _ z)) (by omega)) (subB_cons (by first | rfl | exact congrArg (fun z => some (Value.int _ z)) (by omega)) (subB_cons (by first | rfl | exact congrArg (fun z => some (Value.int _ z)) (by omega)) (subB_cons (by first | rfl | exact congrArg (fun z => some (Value.int _ z)) (by omega)) (subB_cons (by first | rfl | exact congrArg (fun z => some (Value.int _ z)) (by omega)) (subB_cons (by first | rfl | exact congrArg (fun z => some (Value.int _ z)) (by omega)) (subB_cons (by first | rfl | exact congrArg (fun z => some (Value.int _ z)) (by omega)) (subB_cons (by first | rfl | exact congrArg (fun z => some (Value.int _ z)) (by omega)) (subB_cons (by first | rfl | exact congrArg (fun z => some (Value.int _ z)) (by omega)) (subB_cons (by first | rfl | exact congrArg (fun z => some (Value.int _ z)) (by omega)) (subB_cons (by first | rfl | exact congrArg (fun z => some (Value.int _ z)) (by omega)) (subB_cons (by first | rfl | exact congrArg (fun z => some (Value.int _ z)) (by omega)) (subB_cons (by first | rfl | exact congrArg (fun z => some (Value.int _ z)) (by omega)) (subB_cons (by first | rfl | exact congrArg (fun z => some (Value.int _ z)) (by omega)) (subB_cons (by first | rfl | exact congrArg (fun z => some (Value.int _ z)) (by omega)) (subB_cons (by first | rfl | exact congrArg (fun z => some (Value.int _ z)) (by omega)) (subB_cons (by first | rfl | exact congrArg (fun z => some (Value.int _ z)) (by omega)) (subB_cons (by first | rfl | exact congrArg (fun z => some (Value.int _ z)) (by omega)) (subB_cons (by first | rfl | exact congrArg (fun z => some (Value.int _ z)) (by omega)) (subB_cons (by first | rfl | exact congrArg (fun z => some (Value.int _ z)) (by omega)) (subB_cons (by first | rfl | exact congrArg (fun z => some (Value.int _ z)) (by omega)) (subB_cons (by first | rfl | exact congrArg (fun z => some (Value.int _ z)) (by omega)) (subB_cons (by first | rfl | exact congrArg (fun z => some (Value.int _ z)) (by omega)) (subB_cons (by first | rfl | exact congrArg (fun z => some (Value.int _ z)) (by omega)) (subB_cons (by first | rfl | exact congrArg (fun z => some (Value.int _ z)) (by omega)) (subB_cons (by first | rfl | exact congrArg (fun z => some (Value.int _ z)) (by omega)) (subB_cons (by first | rfl | exact congrArg (fun z => some (Value.int _ z)) (by omega)) (subB_cons (by first | rfl | exact congrArg (fun z => some (Value.int _ z)) (by omega)) (subB_cons (by first | rfl | exact congrArg (fun z => some (Value.int _ z)) (by omega)) (subB_cons (by first | rfl | exact congrArg (fun z => some (Value.int _ z)) (by omega)) (subB_cons (by first | rfl | exact congrArg (fun z => some (Value.int _ z)) (by omega)) (subB_cons (by first | rfl | exact congrArg (fun z => some (Value.int _ z)) (by omega)) (subB_cons (by first | rfl | exact congrArg (fun z => some (Value.int _ z)) (by omega)) (subB_cons (by first | rfl | exact congrArg (fun z => some (Value.int _ z)) (by omega)) (subB_cons (by first | rfl | exact congrArg (fun z => some (Value.int _ z)) (by omega)) (subB_cons (by first | rfl | exact congrArg (fun z => some (Value.int _ z)) (by omega)) (subB_cons (by first | rfl | exact congrArg (fun z => some (Value.int _ z)) (by omega)) (subB_cons (by first | rfl | exact congrArg (fun z => some (Value.int _ z)) (by omega)) (subB_cons (by first | rfl | exact congrArg (fun z => some (Value.int _ z)) (by omega)) (subB_cons (by first | rfl | exact congrArg (fun z => some (Value.int _ z)) (by omega)) (subB_cons (by first | rfl | exact congrArg (fun z => some (Value.int _ z)) (by omega)) (subB_cons (by first | rfl | exact congrArg (fun z => some (Value.int _ z)) (by omega)) (subB_cons (by first | rfl | exact congrArg (fun z => some (Value.int _ z)) (by omega)) (subB_cons (by first | rfl | exact congrArg (fun z => some (Value.int _ z)) (by omega)) (subB_cons (by first | rfl | exact congrArg (fun z => some (Value.int _ z)) (by omega)) (subB_cons (by first | rfl | exact congrArg (fun z => some (Value.int _ z)) (by omega)) (subB_cons (by first | rfl | exact congrArg (fun z => some (Value.int _ z)) (by omega)) (subB_cons (by first | rfl | exact congrArg (fun z => some (Value.int _ z)) (by omega)) (subB_cons (by first | rfl | exact congrArg (fun z => some (Value.int _ z)) (by omega)) (subB_cons (by first | rfl | exact congrArg (fun z => some (Value.int _ z)) (by omega)) (subB_cons (by first | rfl | exact congrArg (fun z => some (Value.int _ z)) (by omega)) (subB_cons (by first | rfl | exact congrArg (fun z => some (Value.int _ z)) (by omega)) (subB_cons (by first | rfl | exact congrArg (fun z => some (Value.int _ z)) (by omega)) (subB_cons (by first | rfl | exact congrArg (fun z => some (Value.int _ z)) (by omega)) (subB_cons (by first | rfl | exact congrArg (fun z => some (Value.int _ z)) (by omega)) (subB_nil _)))))))))))))))))))))))))))))))))))))))))))))))))))))))))))))))))))) ?_
          refine Run.val (lt rfl) (Y.slice (l := 0) (m := (Msg.enc m).length - 1) rfl Law04b_es38 rfl rfl (by omega) (by omega)) ?_
          refine Run.call0 (l := [.tmp 72]) rfl rfl rfl (lt rfl) (decode_no (bs := (Msg.sl (Msg.enc m) 0 ((Msg.enc m).length - 1))) (rd_sl hvk 0 ((Msg.enc m).length - 1) (by omega) (by omega)) (by rw [Msg.sl_length _ _ _ (by omega)]; omega) (Msg.bad_init hr ha)) ?_
          refine Run.val (lt rfl) (Y.move rfl) ?_
          refine Run.val (lt rfl) (Y.extract rfl rfl) ?_
          refine Run.val (lt rfl) (Y.extract rfl rfl) ?_
          refine Run.alloc Law04b_zo37 (lt rfl) (fun b17 => ?_)
          refine Run.store (s := [(b17, .cells #[.int .i64 0, .int .i64 0, .int .i64 0, .int .i64 0, .int .i64 0, .int .u32 0, .int .i64 0, .string ⟨#[]⟩, .int .i64 0, .int .i64 0, .bool false] 37 (0, 0))]) rfl rfl Law04b_sz37 (i := 0) rfl rfl (le rfl) rfl rfl ?_
          refine Run.val (lt rfl) (Y.assign rfl) ?_
          refine Run.to_end ?_
          refine Ex.go ?_
          refine Tr.seq ?_
          refine Tr.quiet Law04b_mo (by kernel_rfl) ?_
          refine RunQ.val (lt rfl) (Y.move rfl) ?_
          refine RunQ.val (lt rfl) (Y.bytesStr (bs := (Msg.enc m)) rfl Law04b_es38 Law04b_tg5 Law04b_st9 hvk.of_nil) ?_
          refine RunQ.val (lt rfl) (Y.move rfl) ?_
          refine RunQ.val (lt rfl) (Y.bytesStr (bs := (Msg.enc n)) rfl Law04b_es38 Law04b_tg5 Law04b_st9 (ho8.rd 4 rfl)) ?_
          refine RunQ.val (lt rfl) (Y.eqStr rfl rfl) ?_
          refine RunQ.val (lt rfl) (Y.loadAgg rfl Law04b_ag37 (Kn.at 3 rfl) rfl) ?_
          refine RunQ.val (lt rfl) (Y.loadAgg rfl Law04b_ag37 (Kn.at 2 rfl) rfl) ?_
          refine RunQ.val (lt rfl) (Y.eqS rfl rfl Law04b_tgs37 rfl rfl) ?_
          have h84 : (((⟨((Msg.enc m) : List UInt8).toArray⟩ : ByteArray).toList == (⟨((Msg.enc n) : List UInt8).toArray⟩ : ByteArray).toList) == (Msg.same m n)) = true := Msg.enc_eq_same hr ha hr2 ha2
          refine RunQ.val (lt rfl) (Y.eqB rfl rfl Law04b_tg4) ?_
          refine RunQ.val (lt rfl) (Y.move rfl) ?_
          refine RunQ.on rfl rfl rfl h84 ?_
          refine RunQ.val (lt rfl) (Y.move rfl) ?_
          refine RunQ.on rfl rfl rfl h84 ?_
          refine RunQ.val (lt rfl) (Y.int (r := .bool true) rfl rfl rfl) ?_
          refine RunQ.val (lt rfl) (Y.pick_t rfl h84 rfl) ?_
          refine RunQ.val (lt rfl) (Y.move rfl) ?_
          refine RunQ.on rfl rfl rfl rfl ?_
          refine RunQ.val (lt rfl) (Y.move rfl) ?_
          refine RunQ.on rfl rfl rfl rfl ?_
          refine RunQ.val (lt rfl) (Y.int (r := .bool true) rfl rfl rfl) ?_
          refine RunQ.val (lt rfl) (Y.pick_t rfl rfl rfl) ?_
          refine RunQ.val (lt rfl) (Y.assign rfl) ?_
          refine RunQ.to_end ?_
          refine Ex.go ?_
          refine Tr.to_ret ?_
          refine Ex.keep [] ?_
          exact Ex.ret1 rfl rfl  rfl

theorem monce_yn {V : Vw} {m n : Msg} {bs : List UInt8} {p : Option Addr} {c : Nat} (ha : 0 ≤ m.addr ∧ m.addr ≤ 4294967295) (ha2 : 0 ≤ n.addr ∧ n.addr ≤ 4294967295) (hv : Rd V [] 1 (.slice p bs.length c) bs.length (bs.map byteV)) (hl : bs.length ≤ 9223372036854775807) (hr : Msg.right m = true) (hr2 : Msg.right n = false)  : Does Try.prog 14 [.agg #[.int .i64 m.kind, .int .i64 m.life, .int .i64 m.seen, .int .i64 m.xid, .int .i64 m.state, .int .u32 m.addr, .int .i64 m.bind, .string m.client, .int .i64 m.pot, .int .i64 m.at_, .bool m.ok], .agg #[.int .i64 n.kind, .int .i64 n.life, .int .i64 n.seen, .int .i64 n.xid, .int .i64 n.state, .int .u32 n.addr, .int .i64 n.bind, .string n.client, .int .i64 n.pot, .int .i64 n.at_, .bool n.ok], .slice p bs.length c] V [] (fun v _ _ => v = .bool true) := by
  have hel := Msg.enc_bounds hr
  refine Does.intro Try.func14 rfl rfl (le rfl) (fun B => ?_)
  refine Tr.seq ?_
  refine Tr.region ?_
  refine Run.box rfl (lt rfl) (fun b1 => ?_)
  refine Run.box rfl (lt rfl) (fun b2 => ?_)
  refine Run.val (lt rfl) (Y.assign rfl) ?_
  refine Run.to_end ?_
  refine Ex.go ?_
  refine Tr.seq ?_
  refine Tr.region ?_
  refine Run.call0 (l := []) rfl rfl rfl (lt rfl) awake_c ?_
  refine Run.val (lt rfl) (Y.assign rfl) ?_
  refine Run.to_end ?_
  refine Ex.go ?_
  refine Tr.seq ?_
  refine Tr.seq ?_
  refine Tr.region ?_
  refine Run.val (lt rfl) (Y.move rfl) ?_
  refine Run.val (lt rfl) (Y.not rfl) ?_
  refine Run.val (lt rfl) (Y.move rfl) ?_
  refine Run.on rfl rfl rfl rfl ?_
  refine Run.val (lt rfl) (Y.fieldAddr rfl Law04b_fo37_7) ?_
  refine Run.on rfl rfl rfl rfl ?_
  refine Run.val (lt rfl) (Y.load rfl Law04b_ts9 (Kn.at 1 rfl) rfl) ?_
  refine Run.on rfl rfl rfl rfl ?_
  refine Run.val (lt rfl) (Y.lenStr rfl Law04b_st9) ?_
  refine Run.on rfl rfl rfl rfl ?_
  refine Run.val (lt rfl) (Y.int rfl rfl rfl) ?_
  refine Run.val (lt rfl) (Y.pick_f rfl rfl rfl) ?_
  refine Run.val (lt rfl) (Y.move rfl) ?_
  rcases Bool.eq_false_or_eq_true (decide ((m.client.size : Int) > 1000)) with h3 | h3
  · have g3 := h3
    try simp only [kb] at g3
    refine Run.off rfl rfl rfl h3 rfl (lt rfl) ?_
    refine Run.off rfl rfl rfl h3 rfl (lt rfl) ?_
    refine Run.off rfl rfl rfl h3 rfl (lt rfl) ?_
    refine Run.off rfl rfl rfl h3 rfl (lt rfl) ?_
    refine Run.val (lt rfl) (Y.pick_t rfl h3 rfl) ?_
    refine Run.val (lt rfl) (Y.move rfl) ?_
    refine Run.off rfl rfl rfl rfl rfl (lt rfl) ?_
    refine Run.off rfl rfl rfl rfl rfl (lt rfl) ?_
    refine Run.off rfl rfl rfl rfl rfl (lt rfl) ?_
    refine Run.val (lt rfl) (Y.pick_t rfl rfl rfl) ?_
    refine Run.val (lt rfl) (Y.move rfl) ?_
    refine Run.off rfl rfl rfl rfl rfl (lt rfl) ?_
    refine Run.off rfl rfl rfl rfl rfl (lt rfl) ?_
    refine Run.off rfl rfl rfl rfl rfl (lt rfl) ?_
    refine Run.val (lt rfl) (Y.pick_t rfl rfl rfl) ?_
    refine Run.to_end ?_
    refine Ex.go ?_
    refine Tr.cond_t rfl rfl ?_
    refine Tr.seq ?_
    refine Tr.region ?_
    refine Run.val (lt rfl) (Y.move rfl) ?_
    refine Run.val (lt rfl) (Y.assign rfl) ?_
    refine Run.to_end ?_
    refine Ex.go ?_
    refine Tr.to_ret ?_
    refine Ex.ret_then ?_
    refine Ex.keep [] ?_
    exact Ex.ret1 rfl rfl  rfl
  · have g3 := h3
    try simp only [kb] at g3
    refine Run.on rfl rfl rfl h3 ?_
    refine Run.val (lt rfl) (Y.fieldAddr rfl Law04b_fo37_7) ?_
    refine Run.on rfl rfl rfl h3 ?_
    refine Run.val (lt rfl) (Y.load rfl Law04b_ts9 (Kn.at 0 rfl) rfl) ?_
    refine Run.on rfl rfl rfl h3 ?_
    refine Run.val (lt rfl) (Y.lenStr rfl Law04b_st9) ?_
    refine Run.on rfl rfl rfl h3 ?_
    refine Run.val (lt rfl) (Y.int rfl rfl rfl) ?_
    refine Run.val (lt rfl) (Y.pick_f rfl h3 rfl) ?_
    refine Run.val (lt rfl) (Y.move rfl) ?_
    rcases Bool.eq_false_or_eq_true (decide ((n.client.size : Int) > 1000)) with h4 | h4
    · have g4 := h4
      try simp only [kb] at g4
      refine Run.off rfl rfl rfl h4 rfl (lt rfl) ?_
      refine Run.off rfl rfl rfl h4 rfl (lt rfl) ?_
      refine Run.off rfl rfl rfl h4 rfl (lt rfl) ?_
      refine Run.val (lt rfl) (Y.pick_t rfl h4 rfl) ?_
      refine Run.val (lt rfl) (Y.move rfl) ?_
      refine Run.off rfl rfl rfl rfl rfl (lt rfl) ?_
      refine Run.off rfl rfl rfl rfl rfl (lt rfl) ?_
      refine Run.off rfl rfl rfl rfl rfl (lt rfl) ?_
      refine Run.val (lt rfl) (Y.pick_t rfl rfl rfl) ?_
      refine Run.to_end ?_
      refine Ex.go ?_
      refine Tr.cond_t rfl rfl ?_
      refine Tr.seq ?_
      refine Tr.region ?_
      refine Run.val (lt rfl) (Y.move rfl) ?_
      refine Run.val (lt rfl) (Y.assign rfl) ?_
      refine Run.to_end ?_
      refine Ex.go ?_
      refine Tr.to_ret ?_
      refine Ex.ret_then ?_
      refine Ex.keep [] ?_
      exact Ex.ret1 rfl rfl  rfl
    · have g4 := h4
      try simp only [kb] at g4
      refine Run.on rfl rfl rfl h4 ?_
      refine Run.val (lt rfl) (Y.move rfl) ?_
      refine Run.on rfl rfl rfl h4 ?_
      refine Run.val (lt rfl) (Y.lenSl rfl Law04b_es38) ?_
      refine Run.on rfl rfl rfl h4 ?_
      refine Run.val (lt rfl) (Y.int rfl rfl rfl) ?_
      refine Run.val (lt rfl) (Y.pick_f rfl h4 rfl) ?_
      refine Run.val (lt rfl) (Y.move rfl) ?_
      rcases Bool.eq_false_or_eq_true (decide (((bs.length : Nat) : Int) < 1)) with h5 | h5
      · have g5 := h5
        try simp only [kb] at g5
        refine Run.off rfl rfl rfl h5 rfl (lt rfl) ?_
        refine Run.off rfl rfl rfl h5 rfl (lt rfl) ?_
        refine Run.off rfl rfl rfl h5 rfl (lt rfl) ?_
        refine Run.val (lt rfl) (Y.pick_t rfl h5 rfl) ?_
        refine Run.to_end ?_
        refine Ex.go ?_
        refine Tr.cond_t rfl rfl ?_
        refine Tr.seq ?_
        refine Tr.region ?_
        refine Run.val (lt rfl) (Y.move rfl) ?_
        refine Run.val (lt rfl) (Y.assign rfl) ?_
        refine Run.to_end ?_
        refine Ex.go ?_
        refine Tr.to_ret ?_
        refine Ex.ret_then ?_
        refine Ex.keep [] ?_
        exact Ex.ret1 rfl rfl  rfl
      · have g5 := h5
        try simp only [kb] at g5
        refine Run.on rfl rfl rfl h5 ?_
        refine Run.val (lt rfl) (Y.move rfl) ?_
        refine Run.on rfl rfl rfl h5 ?_
        refine Run.val (lt rfl) (Y.lenSl rfl Law04b_es38) ?_
        refine Run.on rfl rfl rfl h5 ?_
        refine Run.val (lt rfl) (Y.int rfl rfl rfl) ?_
        refine Run.val (lt rfl) (Y.pick_f rfl h5 rfl) ?_
        refine Run.to_end ?_
        refine Ex.go ?_
        rcases Bool.eq_false_or_eq_true (decide (((bs.length : Nat) : Int) > 100)) with h6 | h6
        · have g6 := h6
          try simp only [kb] at g6
          refine Tr.cond_t rfl h6 ?_
          refine Tr.seq ?_
          refine Tr.region ?_
          refine Run.val (lt rfl) (Y.move rfl) ?_
          refine Run.val (lt rfl) (Y.assign rfl) ?_
          refine Run.to_end ?_
          refine Ex.go ?_
          refine Tr.to_ret ?_
          refine Ex.ret_then ?_
          refine Ex.keep [] ?_
          exact Ex.ret1 rfl rfl  rfl
        · have g6 := h6
          try simp only [kb] at g6
          refine Tr.cond_f rfl h6 ?_
          refine Tr.to_end ?_
          refine Ex.go ?_
          refine Tr.seq ?_
          refine Tr.region ?_
          refine Run.val (lt rfl) (Y.loadAgg rfl Law04b_ag37 (Kn.at 1 rfl) rfl) ?_
          refine Run.call [] (l := [.tmp 43]) rfl rfl rfl (lt rfl) (encode_yes (m := m) hr ha) (fun v7 V2 H2 _ hR => ?_)
          obtain ⟨hV, x7, s7, rfl, rfl, ho7⟩ := hR; replace hV := hV.symm; subst hV; obtain ⟨p7, c7, rfl⟩ := ho7.form
          refine Run.val (lt rfl) (Y.move rfl) ?_
          refine Run.val (lt rfl) (Y.extract rfl rfl) ?_
          refine Run.val (lt rfl) (Y.extract rfl rfl) ?_
          refine Run.val (lt rfl) (Y.assign rfl) ?_
          refine Run.val (lt rfl) (Y.assign rfl) ?_
          refine Run.to_end ?_
          refine Ex.go ?_
          refine Tr.seq ?_
          refine Tr.region ?_
          refine Run.val (lt rfl) (Y.loadAgg rfl Law04b_ag37 (Kn.at 0 rfl) rfl) ?_
          refine Run.call [] (l := [.tmp 48]) rfl rfl rfl (lt rfl) (encode_no (m := n) hr2) (fun v8 V2 H2 _ hR => ?_)
          obtain ⟨rfl, hV, rfl⟩ := hR; replace hV := hV.symm; subst hV
          refine Run.val (lt rfl) (Y.move rfl) ?_
          refine Run.val (lt rfl) (Y.extract rfl rfl) ?_
          refine Run.val (lt rfl) (Y.extract rfl rfl) ?_
          refine Run.val (lt rfl) (Y.assign rfl) ?_
          refine Run.val (lt rfl) (Y.assign rfl) ?_
          refine Run.to_end ?_
          refine Ex.go ?_
          refine Tr.seq ?_
          refine Tr.seq ?_
          refine Tr.region ?_
          refine Run.val (lt rfl) (Y.move rfl) ?_
          refine Run.val (lt rfl) (Y.int (r := .bool false) rfl rfl rfl) ?_
          refine Run.val (lt rfl) (Y.move rfl) ?_
          refine Run.on rfl rfl rfl rfl ?_
          refine Run.val (lt rfl) (Y.move rfl) ?_
          refine Run.on rfl rfl rfl rfl ?_
          refine Run.val (lt rfl) (Y.int (r := .bool true) rfl rfl rfl) ?_
          refine Run.val (lt rfl) (Y.pick_f rfl rfl rfl) ?_
          refine Run.to_end ?_
          refine Ex.go ?_
          refine Tr.cond_t rfl rfl ?_
          refine Tr.seq ?_
          refine Tr.region ?_
          refine Run.val (lt rfl) (Y.assign rfl) ?_
          refine Run.to_end ?_
          refine Ex.go ?_
          refine Tr.to_ret ?_
          refine Ex.ret_then ?_
          refine Ex.keep [] ?_
          exact Ex.ret1 rfl rfl  rfl

theorem monce_ny {V : Vw} {m n : Msg} {bs : List UInt8} {p : Option Addr} {c : Nat} (ha : 0 ≤ m.addr ∧ m.addr ≤ 4294967295) (ha2 : 0 ≤ n.addr ∧ n.addr ≤ 4294967295) (hv : Rd V [] 1 (.slice p bs.length c) bs.length (bs.map byteV)) (hl : bs.length ≤ 9223372036854775807) (hr : Msg.right m = false) (hr2 : Msg.right n = true)  : Does Try.prog 14 [.agg #[.int .i64 m.kind, .int .i64 m.life, .int .i64 m.seen, .int .i64 m.xid, .int .i64 m.state, .int .u32 m.addr, .int .i64 m.bind, .string m.client, .int .i64 m.pot, .int .i64 m.at_, .bool m.ok], .agg #[.int .i64 n.kind, .int .i64 n.life, .int .i64 n.seen, .int .i64 n.xid, .int .i64 n.state, .int .u32 n.addr, .int .i64 n.bind, .string n.client, .int .i64 n.pot, .int .i64 n.at_, .bool n.ok], .slice p bs.length c] V [] (fun v _ _ => v = .bool true) := by
  refine Does.intro Try.func14 rfl rfl (le rfl) (fun B => ?_)
  refine Tr.seq ?_
  refine Tr.region ?_
  refine Run.box rfl (lt rfl) (fun b1 => ?_)
  refine Run.box rfl (lt rfl) (fun b2 => ?_)
  refine Run.val (lt rfl) (Y.assign rfl) ?_
  refine Run.to_end ?_
  refine Ex.go ?_
  refine Tr.seq ?_
  refine Tr.region ?_
  refine Run.call0 (l := []) rfl rfl rfl (lt rfl) awake_c ?_
  refine Run.val (lt rfl) (Y.assign rfl) ?_
  refine Run.to_end ?_
  refine Ex.go ?_
  refine Tr.seq ?_
  refine Tr.seq ?_
  refine Tr.region ?_
  refine Run.val (lt rfl) (Y.move rfl) ?_
  refine Run.val (lt rfl) (Y.not rfl) ?_
  refine Run.val (lt rfl) (Y.move rfl) ?_
  refine Run.on rfl rfl rfl rfl ?_
  refine Run.val (lt rfl) (Y.fieldAddr rfl Law04b_fo37_7) ?_
  refine Run.on rfl rfl rfl rfl ?_
  refine Run.val (lt rfl) (Y.load rfl Law04b_ts9 (Kn.at 1 rfl) rfl) ?_
  refine Run.on rfl rfl rfl rfl ?_
  refine Run.val (lt rfl) (Y.lenStr rfl Law04b_st9) ?_
  refine Run.on rfl rfl rfl rfl ?_
  refine Run.val (lt rfl) (Y.int rfl rfl rfl) ?_
  refine Run.val (lt rfl) (Y.pick_f rfl rfl rfl) ?_
  refine Run.val (lt rfl) (Y.move rfl) ?_
  rcases Bool.eq_false_or_eq_true (decide ((m.client.size : Int) > 1000)) with h3 | h3
  · have g3 := h3
    try simp only [kb] at g3
    refine Run.off rfl rfl rfl h3 rfl (lt rfl) ?_
    refine Run.off rfl rfl rfl h3 rfl (lt rfl) ?_
    refine Run.off rfl rfl rfl h3 rfl (lt rfl) ?_
    refine Run.off rfl rfl rfl h3 rfl (lt rfl) ?_
    refine Run.val (lt rfl) (Y.pick_t rfl h3 rfl) ?_
    refine Run.val (lt rfl) (Y.move rfl) ?_
    refine Run.off rfl rfl rfl rfl rfl (lt rfl) ?_
    refine Run.off rfl rfl rfl rfl rfl (lt rfl) ?_
    refine Run.off rfl rfl rfl rfl rfl (lt rfl) ?_
    refine Run.val (lt rfl) (Y.pick_t rfl rfl rfl) ?_
    refine Run.val (lt rfl) (Y.move rfl) ?_
    refine Run.off rfl rfl rfl rfl rfl (lt rfl) ?_
    refine Run.off rfl rfl rfl rfl rfl (lt rfl) ?_
    refine Run.off rfl rfl rfl rfl rfl (lt rfl) ?_
    refine Run.val (lt rfl) (Y.pick_t rfl rfl rfl) ?_
    refine Run.to_end ?_
    refine Ex.go ?_
    refine Tr.cond_t rfl rfl ?_
    refine Tr.seq ?_
    refine Tr.region ?_
    refine Run.val (lt rfl) (Y.move rfl) ?_
    refine Run.val (lt rfl) (Y.assign rfl) ?_
    refine Run.to_end ?_
    refine Ex.go ?_
    refine Tr.to_ret ?_
    refine Ex.ret_then ?_
    refine Ex.keep [] ?_
    exact Ex.ret1 rfl rfl  rfl
  · have g3 := h3
    try simp only [kb] at g3
    refine Run.on rfl rfl rfl h3 ?_
    refine Run.val (lt rfl) (Y.fieldAddr rfl Law04b_fo37_7) ?_
    refine Run.on rfl rfl rfl h3 ?_
    refine Run.val (lt rfl) (Y.load rfl Law04b_ts9 (Kn.at 0 rfl) rfl) ?_
    refine Run.on rfl rfl rfl h3 ?_
    refine Run.val (lt rfl) (Y.lenStr rfl Law04b_st9) ?_
    refine Run.on rfl rfl rfl h3 ?_
    refine Run.val (lt rfl) (Y.int rfl rfl rfl) ?_
    refine Run.val (lt rfl) (Y.pick_f rfl h3 rfl) ?_
    refine Run.val (lt rfl) (Y.move rfl) ?_
    rcases Bool.eq_false_or_eq_true (decide ((n.client.size : Int) > 1000)) with h4 | h4
    · have g4 := h4
      try simp only [kb] at g4
      refine Run.off rfl rfl rfl h4 rfl (lt rfl) ?_
      refine Run.off rfl rfl rfl h4 rfl (lt rfl) ?_
      refine Run.off rfl rfl rfl h4 rfl (lt rfl) ?_
      refine Run.val (lt rfl) (Y.pick_t rfl h4 rfl) ?_
      refine Run.val (lt rfl) (Y.move rfl) ?_
      refine Run.off rfl rfl rfl rfl rfl (lt rfl) ?_
      refine Run.off rfl rfl rfl rfl rfl (lt rfl) ?_
      refine Run.off rfl rfl rfl rfl rfl (lt rfl) ?_
      refine Run.val (lt rfl) (Y.pick_t rfl rfl rfl) ?_
      refine Run.to_end ?_
      refine Ex.go ?_
      refine Tr.cond_t rfl rfl ?_
      refine Tr.seq ?_
      refine Tr.region ?_
      refine Run.val (lt rfl) (Y.move rfl) ?_
      refine Run.val (lt rfl) (Y.assign rfl) ?_
      refine Run.to_end ?_
      refine Ex.go ?_
      refine Tr.to_ret ?_
      refine Ex.ret_then ?_
      refine Ex.keep [] ?_
      exact Ex.ret1 rfl rfl  rfl
    · have g4 := h4
      try simp only [kb] at g4
      refine Run.on rfl rfl rfl h4 ?_
      refine Run.val (lt rfl) (Y.move rfl) ?_
      refine Run.on rfl rfl rfl h4 ?_
      refine Run.val (lt rfl) (Y.lenSl rfl Law04b_es38) ?_
      refine Run.on rfl rfl rfl h4 ?_
      refine Run.val (lt rfl) (Y.int rfl rfl rfl) ?_
      refine Run.val (lt rfl) (Y.pick_f rfl h4 rfl) ?_
      refine Run.val (lt rfl) (Y.move rfl) ?_
      rcases Bool.eq_false_or_eq_true (decide (((bs.length : Nat) : Int) < 1)) with h5 | h5
      · have g5 := h5
        try simp only [kb] at g5
        refine Run.off rfl rfl rfl h5 rfl (lt rfl) ?_
        refine Run.off rfl rfl rfl h5 rfl (lt rfl) ?_
        refine Run.off rfl rfl rfl h5 rfl (lt rfl) ?_
        refine Run.val (lt rfl) (Y.pick_t rfl h5 rfl) ?_
        refine Run.to_end ?_
        refine Ex.go ?_
        refine Tr.cond_t rfl rfl ?_
        refine Tr.seq ?_
        refine Tr.region ?_
        refine Run.val (lt rfl) (Y.move rfl) ?_
        refine Run.val (lt rfl) (Y.assign rfl) ?_
        refine Run.to_end ?_
        refine Ex.go ?_
        refine Tr.to_ret ?_
        refine Ex.ret_then ?_
        refine Ex.keep [] ?_
        exact Ex.ret1 rfl rfl  rfl
      · have g5 := h5
        try simp only [kb] at g5
        refine Run.on rfl rfl rfl h5 ?_
        refine Run.val (lt rfl) (Y.move rfl) ?_
        refine Run.on rfl rfl rfl h5 ?_
        refine Run.val (lt rfl) (Y.lenSl rfl Law04b_es38) ?_
        refine Run.on rfl rfl rfl h5 ?_
        refine Run.val (lt rfl) (Y.int rfl rfl rfl) ?_
        refine Run.val (lt rfl) (Y.pick_f rfl h5 rfl) ?_
        refine Run.to_end ?_
        refine Ex.go ?_
        rcases Bool.eq_false_or_eq_true (decide (((bs.length : Nat) : Int) > 100)) with h6 | h6
        · have g6 := h6
          try simp only [kb] at g6
          refine Tr.cond_t rfl h6 ?_
          refine Tr.seq ?_
          refine Tr.region ?_
          refine Run.val (lt rfl) (Y.move rfl) ?_
          refine Run.val (lt rfl) (Y.assign rfl) ?_
          refine Run.to_end ?_
          refine Ex.go ?_
          refine Tr.to_ret ?_
          refine Ex.ret_then ?_
          refine Ex.keep [] ?_
          exact Ex.ret1 rfl rfl  rfl
        · have g6 := h6
          try simp only [kb] at g6
          refine Tr.cond_f rfl h6 ?_
          refine Tr.to_end ?_
          refine Ex.go ?_
          refine Tr.seq ?_
          refine Tr.region ?_
          refine Run.val (lt rfl) (Y.loadAgg rfl Law04b_ag37 (Kn.at 1 rfl) rfl) ?_
          refine Run.call [] (l := [.tmp 43]) rfl rfl rfl (lt rfl) (encode_no (m := m) hr) (fun v7 V2 H2 _ hR => ?_)
          obtain ⟨rfl, hV, rfl⟩ := hR; replace hV := hV.symm; subst hV
          refine Run.val (lt rfl) (Y.move rfl) ?_
          refine Run.val (lt rfl) (Y.extract rfl rfl) ?_
          refine Run.val (lt rfl) (Y.extract rfl rfl) ?_
          refine Run.val (lt rfl) (Y.assign rfl) ?_
          refine Run.val (lt rfl) (Y.assign rfl) ?_
          refine Run.to_end ?_
          refine Ex.go ?_
          refine Tr.seq ?_
          refine Tr.region ?_
          refine Run.val (lt rfl) (Y.loadAgg rfl Law04b_ag37 (Kn.at 0 rfl) rfl) ?_
          refine Run.call [] (l := [.tmp 48]) rfl rfl rfl (lt rfl) (encode_yes (m := n) hr2 ha2) (fun v8 V2 H2 _ hR => ?_)
          obtain ⟨hV, x8, s8, rfl, rfl, ho8⟩ := hR; replace hV := hV.symm; subst hV; obtain ⟨p8, c8, rfl⟩ := ho8.form
          refine Run.val (lt rfl) (Y.move rfl) ?_
          refine Run.val (lt rfl) (Y.extract rfl rfl) ?_
          refine Run.val (lt rfl) (Y.extract rfl rfl) ?_
          refine Run.val (lt rfl) (Y.assign rfl) ?_
          refine Run.val (lt rfl) (Y.assign rfl) ?_
          refine Run.to_end ?_
          refine Ex.go ?_
          refine Tr.seq ?_
          refine Tr.seq ?_
          refine Tr.region ?_
          refine Run.val (lt rfl) (Y.move rfl) ?_
          refine Run.val (lt rfl) (Y.int (r := .bool true) rfl rfl rfl) ?_
          refine Run.val (lt rfl) (Y.move rfl) ?_
          refine Run.off rfl rfl rfl rfl rfl (lt rfl) ?_
          refine Run.off rfl rfl rfl rfl rfl (lt rfl) ?_
          refine Run.val (lt rfl) (Y.pick_t rfl rfl rfl) ?_
          refine Run.to_end ?_
          refine Ex.go ?_
          refine Tr.cond_t rfl rfl ?_
          refine Tr.seq ?_
          refine Tr.region ?_
          refine Run.val (lt rfl) (Y.assign rfl) ?_
          refine Run.to_end ?_
          refine Ex.go ?_
          refine Tr.to_ret ?_
          refine Ex.ret_then ?_
          refine Ex.keep [] ?_
          exact Ex.ret1 rfl rfl  rfl

theorem monce_nn {V : Vw} {m n : Msg} {bs : List UInt8} {p : Option Addr} {c : Nat} (ha : 0 ≤ m.addr ∧ m.addr ≤ 4294967295) (ha2 : 0 ≤ n.addr ∧ n.addr ≤ 4294967295) (hv : Rd V [] 1 (.slice p bs.length c) bs.length (bs.map byteV)) (hl : bs.length ≤ 9223372036854775807) (hr : Msg.right m = false) (hr2 : Msg.right n = false)  : Does Try.prog 14 [.agg #[.int .i64 m.kind, .int .i64 m.life, .int .i64 m.seen, .int .i64 m.xid, .int .i64 m.state, .int .u32 m.addr, .int .i64 m.bind, .string m.client, .int .i64 m.pot, .int .i64 m.at_, .bool m.ok], .agg #[.int .i64 n.kind, .int .i64 n.life, .int .i64 n.seen, .int .i64 n.xid, .int .i64 n.state, .int .u32 n.addr, .int .i64 n.bind, .string n.client, .int .i64 n.pot, .int .i64 n.at_, .bool n.ok], .slice p bs.length c] V [] (fun v _ _ => v = .bool true) := by
  refine Does.intro Try.func14 rfl rfl (le rfl) (fun B => ?_)
  refine Tr.seq ?_
  refine Tr.region ?_
  refine Run.box rfl (lt rfl) (fun b1 => ?_)
  refine Run.box rfl (lt rfl) (fun b2 => ?_)
  refine Run.val (lt rfl) (Y.assign rfl) ?_
  refine Run.to_end ?_
  refine Ex.go ?_
  refine Tr.seq ?_
  refine Tr.region ?_
  refine Run.call0 (l := []) rfl rfl rfl (lt rfl) awake_c ?_
  refine Run.val (lt rfl) (Y.assign rfl) ?_
  refine Run.to_end ?_
  refine Ex.go ?_
  refine Tr.seq ?_
  refine Tr.seq ?_
  refine Tr.region ?_
  refine Run.val (lt rfl) (Y.move rfl) ?_
  refine Run.val (lt rfl) (Y.not rfl) ?_
  refine Run.val (lt rfl) (Y.move rfl) ?_
  refine Run.on rfl rfl rfl rfl ?_
  refine Run.val (lt rfl) (Y.fieldAddr rfl Law04b_fo37_7) ?_
  refine Run.on rfl rfl rfl rfl ?_
  refine Run.val (lt rfl) (Y.load rfl Law04b_ts9 (Kn.at 1 rfl) rfl) ?_
  refine Run.on rfl rfl rfl rfl ?_
  refine Run.val (lt rfl) (Y.lenStr rfl Law04b_st9) ?_
  refine Run.on rfl rfl rfl rfl ?_
  refine Run.val (lt rfl) (Y.int rfl rfl rfl) ?_
  refine Run.val (lt rfl) (Y.pick_f rfl rfl rfl) ?_
  refine Run.val (lt rfl) (Y.move rfl) ?_
  rcases Bool.eq_false_or_eq_true (decide ((m.client.size : Int) > 1000)) with h3 | h3
  · have g3 := h3
    try simp only [kb] at g3
    refine Run.off rfl rfl rfl h3 rfl (lt rfl) ?_
    refine Run.off rfl rfl rfl h3 rfl (lt rfl) ?_
    refine Run.off rfl rfl rfl h3 rfl (lt rfl) ?_
    refine Run.off rfl rfl rfl h3 rfl (lt rfl) ?_
    refine Run.val (lt rfl) (Y.pick_t rfl h3 rfl) ?_
    refine Run.val (lt rfl) (Y.move rfl) ?_
    refine Run.off rfl rfl rfl rfl rfl (lt rfl) ?_
    refine Run.off rfl rfl rfl rfl rfl (lt rfl) ?_
    refine Run.off rfl rfl rfl rfl rfl (lt rfl) ?_
    refine Run.val (lt rfl) (Y.pick_t rfl rfl rfl) ?_
    refine Run.val (lt rfl) (Y.move rfl) ?_
    refine Run.off rfl rfl rfl rfl rfl (lt rfl) ?_
    refine Run.off rfl rfl rfl rfl rfl (lt rfl) ?_
    refine Run.off rfl rfl rfl rfl rfl (lt rfl) ?_
    refine Run.val (lt rfl) (Y.pick_t rfl rfl rfl) ?_
    refine Run.to_end ?_
    refine Ex.go ?_
    refine Tr.cond_t rfl rfl ?_
    refine Tr.seq ?_
    refine Tr.region ?_
    refine Run.val (lt rfl) (Y.move rfl) ?_
    refine Run.val (lt rfl) (Y.assign rfl) ?_
    refine Run.to_end ?_
    refine Ex.go ?_
    refine Tr.to_ret ?_
    refine Ex.ret_then ?_
    refine Ex.keep [] ?_
    exact Ex.ret1 rfl rfl  rfl
  · have g3 := h3
    try simp only [kb] at g3
    refine Run.on rfl rfl rfl h3 ?_
    refine Run.val (lt rfl) (Y.fieldAddr rfl Law04b_fo37_7) ?_
    refine Run.on rfl rfl rfl h3 ?_
    refine Run.val (lt rfl) (Y.load rfl Law04b_ts9 (Kn.at 0 rfl) rfl) ?_
    refine Run.on rfl rfl rfl h3 ?_
    refine Run.val (lt rfl) (Y.lenStr rfl Law04b_st9) ?_
    refine Run.on rfl rfl rfl h3 ?_
    refine Run.val (lt rfl) (Y.int rfl rfl rfl) ?_
    refine Run.val (lt rfl) (Y.pick_f rfl h3 rfl) ?_
    refine Run.val (lt rfl) (Y.move rfl) ?_
    rcases Bool.eq_false_or_eq_true (decide ((n.client.size : Int) > 1000)) with h4 | h4
    · have g4 := h4
      try simp only [kb] at g4
      refine Run.off rfl rfl rfl h4 rfl (lt rfl) ?_
      refine Run.off rfl rfl rfl h4 rfl (lt rfl) ?_
      refine Run.off rfl rfl rfl h4 rfl (lt rfl) ?_
      refine Run.val (lt rfl) (Y.pick_t rfl h4 rfl) ?_
      refine Run.val (lt rfl) (Y.move rfl) ?_
      refine Run.off rfl rfl rfl rfl rfl (lt rfl) ?_
      refine Run.off rfl rfl rfl rfl rfl (lt rfl) ?_
      refine Run.off rfl rfl rfl rfl rfl (lt rfl) ?_
      refine Run.val (lt rfl) (Y.pick_t rfl rfl rfl) ?_
      refine Run.to_end ?_
      refine Ex.go ?_
      refine Tr.cond_t rfl rfl ?_
      refine Tr.seq ?_
      refine Tr.region ?_
      refine Run.val (lt rfl) (Y.move rfl) ?_
      refine Run.val (lt rfl) (Y.assign rfl) ?_
      refine Run.to_end ?_
      refine Ex.go ?_
      refine Tr.to_ret ?_
      refine Ex.ret_then ?_
      refine Ex.keep [] ?_
      exact Ex.ret1 rfl rfl  rfl
    · have g4 := h4
      try simp only [kb] at g4
      refine Run.on rfl rfl rfl h4 ?_
      refine Run.val (lt rfl) (Y.move rfl) ?_
      refine Run.on rfl rfl rfl h4 ?_
      refine Run.val (lt rfl) (Y.lenSl rfl Law04b_es38) ?_
      refine Run.on rfl rfl rfl h4 ?_
      refine Run.val (lt rfl) (Y.int rfl rfl rfl) ?_
      refine Run.val (lt rfl) (Y.pick_f rfl h4 rfl) ?_
      refine Run.val (lt rfl) (Y.move rfl) ?_
      rcases Bool.eq_false_or_eq_true (decide (((bs.length : Nat) : Int) < 1)) with h5 | h5
      · have g5 := h5
        try simp only [kb] at g5
        refine Run.off rfl rfl rfl h5 rfl (lt rfl) ?_
        refine Run.off rfl rfl rfl h5 rfl (lt rfl) ?_
        refine Run.off rfl rfl rfl h5 rfl (lt rfl) ?_
        refine Run.val (lt rfl) (Y.pick_t rfl h5 rfl) ?_
        refine Run.to_end ?_
        refine Ex.go ?_
        refine Tr.cond_t rfl rfl ?_
        refine Tr.seq ?_
        refine Tr.region ?_
        refine Run.val (lt rfl) (Y.move rfl) ?_
        refine Run.val (lt rfl) (Y.assign rfl) ?_
        refine Run.to_end ?_
        refine Ex.go ?_
        refine Tr.to_ret ?_
        refine Ex.ret_then ?_
        refine Ex.keep [] ?_
        exact Ex.ret1 rfl rfl  rfl
      · have g5 := h5
        try simp only [kb] at g5
        refine Run.on rfl rfl rfl h5 ?_
        refine Run.val (lt rfl) (Y.move rfl) ?_
        refine Run.on rfl rfl rfl h5 ?_
        refine Run.val (lt rfl) (Y.lenSl rfl Law04b_es38) ?_
        refine Run.on rfl rfl rfl h5 ?_
        refine Run.val (lt rfl) (Y.int rfl rfl rfl) ?_
        refine Run.val (lt rfl) (Y.pick_f rfl h5 rfl) ?_
        refine Run.to_end ?_
        refine Ex.go ?_
        rcases Bool.eq_false_or_eq_true (decide (((bs.length : Nat) : Int) > 100)) with h6 | h6
        · have g6 := h6
          try simp only [kb] at g6
          refine Tr.cond_t rfl h6 ?_
          refine Tr.seq ?_
          refine Tr.region ?_
          refine Run.val (lt rfl) (Y.move rfl) ?_
          refine Run.val (lt rfl) (Y.assign rfl) ?_
          refine Run.to_end ?_
          refine Ex.go ?_
          refine Tr.to_ret ?_
          refine Ex.ret_then ?_
          refine Ex.keep [] ?_
          exact Ex.ret1 rfl rfl  rfl
        · have g6 := h6
          try simp only [kb] at g6
          refine Tr.cond_f rfl h6 ?_
          refine Tr.to_end ?_
          refine Ex.go ?_
          refine Tr.seq ?_
          refine Tr.region ?_
          refine Run.val (lt rfl) (Y.loadAgg rfl Law04b_ag37 (Kn.at 1 rfl) rfl) ?_
          refine Run.call [] (l := [.tmp 43]) rfl rfl rfl (lt rfl) (encode_no (m := m) hr) (fun v7 V2 H2 _ hR => ?_)
          obtain ⟨rfl, hV, rfl⟩ := hR; replace hV := hV.symm; subst hV
          refine Run.val (lt rfl) (Y.move rfl) ?_
          refine Run.val (lt rfl) (Y.extract rfl rfl) ?_
          refine Run.val (lt rfl) (Y.extract rfl rfl) ?_
          refine Run.val (lt rfl) (Y.assign rfl) ?_
          refine Run.val (lt rfl) (Y.assign rfl) ?_
          refine Run.to_end ?_
          refine Ex.go ?_
          refine Tr.seq ?_
          refine Tr.region ?_
          refine Run.val (lt rfl) (Y.loadAgg rfl Law04b_ag37 (Kn.at 0 rfl) rfl) ?_
          refine Run.call [] (l := [.tmp 48]) rfl rfl rfl (lt rfl) (encode_no (m := n) hr2) (fun v8 V2 H2 _ hR => ?_)
          obtain ⟨rfl, hV, rfl⟩ := hR; replace hV := hV.symm; subst hV
          refine Run.val (lt rfl) (Y.move rfl) ?_
          refine Run.val (lt rfl) (Y.extract rfl rfl) ?_
          refine Run.val (lt rfl) (Y.extract rfl rfl) ?_
          refine Run.val (lt rfl) (Y.assign rfl) ?_
          refine Run.val (lt rfl) (Y.assign rfl) ?_
          refine Run.to_end ?_
          refine Ex.go ?_
          refine Tr.seq ?_
          refine Tr.seq ?_
          refine Tr.region ?_
          refine Run.val (lt rfl) (Y.move rfl) ?_
          refine Run.val (lt rfl) (Y.int (r := .bool true) rfl rfl rfl) ?_
          refine Run.val (lt rfl) (Y.move rfl) ?_
          refine Run.off rfl rfl rfl rfl rfl (lt rfl) ?_
          refine Run.off rfl rfl rfl rfl rfl (lt rfl) ?_
          refine Run.val (lt rfl) (Y.pick_t rfl rfl rfl) ?_
          refine Run.to_end ?_
          refine Ex.go ?_
          refine Tr.cond_t rfl rfl ?_
          refine Tr.seq ?_
          refine Tr.region ?_
          refine Run.val (lt rfl) (Y.assign rfl) ?_
          refine Run.to_end ?_
          refine Ex.go ?_
          refine Tr.to_ret ?_
          refine Ex.ret_then ?_
          refine Ex.keep [] ?_
          exact Ex.ret1 rfl rfl  rfl

theorem monce_c {V : Vw} {m n : Msg} {bs : List UInt8} {v0 : Value} (ha : 0 ≤ m.addr ∧ m.addr ≤ 4294967295) (ha2 : 0 ≤ n.addr ∧ n.addr ≤ 4294967295) (hv : Rd V [] 1 v0 bs.length (bs.map byteV)) (hl : bs.length ≤ 9223372036854775807) : Does Try.prog 14 [.agg m.cells, .agg n.cells, v0] V [] (fun v _ _ => v = .bool true) := by
  obtain ⟨p, c, rfl, _⟩ := hv.form
  cases hr : Msg.right m with
  | true => cases hr2 : Msg.right n with
    | true => exact monce_yy ha ha2 hv hl hr hr2
    | false => exact monce_yn ha ha2 hv hl hr hr2
  | false => cases hr2 : Msg.right n with
    | true => exact monce_ny ha ha2 hv hl hr hr2
    | false => exact monce_nn ha ha2 hv hl hr hr2
end Go.Proofs.Ytahgaaomioffhaa
