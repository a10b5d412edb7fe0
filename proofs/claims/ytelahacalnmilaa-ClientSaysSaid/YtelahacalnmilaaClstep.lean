/- A step at both clients.
Conditions: as each theorem names them. -/
import Derived.Test.YtelahacalnmilaaProg
import Derived.Test.YtelahacalnmilaaO4
import Derived.Test.YtelahacalnmilaaCltick
import Derived.Test.YtelahacalnmilaaCltake
set_option linter.unusedSimpArgs false
set_option linter.unusedVariables false
set_option maxRecDepth 4000
namespace Go.Proofs.Ytelahacalnmilaa
open Go Go.K
attribute [local irreducible] Code.wp wpList Calls wpQuiet
theorem Clstep_es48 : elemS Try.prog 48 = some (36, 10) := by kernel_rfl
theorem Clstep_mo : Try.prog.follows .mixedOrders = true := by kernel_rfl
theorem Clstep_ag36 : aggsz Try.prog 36 = some 10 := by kernel_rfl
theorem Clstep_zo36 : zeroOf Try.prog 36 = some (.agg #[.int .i64 0, .int .u32 0, .int .i64 0, .int .i64 0, .int .u32 0, .int .u32 0, .int .u32 0, .int .u32 0, .slice none 0 0, .slice none 0 0]) := by kernel_rfl
theorem Clstep_fo39_3 : fieldOff Try.prog 39 3 = some 3 := by kernel_rfl
theorem Clstep_ts3 : scal Try.prog 3 = true := by kernel_rfl
theorem Clstep_fo36_1 : fieldOff Try.prog 36 1 = some 1 := by kernel_rfl
theorem Clstep_ts32 : scal Try.prog 32 = true := by kernel_rfl
theorem Clstep_fo36_8 : fieldOff Try.prog 36 8 = some 8 := by kernel_rfl
theorem Clstep_ts22 : scal Try.prog 22 = true := by kernel_rfl
theorem Clstep_fo39_4 : fieldOff Try.prog 39 4 = some 4 := by kernel_rfl
theorem Clstep_ts33 : scal Try.prog 33 = true := by kernel_rfl
theorem Clstep_pl36 : placesS Try.prog 36 = some [(0, 1), (1, 1), (2, 1), (3, 1), (4, 1), (5, 1), (6, 1), (7, 1), (8, 1), (9, 1)] := by kernel_rfl
theorem Clstep_sz36 : sizeT Try.prog 36 = some 10 := by kernel_rfl
theorem Clstep_fo39_2 : fieldOff Try.prog 39 2 = some 2 := by kernel_rfl
theorem Clstep_it3_5 : intT Try.prog 3 5 = some .u8 := by kernel_rfl
theorem Clstep_es22 : elemS Try.prog 22 = some (5, 1) := by kernel_rfl
theorem Clstep_zo5 : zeroOf Try.prog 5 = some (.int .u8 0) := by kernel_rfl
theorem Clstep_zo76 : zeroOf Try.prog 76 = some (.agg #[.int .i64 0, .slice none 0 0]) := by kernel_rfl
theorem Clstep_pl76 : placesS Try.prog 76 = some [(0, 1), (1, 1)] := by kernel_rfl
theorem Clstep_es34 : elemS Try.prog 34 = some (76, 2) := by kernel_rfl
theorem Clstep_fo36_9 : fieldOff Try.prog 36 9 = some 9 := by kernel_rfl
theorem Clstep_sz34 : sizeT Try.prog 34 = some 1 := by kernel_rfl
theorem Clstep_fo39_0 : fieldOff Try.prog 39 0 = some 0 := by kernel_rfl
theorem Clstep_fo39_1 : fieldOff Try.prog 39 1 = some 1 := by kernel_rfl
theorem Clstep_fo39_5 : fieldOff Try.prog 39 5 = some 5 := by kernel_rfl
theorem Clstep_ag39 : aggsz Try.prog 39 = some 15 := by kernel_rfl

theorem same24_n0  {V : Vw} : Does Try.prog 30 [.slice none 0 0, .slice none 0 0] V [] (Pv (.bool true) V []) := by
 refine Does.intro Try.func30 rfl rfl (le rfl) (fun B => ?_)
 refine Tr.seq ?_
 refine Tr.region ?_
 refine Run.val (lt rfl) (Y.assign rfl) ?_
 refine Run.to_end ?_
 refine Ex.go ?_
 refine Tr.seq ?_
 refine Tr.seq ?_
 refine Tr.region ?_
 refine Run.val (lt rfl) (Y.move rfl) ?_
 refine Run.val (lt rfl) (Y.lenSl rfl Clstep_es48) ?_
 refine Run.val (lt rfl) (Y.move rfl) ?_
 refine Run.val (lt rfl) (Y.lenSl rfl Clstep_es48) ?_
 refine Run.val (lt rfl) (Y.int (r := .bool false) rfl rfl rfl) ?_
 refine Run.to_end ?_
 refine Ex.go ?_
 refine Tr.cond_f rfl rfl ?_
 refine Tr.to_end ?_
 refine Ex.go ?_
 refine Tr.seq ?_
 refine Tr.seq ?_
 refine Tr.region ?_
 refine Run.val (lt rfl) (Y.assign rfl) ?_
 refine Run.to_end ?_
 refine Ex.go ?_
 refine Tr.block ?_
 refine Tr.loop (X := Nat) (fun x => V) (fun x => []) (fun x => [(0, .slice none 0 0), (1, .slice none 0 0), (5, .int .i64 (x : Int))]) (fun x => x ≤ 0) (fun x => 0 - x) 0 (Nat.le_refl 0) (fun a w i => ⟨i.1.sub (subB_cons (by first | rfl | exact congrArg (fun z => some (Value.int _ z)) (by omega)) (subB_cons (by first | rfl | exact congrArg (fun z => some (Value.int _ z)) (by omega)) (subB_cons (by first | rfl | exact congrArg (fun z => some (Value.int _ z)) (by omega)) (subB_nil _)))), i.2⟩) ?_
 rintro x hx
 refine Tr.seq ?_
 refine Tr.seq ?_
 refine Tr.region ?_
 refine Run.val (lt rfl) (Y.move rfl) ?_
 refine Run.val (lt rfl) (Y.move rfl) ?_
 refine Run.val (lt rfl) (Y.lenSl rfl Clstep_es48) ?_
 refine Run.val (lt rfl) (Y.int rfl rfl rfl) ?_
 refine Run.to_end ?_
 refine Ex.go ?_
 rcases Bool.eq_false_or_eq_true (decide ((x : Int) < 0)) with h1 | h1
 ·have g1 := h1
  try simp only [kb] at g1
  omega
 ·have g1 := h1
  try simp only [kb] at g1
  refine Tr.cond_f rfl h1 ?_
  refine Tr.to_exit ?_
  refine Ex.exit_then ?_
  refine Ex.exit_then ?_
  refine Ex.exit_in ?_
  refine Ex.go ?_
  refine Tr.seq ?_
  refine Tr.region ?_
  refine Run.val (lt rfl) (Y.assign rfl) ?_
  refine Run.to_end ?_
  refine Ex.go ?_
  refine Tr.to_ret ?_
  refine Ex.keep [] ?_
  exact Ex.ret1 rfl rfl  ⟨rfl, rfl, rfl⟩

theorem same24_y0 {V : Vw} {p : Pc} {b1 b2 : Nat} {hv1 ov1 hv2 ov2 : Value} (hm1 : V b1 = some (.cells (p.cells hv1 ov1) 36 (0, 0))) (hR1 : Pc.R V p hv1 ov1) (hm2 : V b2 = some (.cells (p.cells hv2 ov2) 36 (0, 0))) (hR2 : Pc.R V p hv2 ov2) (hl : p.os.length ≤ 1000000)  : Does Try.prog 30 [.slice (some ⟨b1, 0, none⟩) 1 1, .slice (some ⟨b2, 0, none⟩) 1 1] V [] (Pv (.bool true) V []) := by
 refine Does.intro Try.func30 rfl rfl (le rfl) (fun B => ?_)
 refine Tr.seq ?_
 refine Tr.region ?_
 refine Run.val (lt rfl) (Y.assign rfl) ?_
 refine Run.to_end ?_
 refine Ex.go ?_
 refine Tr.seq ?_
 refine Tr.seq ?_
 refine Tr.region ?_
 refine Run.val (lt rfl) (Y.move rfl) ?_
 refine Run.val (lt rfl) (Y.lenSl rfl Clstep_es48) ?_
 refine Run.val (lt rfl) (Y.move rfl) ?_
 refine Run.val (lt rfl) (Y.lenSl rfl Clstep_es48) ?_
 refine Run.val (lt rfl) (Y.int (r := .bool false) rfl rfl rfl) ?_
 refine Run.to_end ?_
 refine Ex.go ?_
 refine Tr.cond_f rfl rfl ?_
 refine Tr.to_end ?_
 refine Ex.go ?_
 refine Tr.seq ?_
 refine Tr.seq ?_
 refine Tr.region ?_
 refine Run.val (lt rfl) (Y.assign rfl) ?_
 refine Run.to_end ?_
 refine Ex.go ?_
 refine Tr.block ?_
 refine Tr.loop (X := Nat) (fun x => V) (fun x => []) (fun x => [(0, .slice (some ⟨b1, 0, none⟩) 1 1), (1, .slice (some ⟨b2, 0, none⟩) 1 1), (5, .int .i64 (x : Int))]) (fun x => x ≤ 1) (fun x => 1 - x) 0 (Nat.zero_le _) (fun a w i => ⟨i.1.sub (subB_cons (by first | rfl | exact congrArg (fun z => some (Value.int _ z)) (by omega)) (subB_cons (by first | rfl | exact congrArg (fun z => some (Value.int _ z)) (by omega)) (subB_cons (by first | rfl | exact congrArg (fun z => some (Value.int _ z)) (by omega)) (subB_nil _)))), i.2⟩) ?_
 rintro x hx
 refine Tr.seq ?_
 refine Tr.seq ?_
 refine Tr.region ?_
 refine Run.val (lt rfl) (Y.move rfl) ?_
 refine Run.val (lt rfl) (Y.move rfl) ?_
 refine Run.val (lt rfl) (Y.lenSl rfl Clstep_es48) ?_
 refine Run.val (lt rfl) (Y.int rfl rfl rfl) ?_
 refine Run.to_end ?_
 refine Ex.go ?_
 rcases Bool.eq_false_or_eq_true (decide ((x : Int) < 1)) with h1 | h1
 ·have g1 := h1
  try simp only [kb] at g1
  obtain rfl : x = 0 := by omega
  refine Tr.cond_t rfl h1 ?_
  refine Tr.to_end ?_
  refine Ex.go ?_
  refine Tr.seq ?_
  refine Tr.block ?_
  refine Tr.seq ?_
  refine Tr.quiet Clstep_mo (by kernel_rfl) ?_
  refine RunQ.val (lt rfl) (Y.move rfl) ?_
  refine RunQ.val (lt rfl) (Y.move rfl) ?_
  refine RunQ.val (lt rfl) (Y.idxAddr rfl rfl Clstep_es48 (by omega) (by omega)) ?_
  refine RunQ.val (lt rfl) (Y.loadAgg rfl Clstep_ag36 (.inl hm1) rfl) ?_
  refine RunQ.val (lt rfl) (Y.move rfl) ?_
  refine RunQ.val (lt rfl) (Y.move rfl) ?_
  refine RunQ.val (lt rfl) (Y.idxAddr rfl rfl Clstep_es48 (by omega) (by omega)) ?_
  refine RunQ.val (lt rfl) (Y.loadAgg rfl Clstep_ag36 (.inl hm2) rfl) ?_
  refine RunQ.call0 (l := [.tmp 21, .tmp 25]) rfl rfl rfl (lt rfl) (same_h hR1.hw hR1.os hR2.hw hR2.os hl) ?_
  refine RunQ.val (lt rfl) (Y.assign rfl) ?_
  refine RunQ.to_end ?_
  refine Ex.go ?_
  refine Tr.seq ?_
  refine Tr.region ?_
  refine Run.val (lt rfl) (Y.move rfl) ?_
  refine Run.val (lt rfl) (Y.not rfl) ?_
  refine Run.to_end ?_
  refine Ex.go ?_
  refine Tr.cond_f rfl rfl ?_
  refine Tr.to_end ?_
  refine Ex.end_block ?_
  refine Ex.go ?_
  refine Tr.region ?_
  refine Run.val (lt rfl) (Y.move rfl) ?_
  refine Run.val (lt rfl) (Y.add rfl rfl (by omega)) ?_
  refine Run.val (lt rfl) (Y.assign rfl) ?_
  refine Run.to_end ?_
  exact Ex.round 1 (Nat.le_refl 1) (by decide) rfl rfl (subB_cons (by first | rfl | exact congrArg (fun z => some (Value.int _ z)) (by omega)) (subB_cons (by first | rfl | exact congrArg (fun z => some (Value.int _ z)) (by omega)) (subB_cons (by first | rfl | exact congrArg (fun z => some (Value.int _ z)) (by omega)) (subB_nil _))))
 ·have g1 := h1
  try simp only [kb] at g1
  refine Tr.cond_f rfl h1 ?_
  refine Tr.to_exit ?_
  refine Ex.exit_then ?_
  refine Ex.exit_then ?_
  refine Ex.exit_in ?_
  refine Ex.go ?_
  refine Tr.seq ?_
  refine Tr.region ?_
  refine Run.val (lt rfl) (Y.assign rfl) ?_
  refine Run.to_end ?_
  refine Ex.go ?_
  refine Tr.to_ret ?_
  refine Ex.keep [] ?_
  exact Ex.ret1 rfl rfl  ⟨rfl, rfl, rfl⟩

theorem answer_c {V : Vw} {p : Pc} {hv ov : Value} {s : CStp} (hp : Pc.R V p hv ov) (ha : 0 ≤ s.addr ∧ s.addr ≤ 4294967295)  : Does Try.prog 26 [.agg (p.cells hv ov), .agg s.cells.toArray] V [] (fun u V' H' => V.le V' ∧ H' = [] ∧ ∃ ov', u = .agg ((Cli.ans p s.kind s.time s.addr).cells hv ov') ∧ Pc.R V' (Cli.ans p s.kind s.time s.addr) hv ov') := by
 obtain ⟨ph, ch, rfl, _⟩ := hp.hw.form
 have hph := hp.hw
 refine Does.intro Try.func26 rfl rfl (le rfl) (fun B => ?_)
 refine Tr.seq ?_
 refine Tr.region ?_
 refine Run.box rfl (lt rfl) (fun b1 => ?_)
 refine Run.box rfl (lt rfl) (fun b2 => ?_)
 refine Run.alloc Clstep_zo36 (lt rfl) (fun b3 => ?_)
 refine Run.to_end ?_
 refine Ex.go ?_
 refine Tr.seq ?_
 refine Tr.region ?_
 refine Run.val (lt rfl) (Y.fieldAddr rfl Clstep_fo39_3) ?_
 refine Run.val (lt rfl) (Y.load rfl Clstep_ts3 (Kn.at 1 rfl) rfl) ?_
 refine Run.val (lt rfl) (Y.int (r := .int .i64 (s.time % 65536)) rfl rfl (by simp only [intRes]; rw [and_low s.time 65535 65536 16 (by decide) rfl rfl])) ?_
 refine Run.call [] (l := [.tmp 11, .const (.int .i64 4)]) rfl rfl rfl (lt rfl) (rbytes_c (n := s.time % 65536) (by omega)) (fun v4 V2 H2 _ hR => ?_)
 obtain ⟨hV, z5, s6, rfl, rfl, ho7⟩ := hR; replace hV := hV.symm; subst hV; obtain ⟨p8, c9, rfl⟩ := ho7.form
 refine Run.heapTo (H' := [[(b3, .cells #[.int .i64 0, .int .u32 0, .int .i64 0, .int .i64 0, .int .u32 0, .int .u32 0, .int .u32 0, .int .u32 0, .slice none 0 0, .slice none 0 0] 36 (0, 0))], [(b2, .cells #[.int .i64 s.do_, .int .i64 s.now, .int .i64 s.kind, .int .i64 s.time, .int .u32 s.addr, .int .i64 s.p.op, .int .u32 s.p.xid, .int .i64 s.p.secs, .int .i64 s.p.flags, .int .u32 s.p.ci, .int .u32 s.p.yi, .int .u32 s.p.si, .int .u32 s.p.gi, s.hv, s.ov] 39 (0, 0))], [(b1, .cells #[.int .i64 p.op, .int .u32 p.xid, .int .i64 p.secs, .int .i64 p.flags, .int .u32 p.ci, .int .u32 p.yi, .int .u32 p.si, .int .u32 p.gi, .slice ph p.hw.length ch, ov] 36 (0, 0))], s6]) rfl ?_
 refine Run.val (lt rfl) (Y.move rfl) ?_
 refine Run.val (lt rfl) (Y.extract rfl rfl) ?_
 refine Run.val (lt rfl) (Y.extract rfl rfl) ?_
 refine Run.val (lt rfl) (Y.assign rfl) ?_
 refine Run.val (lt rfl) (Y.assign rfl) ?_
 refine Run.to_end ?_
 refine Ex.go ?_
 refine Tr.seq ?_
 refine Tr.region ?_
 refine Run.val (lt rfl) (Y.fieldAddr rfl Clstep_fo36_1) ?_
 refine Run.val (lt rfl) (Y.load rfl Clstep_ts32 (Kn.at 2 rfl) rfl) ?_
 refine Run.val (lt rfl) (Y.fieldAddr rfl Clstep_fo36_8) ?_
 refine Run.val (lt rfl) (Y.load rfl Clstep_ts22 (Kn.at 2 rfl) rfl) ?_
 refine Run.val (lt rfl) (Y.fieldAddr rfl Clstep_fo39_4) ?_
 refine Run.val (lt rfl) (Y.load rfl Clstep_ts33 (Kn.at 1 rfl) rfl) ?_
 refine Run.val (lt rfl) (Y.buildS (l := [(0, .const (.int .i64 2)), (1, .tmp 16), (8, .tmp 18), (5, .tmp 20), (6, .const (.int .u32 9))]) Clstep_zo36 Clstep_pl36 rfl rfl) ?_
 refine Run.alloc Clstep_zo36 (lt rfl) (fun b10 => ?_)
 refine Run.store (s := [(b10, .cells #[.int .i64 2, .int .u32 p.xid, .int .i64 0, .int .i64 0, .int .u32 0, .int .u32 s.addr, .int .u32 9, .int .u32 0, .slice ph p.hw.length ch, .slice none 0 0] 36 (0, 0))]) rfl rfl Clstep_sz36 (i := 0) rfl rfl (le rfl) rfl rfl ?_
 refine Run.to_end ?_
 refine Ex.go ?_
 refine Tr.seq ?_
 refine Tr.region ?_
 refine Run.val (lt rfl) (Y.fieldAddr rfl Clstep_fo39_2) ?_
 refine Run.val (lt rfl) (Y.load rfl Clstep_ts3 (Kn.at 2 rfl) rfl) ?_
 refine Run.val (lt rfl) (Y.conv (s.kind % 256) rfl Clstep_it3_5 (wrap_u8m _)) ?_
 refine Run.buildSlice (l := [(0, .tmp 24)]) Clstep_es22 Clstep_zo5 rfl (by decide) rfl rfl (by decide) (lt rfl) (fun b11 => ?_)
 refine Run.val (lt rfl) (Y.buildS (l := [(0, .const (.int .i64 53)), (1, .tmp 25)]) Clstep_zo76 Clstep_pl76 rfl rfl) ?_
 refine Run.val (lt rfl) (Y.move rfl) ?_
 refine Run.val (lt rfl) (Y.buildS (l := [(0, .const (.int .i64 51)), (1, .tmp 27)]) Clstep_zo76 Clstep_pl76 rfl rfl) ?_
 refine Run.buildSlice (l := [(0, .tmp 26), (1, .tmp 28)]) (r := [.int .i64 53, .slice (some ⟨b11, 0, none⟩) 1 1, .int .i64 51, .slice p8 4 c9]) Clstep_es34 Clstep_zo76 rfl (by decide) rfl rfl (by decide) (lt rfl) (fun b12 => ?_)
 refine Run.val (lt rfl) (Y.fieldAddr rfl Clstep_fo36_9) ?_
 refine Run.store (s := [(b10, .cells #[.int .i64 2, .int .u32 p.xid, .int .i64 0, .int .i64 0, .int .u32 0, .int .u32 s.addr, .int .u32 9, .int .u32 0, .slice ph p.hw.length ch, .slice (some ⟨b12, 0, none⟩) 2 2] 36 (0, 0))]) rfl rfl Clstep_sz34 (i := 2) rfl rfl (le rfl) rfl rfl ?_
 refine Run.to_end ?_
 refine Ex.go ?_
 refine Tr.seq ?_
 refine Tr.region ?_
 refine Run.val (lt rfl) (Y.loadAgg rfl Clstep_ag36 (Kn.at 2 rfl) rfl) ?_
 refine Run.store (s := [(b3, .cells #[.int .i64 2, .int .u32 p.xid, .int .i64 0, .int .i64 0, .int .u32 0, .int .u32 s.addr, .int .u32 9, .int .u32 0, .slice ph p.hw.length ch, .slice (some ⟨b12, 0, none⟩) 2 2] 36 (0, 0))]) rfl rfl Clstep_sz36 (i := 3) rfl rfl (le rfl) rfl rfl ?_
 refine Run.to_end ?_
 refine Ex.go ?_
 refine Tr.to_ret ?_
 refine Ex.keepTo (H' := [[(b11, .cells #[.int .u8 (s.kind % 256)] 5 (0, 0))], [(b12, .cells #[.int .i64 53, .slice (some ⟨b11, 0, none⟩) 1 1, .int .i64 51, .slice p8 4 c9] 76 (0, 0))], [(b10, .cells #[.int .i64 2, .int .u32 p.xid, .int .i64 0, .int .i64 0, .int .u32 0, .int .u32 s.addr, .int .u32 9, .int .u32 0, .slice ph p.hw.length ch, .slice (some ⟨b12, 0, none⟩) 2 2] 36 (0, 0))], [(b3, .cells #[.int .i64 2, .int .u32 p.xid, .int .i64 0, .int .i64 0, .int .u32 0, .int .u32 s.addr, .int .u32 9, .int .u32 0, .slice ph p.hw.length ch, .slice (some ⟨b12, 0, none⟩) 2 2] 36 (0, 0))], [(b2, .cells #[.int .i64 s.do_, .int .i64 s.now, .int .i64 s.kind, .int .i64 s.time, .int .u32 s.addr, .int .i64 s.p.op, .int .u32 s.p.xid, .int .i64 s.p.secs, .int .i64 s.p.flags, .int .u32 s.p.ci, .int .u32 s.p.yi, .int .u32 s.p.si, .int .u32 s.p.gi, s.hv, s.ov] 39 (0, 0))], [(b1, .cells #[.int .i64 p.op, .int .u32 p.xid, .int .i64 p.secs, .int .i64 p.flags, .int .u32 p.ci, .int .u32 p.yi, .int .u32 p.si, .int .u32 p.gi, .slice ph p.hw.length ch, ov] 36 (0, 0))], s6]) [1, 0, 0, 0, 0, 0, 0] rfl ?_
 refine Ex.show (fun V13 hleV13 hshV13 => ?_)
 have hd1 := (Ow.lit (e := 5) (k := 1) (b := b11) (n := 1) (cur := #[.int .u8 (s.kind % 256)]) rfl (by decide)).shows _ hshV13
 replace hph := hph.le hleV13
 have hVle := hleV13
 refine Ex.keepTo (H' := [s6, [(b12, .cells #[.int .i64 53, .slice (some ⟨b11, 0, none⟩) 1 1, .int .i64 51, .slice p8 4 c9] 76 (0, 0))], [(b10, .cells #[.int .i64 2, .int .u32 p.xid, .int .i64 0, .int .i64 0, .int .u32 0, .int .u32 s.addr, .int .u32 9, .int .u32 0, .slice ph p.hw.length ch, .slice (some ⟨b12, 0, none⟩) 2 2] 36 (0, 0))], [(b3, .cells #[.int .i64 2, .int .u32 p.xid, .int .i64 0, .int .i64 0, .int .u32 0, .int .u32 s.addr, .int .u32 9, .int .u32 0, .slice ph p.hw.length ch, .slice (some ⟨b12, 0, none⟩) 2 2] 36 (0, 0))], [(b2, .cells #[.int .i64 s.do_, .int .i64 s.now, .int .i64 s.kind, .int .i64 s.time, .int .u32 s.addr, .int .i64 s.p.op, .int .u32 s.p.xid, .int .i64 s.p.secs, .int .i64 s.p.flags, .int .u32 s.p.ci, .int .u32 s.p.yi, .int .u32 s.p.si, .int .u32 s.p.gi, s.hv, s.ov] 39 (0, 0))], [(b1, .cells #[.int .i64 p.op, .int .u32 p.xid, .int .i64 p.secs, .int .i64 p.flags, .int .u32 p.ci, .int .u32 p.yi, .int .u32 p.si, .int .u32 p.gi, .slice ph p.hw.length ch, ov] 36 (0, 0))]]) [5, 0, 0, 0, 0, 0] rfl ?_
 refine Ex.show (fun V14 hleV14 hshV14 => ?_)
 have hd2 := ho7.shows _ hshV14
 replace hph := hph.le hleV14
 replace hd1 := hd1.le hleV14
 replace hVle := Vw.le_trans hVle hleV14
 refine Ex.keepTo (H' := [[(b12, .cells #[.int .i64 53, .slice (some ⟨b11, 0, none⟩) 1 1, .int .i64 51, .slice p8 4 c9] 76 (0, 0))], [(b10, .cells #[.int .i64 2, .int .u32 p.xid, .int .i64 0, .int .i64 0, .int .u32 0, .int .u32 s.addr, .int .u32 9, .int .u32 0, .slice ph p.hw.length ch, .slice (some ⟨b12, 0, none⟩) 2 2] 36 (0, 0))], [(b3, .cells #[.int .i64 2, .int .u32 p.xid, .int .i64 0, .int .i64 0, .int .u32 0, .int .u32 s.addr, .int .u32 9, .int .u32 0, .slice ph p.hw.length ch, .slice (some ⟨b12, 0, none⟩) 2 2] 36 (0, 0))], [(b2, .cells #[.int .i64 s.do_, .int .i64 s.now, .int .i64 s.kind, .int .i64 s.time, .int .u32 s.addr, .int .i64 s.p.op, .int .u32 s.p.xid, .int .i64 s.p.secs, .int .i64 s.p.flags, .int .u32 s.p.ci, .int .u32 s.p.yi, .int .u32 s.p.si, .int .u32 s.p.gi, s.hv, s.ov] 39 (0, 0))], [(b1, .cells #[.int .i64 p.op, .int .u32 p.xid, .int .i64 p.secs, .int .i64 p.flags, .int .u32 p.ci, .int .u32 p.yi, .int .u32 p.si, .int .u32 p.gi, .slice ph p.hw.length ch, ov] 36 (0, 0))]]) [0, 0, 0, 0, 0] rfl ?_
 refine Ex.show (fun V15 hleV15 hshV15 => ?_)
 have hso := (Ow.lit (e := 76) (k := 2) (b := b12) (n := 2) (cur := #[.int .i64 53, .slice (some ⟨b11, 0, none⟩) 1 1, .int .i64 51, .slice p8 4 c9]) rfl (by decide)).shows _ hshV15
 replace hph := hph.le hleV15
 replace hd1 := hd1.le hleV15
 replace hd2 := hd2.le hleV15
 replace hVle := Vw.le_trans hVle hleV15
 exact Ex.retCell [] rfl rfl Clstep_ag36 (Kn.at 1 rfl) rfl ⟨hVle, rfl, .slice (some ⟨b12, 0, none⟩) 2 2, rfl, Cli.ans_R hph hp.xid ha hso hd1 hd2⟩

set_option maxHeartbeats 1000000 in
theorem step_c {V : Vw} {bc bd : Nat} {c : Cli} {hva hvb hvl ovl : Value} {n : Int} {s : CStp} {last : Pc} (hi : Cli.Inv n c) (hn : n ≤ 1000000) (hha : Rd V [] 1 hva c.hw.length (c.hw.map byteV)) (hhb : Rd V [] 1 hvb c.hw.length (c.hw.map byteV)) (hl : Pc.R V last hvl ovl) (hlf : Pc.few last = true) (hs : Pc.R V s.p s.hv s.ov) (hsf : Pc.few s.p = true) (ha : 0 ≤ s.addr ∧ s.addr ≤ 4294967295)  : Does Try.prog 11 [.pointer (some ⟨bc, 0, none⟩), .pointer (some ⟨bd, 0, none⟩), .agg s.cells.toArray, .agg (last.cells hvl ovl)] V [[(bc, .cells (Cli.cells c hva) 67 (0, 0))], [(bd, .cells (Cli.cells c hvb) 44 (0, 0))]] (fun u V' H' => V.le V' ∧ H' = [[(bc, .cells (Cli.cells (Cli.stepC c s last) hva) 67 (0, 0))], [(bd, .cells (Cli.cells (Cli.stepC c s last) hvb) 44 (0, 0))]] ∧ ∃ hv2 ov2, u = .tuple #[.agg ((Cli.stepL c s last).cells hv2 ov2), .bool true] ∧ Pc.R V' (Cli.stepL c s last) hv2 ov2) := by
 obtain ⟨⟨pl, cl, rfl⟩, ql, nl, kl, rfl⟩ := hl.forms
 refine Does.intro Try.func11 rfl rfl (le rfl) (fun B => ?_)
 refine Tr.seq ?_
 refine Tr.region ?_
 refine Run.box rfl (lt rfl) (fun b1 => ?_)
 refine Run.box rfl (lt rfl) (fun b2 => ?_)
 refine Run.alloc Clstep_zo36 (lt rfl) (fun b3 => ?_)
 refine Run.val (lt rfl) (Y.assign rfl) ?_
 refine Run.to_end ?_
 refine Ex.go ?_
 refine Tr.seq ?_
 refine Tr.seq ?_
 refine Tr.region ?_
 refine Run.val (lt rfl) (Y.fieldAddr rfl Clstep_fo39_0) ?_
 refine Run.val (lt rfl) (Y.load rfl Clstep_ts3 (Kn.at 2 rfl) rfl) ?_
 refine Run.to_end ?_
 refine Ex.go ?_
 refine Tr.block ?_
 refine Tr.seq ?_
 refine Tr.region ?_
 refine Run.val (lt rfl) (Y.int rfl rfl rfl) ?_
 refine Run.val (lt rfl) (Y.assign rfl) ?_
 refine Run.to_end ?_
 refine Ex.go ?_
 rcases Bool.eq_false_or_eq_true (s.do_ == 0) with h4 | h4
 ·have g4 := h4
  try simp only [kb] at g4
  refine Tr.cond_t rfl h4 ?_
  refine Tr.seq ?_
  refine Tr.region ?_
  refine Run.val (lt rfl) (Y.move rfl) ?_
  refine Run.val (lt rfl) (Y.fieldAddr rfl Clstep_fo39_1) ?_
  refine Run.val (lt rfl) (Y.load rfl Clstep_ts3 (Kn.at 2 rfl) rfl) ?_
  refine Run.call [3] (l := [.tmp 27, .tmp 29]) rfl rfl rfl (lt rfl) (tick_c (n := n) (c := c) (now := s.now) hi hn hha) (fun v5 V2 H2 hle6 hR => ?_)
  obtain ⟨_, rfl, psa, rfl, hka⟩ := hR
  obtain ⟨Vs7, hVe⟩ : ∃ V3 : Vw, V3 = V2 := ⟨_, rfl⟩
  subst hVe
  replace hha := hha.le hle6
  replace hhb := hhb.le hle6
  replace hl := hl.le hle6
  replace hs := hs.le hle6
  have hVle := hle6
  refine Run.heapTo (H' := [[(b3, .cells #[.int .i64 0, .int .u32 0, .int .i64 0, .int .i64 0, .int .u32 0, .int .u32 0, .int .u32 0, .int .u32 0, .slice none 0 0, .slice none 0 0] 36 (0, 0))], [(b2, .cells #[.int .i64 last.op, .int .u32 last.xid, .int .i64 last.secs, .int .i64 last.flags, .int .u32 last.ci, .int .u32 last.yi, .int .u32 last.si, .int .u32 last.gi, .slice pl last.hw.length cl, .slice ql nl kl] 36 (0, 0))], [(b1, .cells #[.int .i64 s.do_, .int .i64 s.now, .int .i64 s.kind, .int .i64 s.time, .int .u32 s.addr, .int .i64 s.p.op, .int .u32 s.p.xid, .int .i64 s.p.secs, .int .i64 s.p.flags, .int .u32 s.p.ci, .int .u32 s.p.yi, .int .u32 s.p.si, .int .u32 s.p.gi, s.hv, s.ov] 39 (0, 0))], [(bd, .cells #[.string c.name, hvb, .int .i64 c.state, .int .u32 c.xid, .int .u32 c.addr, .int .u32 c.server, .int .i64 c.until_, .int .i64 c.one, .int .i64 c.two, .bool c.due, .int .i64 c.tries, .int .i64 c.said, .int .i64 c.asks] 44 (0, 0))], [(bc, .cells #[.string ((Cli.tickC c s.now).name), hva, .int .i64 ((Cli.tickC c s.now).state), .int .u32 ((Cli.tickC c s.now).xid), .int .u32 ((Cli.tickC c s.now).addr), .int .u32 ((Cli.tickC c s.now).server), .int .i64 ((Cli.tickC c s.now).until_), .int .i64 ((Cli.tickC c s.now).one), .int .i64 ((Cli.tickC c s.now).two), .bool ((Cli.tickC c s.now).due), .int .i64 ((Cli.tickC c s.now).tries), .int .i64 ((Cli.tickC c s.now).said), .int .i64 ((Cli.tickC c s.now).asks)] 67 (0, 0))]]) rfl ?_
  refine Run.val (lt rfl) (Y.move rfl) ?_
  refine Run.val (lt rfl) (Y.extract rfl rfl) ?_
  refine Run.val (lt rfl) (Y.extract rfl rfl) ?_
  refine Run.val (lt rfl) (Y.assign rfl) ?_
  refine Run.val (lt rfl) (Y.assign rfl) ?_
  refine Run.to_end ?_
  refine Ex.go ?_
  refine Tr.seq ?_
  refine Tr.region ?_
  refine Run.val (lt rfl) (Y.move rfl) ?_
  refine Run.val (lt rfl) (Y.fieldAddr rfl Clstep_fo39_1) ?_
  refine Run.val (lt rfl) (Y.load rfl Clstep_ts3 (Kn.at 2 rfl) rfl) ?_
  refine Run.call [3] (l := [.tmp 34, .tmp 36]) rfl rfl rfl (lt rfl) (rtick_c (n := n) (c := c) (now := s.now) hi hn hhb) (fun v8 V2 H2 hle9 hR => ?_)
  obtain ⟨_, rfl, psb, rfl, hkb⟩ := hR
  obtain ⟨Vs10, hVe⟩ : ∃ V3 : Vw, V3 = V2 := ⟨_, rfl⟩
  subst hVe
  replace hha := hha.le hle9
  replace hhb := hhb.le hle9
  replace hl := hl.le hle9
  replace hs := hs.le hle9
  replace hka := hka.le hle9
  replace hVle := Vw.le_trans hVle hle9
  refine Run.heapTo (H' := [[(b3, .cells #[.int .i64 0, .int .u32 0, .int .i64 0, .int .i64 0, .int .u32 0, .int .u32 0, .int .u32 0, .int .u32 0, .slice none 0 0, .slice none 0 0] 36 (0, 0))], [(b2, .cells #[.int .i64 last.op, .int .u32 last.xid, .int .i64 last.secs, .int .i64 last.flags, .int .u32 last.ci, .int .u32 last.yi, .int .u32 last.si, .int .u32 last.gi, .slice pl last.hw.length cl, .slice ql nl kl] 36 (0, 0))], [(b1, .cells #[.int .i64 s.do_, .int .i64 s.now, .int .i64 s.kind, .int .i64 s.time, .int .u32 s.addr, .int .i64 s.p.op, .int .u32 s.p.xid, .int .i64 s.p.secs, .int .i64 s.p.flags, .int .u32 s.p.ci, .int .u32 s.p.yi, .int .u32 s.p.si, .int .u32 s.p.gi, s.hv, s.ov] 39 (0, 0))], [(bc, .cells #[.string ((Cli.tickC c s.now).name), hva, .int .i64 ((Cli.tickC c s.now).state), .int .u32 ((Cli.tickC c s.now).xid), .int .u32 ((Cli.tickC c s.now).addr), .int .u32 ((Cli.tickC c s.now).server), .int .i64 ((Cli.tickC c s.now).until_), .int .i64 ((Cli.tickC c s.now).one), .int .i64 ((Cli.tickC c s.now).two), .bool ((Cli.tickC c s.now).due), .int .i64 ((Cli.tickC c s.now).tries), .int .i64 ((Cli.tickC c s.now).said), .int .i64 ((Cli.tickC c s.now).asks)] 67 (0, 0))], [(bd, .cells #[.string ((Cli.tickC c s.now).name), hvb, .int .i64 ((Cli.tickC c s.now).state), .int .u32 ((Cli.tickC c s.now).xid), .int .u32 ((Cli.tickC c s.now).addr), .int .u32 ((Cli.tickC c s.now).server), .int .i64 ((Cli.tickC c s.now).until_), .int .i64 ((Cli.tickC c s.now).one), .int .i64 ((Cli.tickC c s.now).two), .bool ((Cli.tickC c s.now).due), .int .i64 ((Cli.tickC c s.now).tries), .int .i64 ((Cli.tickC c s.now).said), .int .i64 ((Cli.tickC c s.now).asks)] 44 (0, 0))]]) rfl ?_
  refine Run.val (lt rfl) (Y.move rfl) ?_
  refine Run.val (lt rfl) (Y.extract rfl rfl) ?_
  refine Run.val (lt rfl) (Y.extract rfl rfl) ?_
  refine Run.val (lt rfl) (Y.assign rfl) ?_
  refine Run.val (lt rfl) (Y.assign rfl) ?_
  refine Run.to_end ?_
  refine Ex.go ?_
  refine Tr.seq ?_
  refine Tr.region ?_
  rcases htp : Cli.tickP c s.now with _ | ⟨q, l⟩
  ·rw [htp] at hka hkb
   have hk2a : psa = .slice none 0 0 := hka
   subst hk2a
   have hk2b : psb = .slice none 0 0 := hkb
   subst hk2b
   refine Run.val (lt rfl) (Y.move rfl) ?_
   refine Run.val (lt rfl) (Y.move rfl) ?_
   refine Run.call0 (l := [.tmp 40, .tmp 41]) rfl rfl rfl (lt rfl) ((same24_n0).frame) ?_
   refine Run.val (lt rfl) (Y.assign rfl) ?_
   refine Run.to_end ?_
   refine Ex.go ?_
   refine Tr.seq ?_
   refine Tr.seq ?_
   refine Tr.region ?_
   refine Run.val (lt rfl) (Y.move rfl) ?_
   refine Run.val (lt rfl) (Y.lenSl rfl Clstep_es48) ?_
   refine Run.val (lt rfl) (Y.int (r := .bool false) rfl rfl rfl) ?_
   refine Run.to_end ?_
   refine Ex.go ?_
   refine Tr.cond_f rfl rfl ?_
   refine Tr.to_end ?_
   refine Ex.go ?_
   refine Tr.seq ?_
   refine Tr.region ?_
   refine Run.val (lt rfl) (Y.loadAgg rfl Clstep_ag36 (Kn.at 1 rfl) rfl) ?_
   refine Run.val (lt rfl) (Y.move rfl) ?_
   refine Run.val (lt rfl) (Y.move rfl) ?_
   refine Run.on rfl rfl rfl rfl ?_
   refine Run.val (lt rfl) (Y.move rfl) ?_
   refine Run.on rfl rfl rfl rfl ?_
   refine Run.val (lt rfl) (Y.move rfl) ?_
   refine Run.on rfl rfl rfl rfl ?_
   refine Run.val (lt rfl) (Y.eqI_t rfl rfl) ?_
   refine Run.val (lt rfl) (Y.pick_t rfl rfl rfl) ?_
   refine Run.store (s := [(b3, .cells #[.int .i64 last.op, .int .u32 last.xid, .int .i64 last.secs, .int .i64 last.flags, .int .u32 last.ci, .int .u32 last.yi, .int .u32 last.si, .int .u32 last.gi, .slice pl last.hw.length cl, .slice ql nl kl] 36 (0, 0))]) rfl rfl Clstep_sz36 (i := 0) rfl rfl (le rfl) rfl rfl ?_
   refine Run.val (lt rfl) (Y.assign rfl) ?_
   refine Run.to_end ?_
   refine Ex.go ?_
   refine Tr.to_ret ?_
   refine Ex.ret_block ?_
   refine Ex.ret_then ?_
   have hsl : Cli.stepL c s last = last := by rw [(Cli.step_0 (c := c) (last := last) g4).2, htp]; rfl
   exact Ex.retCell2 [3, 3] rfl rfl rfl Clstep_ag36 (Kn.at 0 rfl) rfl ⟨hVle, by rw [(Cli.step_0 (c := c) (last := last) g4).1]; try rfl, .slice pl last.hw.length cl, .slice ql nl kl, by rw [hsl]; rfl, by rw [hsl]; exact hl⟩
  ·rw [htp] at hka hkb
   have hqf := Cli.few_tick hi (now := s.now) (p := q) (by rw [htp]; exact List.mem_cons_self ..)
   have hlq := Cli.few_os hqf
   obtain ⟨ba, ha1, ha2, rfl, hma, hRa⟩ := hka
   obtain ⟨⟨pa1, ca1, rfl⟩, pa2, na2, ca2, rfl⟩ := hRa.forms
   obtain ⟨bb, hb1, hb2, rfl, hmb, hRb⟩ := hkb
   obtain ⟨⟨pb1, cb1, rfl⟩, pb2, nb2, cb2, rfl⟩ := hRb.forms
   refine Run.val (lt rfl) (Y.move rfl) ?_
   refine Run.val (lt rfl) (Y.move rfl) ?_
   refine Run.call0 (l := [.tmp 40, .tmp 41]) rfl rfl rfl (lt rfl) ((same24_y0 hma hRa hmb hRb hlq).frame) ?_
   refine Run.val (lt rfl) (Y.assign rfl) ?_
   refine Run.to_end ?_
   refine Ex.go ?_
   refine Tr.seq ?_
   refine Tr.seq ?_
   refine Tr.region ?_
   refine Run.val (lt rfl) (Y.move rfl) ?_
   refine Run.val (lt rfl) (Y.lenSl rfl Clstep_es48) ?_
   refine Run.val (lt rfl) (Y.int (r := .bool true) rfl rfl rfl) ?_
   refine Run.to_end ?_
   refine Ex.go ?_
   refine Tr.cond_t rfl rfl ?_
   refine Tr.region ?_
   refine Run.val (lt rfl) (Y.move rfl) ?_
   refine Run.val (lt rfl) (Y.idxAddr rfl rfl Clstep_es48 (by omega) (by omega)) ?_
   refine Run.val (lt rfl) (Y.loadAgg rfl Clstep_ag36 (.inl hma) rfl) ?_
   refine Run.store (s := [(b2, .cells #[.int .i64 q.op, .int .u32 q.xid, .int .i64 q.secs, .int .i64 q.flags, .int .u32 q.ci, .int .u32 q.yi, .int .u32 q.si, .int .u32 q.gi, .slice pa1 q.hw.length ca1, .slice pa2 na2 ca2] 36 (0, 0))]) rfl rfl Clstep_sz36 (i := 1) rfl rfl (le rfl) rfl rfl ?_
   refine Run.to_end ?_
   refine Ex.go ?_
   refine Tr.seq ?_
   refine Tr.region ?_
   refine Run.val (lt rfl) (Y.loadAgg rfl Clstep_ag36 (Kn.at 1 rfl) rfl) ?_
   refine Run.val (lt rfl) (Y.move rfl) ?_
   refine Run.val (lt rfl) (Y.move rfl) ?_
   refine Run.on rfl rfl rfl rfl ?_
   refine Run.val (lt rfl) (Y.move rfl) ?_
   refine Run.on rfl rfl rfl rfl ?_
   refine Run.val (lt rfl) (Y.move rfl) ?_
   refine Run.on rfl rfl rfl rfl ?_
   refine Run.val (lt rfl) (Y.eqI_t rfl rfl) ?_
   refine Run.val (lt rfl) (Y.pick_t rfl rfl rfl) ?_
   refine Run.store (s := [(b3, .cells #[.int .i64 q.op, .int .u32 q.xid, .int .i64 q.secs, .int .i64 q.flags, .int .u32 q.ci, .int .u32 q.yi, .int .u32 q.si, .int .u32 q.gi, .slice pa1 q.hw.length ca1, .slice pa2 na2 ca2] 36 (0, 0))]) rfl rfl Clstep_sz36 (i := 0) rfl rfl (le rfl) rfl rfl ?_
   refine Run.val (lt rfl) (Y.assign rfl) ?_
   refine Run.to_end ?_
   refine Ex.go ?_
   refine Tr.to_ret ?_
   refine Ex.ret_block ?_
   refine Ex.ret_then ?_
   have hsl : Cli.stepL c s last = q := by rw [(Cli.step_0 (c := c) (last := last) g4).2, htp]; rfl
   exact Ex.retCell2 [3, 3] rfl rfl rfl Clstep_ag36 (Kn.at 0 rfl) rfl ⟨hVle, by rw [(Cli.step_0 (c := c) (last := last) g4).1]; try rfl, .slice pa1 q.hw.length ca1, .slice pa2 na2 ca2, by rw [hsl]; rfl, by rw [hsl]; exact hRa⟩
 ·have g4 := h4
  try simp only [kb] at g4
  refine Tr.cond_f rfl h4 ?_
  refine Tr.seq ?_
  refine Tr.region ?_
  refine Run.val (lt rfl) (Y.int rfl rfl rfl) ?_
  refine Run.val (lt rfl) (Y.assign rfl) ?_
  refine Run.to_end ?_
  refine Ex.go ?_
  rcases Bool.eq_false_or_eq_true (s.do_ == 1) with h11 | h11
  ·have g11 := h11
   try simp only [kb] at g11
   refine Tr.cond_t rfl h11 ?_
   refine Tr.seq ?_
   refine Tr.region ?_
   refine Run.val (lt rfl) (Y.move rfl) ?_
   refine Run.val (lt rfl) (Y.fieldAddr rfl Clstep_fo39_5) ?_
   refine Run.val (lt rfl) (Y.loadAgg rfl Clstep_ag36 (Kn.at 2 rfl) rfl) ?_
   refine Run.val (lt rfl) (Y.fieldAddr rfl Clstep_fo39_1) ?_
   refine Run.val (lt rfl) (Y.load rfl Clstep_ts3 (Kn.at 2 rfl) rfl) ?_
   refine Run.call [3] (l := [.tmp 58, .tmp 60, .tmp 62]) rfl rfl rfl (lt rfl) (take_c (n := n) (c := c) (now := s.now) (p := s.p) hi hha hs hsf) (fun v12 V2 H2 _ hR => ?_)
   obtain ⟨hV, rfl, rfl⟩ := hR; replace hV := hV.symm; subst hV
   refine Run.heapTo (H' := [[(b3, .cells #[.int .i64 0, .int .u32 0, .int .i64 0, .int .i64 0, .int .u32 0, .int .u32 0, .int .u32 0, .int .u32 0, .slice none 0 0, .slice none 0 0] 36 (0, 0))], [(b2, .cells #[.int .i64 last.op, .int .u32 last.xid, .int .i64 last.secs, .int .i64 last.flags, .int .u32 last.ci, .int .u32 last.yi, .int .u32 last.si, .int .u32 last.gi, .slice pl last.hw.length cl, .slice ql nl kl] 36 (0, 0))], [(b1, .cells #[.int .i64 s.do_, .int .i64 s.now, .int .i64 s.kind, .int .i64 s.time, .int .u32 s.addr, .int .i64 s.p.op, .int .u32 s.p.xid, .int .i64 s.p.secs, .int .i64 s.p.flags, .int .u32 s.p.ci, .int .u32 s.p.yi, .int .u32 s.p.si, .int .u32 s.p.gi, s.hv, s.ov] 39 (0, 0))], [(bd, .cells #[.string c.name, hvb, .int .i64 c.state, .int .u32 c.xid, .int .u32 c.addr, .int .u32 c.server, .int .i64 c.until_, .int .i64 c.one, .int .i64 c.two, .bool c.due, .int .i64 c.tries, .int .i64 c.said, .int .i64 c.asks] 44 (0, 0))], [(bc, .cells #[.string ((Cli.takeC c s.p s.now).name), hva, .int .i64 ((Cli.takeC c s.p s.now).state), .int .u32 ((Cli.takeC c s.p s.now).xid), .int .u32 ((Cli.takeC c s.p s.now).addr), .int .u32 ((Cli.takeC c s.p s.now).server), .int .i64 ((Cli.takeC c s.p s.now).until_), .int .i64 ((Cli.takeC c s.p s.now).one), .int .i64 ((Cli.takeC c s.p s.now).two), .bool ((Cli.takeC c s.p s.now).due), .int .i64 ((Cli.takeC c s.p s.now).tries), .int .i64 ((Cli.takeC c s.p s.now).said), .int .i64 ((Cli.takeC c s.p s.now).asks)] 67 (0, 0))]]) rfl ?_
   refine Run.val (lt rfl) (Y.assign rfl) ?_
   refine Run.to_end ?_
   refine Ex.go ?_
   refine Tr.seq ?_
   refine Tr.anyD [(b1, .cells #[.int .i64 s.do_, .int .i64 s.now, .int .i64 s.kind, .int .i64 s.time, .int .u32 s.addr, .int .i64 s.p.op, .int .u32 s.p.xid, .int .i64 s.p.secs, .int .i64 s.p.flags, .int .u32 s.p.ci, .int .u32 s.p.yi, .int .u32 s.p.si, .int .u32 s.p.gi, s.hv, s.ov] 39 (0, 0)), (b2, .cells #[.int .i64 last.op, .int .u32 last.xid, .int .i64 last.secs, .int .i64 last.flags, .int .u32 last.ci, .int .u32 last.yi, .int .u32 last.si, .int .u32 last.gi, .slice pl last.hw.length cl, .slice ql nl kl] 36 (0, 0))] Clstep_mo ?_
   refine RunD.take (i := 0) 1 rfl rfl (by kernel_rfl) (by kernel_rfl) (by kernel_rfl) (fun _ _ _ h => h) (lt rfl) (KnAll.cons (Kn.at 2 rfl) (KnAll.cons (Kn.at 1 rfl) KnAll.nil)) (fun _ => (Y.loadAgg rfl Clstep_ag36 Kn.vk1 rfl)) ?_
   refine RunD.pure (i := 1) rfl (by kernel_rfl) (by kernel_rfl) (by kernel_rfl) (fun _ _ _ h => h) (lt rfl) (KnAll.cons (Kn.at 2 rfl) (KnAll.cons (Kn.at 1 rfl) KnAll.nil)) (fun _ => (Y.move rfl)) ?_
   refine RunD.pure (i := 2) rfl (by kernel_rfl) (by kernel_rfl) (by kernel_rfl) (fun _ _ _ h => h) (lt rfl) (KnAll.cons (Kn.at 2 rfl) (KnAll.cons (Kn.at 1 rfl) KnAll.nil)) (fun _ => (Y.move rfl)) ?_
   refine RunD.pure (i := 3) rfl (by kernel_rfl) (by kernel_rfl) (by kernel_rfl) (fun _ _ _ h => h) (lt rfl) (KnAll.cons (Kn.at 2 rfl) (KnAll.cons (Kn.at 1 rfl) KnAll.nil)) (fun _ => (Y.fieldAddr rfl Clstep_fo39_5)) ?_
   refine RunD.take (i := 4) 0 rfl rfl (by kernel_rfl) (by kernel_rfl) (by kernel_rfl) (fun _ _ _ h => h) (lt rfl) (KnAll.cons (Kn.at 2 rfl) (KnAll.cons (Kn.at 1 rfl) KnAll.nil)) (fun _ => (Y.loadAgg rfl Clstep_ag36 Kn.vk1 rfl)) ?_
   refine RunD.pure (i := 5) rfl (by kernel_rfl) (by kernel_rfl) (by kernel_rfl) (fun _ _ _ h => h) (lt rfl) (KnAll.cons (Kn.at 2 rfl) (KnAll.cons (Kn.at 1 rfl) KnAll.nil)) (fun _ => (Y.fieldAddr rfl Clstep_fo39_1)) ?_
   refine RunD.take (i := 6) 0 rfl rfl (by kernel_rfl) (by kernel_rfl) (by kernel_rfl) (fun _ _ _ h => h) (lt rfl) (KnAll.cons (Kn.at 2 rfl) (KnAll.cons (Kn.at 1 rfl) KnAll.nil)) (fun _ => (Y.load rfl Clstep_ts3 Kn.vk1 rfl)) ?_
   refine RunD.one (i := 7) (by kernel_rfl) rfl  ?_ 
   refine Run.call [3] (l := [.tmp 66, .tmp 68, .tmp 70]) rfl rfl rfl (lt rfl) (rtake_c (n := n) (c := c) (now := s.now) (p := s.p) hi hhb hs hsf) (fun v13 V2 H2 _ hR => ?_)
   obtain ⟨hV, rfl, rfl⟩ := hR; replace hV := hV.symm; subst hV
   refine Run.heapTo (H' := [[(b3, .cells #[.int .i64 0, .int .u32 0, .int .i64 0, .int .i64 0, .int .u32 0, .int .u32 0, .int .u32 0, .int .u32 0, .slice none 0 0, .slice none 0 0] 36 (0, 0))], [(b2, .cells #[.int .i64 last.op, .int .u32 last.xid, .int .i64 last.secs, .int .i64 last.flags, .int .u32 last.ci, .int .u32 last.yi, .int .u32 last.si, .int .u32 last.gi, .slice pl last.hw.length cl, .slice ql nl kl] 36 (0, 0))], [(b1, .cells #[.int .i64 s.do_, .int .i64 s.now, .int .i64 s.kind, .int .i64 s.time, .int .u32 s.addr, .int .i64 s.p.op, .int .u32 s.p.xid, .int .i64 s.p.secs, .int .i64 s.p.flags, .int .u32 s.p.ci, .int .u32 s.p.yi, .int .u32 s.p.si, .int .u32 s.p.gi, s.hv, s.ov] 39 (0, 0))], [(bc, .cells #[.string ((Cli.takeC c s.p s.now).name), hva, .int .i64 ((Cli.takeC c s.p s.now).state), .int .u32 ((Cli.takeC c s.p s.now).xid), .int .u32 ((Cli.takeC c s.p s.now).addr), .int .u32 ((Cli.takeC c s.p s.now).server), .int .i64 ((Cli.takeC c s.p s.now).until_), .int .i64 ((Cli.takeC c s.p s.now).one), .int .i64 ((Cli.takeC c s.p s.now).two), .bool ((Cli.takeC c s.p s.now).due), .int .i64 ((Cli.takeC c s.p s.now).tries), .int .i64 ((Cli.takeC c s.p s.now).said), .int .i64 ((Cli.takeC c s.p s.now).asks)] 67 (0, 0))], [(bd, .cells #[.string ((Cli.takeC c s.p s.now).name), hvb, .int .i64 ((Cli.takeC c s.p s.now).state), .int .u32 ((Cli.takeC c s.p s.now).xid), .int .u32 ((Cli.takeC c s.p s.now).addr), .int .u32 ((Cli.takeC c s.p s.now).server), .int .i64 ((Cli.takeC c s.p s.now).until_), .int .i64 ((Cli.takeC c s.p s.now).one), .int .i64 ((Cli.takeC c s.p s.now).two), .bool ((Cli.takeC c s.p s.now).due), .int .i64 ((Cli.takeC c s.p s.now).tries), .int .i64 ((Cli.takeC c s.p s.now).said), .int .i64 ((Cli.takeC c s.p s.now).asks)] 44 (0, 0))]]) rfl ?_
   refine Run.to_end ?_
   refine Ex.anyD (KnAll.cons (Kn.at 2 rfl) (KnAll.cons (Kn.at 1 rfl) KnAll.nil)) ?_
   refine RunD.pure (i := 8) rfl (by kernel_rfl) (by kernel_rfl) (by kernel_rfl) (fun _ _ _ h => h) (lt rfl) (KnAll.cons (Kn.at 2 rfl) (KnAll.cons (Kn.at 1 rfl) KnAll.nil)) (fun _ => (Y.eqI_t rfl rfl)) ?_
   refine RunD.one (i := 9) (by kernel_rfl) rfl  ?_ 
   refine Run.store (s := [(b3, .cells #[.int .i64 last.op, .int .u32 last.xid, .int .i64 last.secs, .int .i64 last.flags, .int .u32 last.ci, .int .u32 last.yi, .int .u32 last.si, .int .u32 last.gi, .slice pl last.hw.length cl, .slice ql nl kl] 36 (0, 0))]) rfl rfl Clstep_sz36 (i := 0) rfl rfl (le rfl) rfl rfl ?_
   refine Run.to_end ?_
   refine Ex.anyD (KnAll.cons (Kn.at 2 rfl) (KnAll.cons (Kn.at 1 rfl) KnAll.nil)) ?_
   refine RunD.pure (i := 10) rfl (by kernel_rfl) (by kernel_rfl) (by kernel_rfl) (fun _ _ _ h => h) (lt rfl) (KnAll.cons (Kn.at 2 rfl) (KnAll.cons (Kn.at 1 rfl) KnAll.nil)) (fun _ => (Y.assign rfl)) ?_
   refine RunD.done (by kernel_rfl) ?_
   refine Ex.go ?_
   refine Tr.to_ret ?_
   refine Ex.ret_block ?_
   refine Ex.ret_then ?_
   have hsl : Cli.stepL c s last = last := (Cli.step_1 (c := c) (last := last) g4 g11).2
   exact Ex.retCell2 [3, 3] rfl rfl rfl Clstep_ag36 (Kn.at 0 rfl) rfl ⟨Vw.le_refl _, by rw [(Cli.step_1 (c := c) (last := last) g4 g11).1]; try rfl, .slice pl last.hw.length cl, .slice ql nl kl, by rw [hsl]; rfl, by rw [hsl]; exact hl⟩
  ·have g11 := h11
   try simp only [kb] at g11
   refine Tr.cond_f rfl h11 ?_
   refine Tr.seq ?_
   refine Tr.region ?_
   refine Run.val (lt rfl) (Y.int rfl rfl rfl) ?_
   refine Run.val (lt rfl) (Y.assign rfl) ?_
   refine Run.to_end ?_
   refine Ex.go ?_
   rcases Bool.eq_false_or_eq_true (s.do_ == 2) with h14 | h14
   ·have g14 := h14
    try simp only [kb] at g14
    refine Tr.cond_t rfl h14 ?_
    refine Tr.seq ?_
    refine Tr.anyD [(b1, .cells #[.int .i64 s.do_, .int .i64 s.now, .int .i64 s.kind, .int .i64 s.time, .int .u32 s.addr, .int .i64 s.p.op, .int .u32 s.p.xid, .int .i64 s.p.secs, .int .i64 s.p.flags, .int .u32 s.p.ci, .int .u32 s.p.yi, .int .u32 s.p.si, .int .u32 s.p.gi, s.hv, s.ov] 39 (0, 0)), (b2, .cells #[.int .i64 last.op, .int .u32 last.xid, .int .i64 last.secs, .int .i64 last.flags, .int .u32 last.ci, .int .u32 last.yi, .int .u32 last.si, .int .u32 last.gi, .slice pl last.hw.length cl, .slice ql nl kl] 36 (0, 0))] Clstep_mo ?_
    refine RunD.pure (i := 0) rfl (by kernel_rfl) (by kernel_rfl) (by kernel_rfl) (fun _ _ _ h => h) (lt rfl) (KnAll.cons (Kn.at 2 rfl) (KnAll.cons (Kn.at 1 rfl) KnAll.nil)) (fun _ => (Y.move rfl)) ?_
    refine RunD.take (i := 1) 1 rfl rfl (by kernel_rfl) (by kernel_rfl) (by kernel_rfl) (fun _ _ _ h => h) (lt rfl) (KnAll.cons (Kn.at 2 rfl) (KnAll.cons (Kn.at 1 rfl) KnAll.nil)) (fun _ => (Y.loadAgg rfl Clstep_ag36 Kn.vk1 rfl)) ?_
    refine RunD.take (i := 2) 0 rfl rfl (by kernel_rfl) (by kernel_rfl) (by kernel_rfl) (fun _ _ _ h => h) (lt rfl) (KnAll.cons (Kn.at 2 rfl) (KnAll.cons (Kn.at 1 rfl) KnAll.nil)) (fun _ => (Y.loadAgg rfl Clstep_ag39 Kn.vk1 rfl)) ?_
    refine RunD.pure (i := 4) rfl (by kernel_rfl) (by kernel_rfl) (by kernel_rfl) (fun _ _ _ h => h) (lt rfl) (KnAll.cons (Kn.at 2 rfl) (KnAll.cons (Kn.at 1 rfl) KnAll.nil)) (fun _ => (Y.fieldAddr rfl Clstep_fo39_1)) ?_
    refine RunD.take (i := 5) 0 rfl rfl (by kernel_rfl) (by kernel_rfl) (by kernel_rfl) (fun _ _ _ h => h) (lt rfl) (KnAll.cons (Kn.at 2 rfl) (KnAll.cons (Kn.at 1 rfl) KnAll.nil)) (fun _ => (Y.load rfl Clstep_ts3 Kn.vk1 rfl)) ?_
    refine RunD.one (i := 3) (by kernel_rfl) rfl  ?_ 
    refine Run.call [] (l := [.tmp 76, .tmp 77]) rfl rfl rfl (lt rfl) (answer_c (p := last) (s := s) hl ha) (fun v15 V2 H2 hle16 hR => ?_)
    obtain ⟨_, rfl, w17, rfl, hRn18⟩ := hR
    obtain ⟨Vs19, hVe⟩ : ∃ V3 : Vw, V3 = V2 := ⟨_, rfl⟩
    subst hVe
    replace hha := hha.le hle16
    replace hhb := hhb.le hle16
    replace hl := hl.le hle16
    replace hs := hs.le hle16
    have hVle := hle16
    refine Run.heapTo (H' := [[(b3, .cells #[.int .i64 0, .int .u32 0, .int .i64 0, .int .i64 0, .int .u32 0, .int .u32 0, .int .u32 0, .int .u32 0, .slice none 0 0, .slice none 0 0] 36 (0, 0))], [(b2, .cells #[.int .i64 last.op, .int .u32 last.xid, .int .i64 last.secs, .int .i64 last.flags, .int .u32 last.ci, .int .u32 last.yi, .int .u32 last.si, .int .u32 last.gi, .slice pl last.hw.length cl, .slice ql nl kl] 36 (0, 0))], [(b1, .cells #[.int .i64 s.do_, .int .i64 s.now, .int .i64 s.kind, .int .i64 s.time, .int .u32 s.addr, .int .i64 s.p.op, .int .u32 s.p.xid, .int .i64 s.p.secs, .int .i64 s.p.flags, .int .u32 s.p.ci, .int .u32 s.p.yi, .int .u32 s.p.si, .int .u32 s.p.gi, s.hv, s.ov] 39 (0, 0))], [(bc, .cells #[.string c.name, hva, .int .i64 c.state, .int .u32 c.xid, .int .u32 c.addr, .int .u32 c.server, .int .i64 c.until_, .int .i64 c.one, .int .i64 c.two, .bool c.due, .int .i64 c.tries, .int .i64 c.said, .int .i64 c.asks] 67 (0, 0))], [(bd, .cells #[.string c.name, hvb, .int .i64 c.state, .int .u32 c.xid, .int .u32 c.addr, .int .u32 c.server, .int .i64 c.until_, .int .i64 c.one, .int .i64 c.two, .bool c.due, .int .i64 c.tries, .int .i64 c.said, .int .i64 c.asks] 44 (0, 0))]]) rfl ?_
    refine Run.to_end ?_
    refine Ex.anyD (KnAll.cons (Kn.at 2 rfl) (KnAll.cons (Kn.at 1 rfl) KnAll.nil)) ?_
    refine RunD.one (i := 6) (by kernel_rfl) rfl  ?_ 
    refine Run.call [3] (l := [.tmp 75, .tmp 78, .tmp 80]) rfl rfl rfl (lt rfl) (take_c (n := n) (c := c) (now := s.now) (p := (Cli.ans last s.kind s.time s.addr)) hi hha hRn18 (Cli.few_ans hlf _ _ _)) (fun v20 V2 H2 _ hR => ?_)
    obtain ⟨hV, rfl, rfl⟩ := hR; replace hV := hV.symm; subst hV
    refine Run.heapTo (H' := [[(b3, .cells #[.int .i64 0, .int .u32 0, .int .i64 0, .int .i64 0, .int .u32 0, .int .u32 0, .int .u32 0, .int .u32 0, .slice none 0 0, .slice none 0 0] 36 (0, 0))], [(b2, .cells #[.int .i64 last.op, .int .u32 last.xid, .int .i64 last.secs, .int .i64 last.flags, .int .u32 last.ci, .int .u32 last.yi, .int .u32 last.si, .int .u32 last.gi, .slice pl last.hw.length cl, .slice ql nl kl] 36 (0, 0))], [(b1, .cells #[.int .i64 s.do_, .int .i64 s.now, .int .i64 s.kind, .int .i64 s.time, .int .u32 s.addr, .int .i64 s.p.op, .int .u32 s.p.xid, .int .i64 s.p.secs, .int .i64 s.p.flags, .int .u32 s.p.ci, .int .u32 s.p.yi, .int .u32 s.p.si, .int .u32 s.p.gi, s.hv, s.ov] 39 (0, 0))], [(bd, .cells #[.string c.name, hvb, .int .i64 c.state, .int .u32 c.xid, .int .u32 c.addr, .int .u32 c.server, .int .i64 c.until_, .int .i64 c.one, .int .i64 c.two, .bool c.due, .int .i64 c.tries, .int .i64 c.said, .int .i64 c.asks] 44 (0, 0))], [(bc, .cells #[.string ((Cli.takeC c (Cli.ans last s.kind s.time s.addr) s.now).name), hva, .int .i64 ((Cli.takeC c (Cli.ans last s.kind s.time s.addr) s.now).state), .int .u32 ((Cli.takeC c (Cli.ans last s.kind s.time s.addr) s.now).xid), .int .u32 ((Cli.takeC c (Cli.ans last s.kind s.time s.addr) s.now).addr), .int .u32 ((Cli.takeC c (Cli.ans last s.kind s.time s.addr) s.now).server), .int .i64 ((Cli.takeC c (Cli.ans last s.kind s.time s.addr) s.now).until_), .int .i64 ((Cli.takeC c (Cli.ans last s.kind s.time s.addr) s.now).one), .int .i64 ((Cli.takeC c (Cli.ans last s.kind s.time s.addr) s.now).two), .bool ((Cli.takeC c (Cli.ans last s.kind s.time s.addr) s.now).due), .int .i64 ((Cli.takeC c (Cli.ans last s.kind s.time s.addr) s.now).tries), .int .i64 ((Cli.takeC c (Cli.ans last s.kind s.time s.addr) s.now).said), .int .i64 ((Cli.takeC c (Cli.ans last s.kind s.time s.addr) s.now).asks)] 67 (0, 0))]]) rfl ?_
    refine Run.to_end ?_
    refine Ex.anyD (KnAll.cons (Kn.at 2 rfl) (KnAll.cons (Kn.at 1 rfl) KnAll.nil)) ?_
    refine RunD.pure (i := 7) rfl (by kernel_rfl) (by kernel_rfl) (by kernel_rfl) (fun _ _ _ h => h) (lt rfl) (KnAll.cons (Kn.at 2 rfl) (KnAll.cons (Kn.at 1 rfl) KnAll.nil)) (fun _ => (Y.assign rfl)) ?_
    refine RunD.done (by kernel_rfl) ?_
    refine Ex.go ?_
    refine Tr.seq ?_
    refine Tr.anyD [(b1, .cells #[.int .i64 s.do_, .int .i64 s.now, .int .i64 s.kind, .int .i64 s.time, .int .u32 s.addr, .int .i64 s.p.op, .int .u32 s.p.xid, .int .i64 s.p.secs, .int .i64 s.p.flags, .int .u32 s.p.ci, .int .u32 s.p.yi, .int .u32 s.p.si, .int .u32 s.p.gi, s.hv, s.ov] 39 (0, 0)), (b2, .cells #[.int .i64 last.op, .int .u32 last.xid, .int .i64 last.secs, .int .i64 last.flags, .int .u32 last.ci, .int .u32 last.yi, .int .u32 last.si, .int .u32 last.gi, .slice pl last.hw.length cl, .slice ql nl kl] 36 (0, 0))] Clstep_mo ?_
    refine RunD.take (i := 0) 1 rfl rfl (by kernel_rfl) (by kernel_rfl) (by kernel_rfl) (fun _ _ _ h => h) (lt rfl) (KnAll.cons (Kn.at 2 rfl) (KnAll.cons (Kn.at 1 rfl) KnAll.nil)) (fun _ => (Y.loadAgg rfl Clstep_ag36 Kn.vk1 rfl)) ?_
    refine RunD.pure (i := 1) rfl (by kernel_rfl) (by kernel_rfl) (by kernel_rfl) (fun _ _ _ h => h) (lt rfl) (KnAll.cons (Kn.at 2 rfl) (KnAll.cons (Kn.at 1 rfl) KnAll.nil)) (fun _ => (Y.move rfl)) ?_
    refine RunD.pure (i := 2) rfl (by kernel_rfl) (by kernel_rfl) (by kernel_rfl) (fun _ _ _ h => h) (lt rfl) (KnAll.cons (Kn.at 2 rfl) (KnAll.cons (Kn.at 1 rfl) KnAll.nil)) (fun _ => (Y.move rfl)) ?_
    refine RunD.take (i := 3) 1 rfl rfl (by kernel_rfl) (by kernel_rfl) (by kernel_rfl) (fun _ _ _ h => h) (lt rfl) (KnAll.cons (Kn.at 2 rfl) (KnAll.cons (Kn.at 1 rfl) KnAll.nil)) (fun _ => (Y.loadAgg rfl Clstep_ag36 Kn.vk1 rfl)) ?_
    refine RunD.take (i := 4) 0 rfl rfl (by kernel_rfl) (by kernel_rfl) (by kernel_rfl) (fun _ _ _ h => h) (lt rfl) (KnAll.cons (Kn.at 2 rfl) (KnAll.cons (Kn.at 1 rfl) KnAll.nil)) (fun _ => (Y.loadAgg rfl Clstep_ag39 Kn.vk1 rfl)) ?_
    refine RunD.pure (i := 6) rfl (by kernel_rfl) (by kernel_rfl) (by kernel_rfl) (fun _ _ _ h => h) (lt rfl) (KnAll.cons (Kn.at 2 rfl) (KnAll.cons (Kn.at 1 rfl) KnAll.nil)) (fun _ => (Y.fieldAddr rfl Clstep_fo39_1)) ?_
    refine RunD.take (i := 7) 0 rfl rfl (by kernel_rfl) (by kernel_rfl) (by kernel_rfl) (fun _ _ _ h => h) (lt rfl) (KnAll.cons (Kn.at 2 rfl) (KnAll.cons (Kn.at 1 rfl) KnAll.nil)) (fun _ => (Y.load rfl Clstep_ts3 Kn.vk1 rfl)) ?_
    refine RunD.one (i := 5) (by kernel_rfl) rfl  ?_ 
    refine Run.call [] (l := [.tmp 85, .tmp 86]) rfl rfl rfl (lt rfl) (answer_c (p := last) (s := s) hl ha) (fun v21 V2 H2 hle22 hR => ?_)
    obtain ⟨_, rfl, w23, rfl, hRn24⟩ := hR
    obtain ⟨Vs25, hVe⟩ : ∃ V3 : Vw, V3 = V2 := ⟨_, rfl⟩
    subst hVe
    replace hha := hha.le hle22
    replace hhb := hhb.le hle22
    replace hl := hl.le hle22
    replace hs := hs.le hle22
    replace hRn18 := hRn18.le hle22
    replace hVle := Vw.le_trans hVle hle22
    refine Run.heapTo (H' := [[(b3, .cells #[.int .i64 0, .int .u32 0, .int .i64 0, .int .i64 0, .int .u32 0, .int .u32 0, .int .u32 0, .int .u32 0, .slice none 0 0, .slice none 0 0] 36 (0, 0))], [(b2, .cells #[.int .i64 last.op, .int .u32 last.xid, .int .i64 last.secs, .int .i64 last.flags, .int .u32 last.ci, .int .u32 last.yi, .int .u32 last.si, .int .u32 last.gi, .slice pl last.hw.length cl, .slice ql nl kl] 36 (0, 0))], [(b1, .cells #[.int .i64 s.do_, .int .i64 s.now, .int .i64 s.kind, .int .i64 s.time, .int .u32 s.addr, .int .i64 s.p.op, .int .u32 s.p.xid, .int .i64 s.p.secs, .int .i64 s.p.flags, .int .u32 s.p.ci, .int .u32 s.p.yi, .int .u32 s.p.si, .int .u32 s.p.gi, s.hv, s.ov] 39 (0, 0))], [(bd, .cells #[.string c.name, hvb, .int .i64 c.state, .int .u32 c.xid, .int .u32 c.addr, .int .u32 c.server, .int .i64 c.until_, .int .i64 c.one, .int .i64 c.two, .bool c.due, .int .i64 c.tries, .int .i64 c.said, .int .i64 c.asks] 44 (0, 0))], [(bc, .cells #[.string ((Cli.takeC c (Cli.ans last s.kind s.time s.addr) s.now).name), hva, .int .i64 ((Cli.takeC c (Cli.ans last s.kind s.time s.addr) s.now).state), .int .u32 ((Cli.takeC c (Cli.ans last s.kind s.time s.addr) s.now).xid), .int .u32 ((Cli.takeC c (Cli.ans last s.kind s.time s.addr) s.now).addr), .int .u32 ((Cli.takeC c (Cli.ans last s.kind s.time s.addr) s.now).server), .int .i64 ((Cli.takeC c (Cli.ans last s.kind s.time s.addr) s.now).until_), .int .i64 ((Cli.takeC c (Cli.ans last s.kind s.time s.addr) s.now).one), .int .i64 ((Cli.takeC c (Cli.ans last s.kind s.time s.addr) s.now).two), .bool ((Cli.takeC c (Cli.ans last s.kind s.time s.addr) s.now).due), .int .i64 ((Cli.takeC c (Cli.ans last s.kind s.time s.addr) s.now).tries), .int .i64 ((Cli.takeC c (Cli.ans last s.kind s.time s.addr) s.now).said), .int .i64 ((Cli.takeC c (Cli.ans last s.kind s.time s.addr) s.now).asks)] 67 (0, 0))]]) rfl ?_
    refine Run.to_end ?_
    refine Ex.anyD (KnAll.cons (Kn.at 2 rfl) (KnAll.cons (Kn.at 1 rfl) KnAll.nil)) ?_
    refine RunD.one (i := 8) (by kernel_rfl) rfl  ?_ 
    refine Run.call [3] (l := [.tmp 84, .tmp 87, .tmp 89]) rfl rfl rfl (lt rfl) (rtake_c (n := n) (c := c) (now := s.now) (p := (Cli.ans last s.kind s.time s.addr)) hi hhb hRn24 (Cli.few_ans hlf _ _ _)) (fun v26 V2 H2 _ hR => ?_)
    obtain ⟨hV, rfl, rfl⟩ := hR; replace hV := hV.symm; subst hV
    refine Run.heapTo (H' := [[(b3, .cells #[.int .i64 0, .int .u32 0, .int .i64 0, .int .i64 0, .int .u32 0, .int .u32 0, .int .u32 0, .int .u32 0, .slice none 0 0, .slice none 0 0] 36 (0, 0))], [(b2, .cells #[.int .i64 last.op, .int .u32 last.xid, .int .i64 last.secs, .int .i64 last.flags, .int .u32 last.ci, .int .u32 last.yi, .int .u32 last.si, .int .u32 last.gi, .slice pl last.hw.length cl, .slice ql nl kl] 36 (0, 0))], [(b1, .cells #[.int .i64 s.do_, .int .i64 s.now, .int .i64 s.kind, .int .i64 s.time, .int .u32 s.addr, .int .i64 s.p.op, .int .u32 s.p.xid, .int .i64 s.p.secs, .int .i64 s.p.flags, .int .u32 s.p.ci, .int .u32 s.p.yi, .int .u32 s.p.si, .int .u32 s.p.gi, s.hv, s.ov] 39 (0, 0))], [(bc, .cells #[.string ((Cli.takeC c (Cli.ans last s.kind s.time s.addr) s.now).name), hva, .int .i64 ((Cli.takeC c (Cli.ans last s.kind s.time s.addr) s.now).state), .int .u32 ((Cli.takeC c (Cli.ans last s.kind s.time s.addr) s.now).xid), .int .u32 ((Cli.takeC c (Cli.ans last s.kind s.time s.addr) s.now).addr), .int .u32 ((Cli.takeC c (Cli.ans last s.kind s.time s.addr) s.now).server), .int .i64 ((Cli.takeC c (Cli.ans last s.kind s.time s.addr) s.now).until_), .int .i64 ((Cli.takeC c (Cli.ans last s.kind s.time s.addr) s.now).one), .int .i64 ((Cli.takeC c (Cli.ans last s.kind s.time s.addr) s.now).two), .bool ((Cli.takeC c (Cli.ans last s.kind s.time s.addr) s.now).due), .int .i64 ((Cli.takeC c (Cli.ans last s.kind s.time s.addr) s.now).tries), .int .i64 ((Cli.takeC c (Cli.ans last s.kind s.time s.addr) s.now).said), .int .i64 ((Cli.takeC c (Cli.ans last s.kind s.time s.addr) s.now).asks)] 67 (0, 0))], [(bd, .cells #[.string ((Cli.takeC c (Cli.ans last s.kind s.time s.addr) s.now).name), hvb, .int .i64 ((Cli.takeC c (Cli.ans last s.kind s.time s.addr) s.now).state), .int .u32 ((Cli.takeC c (Cli.ans last s.kind s.time s.addr) s.now).xid), .int .u32 ((Cli.takeC c (Cli.ans last s.kind s.time s.addr) s.now).addr), .int .u32 ((Cli.takeC c (Cli.ans last s.kind s.time s.addr) s.now).server), .int .i64 ((Cli.takeC c (Cli.ans last s.kind s.time s.addr) s.now).until_), .int .i64 ((Cli.takeC c (Cli.ans last s.kind s.time s.addr) s.now).one), .int .i64 ((Cli.takeC c (Cli.ans last s.kind s.time s.addr) s.now).two), .bool ((Cli.takeC c (Cli.ans last s.kind s.time s.addr) s.now).due), .int .i64 ((Cli.takeC c (Cli.ans last s.kind s.time s.addr) s.now).tries), .int .i64 ((Cli.takeC c (Cli.ans last s.kind s.time s.addr) s.now).said), .int .i64 ((Cli.takeC c (Cli.ans last s.kind s.time s.addr) s.now).asks)] 44 (0, 0))]]) rfl ?_
    refine Run.to_end ?_
    refine Ex.anyD (KnAll.cons (Kn.at 2 rfl) (KnAll.cons (Kn.at 1 rfl) KnAll.nil)) ?_
    refine RunD.pure (i := 9) rfl (by kernel_rfl) (by kernel_rfl) (by kernel_rfl) (fun _ _ _ h => h) (lt rfl) (KnAll.cons (Kn.at 2 rfl) (KnAll.cons (Kn.at 1 rfl) KnAll.nil)) (fun _ => (Y.eqI_t rfl rfl)) ?_
    refine RunD.one (i := 10) (by kernel_rfl) rfl  ?_ 
    refine Run.store (s := [(b3, .cells #[.int .i64 last.op, .int .u32 last.xid, .int .i64 last.secs, .int .i64 last.flags, .int .u32 last.ci, .int .u32 last.yi, .int .u32 last.si, .int .u32 last.gi, .slice pl last.hw.length cl, .slice ql nl kl] 36 (0, 0))]) rfl rfl Clstep_sz36 (i := 0) rfl rfl (le rfl) rfl rfl ?_
    refine Run.to_end ?_
    refine Ex.anyD (KnAll.cons (Kn.at 2 rfl) (KnAll.cons (Kn.at 1 rfl) KnAll.nil)) ?_
    refine RunD.pure (i := 11) rfl (by kernel_rfl) (by kernel_rfl) (by kernel_rfl) (fun _ _ _ h => h) (lt rfl) (KnAll.cons (Kn.at 2 rfl) (KnAll.cons (Kn.at 1 rfl) KnAll.nil)) (fun _ => (Y.assign rfl)) ?_
    refine RunD.done (by kernel_rfl) ?_
    refine Ex.go ?_
    refine Tr.to_ret ?_
    refine Ex.ret_block ?_
    refine Ex.ret_then ?_
    have hsl : Cli.stepL c s last = last := (Cli.step_2 (c := c) (last := last) g4 g11 g14).2
    exact Ex.retCell2 [3, 3] rfl rfl rfl Clstep_ag36 (Kn.at 0 rfl) rfl ⟨hVle, by rw [(Cli.step_2 (c := c) (last := last) g4 g11 g14).1]; try rfl, .slice pl last.hw.length cl, .slice ql nl kl, by rw [hsl]; rfl, by rw [hsl]; exact hl⟩
   ·have g14 := h14
    try simp only [kb] at g14
    refine Tr.cond_f rfl h14 ?_
    refine Tr.seq ?_
    refine Tr.region ?_
    refine Run.val (lt rfl) (Y.int rfl rfl rfl) ?_
    refine Run.val (lt rfl) (Y.assign rfl) ?_
    refine Run.to_end ?_
    refine Ex.go ?_
    rcases Bool.eq_false_or_eq_true (s.do_ == 3) with h27 | h27
    ·have g27 := h27
     try simp only [kb] at g27
     refine Tr.cond_t rfl h27 ?_
     refine Tr.seq ?_
     refine Tr.region ?_
     refine Run.val (lt rfl) (Y.move rfl) ?_
     refine Run.val (lt rfl) (Y.fieldAddr rfl Clstep_fo39_1) ?_
     refine Run.val (lt rfl) (Y.load rfl Clstep_ts3 (Kn.at 2 rfl) rfl) ?_
     refine Run.call [3] (l := [.tmp 95, .tmp 97]) rfl rfl rfl (lt rfl) (release_c (n := n) (c := c) (now := s.now) hi hha) (fun v28 V2 H2 hle29 hR => ?_)
     obtain ⟨_, rfl, w30, w31, rfl, hRr32⟩ := hR
     obtain ⟨⟨p33, c34, rfl⟩, p35, n36, c37, rfl⟩ := hRr32.forms
     obtain ⟨Vs38, hVe⟩ : ∃ V3 : Vw, V3 = V2 := ⟨_, rfl⟩
     subst hVe
     replace hha := hha.le hle29
     replace hhb := hhb.le hle29
     replace hl := hl.le hle29
     replace hs := hs.le hle29
     have hVle := hle29
     refine Run.heapTo (H' := [[(b3, .cells #[.int .i64 0, .int .u32 0, .int .i64 0, .int .i64 0, .int .u32 0, .int .u32 0, .int .u32 0, .int .u32 0, .slice none 0 0, .slice none 0 0] 36 (0, 0))], [(b2, .cells #[.int .i64 last.op, .int .u32 last.xid, .int .i64 last.secs, .int .i64 last.flags, .int .u32 last.ci, .int .u32 last.yi, .int .u32 last.si, .int .u32 last.gi, .slice pl last.hw.length cl, .slice ql nl kl] 36 (0, 0))], [(b1, .cells #[.int .i64 s.do_, .int .i64 s.now, .int .i64 s.kind, .int .i64 s.time, .int .u32 s.addr, .int .i64 s.p.op, .int .u32 s.p.xid, .int .i64 s.p.secs, .int .i64 s.p.flags, .int .u32 s.p.ci, .int .u32 s.p.yi, .int .u32 s.p.si, .int .u32 s.p.gi, s.hv, s.ov] 39 (0, 0))], [(bd, .cells #[.string c.name, hvb, .int .i64 c.state, .int .u32 c.xid, .int .u32 c.addr, .int .u32 c.server, .int .i64 c.until_, .int .i64 c.one, .int .i64 c.two, .bool c.due, .int .i64 c.tries, .int .i64 c.said, .int .i64 c.asks] 44 (0, 0))], [(bc, .cells #[.string ((Cli.relC c s.now).name), hva, .int .i64 ((Cli.relC c s.now).state), .int .u32 ((Cli.relC c s.now).xid), .int .u32 ((Cli.relC c s.now).addr), .int .u32 ((Cli.relC c s.now).server), .int .i64 ((Cli.relC c s.now).until_), .int .i64 ((Cli.relC c s.now).one), .int .i64 ((Cli.relC c s.now).two), .bool ((Cli.relC c s.now).due), .int .i64 ((Cli.relC c s.now).tries), .int .i64 ((Cli.relC c s.now).said), .int .i64 ((Cli.relC c s.now).asks)] 67 (0, 0))]]) rfl ?_
     refine Run.val (lt rfl) (Y.move rfl) ?_
     refine Run.val (lt rfl) (Y.extract rfl rfl) ?_
     refine Run.val (lt rfl) (Y.extract rfl rfl) ?_
     refine Run.alloc Clstep_zo36 (lt rfl) (fun b39 => ?_)
     refine Run.store (s := [(b39, .cells #[.int .i64 ((Cli.relP c s.now).op), .int .u32 ((Cli.relP c s.now).xid), .int .i64 ((Cli.relP c s.now).secs), .int .i64 ((Cli.relP c s.now).flags), .int .u32 ((Cli.relP c s.now).ci), .int .u32 ((Cli.relP c s.now).yi), .int .u32 ((Cli.relP c s.now).si), .int .u32 ((Cli.relP c s.now).gi), .slice p33 (Cli.relP c s.now).hw.length c34, .slice p35 n36 c37] 36 (0, 0))]) rfl rfl Clstep_sz36 (i := 0) rfl rfl (le rfl) rfl rfl ?_
     refine Run.val (lt rfl) (Y.assign rfl) ?_
     refine Run.to_end ?_
     refine Ex.go ?_
     refine Tr.seq ?_
     refine Tr.region ?_
     refine Run.val (lt rfl) (Y.move rfl) ?_
     refine Run.val (lt rfl) (Y.fieldAddr rfl Clstep_fo39_1) ?_
     refine Run.val (lt rfl) (Y.load rfl Clstep_ts3 (Kn.at 3 rfl) rfl) ?_
     refine Run.call [4] (l := [.tmp 102, .tmp 104]) rfl rfl rfl (lt rfl) (rrelease_c (n := n) (c := c) (now := s.now) hi hhb) (fun v40 V2 H2 hle41 hR => ?_)
     obtain ⟨_, rfl, w42, w43, rfl, hRr44⟩ := hR
     obtain ⟨⟨p45, c46, rfl⟩, p47, n48, c49, rfl⟩ := hRr44.forms
     obtain ⟨Vs50, hVe⟩ : ∃ V3 : Vw, V3 = V2 := ⟨_, rfl⟩
     subst hVe
     replace hha := hha.le hle41
     replace hhb := hhb.le hle41
     replace hl := hl.le hle41
     replace hs := hs.le hle41
     replace hRr32 := hRr32.le hle41
     replace hVle := Vw.le_trans hVle hle41
     refine Run.heapTo (H' := [[(b39, .cells #[.int .i64 ((Cli.relP c s.now).op), .int .u32 ((Cli.relP c s.now).xid), .int .i64 ((Cli.relP c s.now).secs), .int .i64 ((Cli.relP c s.now).flags), .int .u32 ((Cli.relP c s.now).ci), .int .u32 ((Cli.relP c s.now).yi), .int .u32 ((Cli.relP c s.now).si), .int .u32 ((Cli.relP c s.now).gi), .slice p33 (Cli.relP c s.now).hw.length c34, .slice p35 n36 c37] 36 (0, 0))], [(b3, .cells #[.int .i64 0, .int .u32 0, .int .i64 0, .int .i64 0, .int .u32 0, .int .u32 0, .int .u32 0, .int .u32 0, .slice none 0 0, .slice none 0 0] 36 (0, 0))], [(b2, .cells #[.int .i64 last.op, .int .u32 last.xid, .int .i64 last.secs, .int .i64 last.flags, .int .u32 last.ci, .int .u32 last.yi, .int .u32 last.si, .int .u32 last.gi, .slice pl last.hw.length cl, .slice ql nl kl] 36 (0, 0))], [(b1, .cells #[.int .i64 s.do_, .int .i64 s.now, .int .i64 s.kind, .int .i64 s.time, .int .u32 s.addr, .int .i64 s.p.op, .int .u32 s.p.xid, .int .i64 s.p.secs, .int .i64 s.p.flags, .int .u32 s.p.ci, .int .u32 s.p.yi, .int .u32 s.p.si, .int .u32 s.p.gi, s.hv, s.ov] 39 (0, 0))], [(bc, .cells #[.string ((Cli.relC c s.now).name), hva, .int .i64 ((Cli.relC c s.now).state), .int .u32 ((Cli.relC c s.now).xid), .int .u32 ((Cli.relC c s.now).addr), .int .u32 ((Cli.relC c s.now).server), .int .i64 ((Cli.relC c s.now).until_), .int .i64 ((Cli.relC c s.now).one), .int .i64 ((Cli.relC c s.now).two), .bool ((Cli.relC c s.now).due), .int .i64 ((Cli.relC c s.now).tries), .int .i64 ((Cli.relC c s.now).said), .int .i64 ((Cli.relC c s.now).asks)] 67 (0, 0))], [(bd, .cells #[.string ((Cli.relC c s.now).name), hvb, .int .i64 ((Cli.relC c s.now).state), .int .u32 ((Cli.relC c s.now).xid), .int .u32 ((Cli.relC c s.now).addr), .int .u32 ((Cli.relC c s.now).server), .int .i64 ((Cli.relC c s.now).until_), .int .i64 ((Cli.relC c s.now).one), .int .i64 ((Cli.relC c s.now).two), .bool ((Cli.relC c s.now).due), .int .i64 ((Cli.relC c s.now).tries), .int .i64 ((Cli.relC c s.now).said), .int .i64 ((Cli.relC c s.now).asks)] 44 (0, 0))]]) rfl ?_
     refine Run.val (lt rfl) (Y.move rfl) ?_
     refine Run.val (lt rfl) (Y.extract rfl rfl) ?_
     refine Run.val (lt rfl) (Y.extract rfl rfl) ?_
     refine Run.alloc Clstep_zo36 (lt rfl) (fun b51 => ?_)
     refine Run.store (s := [(b51, .cells #[.int .i64 ((Cli.relP c s.now).op), .int .u32 ((Cli.relP c s.now).xid), .int .i64 ((Cli.relP c s.now).secs), .int .i64 ((Cli.relP c s.now).flags), .int .u32 ((Cli.relP c s.now).ci), .int .u32 ((Cli.relP c s.now).yi), .int .u32 ((Cli.relP c s.now).si), .int .u32 ((Cli.relP c s.now).gi), .slice p45 (Cli.relP c s.now).hw.length c46, .slice p47 n48 c49] 36 (0, 0))]) rfl rfl Clstep_sz36 (i := 0) rfl rfl (le rfl) rfl rfl ?_
     refine Run.val (lt rfl) (Y.assign rfl) ?_
     refine Run.to_end ?_
     refine Ex.go ?_
     refine Tr.seq ?_
     refine Tr.region ?_
     have hrl : (Cli.relP c s.now).os.length ≤ 1000000 := Cli.rel_os c s.now
     refine Run.val (lt rfl) (Y.loadAgg rfl Clstep_ag36 (Kn.at 1 rfl) rfl) ?_
     refine Run.val (lt rfl) (Y.loadAgg rfl Clstep_ag36 (Kn.at 0 rfl) rfl) ?_
     refine Run.call0 (l := [.tmp 108, .tmp 109]) rfl rfl rfl (lt rfl) (same_h hRr32.hw hRr32.os hRr44.hw hRr44.os hrl) ?_
     refine Run.val (lt rfl) (Y.assign rfl) ?_
     refine Run.to_end ?_
     refine Ex.go ?_
     refine Tr.seq ?_
     refine Tr.region ?_
     refine Run.val (lt rfl) (Y.loadAgg rfl Clstep_ag36 (Kn.at 3 rfl) rfl) ?_
     refine Run.val (lt rfl) (Y.move rfl) ?_
     refine Run.val (lt rfl) (Y.move rfl) ?_
     refine Run.on rfl rfl rfl rfl ?_
     refine Run.val (lt rfl) (Y.move rfl) ?_
     refine Run.on rfl rfl rfl rfl ?_
     refine Run.val (lt rfl) (Y.move rfl) ?_
     refine Run.on rfl rfl rfl rfl ?_
     refine Run.val (lt rfl) (Y.eqI_t rfl rfl) ?_
     refine Run.val (lt rfl) (Y.pick_t rfl rfl rfl) ?_
     refine Run.store (s := [(b3, .cells #[.int .i64 last.op, .int .u32 last.xid, .int .i64 last.secs, .int .i64 last.flags, .int .u32 last.ci, .int .u32 last.yi, .int .u32 last.si, .int .u32 last.gi, .slice pl last.hw.length cl, .slice ql nl kl] 36 (0, 0))]) rfl rfl Clstep_sz36 (i := 2) rfl rfl (le rfl) rfl rfl ?_
     refine Run.val (lt rfl) (Y.assign rfl) ?_
     refine Run.to_end ?_
     refine Ex.go ?_
     refine Tr.to_ret ?_
     refine Ex.ret_block ?_
     refine Ex.ret_then ?_
     have hsl : Cli.stepL c s last = last := (Cli.step_3 (c := c) (last := last) g4 g11 g14 g27).2
     exact Ex.retCell2 [5, 5] rfl rfl rfl Clstep_ag36 (Kn.at 2 rfl) rfl ⟨hVle, by rw [(Cli.step_3 (c := c) (last := last) g4 g11 g14 g27).1]; try rfl, .slice pl last.hw.length cl, .slice ql nl kl, by rw [hsl]; rfl, by rw [hsl]; exact hl⟩
    ·have g27 := h27
     try simp only [kb] at g27
     refine Tr.cond_f rfl h27 ?_
     refine Tr.to_end ?_
     refine Ex.end_block ?_
     refine Ex.go ?_
     refine Tr.seq ?_
     refine Tr.region ?_
     refine Run.val (lt rfl) (Y.move rfl) ?_
     refine Run.call [3] (l := [.tmp 118]) rfl rfl rfl (lt rfl) (start_c (c := c)) (fun v52 V2 H2 _ hR => ?_)
     obtain ⟨hV, rfl, rfl⟩ := hR; replace hV := hV.symm; subst hV
     refine Run.heapTo (H' := [[(b3, .cells #[.int .i64 0, .int .u32 0, .int .i64 0, .int .i64 0, .int .u32 0, .int .u32 0, .int .u32 0, .int .u32 0, .slice none 0 0, .slice none 0 0] 36 (0, 0))], [(b2, .cells #[.int .i64 last.op, .int .u32 last.xid, .int .i64 last.secs, .int .i64 last.flags, .int .u32 last.ci, .int .u32 last.yi, .int .u32 last.si, .int .u32 last.gi, .slice pl last.hw.length cl, .slice ql nl kl] 36 (0, 0))], [(b1, .cells #[.int .i64 s.do_, .int .i64 s.now, .int .i64 s.kind, .int .i64 s.time, .int .u32 s.addr, .int .i64 s.p.op, .int .u32 s.p.xid, .int .i64 s.p.secs, .int .i64 s.p.flags, .int .u32 s.p.ci, .int .u32 s.p.yi, .int .u32 s.p.si, .int .u32 s.p.gi, s.hv, s.ov] 39 (0, 0))], [(bd, .cells #[.string c.name, hvb, .int .i64 c.state, .int .u32 c.xid, .int .u32 c.addr, .int .u32 c.server, .int .i64 c.until_, .int .i64 c.one, .int .i64 c.two, .bool c.due, .int .i64 c.tries, .int .i64 c.said, .int .i64 c.asks] 44 (0, 0))], [(bc, .cells #[.string ((Cli.start c).name), hva, .int .i64 ((Cli.start c).state), .int .u32 ((Cli.start c).xid), .int .u32 ((Cli.start c).addr), .int .u32 ((Cli.start c).server), .int .i64 ((Cli.start c).until_), .int .i64 ((Cli.start c).one), .int .i64 ((Cli.start c).two), .bool ((Cli.start c).due), .int .i64 ((Cli.start c).tries), .int .i64 ((Cli.start c).said), .int .i64 ((Cli.start c).asks)] 67 (0, 0))]]) rfl ?_
     refine Run.to_end ?_
     refine Ex.go ?_
     refine Tr.seq ?_
     refine Tr.region ?_
     refine Run.val (lt rfl) (Y.move rfl) ?_
     refine Run.call [3] (l := [.tmp 120]) rfl rfl rfl (lt rfl) (rstart_c (c := c)) (fun v53 V2 H2 _ hR => ?_)
     obtain ⟨hV, rfl, rfl⟩ := hR; replace hV := hV.symm; subst hV
     refine Run.heapTo (H' := [[(b3, .cells #[.int .i64 0, .int .u32 0, .int .i64 0, .int .i64 0, .int .u32 0, .int .u32 0, .int .u32 0, .int .u32 0, .slice none 0 0, .slice none 0 0] 36 (0, 0))], [(b2, .cells #[.int .i64 last.op, .int .u32 last.xid, .int .i64 last.secs, .int .i64 last.flags, .int .u32 last.ci, .int .u32 last.yi, .int .u32 last.si, .int .u32 last.gi, .slice pl last.hw.length cl, .slice ql nl kl] 36 (0, 0))], [(b1, .cells #[.int .i64 s.do_, .int .i64 s.now, .int .i64 s.kind, .int .i64 s.time, .int .u32 s.addr, .int .i64 s.p.op, .int .u32 s.p.xid, .int .i64 s.p.secs, .int .i64 s.p.flags, .int .u32 s.p.ci, .int .u32 s.p.yi, .int .u32 s.p.si, .int .u32 s.p.gi, s.hv, s.ov] 39 (0, 0))], [(bc, .cells #[.string ((Cli.start c).name), hva, .int .i64 ((Cli.start c).state), .int .u32 ((Cli.start c).xid), .int .u32 ((Cli.start c).addr), .int .u32 ((Cli.start c).server), .int .i64 ((Cli.start c).until_), .int .i64 ((Cli.start c).one), .int .i64 ((Cli.start c).two), .bool ((Cli.start c).due), .int .i64 ((Cli.start c).tries), .int .i64 ((Cli.start c).said), .int .i64 ((Cli.start c).asks)] 67 (0, 0))], [(bd, .cells #[.string ((Cli.start c).name), hvb, .int .i64 ((Cli.start c).state), .int .u32 ((Cli.start c).xid), .int .u32 ((Cli.start c).addr), .int .u32 ((Cli.start c).server), .int .i64 ((Cli.start c).until_), .int .i64 ((Cli.start c).one), .int .i64 ((Cli.start c).two), .bool ((Cli.start c).due), .int .i64 ((Cli.start c).tries), .int .i64 ((Cli.start c).said), .int .i64 ((Cli.start c).asks)] 44 (0, 0))]]) rfl ?_
     refine Run.to_end ?_
     refine Ex.go ?_
     refine Tr.seq ?_
     refine Tr.region ?_
     refine Run.val (lt rfl) (Y.loadAgg rfl Clstep_ag36 (Kn.at 1 rfl) rfl) ?_
     refine Run.store (s := [(b3, .cells #[.int .i64 last.op, .int .u32 last.xid, .int .i64 last.secs, .int .i64 last.flags, .int .u32 last.ci, .int .u32 last.yi, .int .u32 last.si, .int .u32 last.gi, .slice pl last.hw.length cl, .slice ql nl kl] 36 (0, 0))]) rfl rfl Clstep_sz36 (i := 0) rfl rfl (le rfl) rfl rfl ?_
     refine Run.val (lt rfl) (Y.assign rfl) ?_
     refine Run.to_end ?_
     refine Ex.go ?_
     refine Tr.to_ret ?_
     have hsl : Cli.stepL c s last = last := (Cli.step_4 (c := c) (last := last) g4 g11 g14 g27).2
     exact Ex.retCell2 [3, 3] rfl rfl rfl Clstep_ag36 (Kn.at 0 rfl) rfl ⟨Vw.le_refl _, by rw [(Cli.step_4 (c := c) (last := last) g4 g11 g14 g27).1]; try rfl, .slice pl last.hw.length cl, .slice ql nl kl, by rw [hsl]; rfl, by rw [hsl]; exact hl⟩
end Go.Proofs.Ytelahacalnmilaa
