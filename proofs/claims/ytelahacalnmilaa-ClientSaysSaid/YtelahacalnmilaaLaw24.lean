/- The law ClientScripts, walked.
Conditions: as each theorem names them. -/
import Derived.Test.YtelahacalnmilaaProg
import Derived.Test.YtelahacalnmilaaO5
import Derived.Test.YtelahacalnmilaaClstep
set_option linter.unusedSimpArgs false
set_option linter.unusedVariables false
set_option maxRecDepth 4000
namespace Go.Proofs.Ytelahacalnmilaa
open Go Go.K
attribute [local irreducible] Code.wp wpList Calls wpQuiet
theorem Law24_fo39_5 : fieldOff Try.prog 39 5 = some 5 := by kernel_rfl
theorem Law24_ag36 : aggsz Try.prog 36 = some 10 := by kernel_rfl
theorem Law24_es22 : elemS Try.prog 22 = some (5, 1) := by kernel_rfl
theorem Law24_zo5 : zeroOf Try.prog 5 = some (.int .u8 0) := by kernel_rfl
theorem Law24_pt25 : ptrT Try.prog 25 = true := by kernel_rfl
theorem Law24_es48 : elemS Try.prog 48 = some (36, 10) := by kernel_rfl
theorem Law24_zo39 : zeroOf Try.prog 39 = some (.agg #[.int .i64 0, .int .i64 0, .int .i64 0, .int .i64 0, .int .u32 0, .int .i64 0, .int .u32 0, .int .i64 0, .int .i64 0, .int .u32 0, .int .u32 0, .int .u32 0, .int .u32 0, .slice none 0 0, .slice none 0 0]) := by kernel_rfl
theorem Law24_pl39 : placesS Try.prog 39 = some [(0, 1), (1, 1), (2, 1), (3, 1), (4, 1), (5, 10)] := by kernel_rfl
theorem Law24_st9 : strT Try.prog 9 = true := by kernel_rfl
theorem Law24_pt29 : ptrT Try.prog 29 = true := by kernel_rfl
theorem Law24_tg4 : tagOf Try.prog 4 = some (1, .i64) := by kernel_rfl
theorem Law24_zo36 : zeroOf Try.prog 36 = some (.agg #[.int .i64 0, .int .u32 0, .int .i64 0, .int .i64 0, .int .u32 0, .int .u32 0, .int .u32 0, .int .u32 0, .slice none 0 0, .slice none 0 0]) := by kernel_rfl
theorem Law24_es23 : elemS Try.prog 23 = some (39, 15) := by kernel_rfl
theorem Law24_ag39 : aggsz Try.prog 39 = some 15 := by kernel_rfl
theorem Law24_mo : Try.prog.follows .mixedOrders = true := by kernel_rfl
theorem Law24_sz36 : sizeT Try.prog 36 = some 10 := by kernel_rfl
theorem Law24_fo44_2 : fieldOff Try.prog 44 2 = some 2 := by kernel_rfl
theorem Law24_ts3 : scal Try.prog 3 = true := by kernel_rfl
theorem Law24_fo44_4 : fieldOff Try.prog 44 4 = some 4 := by kernel_rfl
theorem Law24_ts33 : scal Try.prog 33 = true := by kernel_rfl

theorem long24_c {V : Vw} {s : CStp} (hsw : Rd V [] 1 s.hv s.p.hw.length (s.p.hw.map byteV)) (hso : Pc.Rs V s.ov s.p.os)  : Does Try.prog 10 [.agg s.cells.toArray] V [] (Pv (.bool (!Pc.few s.p)) V []) := by
 refine Does.intro Try.func10 rfl rfl (le rfl) (fun B => ?_)
 refine Tr.seq ?_
 refine Tr.region ?_
 refine Run.box rfl (lt rfl) (fun b1 => ?_)
 refine Run.val (lt rfl) (Y.assign rfl) ?_
 refine Run.to_end ?_
 refine Ex.go ?_
 refine Tr.seq ?_
 refine Tr.region ?_
 refine Run.val (lt rfl) (Y.fieldAddr rfl Law24_fo39_5) ?_
 refine Run.val (lt rfl) (Y.loadAgg rfl Law24_ag36 (Kn.at 0 rfl) rfl) ?_
 refine Run.call0 (l := [.tmp 5]) rfl rfl rfl (lt rfl) (few_h hsw hso) ?_
 refine Run.val (lt rfl) (Y.assign rfl) ?_
 refine Run.to_end ?_
 refine Ex.go ?_
 refine Tr.seq ?_
 refine Tr.region ?_
 refine Run.val (lt rfl) (Y.move rfl) ?_
 refine Run.val (lt rfl) (Y.not rfl) ?_
 refine Run.val (lt rfl) (Y.assign rfl) ?_
 refine Run.to_end ?_
 refine Ex.go ?_
 refine Tr.to_ret ?_
 refine Ex.keep [] ?_
 exact Ex.ret1 rfl rfl  ⟨rfl, rfl, rfl⟩

set_option maxHeartbeats 1000000 in
theorem awake24_c0  {V : Vw} : Does Try.prog 7 [] V [] (fun u V' H' => V.le V' ∧ u = .bool true ∧ H' = []) := by
 refine Does.intro Try.func7 rfl rfl (le rfl) (fun B => ?_)
 refine Tr.seq ?_
 refine Tr.region ?_
 refine Run.val (lt rfl) (Y.assign rfl) ?_
 refine Run.to_end ?_
 refine Ex.go ?_
 refine Tr.seq ?_
 refine Tr.region ?_
 refine Run.buildSlice (l := [(0, .const (.int .u8 1))]) Law24_es22 Law24_zo5 rfl (by decide) rfl rfl (by decide) (lt rfl) (fun b1 => ?_)
 refine Run.keepTo (H' := [[(b1, .cells #[.int .u8 1] 5 (0, 0))]]) [0] rfl ?_
 refine Run.show (fun V3 hleV3 hshV3 => ?_)
 have hna2 := (Ow.lit (e := 5) (k := 1) (b := b1) (n := 1) (cur := #[.int .u8 1]) rfl (by decide)).shows _ hshV3
 have hVle := hleV3
 have hna2b : Rd V3 [] 1 (.slice (some ⟨b1, 0, none⟩) 1 1) ([1] : List UInt8).length (([1] : List UInt8).map byteV) := hna2
 refine Run.call [] (l := [.const (.string ⟨#[97]⟩), .tmp 9]) rfl rfl rfl (lt rfl) (new_c_h (s := ⟨#[97]⟩) hna2b Cli.fine_a) (fun v4 V2 H2 hle5 hR => ?_)
 obtain ⟨_, b6, w7, rfl, rfl, hha⟩ := hR
 obtain ⟨Vs8, hVe⟩ : ∃ V3 : Vw, V3 = V2 := ⟨_, rfl⟩
 subst hVe
 replace hna2 := hna2.le hle5
 replace hna2b := hna2b.le hle5
 replace hVle := Vw.le_trans hVle hle5
 refine Run.heapTo (H' := [[(b6, .cells #[.string Cli.aw0.name, w7, .int .i64 Cli.aw0.state, .int .u32 Cli.aw0.xid, .int .u32 Cli.aw0.addr, .int .u32 Cli.aw0.server, .int .i64 Cli.aw0.until_, .int .i64 Cli.aw0.one, .int .i64 Cli.aw0.two, .bool Cli.aw0.due, .int .i64 Cli.aw0.tries, .int .i64 Cli.aw0.said, .int .i64 Cli.aw0.asks] 67 (0, 0))]]) rfl ?_
 refine Run.val (lt rfl) (Y.move rfl) ?_
 refine Run.val (lt rfl) (Y.extract rfl rfl) ?_
 refine Run.val (lt rfl) (Y.extract rfl rfl) ?_
 refine Run.val (lt rfl) (Y.assign rfl) ?_
 refine Run.val (lt rfl) (Y.assign rfl) ?_
 refine Run.to_end ?_
 refine Ex.go ?_
 refine Tr.seq ?_
 refine Tr.seq ?_
 refine Tr.region ?_
 refine Run.val (lt rfl) (Y.move rfl) ?_
 refine Run.val (lt rfl) (Y.int (r := .bool false) rfl rfl rfl) ?_
 refine Run.val (lt rfl) (Y.move rfl) ?_
 refine Run.on rfl rfl rfl rfl ?_
 refine Run.val (lt rfl) (Y.move rfl) ?_
 refine Run.on rfl rfl rfl rfl ?_
 refine Run.val (lt rfl) (Y.eqNil rfl rfl Law24_pt25) ?_
 refine Run.val (lt rfl) (Y.pick_f rfl rfl rfl) ?_
 refine Run.to_end ?_
 refine Ex.go ?_
 refine Tr.cond_f rfl rfl ?_
 refine Tr.to_end ?_
 refine Ex.go ?_
 refine Tr.seq ?_
 refine Tr.region ?_
 refine Run.val (lt rfl) (Y.move rfl) ?_
 refine Run.call [0] (l := [.tmp 20, .const (.int .i64 0)]) rfl rfl rfl (lt rfl) (tick_c (n := 0) (c := Cli.aw0) (now := 0) Cli.inv0 (by decide) hha) (fun v9 V2 H2 hle10 hR => ?_)
 obtain ⟨_, rfl, pst12, rfl, hkt11⟩ := hR
 obtain ⟨Vs13, hVe⟩ : ∃ V3 : Vw, V3 = V2 := ⟨_, rfl⟩
 subst hVe
 replace hna2 := hna2.le hle10
 replace hna2b := hna2b.le hle10
 replace hha := hha.le hle10
 replace hVle := Vw.le_trans hVle hle10
 have hix14 : Cli.Inv (0 + 1) Cli.aw1 := Cli.inv0.tick 0
 have hhx15 : Rd Vs13 [] 1 w7 (Cli.hw Cli.aw1).length ((Cli.hw Cli.aw1).map byteV) := by rw [show Cli.hw Cli.aw1 = Cli.hw Cli.aw0 from (Cli.tick_same _ _).1]; exact hha
 refine Run.heapTo (H' := [[(b6, .cells #[.string Cli.aw1.name, w7, .int .i64 Cli.aw1.state, .int .u32 Cli.aw1.xid, .int .u32 Cli.aw1.addr, .int .u32 Cli.aw1.server, .int .i64 Cli.aw1.until_, .int .i64 Cli.aw1.one, .int .i64 Cli.aw1.two, .bool Cli.aw1.due, .int .i64 Cli.aw1.tries, .int .i64 Cli.aw1.said, .int .i64 Cli.aw1.asks] 67 (0, 0))]]) rfl ?_
 refine Run.val (lt rfl) (Y.move rfl) ?_
 refine Run.val (lt rfl) (Y.extract rfl rfl) ?_
 refine Run.val (lt rfl) (Y.extract rfl rfl) ?_
 refine Run.val (lt rfl) (Y.assign rfl) ?_
 refine Run.val (lt rfl) (Y.assign rfl) ?_
 refine Run.to_end ?_
 refine Ex.go ?_
 refine Tr.seq ?_
 refine Tr.seq ?_
 refine Tr.region ?_
 rw [Cli.tp0] at hkt11
 obtain ⟨bq, hq1, hq2, rfl, hmq, hRq⟩ := hkt11
 obtain ⟨⟨pq1, cq1, rfl⟩, pq2, nq2, cq2, rfl⟩ := hRq.forms
 refine Run.val (lt rfl) (Y.move rfl) ?_
 refine Run.val (lt rfl) (Y.int rfl rfl rfl) ?_
 refine Run.val (lt rfl) (Y.move rfl) ?_
 refine Run.on rfl rfl rfl (by decide) ?_
 refine Run.val (lt rfl) (Y.move rfl) ?_
 refine Run.on rfl rfl rfl (by decide) ?_
 refine Run.val (lt rfl) (Y.lenSl rfl Law24_es48) ?_
 refine Run.on rfl rfl rfl (by decide) ?_
 refine Run.val (lt rfl) (Y.int (r := .bool false) rfl rfl rfl) ?_
 refine Run.val (lt rfl) (Y.pick_f rfl (by decide) rfl) ?_
 refine Run.to_end ?_
 refine Ex.go ?_
 refine Tr.cond_f rfl rfl ?_
 refine Tr.to_end ?_
 refine Ex.go ?_
 refine Tr.seq ?_
 refine Tr.region ?_
 refine Run.val (lt rfl) (Y.move rfl) ?_
 refine Run.val (lt rfl) (Y.move rfl) ?_
 refine Run.val (lt rfl) (Y.idxAddr rfl rfl Law24_es48 (by omega) (by omega)) ?_
 refine Run.val (lt rfl) (Y.loadAgg rfl Law24_ag36 (.inl hmq) rfl) ?_
 refine Run.val (lt rfl) (Y.buildS (l := [(2, .const (.int .i64 2)), (3, .const (.int .i64 20)), (4, .const (.int .u32 5))]) Law24_zo39 Law24_pl39 rfl rfl) ?_
 refine Run.call [] (l := [.tmp 34, .tmp 35]) rfl rfl rfl (lt rfl) (answer_c (p := Cli.awq1) (s := (⟨0, 0, 2, 20, 5, Cli.zeroP, .slice none 0 0, .slice none 0 0⟩ : CStp)) hRq (show (0 : Int) ≤ 5 ∧ (5 : Int) ≤ 4294967295 by decide)) (fun v16 V2 H2 hle17 hR => ?_)
 obtain ⟨_, rfl, w18, rfl, hRn19⟩ := hR
 obtain ⟨Vs20, hVe⟩ : ∃ V3 : Vw, V3 = V2 := ⟨_, rfl⟩
 subst hVe
 replace hna2 := hna2.le hle17
 replace hna2b := hna2b.le hle17
 replace hhx15 := hhx15.le hle17
 replace hRq := hRq.le hle17
 replace hVle := Vw.le_trans hVle hle17
 refine Run.heapTo (H' := [[(b6, .cells #[.string Cli.aw1.name, w7, .int .i64 Cli.aw1.state, .int .u32 Cli.aw1.xid, .int .u32 Cli.aw1.addr, .int .u32 Cli.aw1.server, .int .i64 Cli.aw1.until_, .int .i64 Cli.aw1.one, .int .i64 Cli.aw1.two, .bool Cli.aw1.due, .int .i64 Cli.aw1.tries, .int .i64 Cli.aw1.said, .int .i64 Cli.aw1.asks] 67 (0, 0))]]) rfl ?_
 refine Run.call [0] (l := [.tmp 31, .tmp 36, .const (.int .i64 0)]) rfl rfl rfl (lt rfl) (take_c (n := 0 + 1) (c := Cli.aw1) (now := 0) (p := (Cli.ans Cli.awq1 2 20 5)) hix14 hhx15 hRn19 (Cli.few_ans Cli.fewq1 _ _ _)) (fun v21 V2 H2 _ hR => ?_)
 obtain ⟨hV, rfl, rfl⟩ := hR; replace hV := hV.symm; subst hV
 have hix22 : Cli.Inv (0 + 1) Cli.aw2 := hix14.take hRn19.yi hRn19.si 0
 have hhx23 : Rd Vs20 [] 1 w7 (Cli.hw Cli.aw2).length ((Cli.hw Cli.aw2).map byteV) := by rw [show Cli.hw Cli.aw2 = Cli.hw Cli.aw1 from (Cli.take_same _ _ _).1]; exact hhx15
 refine Run.heapTo (H' := [[(b6, .cells #[.string Cli.aw2.name, w7, .int .i64 Cli.aw2.state, .int .u32 Cli.aw2.xid, .int .u32 Cli.aw2.addr, .int .u32 Cli.aw2.server, .int .i64 Cli.aw2.until_, .int .i64 Cli.aw2.one, .int .i64 Cli.aw2.two, .bool Cli.aw2.due, .int .i64 Cli.aw2.tries, .int .i64 Cli.aw2.said, .int .i64 Cli.aw2.asks] 67 (0, 0))]]) rfl ?_
 refine Run.to_end ?_
 refine Ex.go ?_
 refine Tr.seq ?_
 refine Tr.region ?_
 refine Run.val (lt rfl) (Y.move rfl) ?_
 refine Run.call [0] (l := [.tmp 39, .const (.int .i64 1)]) rfl rfl rfl (lt rfl) (tick_c (n := 0 + 1) (c := Cli.aw2) (now := 1) hix22 (by decide) hhx23) (fun v24 V2 H2 hle25 hR => ?_)
 obtain ⟨_, rfl, pst27, rfl, hkt26⟩ := hR
 obtain ⟨Vs28, hVe⟩ : ∃ V3 : Vw, V3 = V2 := ⟨_, rfl⟩
 subst hVe
 replace hna2 := hna2.le hle25
 replace hna2b := hna2b.le hle25
 replace hRq := hRq.le hle25
 replace hRn19 := hRn19.le hle25
 replace hhx23 := hhx23.le hle25
 replace hVle := Vw.le_trans hVle hle25
 have hix29 : Cli.Inv (0 + 1 + 1) Cli.aw3 := hix22.tick 1
 have hhx30 : Rd Vs28 [] 1 w7 (Cli.hw Cli.aw3).length ((Cli.hw Cli.aw3).map byteV) := by rw [show Cli.hw Cli.aw3 = Cli.hw Cli.aw2 from (Cli.tick_same _ _).1]; exact hhx23
 refine Run.heapTo (H' := [[(b6, .cells #[.string Cli.aw3.name, w7, .int .i64 Cli.aw3.state, .int .u32 Cli.aw3.xid, .int .u32 Cli.aw3.addr, .int .u32 Cli.aw3.server, .int .i64 Cli.aw3.until_, .int .i64 Cli.aw3.one, .int .i64 Cli.aw3.two, .bool Cli.aw3.due, .int .i64 Cli.aw3.tries, .int .i64 Cli.aw3.said, .int .i64 Cli.aw3.asks] 67 (0, 0))]]) rfl ?_
 refine Run.val (lt rfl) (Y.move rfl) ?_
 refine Run.val (lt rfl) (Y.extract rfl rfl) ?_
 refine Run.val (lt rfl) (Y.extract rfl rfl) ?_
 refine Run.val (lt rfl) (Y.assign rfl) ?_
 refine Run.val (lt rfl) (Y.assign rfl) ?_
 refine Run.to_end ?_
 refine Ex.go ?_
 refine Tr.seq ?_
 refine Tr.seq ?_
 refine Tr.region ?_
 rw [Cli.tp2] at hkt26
 obtain ⟨br, hr1, hr2, rfl, hmr, hRr⟩ := hkt26
 obtain ⟨⟨pr1, cr1, rfl⟩, pr2, nr2, cr2, rfl⟩ := hRr.forms
 refine Run.val (lt rfl) (Y.move rfl) ?_
 refine Run.val (lt rfl) (Y.lenSl rfl Law24_es48) ?_
 refine Run.val (lt rfl) (Y.int (r := .bool false) rfl rfl rfl) ?_
 refine Run.to_end ?_
 refine Ex.go ?_
 refine Tr.cond_f rfl rfl ?_
 refine Tr.to_end ?_
 refine Ex.go ?_
 refine Tr.seq ?_
 refine Tr.region ?_
 refine Run.val (lt rfl) (Y.move rfl) ?_
 refine Run.val (lt rfl) (Y.move rfl) ?_
 refine Run.val (lt rfl) (Y.idxAddr rfl rfl Law24_es48 (by omega) (by omega)) ?_
 refine Run.val (lt rfl) (Y.loadAgg rfl Law24_ag36 (.inl hmr) rfl) ?_
 refine Run.val (lt rfl) (Y.buildS (l := [(2, .const (.int .i64 5)), (3, .const (.int .i64 20)), (4, .const (.int .u32 5))]) Law24_zo39 Law24_pl39 rfl rfl) ?_
 refine Run.call [] (l := [.tmp 49, .tmp 50]) rfl rfl rfl (lt rfl) (answer_c (p := Cli.awq2) (s := (⟨0, 0, 5, 20, 5, Cli.zeroP, .slice none 0 0, .slice none 0 0⟩ : CStp)) hRr (show (0 : Int) ≤ 5 ∧ (5 : Int) ≤ 4294967295 by decide)) (fun v31 V2 H2 hle32 hR => ?_)
 obtain ⟨_, rfl, w33, rfl, hRn34⟩ := hR
 obtain ⟨Vs35, hVe⟩ : ∃ V3 : Vw, V3 = V2 := ⟨_, rfl⟩
 subst hVe
 replace hna2 := hna2.le hle32
 replace hna2b := hna2b.le hle32
 replace hRq := hRq.le hle32
 replace hRn19 := hRn19.le hle32
 replace hhx30 := hhx30.le hle32
 replace hRr := hRr.le hle32
 replace hVle := Vw.le_trans hVle hle32
 refine Run.heapTo (H' := [[(b6, .cells #[.string Cli.aw3.name, w7, .int .i64 Cli.aw3.state, .int .u32 Cli.aw3.xid, .int .u32 Cli.aw3.addr, .int .u32 Cli.aw3.server, .int .i64 Cli.aw3.until_, .int .i64 Cli.aw3.one, .int .i64 Cli.aw3.two, .bool Cli.aw3.due, .int .i64 Cli.aw3.tries, .int .i64 Cli.aw3.said, .int .i64 Cli.aw3.asks] 67 (0, 0))]]) rfl ?_
 refine Run.call [0] (l := [.tmp 46, .tmp 51, .const (.int .i64 1)]) rfl rfl rfl (lt rfl) (take_c (n := 0 + 1 + 1) (c := Cli.aw3) (now := 1) (p := (Cli.ans Cli.awq2 5 20 5)) hix29 hhx30 hRn34 (Cli.few_ans Cli.fewq2 _ _ _)) (fun v36 V2 H2 _ hR => ?_)
 obtain ⟨hV, rfl, rfl⟩ := hR; replace hV := hV.symm; subst hV
 have hix37 : Cli.Inv (0 + 1 + 1) Cli.aw4 := hix29.take hRn34.yi hRn34.si 1
 have hhx38 : Rd Vs35 [] 1 w7 (Cli.hw Cli.aw4).length ((Cli.hw Cli.aw4).map byteV) := by rw [show Cli.hw Cli.aw4 = Cli.hw Cli.aw3 from (Cli.take_same _ _ _).1]; exact hhx30
 refine Run.heapTo (H' := [[(b6, .cells #[.string Cli.aw4.name, w7, .int .i64 Cli.aw4.state, .int .u32 Cli.aw4.xid, .int .u32 Cli.aw4.addr, .int .u32 Cli.aw4.server, .int .i64 Cli.aw4.until_, .int .i64 Cli.aw4.one, .int .i64 Cli.aw4.two, .bool Cli.aw4.due, .int .i64 Cli.aw4.tries, .int .i64 Cli.aw4.said, .int .i64 Cli.aw4.asks] 67 (0, 0))]]) rfl ?_
 refine Run.val (lt rfl) (Y.assign rfl) ?_
 refine Run.to_end ?_
 refine Ex.go ?_
 refine Tr.seq ?_
 refine Tr.region ?_
 refine Run.val (lt rfl) (Y.move rfl) ?_
 refine Run.val (lt rfl) (Y.int rfl rfl rfl) ?_
 refine Run.val (lt rfl) (Y.move rfl) ?_
 refine Run.on rfl rfl rfl (by rw [Cli.aw_end.1]; rfl) ?_
 refine Run.val (lt rfl) (Y.move rfl) ?_
 refine Run.on rfl rfl rfl (by rw [Cli.aw_end.1]; rfl) ?_
 refine Run.call0 (l := [.tmp 56]) rfl rfl rfl (lt rfl) (state_c (c := Cli.aw4) (Kn.at 0 rfl)) ?_
 refine Run.on rfl rfl rfl (by rw [Cli.aw_end.1]; rfl) ?_
 refine Run.val (lt rfl) (Y.int rfl rfl rfl) ?_
 refine Run.val (lt rfl) (Y.pick_t rfl (by rw [Cli.aw_end.1]; rfl) rfl) ?_
 refine Run.val (lt rfl) (Y.move rfl) ?_
 refine Run.on rfl rfl rfl (by rw [Cli.aw_end.2.1]; rfl) ?_
 refine Run.val (lt rfl) (Y.move rfl) ?_
 refine Run.on rfl rfl rfl (by rw [Cli.aw_end.2.1]; rfl) ?_
 refine Run.call0 (l := [.tmp 61]) rfl rfl rfl (lt rfl) (addr_c (c := Cli.aw4) (Kn.at 0 rfl)) ?_
 refine Run.on rfl rfl rfl (by rw [Cli.aw_end.2.1]; rfl) ?_
 refine Run.val (lt rfl) (Y.int rfl rfl rfl) ?_
 refine Run.val (lt rfl) (Y.pick_t rfl (by rw [Cli.aw_end.2.1]; rfl) rfl) ?_
 refine Run.val (lt rfl) (Y.move rfl) ?_
 refine Run.on rfl rfl rfl (by rw [Cli.aw_end.2.2.1]; rfl) ?_
 refine Run.val (lt rfl) (Y.move rfl) ?_
 refine Run.on rfl rfl rfl (by rw [Cli.aw_end.2.2.1]; rfl) ?_
 refine Run.call0 (l := [.tmp 66]) rfl rfl rfl (lt rfl) (until_c (c := Cli.aw4) (Kn.at 0 rfl)) ?_
 refine Run.on rfl rfl rfl (by rw [Cli.aw_end.2.2.1]; rfl) ?_
 refine Run.val (lt rfl) (Y.int rfl rfl rfl) ?_
 refine Run.val (lt rfl) (Y.pick_t rfl (by rw [Cli.aw_end.2.2.1]; rfl) rfl) ?_
 refine Run.val (lt rfl) (Y.assign rfl) ?_
 refine Run.to_end ?_
 refine Ex.go ?_
 refine Tr.to_ret ?_
 refine Ex.keep [] ?_
 exact Ex.ret1 rfl rfl  ⟨hVle, congrArg Value.bool (by rw [Cli.aw_end.2.2.2]; rfl), rfl⟩

set_option maxHeartbeats 1000000 in
theorem scripts24_y {V : Vw} {nm : ByteArray} {hw : List UInt8} {pb : Option Addr} {cb : Nat} (hvb : Rd V [] 1 (.slice pb hw.length cb) hw.length (hw.map byteV)) (hf : Cli.fine nm hw) {l : List CStp} {p : Option Addr} {c0 : Nat} (hvs : Rd V [] 15 (.slice p l.length c0) l.length (l.map CStp.cells).flatten) (hl9 : l.length ≤ 9223372036854775807) (hrs : CStp.Rs V l)  : Does Try.prog 3 [.string nm, .slice pb hw.length cb, .slice p l.length c0] V [] (fun v _ _ => v = .bool true) := by
 refine Does.intro Try.func3 rfl rfl (le rfl) (fun B => ?_)
 refine Tr.seq ?_
 refine Tr.region ?_
 refine Run.val (lt rfl) (Y.assign rfl) ?_
 refine Run.to_end ?_
 refine Ex.go ?_
 refine Tr.seq ?_
 refine Tr.region ?_
 refine Run.call [] (l := []) rfl rfl rfl (lt rfl) awake24_c0 (fun v1 V2 H2 hle2 hR => ?_)
 obtain ⟨_, rfl, rfl⟩ := hR
 obtain ⟨Vs3, hVe⟩ : ∃ V3 : Vw, V3 = V2 := ⟨_, rfl⟩
 subst hVe
 replace hvb := hvb.le hle2
 replace hvs := hvs.le hle2
 replace hrs := hrs.le hle2
 have hVle := hle2
 refine Run.heapTo (H' := []) rfl ?_
 refine Run.val (lt rfl) (Y.assign rfl) ?_
 refine Run.to_end ?_
 refine Ex.go ?_
 refine Tr.seq ?_
 refine Tr.seq ?_
 refine Tr.region ?_
 refine Run.val (lt rfl) (Y.move rfl) ?_
 refine Run.val (lt rfl) (Y.not rfl) ?_
 refine Run.val (lt rfl) (Y.move rfl) ?_
 refine Run.on rfl rfl rfl rfl ?_
 refine Run.val (lt rfl) (Y.move rfl) ?_
 refine Run.on rfl rfl rfl rfl ?_
 refine Run.val (lt rfl) (Y.lenStr rfl Law24_st9) ?_
 refine Run.on rfl rfl rfl rfl ?_
 refine Run.val (lt rfl) (Y.int rfl rfl rfl) ?_
 refine Run.val (lt rfl) (Y.pick_f rfl rfl rfl) ?_
 refine Run.val (lt rfl) (Y.move rfl) ?_
 rcases Bool.eq_false_or_eq_true (decide ((nm.size : Int) > 200)) with h4 | h4
 ·have g4 := h4
  try simp only [kb] at g4
  refine Run.off rfl rfl rfl h4 rfl (lt rfl) ?_
  refine Run.off rfl rfl rfl h4 rfl (lt rfl) ?_
  refine Run.off rfl rfl rfl h4 rfl (lt rfl) ?_
  refine Run.val (lt rfl) (Y.pick_t rfl h4 rfl) ?_
  refine Run.to_end ?_
  refine Ex.go ?_
  refine Tr.cond_t rfl rfl ?_
  refine Tr.seq ?_
  refine Tr.region ?_
  refine Run.val (lt rfl) (Y.move rfl) ?_
  refine Run.val (lt rfl) (Y.assign rfl) ?_
  refine Run.to_end ?_
  refine Ex.go ?_
  refine Tr.to_ret ?_
  refine Ex.ret_then ?_
  refine Ex.keep [] ?_
  exact Ex.ret1 rfl rfl  rfl
 ·have g4 := h4
  try simp only [kb] at g4
  refine Run.on rfl rfl rfl h4 ?_
  refine Run.val (lt rfl) (Y.move rfl) ?_
  refine Run.on rfl rfl rfl h4 ?_
  refine Run.val (lt rfl) (Y.lenSl rfl Law24_es22) ?_
  refine Run.on rfl rfl rfl h4 ?_
  refine Run.val (lt rfl) (Y.int rfl rfl rfl) ?_
  refine Run.val (lt rfl) (Y.pick_f rfl h4 rfl) ?_
  refine Run.to_end ?_
  refine Ex.go ?_
  rcases Bool.eq_false_or_eq_true (decide (((hw.length : Nat) : Int) > 200)) with h5 | h5
  ·have g5 := h5
   try simp only [kb] at g5
   refine Tr.cond_t rfl h5 ?_
   refine Tr.seq ?_
   refine Tr.region ?_
   refine Run.val (lt rfl) (Y.move rfl) ?_
   refine Run.val (lt rfl) (Y.assign rfl) ?_
   refine Run.to_end ?_
   refine Ex.go ?_
   refine Tr.to_ret ?_
   refine Ex.ret_then ?_
   refine Ex.keep [] ?_
   exact Ex.ret1 rfl rfl  rfl
  ·have g5 := h5
   try simp only [kb] at g5
   refine Tr.cond_f rfl h5 ?_
   refine Tr.to_end ?_
   refine Ex.go ?_
   refine Tr.seq ?_
   refine Tr.region ?_
   refine Run.val (lt rfl) (Y.move rfl) ?_
   refine Run.val (lt rfl) (Y.move rfl) ?_
   refine Run.call [] (l := [.tmp 31, .tmp 32]) rfl rfl rfl (lt rfl) (new_c_h (s := nm) hvb hf) (fun v6 V2 H2 hle7 hR => ?_)
   obtain ⟨_, b8, w9, rfl, rfl, hha⟩ := hR
   obtain ⟨Vs10, hVe⟩ : ∃ V3 : Vw, V3 = V2 := ⟨_, rfl⟩
   subst hVe
   replace hvb := hvb.le hle7
   replace hvs := hvs.le hle7
   replace hrs := hrs.le hle7
   replace hVle := Vw.le_trans hVle hle7
   refine Run.heapTo (H' := [[(b8, .cells #[.string ((Cli.new nm hw).name), w9, .int .i64 ((Cli.new nm hw).state), .int .u32 ((Cli.new nm hw).xid), .int .u32 ((Cli.new nm hw).addr), .int .u32 ((Cli.new nm hw).server), .int .i64 ((Cli.new nm hw).until_), .int .i64 ((Cli.new nm hw).one), .int .i64 ((Cli.new nm hw).two), .bool ((Cli.new nm hw).due), .int .i64 ((Cli.new nm hw).tries), .int .i64 ((Cli.new nm hw).said), .int .i64 ((Cli.new nm hw).asks)] 67 (0, 0))]]) rfl ?_
   refine Run.val (lt rfl) (Y.move rfl) ?_
   refine Run.val (lt rfl) (Y.extract rfl rfl) ?_
   refine Run.val (lt rfl) (Y.extract rfl rfl) ?_
   refine Run.val (lt rfl) (Y.assign rfl) ?_
   refine Run.val (lt rfl) (Y.assign rfl) ?_
   refine Run.to_end ?_
   refine Ex.go ?_
   refine Tr.seq ?_
   refine Tr.region ?_
   refine Run.val (lt rfl) (Y.move rfl) ?_
   refine Run.val (lt rfl) (Y.move rfl) ?_
   refine Run.call [] (l := [.tmp 37, .tmp 38]) rfl rfl rfl (lt rfl) (rnew_c_h (s := nm) hvb hf) (fun v11 V2 H2 hle12 hR => ?_)
   obtain ⟨_, b13, w14, rfl, rfl, hhb⟩ := hR
   obtain ⟨Vs15, hVe⟩ : ∃ V3 : Vw, V3 = V2 := ⟨_, rfl⟩
   subst hVe
   replace hvb := hvb.le hle12
   replace hvs := hvs.le hle12
   replace hrs := hrs.le hle12
   replace hha := hha.le hle12
   replace hVle := Vw.le_trans hVle hle12
   refine Run.heapTo (H' := [[(b8, .cells #[.string ((Cli.new nm hw).name), w9, .int .i64 ((Cli.new nm hw).state), .int .u32 ((Cli.new nm hw).xid), .int .u32 ((Cli.new nm hw).addr), .int .u32 ((Cli.new nm hw).server), .int .i64 ((Cli.new nm hw).until_), .int .i64 ((Cli.new nm hw).one), .int .i64 ((Cli.new nm hw).two), .bool ((Cli.new nm hw).due), .int .i64 ((Cli.new nm hw).tries), .int .i64 ((Cli.new nm hw).said), .int .i64 ((Cli.new nm hw).asks)] 67 (0, 0))], [(b13, .cells #[.string ((Cli.new nm hw).name), w14, .int .i64 ((Cli.new nm hw).state), .int .u32 ((Cli.new nm hw).xid), .int .u32 ((Cli.new nm hw).addr), .int .u32 ((Cli.new nm hw).server), .int .i64 ((Cli.new nm hw).until_), .int .i64 ((Cli.new nm hw).one), .int .i64 ((Cli.new nm hw).two), .bool ((Cli.new nm hw).due), .int .i64 ((Cli.new nm hw).tries), .int .i64 ((Cli.new nm hw).said), .int .i64 ((Cli.new nm hw).asks)] 44 (0, 0))]]) rfl ?_
   refine Run.val (lt rfl) (Y.move rfl) ?_
   refine Run.val (lt rfl) (Y.extract rfl rfl) ?_
   refine Run.val (lt rfl) (Y.extract rfl rfl) ?_
   refine Run.val (lt rfl) (Y.assign rfl) ?_
   refine Run.val (lt rfl) (Y.assign rfl) ?_
   refine Run.to_end ?_
   refine Ex.go ?_
   refine Tr.seq ?_
   refine Tr.seq ?_
   refine Tr.region ?_
   refine Run.val (lt rfl) (Y.move rfl) ?_
   refine Run.val (lt rfl) (Y.move rfl) ?_
   refine Run.val (lt rfl) (Y.int (r := .bool false) rfl rfl rfl) ?_
   refine Run.val (lt rfl) (Y.move rfl) ?_
   refine Run.on rfl rfl rfl rfl ?_
   refine Run.val (lt rfl) (Y.move rfl) ?_
   refine Run.on rfl rfl rfl rfl ?_
   refine Run.val (lt rfl) (Y.eqNil rfl rfl Law24_pt25) ?_
   refine Run.on rfl rfl rfl rfl ?_
   refine Run.val (lt rfl) (Y.move rfl) ?_
   refine Run.on rfl rfl rfl rfl ?_
   refine Run.val (lt rfl) (Y.eqNil rfl rfl Law24_pt29) ?_
   refine Run.on rfl rfl rfl rfl ?_
   refine Run.val (lt rfl) (Y.neB_f rfl rfl Law24_tg4) ?_
   refine Run.val (lt rfl) (Y.pick_f rfl rfl rfl) ?_
   refine Run.to_end ?_
   refine Ex.go ?_
   refine Tr.cond_f rfl rfl ?_
   refine Tr.to_end ?_
   refine Ex.go ?_
   refine Tr.seq ?_
   refine Tr.region ?_
   refine Run.alloc Law24_zo36 (lt rfl) (fun b16 => ?_)
   refine Run.to_end ?_
   refine Ex.go ?_
   refine Tr.seq ?_
   refine Tr.seq ?_
   refine Tr.region ?_
   refine Run.val (lt rfl) (Y.assign rfl) ?_
   refine Run.to_end ?_
   refine Ex.go ?_
   refine Tr.block ?_
   refine Tr.loop (X := Lo) (fun x => x.V) (fun x => [[(b16, .cells #[.int .i64 x.last.op, .int .u32 x.last.xid, .int .i64 x.last.secs, .int .i64 x.last.flags, .int .u32 x.last.ci, .int .u32 x.last.yi, .int .u32 x.last.si, .int .u32 x.last.gi, x.hv, x.ov] 36 (0, 0))], [(b8, .cells #[.string x.c.name, w9, .int .i64 x.c.state, .int .u32 x.c.xid, .int .u32 x.c.addr, .int .u32 x.c.server, .int .i64 x.c.until_, .int .i64 x.c.one, .int .i64 x.c.two, .bool x.c.due, .int .i64 x.c.tries, .int .i64 x.c.said, .int .i64 x.c.asks] 67 (0, 0))], [(b13, .cells #[.string x.c.name, w14, .int .i64 x.c.state, .int .u32 x.c.xid, .int .u32 x.c.addr, .int .u32 x.c.server, .int .i64 x.c.until_, .int .i64 x.c.one, .int .i64 x.c.two, .bool x.c.due, .int .i64 x.c.tries, .int .i64 x.c.said, .int .i64 x.c.asks] 44 (0, 0))]]) (fun x => [(2, .slice p l.length c0), (8, .pointer (some ⟨b8, 0, none⟩)), (10, .pointer (some ⟨b13, 0, none⟩)), (12, .pointer (some ⟨b16, 0, none⟩)), (13, .int .i64 (x.i : Int))]) (fun x => Cli.Inv x.i x.c ∧ x.c.hw = hw ∧ Vw.le Vs15 x.V ∧ Pc.R x.V x.last x.hv x.ov ∧ Pc.few x.last = true ∧ x.i ≤ l.length ∧ x.i ≤ 150) (fun x => l.length - x.i) (⟨(Cli.new nm hw), Vs15, Cli.zeroP, .slice none 0 0, .slice none 0 0, 0⟩ : Lo) ⟨(Cli.Inv.new hf), rfl, Vw.le_refl _, Pc.zero_R _, Cli.few_zero, Nat.zero_le _, Nat.zero_le _⟩ (fun a w i => ⟨i.1.sub (subB_cons (by first | rfl | exact congrArg (fun z => some (Value.int _ z)) (by omega)) (subB_cons (by first | rfl | exact congrArg (fun z => some (Value.int _ z)) (by omega)) (subB_cons (by first | rfl | exact congrArg (fun z => some (Value.int _ z)) (by omega)) (subB_cons (by first | rfl | exact congrArg (fun z => some (Value.int _ z)) (by omega)) (subB_cons (by first | rfl | exact congrArg (fun z => some (Value.int _ z)) (by omega)) (subB_nil _)))))), i.2⟩) ?_
   rintro ⟨c, Vn, last, hvl, ovl, i⟩ ⟨hi, hhw, hVle, hl, hlf, hil, hi9⟩
   dsimp only at hi hhw hVle hl hlf hil hi9 ⊢
   replace hha : Rd Vn [] 1 w9 c.hw.length (c.hw.map byteV) := by rw [hhw]; exact hha.le hVle
   replace hhb : Rd Vn [] 1 w14 c.hw.length (c.hw.map byteV) := by rw [hhw]; exact hhb.le hVle
   replace hvs := hvs.le hVle
   replace hrs := hrs.le hVle
   obtain ⟨⟨pl, cl, rfl⟩, ql, nl, kl, rfl⟩ := hl.forms
   refine Tr.seq ?_
   refine Tr.seq ?_
   refine Tr.region ?_
   refine Run.val (lt rfl) (Y.move rfl) ?_
   refine Run.val (lt rfl) (Y.move rfl) ?_
   refine Run.val (lt rfl) (Y.lenSl rfl Law24_es23) ?_
   refine Run.val (lt rfl) (Y.int rfl rfl rfl) ?_
   refine Run.val (lt rfl) (Y.move rfl) ?_
   rcases Bool.eq_false_or_eq_true (decide ((i : Int) < ((l.length : Nat) : Int))) with h17 | h17
   ·have g17 := h17
    try simp only [kb] at g17
    obtain ⟨b, off, c2, cs, et, fz, hw, hc, hk, hcs⟩ := hvs.opened (by omega)
    obtain ⟨rfl, rfl⟩ : p = some ⟨b, off, none⟩ ∧ c0 = c2 := by cases hw; exact ⟨rfl, rfl⟩
    clear hw
    have hrow := row_at (f := CStp.cells) CStp.len hcs (i := i) (by omega) (Nat.le_refl _) CStp.dflt
    have hmem := getD_mem (l := l) (j := i) (by omega) CStp.dflt
    generalize hse : l.getD i CStp.dflt = s at hrow hmem
    have hsR := hrs.at hmem
    have hsa := (hrs s hmem).2.1
    refine Run.on rfl rfl rfl h17 ?_
    refine Run.val (lt rfl) (Y.move rfl) ?_
    refine Run.on rfl rfl rfl h17 ?_
    refine Run.val (lt rfl) (Y.int rfl rfl rfl) ?_
    refine Run.val (lt rfl) (Y.pick_t rfl h17 rfl) ?_
    refine Run.val (lt rfl) (Y.move rfl) ?_
    rcases Bool.eq_false_or_eq_true (decide ((i : Int) < 150)) with h18 | h18
    ·have g18 := h18
     try simp only [kb] at g18
     refine Run.on rfl rfl rfl h18 ?_
     refine Run.val (lt rfl) (Y.move rfl) ?_
     refine Run.on rfl rfl rfl h18 ?_
     refine Run.val (lt rfl) (Y.neNil rfl rfl Law24_pt25) ?_
     refine Run.val (lt rfl) (Y.pick_t rfl h18 rfl) ?_
     refine Run.to_end ?_
     refine Ex.go ?_
     refine Tr.cond_t rfl rfl ?_
     refine Tr.to_end ?_
     refine Ex.go ?_
     refine Tr.seq ?_
     refine Tr.block ?_
     refine Tr.seq ?_
     refine Tr.seq ?_
     refine Tr.region ?_
     refine Run.val (lt rfl) (Y.move rfl) ?_
     refine Run.val (lt rfl) (Y.move rfl) ?_
     refine Run.val (lt rfl) (Y.idxAddr rfl rfl Law24_es23 (by omega) (by omega)) ?_
     refine Run.val (lt rfl) (Y.loadAgg rfl Law24_ag39 hk.of_nil (cellsAt_of (CStp.cells s) _ hrow)) ?_
     refine Run.call0 (l := [.tmp 69]) rfl rfl rfl (lt rfl) ((long24_c hsR.hw hsR.os).frame) ?_
     refine Run.to_end ?_
     refine Ex.go ?_
     rcases Bool.eq_false_or_eq_true (Pc.few s.p) with h19 | h19
     ·have g19 := h19
      try simp only [kb] at g19
      refine Tr.cond_f rfl (congrArg Bool.not h19) ?_
      refine Tr.to_end ?_
      refine Ex.go ?_
      refine Tr.seq ?_
      refine Tr.anyD [(b16, .cells #[.int .i64 last.op, .int .u32 last.xid, .int .i64 last.secs, .int .i64 last.flags, .int .u32 last.ci, .int .u32 last.yi, .int .u32 last.si, .int .u32 last.gi, .slice pl last.hw.length cl, .slice ql nl kl] 36 (0, 0)), (b, .cells cs et fz)] Law24_mo ?_
      refine RunD.pure (i := 0) rfl (by kernel_rfl) (by kernel_rfl) (by kernel_rfl) (fun _ _ _ h => h) (lt rfl) (KnAll.cons (Kn.at 0 rfl) (KnAll.cons hk.of_nil KnAll.nil)) (fun _ => (Y.move rfl)) ?_
      refine RunD.pure (i := 1) rfl (by kernel_rfl) (by kernel_rfl) (by kernel_rfl) (fun _ _ _ h => h) (lt rfl) (KnAll.cons (Kn.at 0 rfl) (KnAll.cons hk.of_nil KnAll.nil)) (fun _ => (Y.move rfl)) ?_
      refine RunD.pure (i := 2) rfl (by kernel_rfl) (by kernel_rfl) (by kernel_rfl) (fun _ _ _ h => h) (lt rfl) (KnAll.cons (Kn.at 0 rfl) (KnAll.cons hk.of_nil KnAll.nil)) (fun _ => (Y.move rfl)) ?_
      refine RunD.pure (i := 3) rfl (by kernel_rfl) (by kernel_rfl) (by kernel_rfl) (fun _ _ _ h => h) (lt rfl) (KnAll.cons (Kn.at 0 rfl) (KnAll.cons hk.of_nil KnAll.nil)) (fun _ => (Y.move rfl)) ?_
      refine RunD.pure (i := 4) rfl (by kernel_rfl) (by kernel_rfl) (by kernel_rfl) (fun _ _ _ h => h) (lt rfl) (KnAll.cons (Kn.at 0 rfl) (KnAll.cons hk.of_nil KnAll.nil)) (fun _ => (Y.idxAddr rfl rfl Law24_es23 (by omega) (by omega))) ?_
      refine RunD.take (i := 5) 1 rfl rfl (by kernel_rfl) (by kernel_rfl) (by kernel_rfl) (fun _ _ _ h => h) (lt rfl) (KnAll.cons (Kn.at 0 rfl) (KnAll.cons hk.of_nil KnAll.nil)) (fun _ => (Y.loadAgg rfl Law24_ag39 Kn.vk1 (cellsAt_of (CStp.cells s) _ hrow))) ?_
      refine RunD.take (i := 6) 0 rfl rfl (by kernel_rfl) (by kernel_rfl) (by kernel_rfl) (fun _ _ _ h => h) (lt rfl) (KnAll.cons (Kn.at 0 rfl) (KnAll.cons hk.of_nil KnAll.nil)) (fun _ => (Y.loadAgg rfl Law24_ag36 Kn.vk1 rfl)) ?_
      refine RunD.two (i := 7) (j := 11) (by kernel_rfl) rfl rfl  ?_ ?_ 
      ·refine Run.call [1, 1] (l := [.tmp 72, .tmp 73, .tmp 77, .tmp 78]) rfl rfl rfl (lt rfl) (step_c (n := i) (c := c) (s := s) (last := last) hi (by omega) hha hhb hl hlf hsR (by simpa using h19) hsa) (fun v20 V2 H2 hle21 hR => ?_)
       obtain ⟨_, rfl, w22, w23, rfl, hRs24⟩ := hR
       obtain ⟨⟨p25, c26, rfl⟩, p27, n28, c29, rfl⟩ := hRs24.forms
       obtain ⟨Vs30, hVe⟩ : ∃ V3 : Vw, V3 = V2 := ⟨_, rfl⟩
       subst hVe
       replace hha := hha.le hle21
       replace hhb := hhb.le hle21
       replace hrs := hrs.le hle21
       replace hl := hl.le hle21
       replace hsR := hsR.le hle21
       replace hk := hk.le hle21
       replace hVle := Vw.le_trans hVle hle21
       refine Run.heapTo (H' := [[(b16, .cells #[.int .i64 last.op, .int .u32 last.xid, .int .i64 last.secs, .int .i64 last.flags, .int .u32 last.ci, .int .u32 last.yi, .int .u32 last.si, .int .u32 last.gi, .slice pl last.hw.length cl, .slice ql nl kl] 36 (0, 0))], [(b8, .cells #[.string ((Cli.stepC c s last).name), w9, .int .i64 ((Cli.stepC c s last).state), .int .u32 ((Cli.stepC c s last).xid), .int .u32 ((Cli.stepC c s last).addr), .int .u32 ((Cli.stepC c s last).server), .int .i64 ((Cli.stepC c s last).until_), .int .i64 ((Cli.stepC c s last).one), .int .i64 ((Cli.stepC c s last).two), .bool ((Cli.stepC c s last).due), .int .i64 ((Cli.stepC c s last).tries), .int .i64 ((Cli.stepC c s last).said), .int .i64 ((Cli.stepC c s last).asks)] 67 (0, 0))], [(b13, .cells #[.string ((Cli.stepC c s last).name), w14, .int .i64 ((Cli.stepC c s last).state), .int .u32 ((Cli.stepC c s last).xid), .int .u32 ((Cli.stepC c s last).addr), .int .u32 ((Cli.stepC c s last).server), .int .i64 ((Cli.stepC c s last).until_), .int .i64 ((Cli.stepC c s last).one), .int .i64 ((Cli.stepC c s last).two), .bool ((Cli.stepC c s last).due), .int .i64 ((Cli.stepC c s last).tries), .int .i64 ((Cli.stepC c s last).said), .int .i64 ((Cli.stepC c s last).asks)] 44 (0, 0))]]) rfl ?_
       refine Run.to_end ?_
       refine Ex.anyD (KnAll.cons (Kn.at 0 rfl) (KnAll.cons hk.of_nil KnAll.nil)) ?_
       refine RunD.pure (i := 8) rfl (by kernel_rfl) (by kernel_rfl) (by kernel_rfl) (fun _ _ _ h => h) (lt rfl) (KnAll.cons (Kn.at 0 rfl) (KnAll.cons hk.of_nil KnAll.nil)) (fun _ => (Y.move rfl)) ?_
       refine RunD.pure (i := 9) rfl (by kernel_rfl) (by kernel_rfl) (by kernel_rfl) (fun _ _ _ h => h) (lt rfl) (KnAll.cons (Kn.at 0 rfl) (KnAll.cons hk.of_nil KnAll.nil)) (fun _ => (Y.extract rfl rfl)) ?_
       refine RunD.pure (i := 10) rfl (by kernel_rfl) (by kernel_rfl) (by kernel_rfl) (fun _ _ _ h => h) (lt rfl) (KnAll.cons (Kn.at 0 rfl) (KnAll.cons hk.of_nil KnAll.nil)) (fun _ => (Y.extract rfl rfl)) ?_
       refine RunD.one (i := 11) (by kernel_rfl) rfl  ?_ 
       refine Run.alloc Law24_zo36 (lt rfl) (fun b31 => ?_)
       refine Run.to_end ?_
       refine Ex.anyD (KnAll.cons (Kn.at 1 rfl) (KnAll.cons hk.of_nil KnAll.nil)) ?_
       refine RunD.one (i := 12) (by kernel_rfl) rfl  ?_ 
       refine Run.store (s := [(b31, .cells #[.int .i64 ((Cli.stepL c s last).op), .int .u32 ((Cli.stepL c s last).xid), .int .i64 ((Cli.stepL c s last).secs), .int .i64 ((Cli.stepL c s last).flags), .int .u32 ((Cli.stepL c s last).ci), .int .u32 ((Cli.stepL c s last).yi), .int .u32 ((Cli.stepL c s last).si), .int .u32 ((Cli.stepL c s last).gi), .slice p25 (Cli.stepL c s last).hw.length c26, .slice p27 n28 c29] 36 (0, 0))]) rfl rfl Law24_sz36 (i := 0) rfl rfl (le rfl) rfl rfl ?_
       refine Run.to_end ?_
       refine Ex.anyD (KnAll.cons (Kn.at 1 rfl) (KnAll.cons hk.of_nil KnAll.nil)) ?_
       refine RunD.pure (i := 13) rfl (by kernel_rfl) (by kernel_rfl) (by kernel_rfl) (fun _ _ _ h => h) (lt rfl) (KnAll.cons (Kn.at 1 rfl) (KnAll.cons hk.of_nil KnAll.nil)) (fun _ => (Y.assign rfl)) ?_
       refine RunD.done (by kernel_rfl) ?_
       refine Ex.go ?_
       refine Tr.seq ?_
       refine Tr.region ?_
       refine Run.val (lt rfl) (Y.loadAgg rfl Law24_ag36 (Kn.at 0 rfl) rfl) ?_
       refine Run.store (s := [(b16, .cells #[.int .i64 ((Cli.stepL c s last).op), .int .u32 ((Cli.stepL c s last).xid), .int .i64 ((Cli.stepL c s last).secs), .int .i64 ((Cli.stepL c s last).flags), .int .u32 ((Cli.stepL c s last).ci), .int .u32 ((Cli.stepL c s last).yi), .int .u32 ((Cli.stepL c s last).si), .int .u32 ((Cli.stepL c s last).gi), .slice p25 (Cli.stepL c s last).hw.length c26, .slice p27 n28 c29] 36 (0, 0))]) rfl rfl Law24_sz36 (i := 1) rfl rfl (le rfl) rfl rfl ?_
       refine Run.to_end ?_
       refine Ex.go ?_
       refine Tr.seq ?_
       refine Tr.quiet Law24_mo (by kernel_rfl) ?_
       refine RunQ.val (lt rfl) (Y.move rfl) ?_
       refine RunQ.val (lt rfl) (Y.not rfl) ?_
       refine RunQ.val (lt rfl) (Y.move rfl) ?_
       refine RunQ.on rfl rfl rfl rfl ?_
       refine RunQ.val (lt rfl) (Y.move rfl) ?_
       refine RunQ.on rfl rfl rfl rfl ?_
       refine RunQ.call0 (l := [.tmp 86]) rfl rfl rfl (lt rfl) (state_c (c := (Cli.stepC c s last)) (Kn.at 2 rfl)) ?_
       refine RunQ.on rfl rfl rfl rfl ?_
       refine RunQ.val (lt rfl) (Y.move rfl) ?_
       refine RunQ.on rfl rfl rfl rfl ?_
       refine RunQ.val (lt rfl) (Y.nilCheck rfl) ?_
       refine RunQ.on rfl rfl rfl rfl ?_
       refine RunQ.val (lt rfl) (Y.fieldAddr rfl Law24_fo44_2) ?_
       refine RunQ.on rfl rfl rfl rfl ?_
       refine RunQ.val (lt rfl) (Y.load rfl Law24_ts3 (Kn.at 3 rfl) rfl) ?_
       refine RunQ.on rfl rfl rfl rfl ?_
       refine RunQ.val (lt rfl) (Y.neI_f rfl rfl) ?_
       refine RunQ.val (lt rfl) (Y.pick_f rfl rfl rfl) ?_
       refine RunQ.val (lt rfl) (Y.move rfl) ?_
       refine RunQ.on rfl rfl rfl rfl ?_
       refine RunQ.val (lt rfl) (Y.move rfl) ?_
       refine RunQ.on rfl rfl rfl rfl ?_
       refine RunQ.call0 (l := [.tmp 95]) rfl rfl rfl (lt rfl) (addr_c (c := (Cli.stepC c s last)) (Kn.at 2 rfl)) ?_
       refine RunQ.on rfl rfl rfl rfl ?_
       refine RunQ.val (lt rfl) (Y.move rfl) ?_
       refine RunQ.on rfl rfl rfl rfl ?_
       refine RunQ.val (lt rfl) (Y.nilCheck rfl) ?_
       refine RunQ.on rfl rfl rfl rfl ?_
       refine RunQ.val (lt rfl) (Y.fieldAddr rfl Law24_fo44_4) ?_
       refine RunQ.on rfl rfl rfl rfl ?_
       refine RunQ.val (lt rfl) (Y.load rfl Law24_ts33 (Kn.at 3 rfl) rfl) ?_
       refine RunQ.on rfl rfl rfl rfl ?_
       refine RunQ.val (lt rfl) (Y.neI_f rfl rfl) ?_
       refine RunQ.val (lt rfl) (Y.pick_f rfl rfl rfl) ?_
       refine RunQ.val (lt rfl) (Y.move rfl) ?_
       refine RunQ.on rfl rfl rfl rfl ?_
       refine RunQ.val (lt rfl) (Y.move rfl) ?_
       refine RunQ.on rfl rfl rfl rfl ?_
       refine RunQ.call0 (l := [.tmp 104]) rfl rfl rfl (lt rfl) (until_c (c := (Cli.stepC c s last)) (Kn.at 2 rfl)) ?_
       refine RunQ.on rfl rfl rfl rfl ?_
       refine RunQ.val (lt rfl) (Y.move rfl) ?_
       refine RunQ.on rfl rfl rfl rfl ?_
       refine RunQ.call0 (l := [.tmp 106]) rfl rfl rfl (lt rfl) (runtil_c (c := (Cli.stepC c s last)) (Kn.at 3 rfl)) ?_
       refine RunQ.on rfl rfl rfl rfl ?_
       refine RunQ.val (lt rfl) (Y.neI_f rfl rfl) ?_
       refine RunQ.val (lt rfl) (Y.pick_f rfl rfl rfl) ?_
       refine RunQ.to_end ?_
       refine Ex.go ?_
       refine Tr.cond_f rfl rfl ?_
       refine Tr.to_end ?_
       refine Ex.end_block ?_
       refine Ex.go ?_
       refine Tr.region ?_
       refine Run.val (lt rfl) (Y.move rfl) ?_
       refine Run.val (lt rfl) (Y.add rfl rfl (by omega)) ?_
       refine Run.val (lt rfl) (Y.assign rfl) ?_
       refine Run.to_end ?_
       refine Ex.keep [1, 1, 1] ?_
       exact Ex.round (⟨Cli.stepC c s last, Vs30, Cli.stepL c s last, .slice p25 (Cli.stepL c s last).hw.length c26, .slice p27 n28 c29, i + 1⟩ : Lo) ⟨hi.step s ⟨hsR.yi, hsR.si⟩ hsa, (Cli.step_same c s last).1.trans hhw, hVle, hRs24, Cli.few_stepL hi s hlf, by show i + 1 ≤ l.length; omega, by show i + 1 ≤ 150; omega⟩ (by show l.length - (i + 1) < l.length - i; omega) rfl rfl (subB_cons (by first | rfl | exact congrArg (fun z => some (Value.int _ z)) (by omega)) (subB_cons (by first | rfl | exact congrArg (fun z => some (Value.int _ z)) (by omega)) (subB_cons (by first | rfl | exact congrArg (fun z => some (Value.int _ z)) (by omega)) (subB_cons (by first | rfl | exact congrArg (fun z => some (Value.int _ z)) (by omega)) (subB_cons (by first | rfl | exact congrArg (fun z => some (Value.int _ z)) (by omega)) (subB_nil _))))))
      ·refine Run.alloc Law24_zo36 (lt rfl) (fun b32 => ?_)
       refine Run.to_end ?_
       refine Ex.anyD (KnAll.cons (Kn.at 1 rfl) (KnAll.cons hk.of_nil KnAll.nil)) ?_
       refine RunD.one (i := 7) (by kernel_rfl) rfl  ?_ 
       refine Run.call [2, 2] (l := [.tmp 72, .tmp 73, .tmp 77, .tmp 78]) rfl rfl rfl (lt rfl) (step_c (n := i) (c := c) (s := s) (last := last) hi (by omega) hha hhb hl hlf hsR (by simpa using h19) hsa) (fun v33 V2 H2 hle34 hR => ?_)
       obtain ⟨_, rfl, w35, w36, rfl, hRs37⟩ := hR
       obtain ⟨⟨p38, c39, rfl⟩, p40, n41, c42, rfl⟩ := hRs37.forms
       obtain ⟨Vs43, hVe⟩ : ∃ V3 : Vw, V3 = V2 := ⟨_, rfl⟩
       subst hVe
       replace hha := hha.le hle34
       replace hhb := hhb.le hle34
       replace hrs := hrs.le hle34
       replace hl := hl.le hle34
       replace hsR := hsR.le hle34
       replace hk := hk.le hle34
       replace hVle := Vw.le_trans hVle hle34
       refine Run.heapTo (H' := [[(b32, .cells #[.int .i64 0, .int .u32 0, .int .i64 0, .int .i64 0, .int .u32 0, .int .u32 0, .int .u32 0, .int .u32 0, .slice none 0 0, .slice none 0 0] 36 (0, 0))], [(b16, .cells #[.int .i64 last.op, .int .u32 last.xid, .int .i64 last.secs, .int .i64 last.flags, .int .u32 last.ci, .int .u32 last.yi, .int .u32 last.si, .int .u32 last.gi, .slice pl last.hw.length cl, .slice ql nl kl] 36 (0, 0))], [(b8, .cells #[.string ((Cli.stepC c s last).name), w9, .int .i64 ((Cli.stepC c s last).state), .int .u32 ((Cli.stepC c s last).xid), .int .u32 ((Cli.stepC c s last).addr), .int .u32 ((Cli.stepC c s last).server), .int .i64 ((Cli.stepC c s last).until_), .int .i64 ((Cli.stepC c s last).one), .int .i64 ((Cli.stepC c s last).two), .bool ((Cli.stepC c s last).due), .int .i64 ((Cli.stepC c s last).tries), .int .i64 ((Cli.stepC c s last).said), .int .i64 ((Cli.stepC c s last).asks)] 67 (0, 0))], [(b13, .cells #[.string ((Cli.stepC c s last).name), w14, .int .i64 ((Cli.stepC c s last).state), .int .u32 ((Cli.stepC c s last).xid), .int .u32 ((Cli.stepC c s last).addr), .int .u32 ((Cli.stepC c s last).server), .int .i64 ((Cli.stepC c s last).until_), .int .i64 ((Cli.stepC c s last).one), .int .i64 ((Cli.stepC c s last).two), .bool ((Cli.stepC c s last).due), .int .i64 ((Cli.stepC c s last).tries), .int .i64 ((Cli.stepC c s last).said), .int .i64 ((Cli.stepC c s last).asks)] 44 (0, 0))]]) rfl ?_
       refine Run.to_end ?_
       refine Ex.anyD (KnAll.cons (Kn.at 1 rfl) (KnAll.cons hk.of_nil KnAll.nil)) ?_
       refine RunD.pure (i := 8) rfl (by kernel_rfl) (by kernel_rfl) (by kernel_rfl) (fun _ _ _ h => h) (lt rfl) (KnAll.cons (Kn.at 1 rfl) (KnAll.cons hk.of_nil KnAll.nil)) (fun _ => (Y.move rfl)) ?_
       refine RunD.pure (i := 9) rfl (by kernel_rfl) (by kernel_rfl) (by kernel_rfl) (fun _ _ _ h => h) (lt rfl) (KnAll.cons (Kn.at 1 rfl) (KnAll.cons hk.of_nil KnAll.nil)) (fun _ => (Y.extract rfl rfl)) ?_
       refine RunD.pure (i := 10) rfl (by kernel_rfl) (by kernel_rfl) (by kernel_rfl) (fun _ _ _ h => h) (lt rfl) (KnAll.cons (Kn.at 1 rfl) (KnAll.cons hk.of_nil KnAll.nil)) (fun _ => (Y.extract rfl rfl)) ?_
       refine RunD.one (i := 12) (by kernel_rfl) rfl  ?_ 
       refine Run.store (s := [(b32, .cells #[.int .i64 ((Cli.stepL c s last).op), .int .u32 ((Cli.stepL c s last).xid), .int .i64 ((Cli.stepL c s last).secs), .int .i64 ((Cli.stepL c s last).flags), .int .u32 ((Cli.stepL c s last).ci), .int .u32 ((Cli.stepL c s last).yi), .int .u32 ((Cli.stepL c s last).si), .int .u32 ((Cli.stepL c s last).gi), .slice p38 (Cli.stepL c s last).hw.length c39, .slice p40 n41 c42] 36 (0, 0))]) rfl rfl Law24_sz36 (i := 0) rfl rfl (le rfl) rfl rfl ?_
       refine Run.to_end ?_
       refine Ex.anyD (KnAll.cons (Kn.at 1 rfl) (KnAll.cons hk.of_nil KnAll.nil)) ?_
       refine RunD.pure (i := 13) rfl (by kernel_rfl) (by kernel_rfl) (by kernel_rfl) (fun _ _ _ h => h) (lt rfl) (KnAll.cons (Kn.at 1 rfl) (KnAll.cons hk.of_nil KnAll.nil)) (fun _ => (Y.assign rfl)) ?_
       refine RunD.done (by kernel_rfl) ?_
       refine Ex.go ?_
       refine Tr.seq ?_
       refine Tr.region ?_
       refine Run.val (lt rfl) (Y.loadAgg rfl Law24_ag36 (Kn.at 0 rfl) rfl) ?_
       refine Run.store (s := [(b16, .cells #[.int .i64 ((Cli.stepL c s last).op), .int .u32 ((Cli.stepL c s last).xid), .int .i64 ((Cli.stepL c s last).secs), .int .i64 ((Cli.stepL c s last).flags), .int .u32 ((Cli.stepL c s last).ci), .int .u32 ((Cli.stepL c s last).yi), .int .u32 ((Cli.stepL c s last).si), .int .u32 ((Cli.stepL c s last).gi), .slice p38 (Cli.stepL c s last).hw.length c39, .slice p40 n41 c42] 36 (0, 0))]) rfl rfl Law24_sz36 (i := 1) rfl rfl (le rfl) rfl rfl ?_
       refine Run.to_end ?_
       refine Ex.go ?_
       refine Tr.seq ?_
       refine Tr.quiet Law24_mo (by kernel_rfl) ?_
       refine RunQ.val (lt rfl) (Y.move rfl) ?_
       refine RunQ.val (lt rfl) (Y.not rfl) ?_
       refine RunQ.val (lt rfl) (Y.move rfl) ?_
       refine RunQ.on rfl rfl rfl rfl ?_
       refine RunQ.val (lt rfl) (Y.move rfl) ?_
       refine RunQ.on rfl rfl rfl rfl ?_
       refine RunQ.call0 (l := [.tmp 86]) rfl rfl rfl (lt rfl) (state_c (c := (Cli.stepC c s last)) (Kn.at 2 rfl)) ?_
       refine RunQ.on rfl rfl rfl rfl ?_
       refine RunQ.val (lt rfl) (Y.move rfl) ?_
       refine RunQ.on rfl rfl rfl rfl ?_
       refine RunQ.val (lt rfl) (Y.nilCheck rfl) ?_
       refine RunQ.on rfl rfl rfl rfl ?_
       refine RunQ.val (lt rfl) (Y.fieldAddr rfl Law24_fo44_2) ?_
       refine RunQ.on rfl rfl rfl rfl ?_
       refine RunQ.val (lt rfl) (Y.load rfl Law24_ts3 (Kn.at 3 rfl) rfl) ?_
       refine RunQ.on rfl rfl rfl rfl ?_
       refine RunQ.val (lt rfl) (Y.neI_f rfl rfl) ?_
       refine RunQ.val (lt rfl) (Y.pick_f rfl rfl rfl) ?_
       refine RunQ.val (lt rfl) (Y.move rfl) ?_
       refine RunQ.on rfl rfl rfl rfl ?_
       refine RunQ.val (lt rfl) (Y.move rfl) ?_
       refine RunQ.on rfl rfl rfl rfl ?_
       refine RunQ.call0 (l := [.tmp 95]) rfl rfl rfl (lt rfl) (addr_c (c := (Cli.stepC c s last)) (Kn.at 2 rfl)) ?_
       refine RunQ.on rfl rfl rfl rfl ?_
       refine RunQ.val (lt rfl) (Y.move rfl) ?_
       refine RunQ.on rfl rfl rfl rfl ?_
       refine RunQ.val (lt rfl) (Y.nilCheck rfl) ?_
       refine RunQ.on rfl rfl rfl rfl ?_
       refine RunQ.val (lt rfl) (Y.fieldAddr rfl Law24_fo44_4) ?_
       refine RunQ.on rfl rfl rfl rfl ?_
       refine RunQ.val (lt rfl) (Y.load rfl Law24_ts33 (Kn.at 3 rfl) rfl) ?_
       refine RunQ.on rfl rfl rfl rfl ?_
       refine RunQ.val (lt rfl) (Y.neI_f rfl rfl) ?_
       refine RunQ.val (lt rfl) (Y.pick_f rfl rfl rfl) ?_
       refine RunQ.val (lt rfl) (Y.move rfl) ?_
       refine RunQ.on rfl rfl rfl rfl ?_
       refine RunQ.val (lt rfl) (Y.move rfl) ?_
       refine RunQ.on rfl rfl rfl rfl ?_
       refine RunQ.call0 (l := [.tmp 104]) rfl rfl rfl (lt rfl) (until_c (c := (Cli.stepC c s last)) (Kn.at 2 rfl)) ?_
       refine RunQ.on rfl rfl rfl rfl ?_
       refine RunQ.val (lt rfl) (Y.move rfl) ?_
       refine RunQ.on rfl rfl rfl rfl ?_
       refine RunQ.call0 (l := [.tmp 106]) rfl rfl rfl (lt rfl) (runtil_c (c := (Cli.stepC c s last)) (Kn.at 3 rfl)) ?_
       refine RunQ.on rfl rfl rfl rfl ?_
       refine RunQ.val (lt rfl) (Y.neI_f rfl rfl) ?_
       refine RunQ.val (lt rfl) (Y.pick_f rfl rfl rfl) ?_
       refine RunQ.to_end ?_
       refine Ex.go ?_
       refine Tr.cond_f rfl rfl ?_
       refine Tr.to_end ?_
       refine Ex.end_block ?_
       refine Ex.go ?_
       refine Tr.region ?_
       refine Run.val (lt rfl) (Y.move rfl) ?_
       refine Run.val (lt rfl) (Y.add rfl rfl (by omega)) ?_
       refine Run.val (lt rfl) (Y.assign rfl) ?_
       refine Run.to_end ?_
       refine Ex.keep [1, 1, 1] ?_
       exact Ex.round (⟨Cli.stepC c s last, Vs43, Cli.stepL c s last, .slice p38 (Cli.stepL c s last).hw.length c39, .slice p40 n41 c42, i + 1⟩ : Lo) ⟨hi.step s ⟨hsR.yi, hsR.si⟩ hsa, (Cli.step_same c s last).1.trans hhw, hVle, hRs37, Cli.few_stepL hi s hlf, by show i + 1 ≤ l.length; omega, by show i + 1 ≤ 150; omega⟩ (by show l.length - (i + 1) < l.length - i; omega) rfl rfl (subB_cons (by first | rfl | exact congrArg (fun z => some (Value.int _ z)) (by omega)) (subB_cons (by first | rfl | exact congrArg (fun z => some (Value.int _ z)) (by omega)) (subB_cons (by first | rfl | exact congrArg (fun z => some (Value.int _ z)) (by omega)) (subB_cons (by first | rfl | exact congrArg (fun z => some (Value.int _ z)) (by omega)) (subB_cons (by first | rfl | exact congrArg (fun z => some (Value.int _ z)) (by omega)) (subB_nil _))))))
     ·have g19 := h19
      try simp only [kb] at g19
      refine Tr.cond_t rfl (congrArg Bool.not h19) ?_
      refine Tr.seq ?_
      refine Tr.region ?_
      refine Run.val (lt rfl) (Y.assign rfl) ?_
      refine Run.to_end ?_
      refine Ex.go ?_
      refine Tr.to_ret ?_
      refine Ex.ret_then ?_
      refine Ex.ret_block ?_
      refine Ex.ret_then ?_
      refine Ex.ret_then ?_
      refine Ex.ret_block ?_
      refine Ex.ret_then ?_
      refine Ex.keep [] ?_
      exact Ex.ret1 rfl rfl  rfl
    ·have g18 := h18
     try simp only [kb] at g18
     refine Run.off rfl rfl rfl h18 rfl (lt rfl) ?_
     refine Run.off rfl rfl rfl h18 rfl (lt rfl) ?_
     refine Run.val (lt rfl) (Y.pick_f rfl h18 rfl) ?_
     refine Run.to_end ?_
     refine Ex.go ?_
     refine Tr.cond_f rfl rfl ?_
     refine Tr.to_exit ?_
     refine Ex.exit_then ?_
     refine Ex.exit_then ?_
     refine Ex.exit_in ?_
     refine Ex.go ?_
     refine Tr.seq ?_
     refine Tr.region ?_
     refine Run.val (lt rfl) (Y.assign rfl) ?_
     refine Run.to_end ?_
     refine Ex.go ?_
     refine Tr.to_ret ?_
     refine Ex.keep [] ?_
     exact Ex.ret1 rfl rfl  rfl
   ·have g17 := h17
    try simp only [kb] at g17
    refine Run.off rfl rfl rfl h17 rfl (lt rfl) ?_
    refine Run.off rfl rfl rfl h17 rfl (lt rfl) ?_
    refine Run.val (lt rfl) (Y.pick_f rfl h17 rfl) ?_
    refine Run.val (lt rfl) (Y.move rfl) ?_
    refine Run.off rfl rfl rfl rfl rfl (lt rfl) ?_
    refine Run.off rfl rfl rfl rfl rfl (lt rfl) ?_
    refine Run.val (lt rfl) (Y.pick_f rfl rfl rfl) ?_
    refine Run.to_end ?_
    refine Ex.go ?_
    refine Tr.cond_f rfl rfl ?_
    refine Tr.to_exit ?_
    refine Ex.exit_then ?_
    refine Ex.exit_then ?_
    refine Ex.exit_in ?_
    refine Ex.go ?_
    refine Tr.seq ?_
    refine Tr.region ?_
    refine Run.val (lt rfl) (Y.assign rfl) ?_
    refine Run.to_end ?_
    refine Ex.go ?_
    refine Tr.to_ret ?_
    refine Ex.keep [] ?_
    exact Ex.ret1 rfl rfl  rfl

set_option maxHeartbeats 1000000 in
theorem scripts24_n {V : Vw} {nm : ByteArray} {hw : List UInt8} {pb : Option Addr} {cb : Nat} (hvb : Rd V [] 1 (.slice pb hw.length cb) hw.length (hw.map byteV)) (hf : ¬ Cli.fine nm hw) {l : List CStp} {p : Option Addr} {c0 : Nat} (hvs : Rd V [] 15 (.slice p l.length c0) l.length (l.map CStp.cells).flatten) (hl9 : l.length ≤ 9223372036854775807) (hrs : CStp.Rs V l)  : Does Try.prog 3 [.string nm, .slice pb hw.length cb, .slice p l.length c0] V [] (fun v _ _ => v = .bool true) := by
 refine Does.intro Try.func3 rfl rfl (le rfl) (fun B => ?_)
 refine Tr.seq ?_
 refine Tr.region ?_
 refine Run.val (lt rfl) (Y.assign rfl) ?_
 refine Run.to_end ?_
 refine Ex.go ?_
 refine Tr.seq ?_
 refine Tr.region ?_
 refine Run.call [] (l := []) rfl rfl rfl (lt rfl) awake24_c0 (fun v1 V2 H2 hle2 hR => ?_)
 obtain ⟨_, rfl, rfl⟩ := hR
 obtain ⟨Vs3, hVe⟩ : ∃ V3 : Vw, V3 = V2 := ⟨_, rfl⟩
 subst hVe
 replace hvb := hvb.le hle2
 replace hvs := hvs.le hle2
 replace hrs := hrs.le hle2
 have hVle := hle2
 refine Run.heapTo (H' := []) rfl ?_
 refine Run.val (lt rfl) (Y.assign rfl) ?_
 refine Run.to_end ?_
 refine Ex.go ?_
 refine Tr.seq ?_
 refine Tr.seq ?_
 refine Tr.region ?_
 refine Run.val (lt rfl) (Y.move rfl) ?_
 refine Run.val (lt rfl) (Y.not rfl) ?_
 refine Run.val (lt rfl) (Y.move rfl) ?_
 refine Run.on rfl rfl rfl rfl ?_
 refine Run.val (lt rfl) (Y.move rfl) ?_
 refine Run.on rfl rfl rfl rfl ?_
 refine Run.val (lt rfl) (Y.lenStr rfl Law24_st9) ?_
 refine Run.on rfl rfl rfl rfl ?_
 refine Run.val (lt rfl) (Y.int rfl rfl rfl) ?_
 refine Run.val (lt rfl) (Y.pick_f rfl rfl rfl) ?_
 refine Run.val (lt rfl) (Y.move rfl) ?_
 rcases Bool.eq_false_or_eq_true (decide ((nm.size : Int) > 200)) with h4 | h4
 ·have g4 := h4
  try simp only [kb] at g4
  refine Run.off rfl rfl rfl h4 rfl (lt rfl) ?_
  refine Run.off rfl rfl rfl h4 rfl (lt rfl) ?_
  refine Run.off rfl rfl rfl h4 rfl (lt rfl) ?_
  refine Run.val (lt rfl) (Y.pick_t rfl h4 rfl) ?_
  refine Run.to_end ?_
  refine Ex.go ?_
  refine Tr.cond_t rfl rfl ?_
  refine Tr.seq ?_
  refine Tr.region ?_
  refine Run.val (lt rfl) (Y.move rfl) ?_
  refine Run.val (lt rfl) (Y.assign rfl) ?_
  refine Run.to_end ?_
  refine Ex.go ?_
  refine Tr.to_ret ?_
  refine Ex.ret_then ?_
  refine Ex.keep [] ?_
  exact Ex.ret1 rfl rfl  rfl
 ·have g4 := h4
  try simp only [kb] at g4
  refine Run.on rfl rfl rfl h4 ?_
  refine Run.val (lt rfl) (Y.move rfl) ?_
  refine Run.on rfl rfl rfl h4 ?_
  refine Run.val (lt rfl) (Y.lenSl rfl Law24_es22) ?_
  refine Run.on rfl rfl rfl h4 ?_
  refine Run.val (lt rfl) (Y.int rfl rfl rfl) ?_
  refine Run.val (lt rfl) (Y.pick_f rfl h4 rfl) ?_
  refine Run.to_end ?_
  refine Ex.go ?_
  rcases Bool.eq_false_or_eq_true (decide (((hw.length : Nat) : Int) > 200)) with h5 | h5
  ·have g5 := h5
   try simp only [kb] at g5
   refine Tr.cond_t rfl h5 ?_
   refine Tr.seq ?_
   refine Tr.region ?_
   refine Run.val (lt rfl) (Y.move rfl) ?_
   refine Run.val (lt rfl) (Y.assign rfl) ?_
   refine Run.to_end ?_
   refine Ex.go ?_
   refine Tr.to_ret ?_
   refine Ex.ret_then ?_
   refine Ex.keep [] ?_
   exact Ex.ret1 rfl rfl  rfl
  ·have g5 := h5
   try simp only [kb] at g5
   refine Tr.cond_f rfl h5 ?_
   refine Tr.to_end ?_
   refine Ex.go ?_
   refine Tr.seq ?_
   refine Tr.region ?_
   refine Run.val (lt rfl) (Y.move rfl) ?_
   refine Run.val (lt rfl) (Y.move rfl) ?_
   refine Run.call0 (l := [.tmp 31, .tmp 32]) rfl rfl rfl (lt rfl) (new_c_hn (s := nm) hvb hf).frame ?_
   refine Run.heapTo (H' := []) rfl ?_
   refine Run.val (lt rfl) (Y.move rfl) ?_
   refine Run.val (lt rfl) (Y.extract rfl rfl) ?_
   refine Run.val (lt rfl) (Y.extract rfl rfl) ?_
   refine Run.val (lt rfl) (Y.assign rfl) ?_
   refine Run.val (lt rfl) (Y.assign rfl) ?_
   refine Run.to_end ?_
   refine Ex.go ?_
   refine Tr.seq ?_
   refine Tr.region ?_
   refine Run.val (lt rfl) (Y.move rfl) ?_
   refine Run.val (lt rfl) (Y.move rfl) ?_
   refine Run.call0 (l := [.tmp 37, .tmp 38]) rfl rfl rfl (lt rfl) (rnew_c_hn (s := nm) hvb hf).frame ?_
   refine Run.heapTo (H' := []) rfl ?_
   refine Run.val (lt rfl) (Y.move rfl) ?_
   refine Run.val (lt rfl) (Y.extract rfl rfl) ?_
   refine Run.val (lt rfl) (Y.extract rfl rfl) ?_
   refine Run.val (lt rfl) (Y.assign rfl) ?_
   refine Run.val (lt rfl) (Y.assign rfl) ?_
   refine Run.to_end ?_
   refine Ex.go ?_
   refine Tr.seq ?_
   refine Tr.seq ?_
   refine Tr.region ?_
   refine Run.val (lt rfl) (Y.move rfl) ?_
   refine Run.val (lt rfl) (Y.move rfl) ?_
   refine Run.val (lt rfl) (Y.int (r := .bool false) rfl rfl rfl) ?_
   refine Run.val (lt rfl) (Y.move rfl) ?_
   refine Run.on rfl rfl rfl rfl ?_
   refine Run.val (lt rfl) (Y.move rfl) ?_
   refine Run.on rfl rfl rfl rfl ?_
   refine Run.val (lt rfl) (Y.eqNil rfl rfl Law24_pt25) ?_
   refine Run.on rfl rfl rfl rfl ?_
   refine Run.val (lt rfl) (Y.move rfl) ?_
   refine Run.on rfl rfl rfl rfl ?_
   refine Run.val (lt rfl) (Y.eqNil rfl rfl Law24_pt29) ?_
   refine Run.on rfl rfl rfl rfl ?_
   refine Run.val (lt rfl) (Y.neB_f rfl rfl Law24_tg4) ?_
   refine Run.val (lt rfl) (Y.pick_f rfl rfl rfl) ?_
   refine Run.to_end ?_
   refine Ex.go ?_
   refine Tr.cond_f rfl rfl ?_
   refine Tr.to_end ?_
   refine Ex.go ?_
   refine Tr.seq ?_
   refine Tr.region ?_
   refine Run.alloc Law24_zo36 (lt rfl) (fun b6 => ?_)
   refine Run.to_end ?_
   refine Ex.go ?_
   refine Tr.seq ?_
   refine Tr.seq ?_
   refine Tr.region ?_
   refine Run.val (lt rfl) (Y.assign rfl) ?_
   refine Run.to_end ?_
   refine Ex.go ?_
   refine Tr.block ?_
   refine Tr.loop (X := Nat) (fun x => Vs3) (fun x => [[(b6, .cells #[.int .i64 0, .int .u32 0, .int .i64 0, .int .i64 0, .int .u32 0, .int .u32 0, .int .u32 0, .int .u32 0, .slice none 0 0, .slice none 0 0] 36 (0, 0))]]) (fun x => [(2, .slice p l.length c0), (8, .pointer none), (10, .pointer none), (12, .pointer (some ⟨b6, 0, none⟩)), (13, .int .i64 (x : Int))]) (fun x => x = 0) (fun x => 0 - x) 0 rfl (fun a w i => ⟨i.1.sub (subB_cons (by first | rfl | exact congrArg (fun z => some (Value.int _ z)) (by omega)) (subB_cons (by first | rfl | exact congrArg (fun z => some (Value.int _ z)) (by omega)) (subB_cons (by first | rfl | exact congrArg (fun z => some (Value.int _ z)) (by omega)) (subB_cons (by first | rfl | exact congrArg (fun z => some (Value.int _ z)) (by omega)) (subB_cons (by first | rfl | exact congrArg (fun z => some (Value.int _ z)) (by omega)) (subB_nil _)))))), i.2⟩) ?_
   rintro x hx
   refine Tr.seq ?_
   refine Tr.seq ?_
   refine Tr.region ?_
   refine Run.val (lt rfl) (Y.move rfl) ?_
   refine Run.val (lt rfl) (Y.move rfl) ?_
   refine Run.val (lt rfl) (Y.lenSl rfl Law24_es23) ?_
   refine Run.val (lt rfl) (Y.int rfl rfl rfl) ?_
   refine Run.val (lt rfl) (Y.move rfl) ?_
   rcases Bool.eq_false_or_eq_true (decide ((x : Int) < ((l.length : Nat) : Int))) with h7 | h7
   ·have g7 := h7
    try simp only [kb] at g7
    refine Run.on rfl rfl rfl h7 ?_
    refine Run.val (lt rfl) (Y.move rfl) ?_
    refine Run.on rfl rfl rfl h7 ?_
    refine Run.val (lt rfl) (Y.int rfl rfl rfl) ?_
    refine Run.val (lt rfl) (Y.pick_t rfl h7 rfl) ?_
    refine Run.val (lt rfl) (Y.move rfl) ?_
    rcases Bool.eq_false_or_eq_true (decide ((x : Int) < 150)) with h8 | h8
    ·have g8 := h8
     try simp only [kb] at g8
     refine Run.on rfl rfl rfl h8 ?_
     refine Run.val (lt rfl) (Y.move rfl) ?_
     refine Run.on rfl rfl rfl h8 ?_
     refine Run.val (lt rfl) (Y.neNil rfl rfl Law24_pt25) ?_
     refine Run.val (lt rfl) (Y.pick_t rfl h8 rfl) ?_
     refine Run.to_end ?_
     refine Ex.go ?_
     refine Tr.cond_f rfl rfl ?_
     refine Tr.to_exit ?_
     refine Ex.exit_then ?_
     refine Ex.exit_then ?_
     refine Ex.exit_in ?_
     refine Ex.go ?_
     refine Tr.seq ?_
     refine Tr.region ?_
     refine Run.val (lt rfl) (Y.assign rfl) ?_
     refine Run.to_end ?_
     refine Ex.go ?_
     refine Tr.to_ret ?_
     refine Ex.keep [] ?_
     exact Ex.ret1 rfl rfl  rfl
    ·have g8 := h8
     try simp only [kb] at g8
     refine Run.off rfl rfl rfl h8 rfl (lt rfl) ?_
     refine Run.off rfl rfl rfl h8 rfl (lt rfl) ?_
     refine Run.val (lt rfl) (Y.pick_f rfl h8 rfl) ?_
     refine Run.to_end ?_
     refine Ex.go ?_
     refine Tr.cond_f rfl rfl ?_
     refine Tr.to_exit ?_
     refine Ex.exit_then ?_
     refine Ex.exit_then ?_
     refine Ex.exit_in ?_
     refine Ex.go ?_
     refine Tr.seq ?_
     refine Tr.region ?_
     refine Run.val (lt rfl) (Y.assign rfl) ?_
     refine Run.to_end ?_
     refine Ex.go ?_
     refine Tr.to_ret ?_
     refine Ex.keep [] ?_
     exact Ex.ret1 rfl rfl  rfl
   ·have g7 := h7
    try simp only [kb] at g7
    refine Run.off rfl rfl rfl h7 rfl (lt rfl) ?_
    refine Run.off rfl rfl rfl h7 rfl (lt rfl) ?_
    refine Run.val (lt rfl) (Y.pick_f rfl h7 rfl) ?_
    refine Run.val (lt rfl) (Y.move rfl) ?_
    refine Run.off rfl rfl rfl rfl rfl (lt rfl) ?_
    refine Run.off rfl rfl rfl rfl rfl (lt rfl) ?_
    refine Run.val (lt rfl) (Y.pick_f rfl rfl rfl) ?_
    refine Run.to_end ?_
    refine Ex.go ?_
    refine Tr.cond_f rfl rfl ?_
    refine Tr.to_exit ?_
    refine Ex.exit_then ?_
    refine Ex.exit_then ?_
    refine Ex.exit_in ?_
    refine Ex.go ?_
    refine Tr.seq ?_
    refine Tr.region ?_
    refine Run.val (lt rfl) (Y.assign rfl) ?_
    refine Run.to_end ?_
    refine Ex.go ?_
    refine Tr.to_ret ?_
    refine Ex.keep [] ?_
    exact Ex.ret1 rfl rfl  rfl

theorem scripts24_c {V : Vw} {nm : ByteArray} {v1 v2 : Value} {hw : List UInt8} {l : List CStp} (hv1 : Rd V [] 1 v1 hw.length (hw.map byteV)) (hvs : Rd V [] 15 v2 l.length (l.map CStp.cells).flatten) (hl9 : l.length ≤ 9223372036854775807) (hrs : CStp.Rs V l) : Does Try.prog 3 [.string nm, v1, v2] V [] (fun v _ _ => v = .bool true) := by
  obtain ⟨pb, cb, rfl, _⟩ := hv1.form
  obtain ⟨p, c0, rfl, _⟩ := hvs.form
  by_cases hf : Cli.fine nm hw
  · exact scripts24_y hv1 hf hvs hl9 hrs
  · exact scripts24_n hv1 hf hvs hl9 hrs
end Go.Proofs.Ytelahacalnmilaa
