/- Texts of addresses, walked; the statement's own awake.
Conditions: as each theorem names them. -/
import Derived.Test.YtfgblingojgafaaGreatProg
import Derived.Test.YtfgblingojgafaaGreatKD
import Derived.Test.YtfgblingojgafaaGreatAddr2
import Derived.Test.YtfgblingojgafaaGreatSortnum
import Derived.Test.YtfgblingojgafaaGreatEngine3
import Derived.Test.YtfgblingojgafaaGreatEB
import Derived.Test.YtfgblingojgafaaGreatBucket
import Derived.Test.YtfgblingojgafaaGreatRA
set_option linter.unusedSimpArgs false
set_option linter.unusedVariables false
set_option maxRecDepth 4000
namespace Go.Proofs.YtfgblingojgafaaGreat
open Go Go.K
attribute [local irreducible] Code.wp wpList Calls wpQuiet
end Go.Proofs.YtfgblingojgafaaGreat
namespace Go.Proofs.YtfgblingojgafaaGreat
open Go Go.K
attribute [local irreducible] Code.wp wpList Calls wpQuiet
end Go.Proofs.YtfgblingojgafaaGreat
namespace Go.Proofs.YtfgblingojgafaaGreat
open Go Go.K
attribute [local irreducible] Code.wp wpList Calls wpQuiet
theorem Engine4_fo35_11 : fieldOff Tryz.prog 35 11 = some 11 := by kernel_rfl
theorem Engine4_ts33 : scal Tryz.prog 33 = true := by kernel_rfl
theorem Engine4_fo35_0 : fieldOff Tryz.prog 35 0 = some 0 := by kernel_rfl
theorem Engine4_ts3 : scal Tryz.prog 3 = true := by kernel_rfl
theorem Engine4_fo35_1 : fieldOff Tryz.prog 35 1 = some 1 := by kernel_rfl
theorem Engine4_fo35_2 : fieldOff Tryz.prog 35 2 = some 2 := by kernel_rfl
theorem Engine4_fo35_4 : fieldOff Tryz.prog 35 4 = some 4 := by kernel_rfl
theorem Engine4_fo35_5 : fieldOff Tryz.prog 35 5 = some 5 := by kernel_rfl
theorem Engine4_fo35_6 : fieldOff Tryz.prog 35 6 = some 6 := by kernel_rfl
theorem Engine4_fo35_12 : fieldOff Tryz.prog 35 12 = some 12 := by kernel_rfl
theorem Engine4_zo45 : zeroOf Tryz.prog 45 = some (.agg #[.bool false,.int .i64 0,.int .u32 0,.int .i64 0,.int .i64 0,.int .u32 0,.int .u32 0,.int .u32 0,.int .u32 0,.slice none 0 0,.slice none 0 0,.bool false,.int .u32 0,.int .i64 0,.string ⟨#[]⟩,.int .i64 0,.int .i64 0,.int .i64 0,.int .i64 0,.int .i64 0,.int .i64 0]) := by kernel_rfl
theorem Engine4_ag35 : aggsz Tryz.prog 35 = some 13 := by kernel_rfl
theorem Engine4_pt38 : ptrT Tryz.prog 38 = true := by kernel_rfl
theorem Engine4_ag28 : aggsz Tryz.prog 28 = some 10 := by kernel_rfl
theorem Engine4_fo28_0 : fieldOff Tryz.prog 28 0 = some 0 := by kernel_rfl
theorem Engine4_pl45 : placesS Tryz.prog 45 = some [(0,1),(1,10),(11,1),(12,8),(20,1)] := by kernel_rfl
theorem Engine4_sz45 : sizeT Tryz.prog 45 = some 21 := by kernel_rfl
theorem Engine4_ag45 : aggsz Tryz.prog 45 = some 21 := by kernel_rfl
theorem Engine4_mo : Tryz.prog.follows .mixedOrders = true := by kernel_rfl
theorem Engine4_zo58 : zeroOf Tryz.prog 58 = some (.agg #[.int .i64 0,.int .i64 0,.int .i64 0]) := by kernel_rfl
theorem Engine4_pl58 : placesS Tryz.prog 58 = some [(0,1),(1,1),(2,1)] := by kernel_rfl
theorem Engine4_zo90 : zeroOf Tryz.prog 90 = some (.agg #[.int .i64 0,.int .i64 0,.int .i64 0,.int .u32 0,.int .i64 0,.int .i64 0,.int .i64 0,.float .f64 0,.float .f64 0,.float .f64 0,.float .f64 0,.slice none 0 0,.int .i64 0,.int .i64 0,.int .i64 0,.int .i64 0,.pointer none,.int .i64 0,.int .i64 0,.int .i64 0,.int .i64 0,.int .u32 0,.int .i64 0,.int .i64 0,.int .u32 0,.int .u32 0,.int .u32 0,.int .u32 0,.slice none 0 0,.slice none 0 0,.string ⟨#[]⟩,.int .u32 0,.int .i64 0]) := by kernel_rfl
theorem Engine4_pl90 : placesS Tryz.prog 90 = some [(0,13),(13,3),(16,1),(17,1),(18,1),(19,1),(20,10),(30,1),(31,1),(32,1)] := by kernel_rfl
theorem Engine4_zo43 : zeroOf Tryz.prog 43 = some (.agg #[.int .u32 0,.int .i64 0,.string ⟨#[]⟩,.int .i64 0,.int .i64 0,.int .i64 0,.int .i64 0,.int .i64 0]) := by kernel_rfl
theorem Engine4_sz43 : sizeT Tryz.prog 43 = some 8 := by kernel_rfl
theorem Engine4_fo43_0 : fieldOff Tryz.prog 43 0 = some 0 := by kernel_rfl
theorem Engine4_ts24 : scal Tryz.prog 24 = true := by kernel_rfl
theorem Engine4_fo43_7 : fieldOff Tryz.prog 43 7 = some 7 := by kernel_rfl
theorem Engine4_fo28_4 : fieldOff Tryz.prog 28 4 = some 4 := by kernel_rfl
theorem Engine4_fo43_1 : fieldOff Tryz.prog 43 1 = some 1 := by kernel_rfl
theorem Engine4_sz3 : sizeT Tryz.prog 3 = some 1 := by kernel_rfl
theorem Engine4_fo43_6 : fieldOff Tryz.prog 43 6 = some 6 := by kernel_rfl
theorem Engine4_ag43 : aggsz Tryz.prog 43 = some 8 := by kernel_rfl
theorem eright_c {V : Vw} {x : Si} {pp : Option Addr} {cp : Nat} (hv : Rd V [] 2 (.slice pp x.pool.length cp) x.pool.length (x.pool.flatMap Rg.cells)) (hlm : x.pool.length ≤ 1000) (hok : Rg.Oks x.pool)  : Does Tryz.prog 20 [.agg (Si.cells x (.slice pp x.pool.length cp))] V [] (fun u V' H' => V.le V' ∧ u = .bool x.right ∧ H' = []) := by
 refine Does.intro Tryz.func20 rfl rfl (le rfl) (fun B => ?_)
 refine Zs<|Zr<|?_
 refine Run.box rfl (lt rfl) (fun b1 => ?_)
 refine Za Z<|Ze<|Zg<|Zs<|Zr<|Zv (Y.fieldAddr Z Engine4_fo35_11)<|Zv (Y.load Z Engine4_ts33 (Kn.at 0 Z) Z)<|?_
 refine Run.call [] (l := [.tmp 7]) rfl rfl rfl (lt rfl) (pool_h (l := x.pool) hv hlm hok) (fun v2 V2 H2 hle2 hR2 => ?_)
 obtain ⟨_,rfl,w2,rfl,hr2⟩ := hR2
 obtain ⟨W2,hVe⟩ : ∃ Vz : Vw,Vz = V2 := ⟨_,rfl⟩; subst hVe
 replace hv := hv.le hle2
 have hVle := hle2
 refine Run.heapTo (H' := [[(b1,.cells (Si.cells x (.slice pp x.pool.length cp)) 35 (0,0))]]) Z<|Run.heapTo (H' := [[(b1,.cells (Si.cells x (.slice pp x.pool.length cp)) 35 (0,0))]]) Z<|?_
 refine Zm Z<|Zv (Y.extract Z Z)<|Zv (Y.extract Z Z)<|Za Z<|Za Z<|Ze<|Zg<|Zs<|Zb<|Zs<|Zs<|Zr<|Zm Z<|Zv (Y.int Z Z Z)<|Za Z<|Ze<|?_
 refine Zg ?_
 rcases Zsplit (((Rg.pool x.pool).2) != 0) with ⟨h3,g3⟩ | ⟨h3,g3⟩ <;> try simp only [kb] at g3
 ·refine Tr.cond_t Z h3<|Zt<|Zg<|Tr.cond_t Z h3<|Zs<|Zr<|Za Z<|Ze<|Zg<|Zu<|Zk<|Zn<|Ex.keep []<|?_
  exact Ex.ret1 rfl rfl  ⟨hVle,congrArg Value.bool (Si.right_n (by unfold Si.nums; omega)).symm,rfl⟩
 ·refine Tr.cond_f Z h3<|Zs<|Zr<|Zv (Y.fieldAddr Z Engine4_fo35_0)<|Zv (Y.load Z Engine4_ts3 (Kn.at 0 Z) Z)<|Run.call0 (l := [.tmp 15,.const (.int .i64 0),.const (.int .i64 1)]) Z Z Z (lt Z) ((within_c (n := x.id) (low := 0) (high := 1)).frame)<|Zv (Y.not Z)<|Za Z<|Ze<|Zg<|?_
  rcases Zsplit (decide (0 ≤ x.id ∧ x.id ≤ 1)) with ⟨h4,g4⟩ | ⟨h4,g4⟩ <;> try simp only [kb] at g4
  ·refine Tr.cond_f Z (congrArg Bool.not h4)<|Zs<|Zr<|Zv (Y.fieldAddr Z Engine4_fo35_1)<|Zv (Y.load Z Engine4_ts3 (Kn.at 0 Z) Z)<|Run.call0 (l := [.tmp 19,.const (.int .i64 0),.const (.int .i64 1073741824)]) Z Z Z (lt Z) ((within_c (n := x.lead) (low := 0) (high := 1073741824)).frame)<|Zv (Y.not Z)<|Za Z<|Ze<|Zg<|?_
   rcases Zsplit (decide (0 ≤ x.lead ∧ x.lead ≤ 1073741824)) with ⟨h5,g5⟩ | ⟨h5,g5⟩ <;> try simp only [kb] at g5
   ·refine Tr.cond_f Z (congrArg Bool.not h5)<|Zr<|Zv (Y.fieldAddr Z Engine4_fo35_2)<|Zv (Y.load Z Engine4_ts3 (Kn.at 0 Z) Z)<|Run.call0 (l := [.tmp 23,.const (.int .i64 0),.const (.int .i64 1073741824)]) Z Z Z (lt Z) ((within_c (n := x.guard) (low := 0) (high := 1073741824)).frame)<|Zv (Y.not Z)<|Za Z<|Ze<|Zg<|?_
    rcases Zsplit (decide (0 ≤ x.guard ∧ x.guard ≤ 1073741824)) with ⟨h6,g6⟩ | ⟨h6,g6⟩ <;> try simp only [kb] at g6
    ·refine Tr.cond_f Z (congrArg Bool.not h6)<|Zs<|Zs<|Zr<|Zv (Y.fieldAddr Z Engine4_fo35_4)<|Zv (Y.load Z Engine4_ts3 (Kn.at 0 Z) Z)<|Zv (Y.fieldAddr Z Engine4_fo35_5)<|Zv (Y.load Z Engine4_ts3 (Kn.at 0 Z) Z)<|Run.call0 (l := [.tmp 28,.const (.int .i64 1),.tmp 30]) Z Z Z (lt Z) ((within_c (n := x.want) (low := 1) (high := x.most)).frame)<|Zv (Y.not Z)<|Za Z<|Ze<|Zg<|?_
     rcases Zsplit (decide (1 ≤ x.want ∧ x.want ≤ x.most)) with ⟨h7,g7⟩ | ⟨h7,g7⟩ <;> try simp only [kb] at g7
     ·refine Tr.cond_f Z (congrArg Bool.not h7)<|Zs<|Zr<|Zv (Y.fieldAddr Z Engine4_fo35_5)<|Zv (Y.load Z Engine4_ts3 (Kn.at 0 Z) Z)<|Zv (Y.int Z Z Z)<|Za Z<|Ze<|Zg<|?_
      rcases Zsplit (decide (x.most > 1073741824)) with ⟨h8,g8⟩ | ⟨h8,g8⟩ <;> try simp only [kb] at g8
      ·refine Tr.cond_t Z h8<|Zt<|Zg<|Tr.cond_t Z h8<|Zs<|Zr<|Za Z<|Ze<|Zg<|Zu<|Zk<|Zn<|Ex.keep []<|?_
       exact Ex.ret1 rfl rfl  ⟨hVle,congrArg Value.bool (Si.right_n (by unfold Si.nums; omega)).symm,rfl⟩
      ·refine Tr.cond_f Z h8<|Zr<|Zv (Y.fieldAddr Z Engine4_fo35_6)<|Zv (Y.load Z Engine4_ts3 (Kn.at 0 Z) Z)<|Run.call0 (l := [.tmp 37,.const (.int .i64 0),.const (.int .i64 256)]) Z Z Z (lt Z) ((within_c (n := x.first) (low := 0) (high := 256)).frame)<|Zv (Y.not Z)<|Za Z<|Ze<|Zg<|?_
       rcases Zsplit (decide (0 ≤ x.first ∧ x.first ≤ 256)) with ⟨h9,g9⟩ | ⟨h9,g9⟩ <;> try simp only [kb] at g9
       ·refine Tr.cond_f Z (congrArg Bool.not h9)<|Zt<|Zc<|Zg<|Zs<|Zr<|Zv (Y.fieldAddr Z Engine4_fo35_12)<|Zv (Y.load Z Engine4_ts3 (Kn.at 0 Z) Z)<|Run.call0 (l := [.tmp 41,.const (.int .i64 1),.const (.int .i64 1048576)]) Z Z Z (lt Z) ((within_c (n := x.room) (low := 1) (high := 1048576)).frame)<|Za Z<|Ze<|Zg<|Zu<|Ex.keep []<|?_
        exact Ex.ret1 rfl rfl  ⟨hVle,congrArg Value.bool (decide_eq_decide.2 (by unfold Si.nums; omega)),rfl⟩
       ·refine Tr.cond_t Z (congrArg Bool.not h9)<|Zs<|Zr<|Za Z<|Ze<|Zg<|Zu<|Zk<|Zn<|Ex.keep []<|?_
        exact Ex.ret1 rfl rfl  ⟨hVle,congrArg Value.bool (Si.right_n (by unfold Si.nums; omega)).symm,rfl⟩
     ·refine Tr.cond_t Z (congrArg Bool.not h7)<|Zt<|Zg<|Tr.cond_t Z (congrArg Bool.not h7)<|Zs<|Zr<|Za Z<|Ze<|Zg<|Zu<|Zk<|Zn<|Ex.keep []<|?_
      exact Ex.ret1 rfl rfl  ⟨hVle,congrArg Value.bool (Si.right_n (by unfold Si.nums; omega)).symm,rfl⟩
    ·refine Tr.cond_t Z (congrArg Bool.not h6)<|Zs<|Zr<|Za Z<|Ze<|Zg<|Zu<|Zk<|Zn<|Ex.keep []<|?_
     exact Ex.ret1 rfl rfl  ⟨hVle,congrArg Value.bool (Si.right_n (by unfold Si.nums; omega)).symm,rfl⟩
   ·refine Tr.cond_t Z (congrArg Bool.not h5)<|Zt<|Zg<|Tr.cond_t Z (congrArg Bool.not h5)<|Zs<|Zr<|Za Z<|Ze<|Zg<|Zu<|Zk<|Zn<|Ex.keep []<|?_
    exact Ex.ret1 rfl rfl  ⟨hVle,congrArg Value.bool (Si.right_n (by unfold Si.nums; omega)).symm,rfl⟩
  ·refine Tr.cond_t Z (congrArg Bool.not h4)<|Zt<|Zg<|Tr.cond_t Z (congrArg Bool.not h4)<|Zs<|Zr<|Za Z<|Ze<|Zg<|Zu<|Zk<|Zn<|Ex.keep []<|?_
   exact Ex.ret1 rfl rfl  ⟨hVle,congrArg Value.bool (Si.right_n (by unfold Si.nums; omega)).symm,rfl⟩
theorem eright_h {V : Vw} {x : Si} {pv : Value} (hv : Rd V [] 2 pv x.pool.length (x.pool.flatMap Rg.cells)) (hlm : x.pool.length ≤ 1000) (hok : Rg.Oks x.pool) {H : Hp} : Does Tryz.prog 20 [.agg (x.cells pv)] V H (Pv (.bool x.right) V H) := by
  obtain ⟨pp,cp,rfl,_⟩ := hv.form
  exact ((eright_c hv hlm hok).forget (R' := Pv (.bool x.right) V []) fun v V' H' _ h => ⟨h.2.1,rfl,h.2.2⟩).frame
set_option maxHeartbeats 2000000 in
theorem answer_t {V : Vw} {x : Si} {pv : Value} (hv : Rd V [] 2 pv x.pool.length (x.pool.flatMap Rg.cells)) (hlm : x.pool.length ≤ 1000) (hok : Rg.Oks x.pool) {p : Pc} {hv0 ov0 : Value} (hp : Pc.R V p hv0 ov0) (hfew : p.few = true) (hci : 0 ≤ p.ci ∧ p.ci ≤ 4294967295) (hsv : 0 ≤ x.server ∧ x.server ≤ 4294967295) {state now entry : Int} {l : List Le} {tx : Nat} {s : Sg} (hin : Le.In 99 l tx s) (hla : ∀ y,y ∈ l → 0 ≤ y.addr ∧ y.addr ≤ 4294967295)  : Does Tryz.prog 13 [.agg (x.cells pv),(pZ tx),.int .i64 state,.int .i64 now,.int .i64 entry,.agg (p.cells hv0 ov0)] V [s] (fun u V' H' => V.le V' ∧ H' = [s] ∧ ∃ hv' ov',u = .agg ((Eg.ans x l state now entry p).cells hv' ov') ∧ Pc.R V' (Eg.ans x l state now entry p).reply hv' ov') := by
 obtain ⟨⟨ph,ch,rfl⟩,po9,no9,co9,rfl⟩ := hp.forms
 obtain ⟨pp,cp,rfl,_⟩ := hv.form
 have hVle : V.le V := Vw.le_refl V
 refine Does.intro Tryz.func13 rfl rfl (le rfl) (fun B => ?_)
 refine Zs<|Zr<|?_
 refine Run.box rfl (lt rfl) (fun b1 => ?_)
 refine Run.box rfl (lt rfl) (fun b2 => ?_)
 refine Run.alloc Engine4_zo45 (lt rfl) (fun b3 => ?_)
 refine Ze<|Zg<|Zs<|Zs<|Zr<|Zv (Y.loadAgg Z Engine4_ag35 (Kn.at 2 Z) Z)<|Run.call0 (l := [.tmp 20]) Z Z Z (lt Z) (eright_h (x := x) hv hlm hok)<|Zv (Y.not Z)<|Zm Z<|?_
 rcases Zsplit (x.right) with ⟨h4,g4⟩ | ⟨h4,g4⟩ <;> try simp only [kb] at g4
 ·refine Zp (congrArg Bool.not h4)<|Zm Z<|Zp (congrArg Bool.not h4)<|Zv (Y.eqNil Z Z Engine4_pt38)<|Zv (Y.pick_f Z (congrArg Bool.not h4) Z)<|Zm Z<|Zp Z<|Zm Z<|Zp Z<|Run.call0 (l := [.tmp 28]) Z Z Z (lt Z) ((serves_c (n := state)).frame)<|Zp Z<|Zv (Y.not Z)<|Zv (Y.pick_f Z Z Z)<|Zm Z<|?_
  rcases Zsplit (Rul.serves state) with ⟨h5,g5⟩ | ⟨h5,g5⟩ <;> try simp only [kb] at g5
  ·refine Zp (congrArg Bool.not h5)<|Zm Z<|Zp (congrArg Bool.not h5)<|Run.call0 (l := [.tmp 33,.const (.int .i64 0),.const (.int .i64 1099511627776)]) Z Z Z (lt Z) ((within_c (n := now) (low := 0) (high := 1099511627776)).frame)<|Zp (congrArg Bool.not h5)<|Zv (Y.not Z)<|Zv (Y.pick_f Z (congrArg Bool.not h5) Z)<|Zm Z<|?_
   rcases Zsplit (decide (0 ≤ now ∧ now ≤ 1099511627776)) with ⟨h6,g6⟩ | ⟨h6,g6⟩ <;> try simp only [kb] at g6
   ·refine Zp (congrArg Bool.not h6)<|Zv (Y.loadAgg Z Engine4_ag28 (Kn.at 1 Z) Z)<|Zp (congrArg Bool.not h6)<|Run.call0 (l := [.tmp 38]) Z Z Z (lt Z) (pright_h hp hfew)<|Zp (congrArg Bool.not h6)<|Zv (Y.not Z)<|Zv (Y.pick_f Z (congrArg Bool.not h6) Z)<|Zm Z<|?_
    rcases Zsplit (Pc.right p) with ⟨h7,g7⟩ | ⟨h7,g7⟩ <;> try simp only [kb] at g7
    ·refine Zp (congrArg Bool.not h7)<|Zv (Y.fieldAddr Z Engine4_fo28_0)<|Zp (congrArg Bool.not h7)<|Zv (Y.load Z Engine4_ts3 (Kn.at 1 Z) Z)<|Zp (congrArg Bool.not h7)<|Zv (Y.int Z Z Z)<|Zv (Y.pick_f Z (congrArg Bool.not h7) Z)<|Ze<|Zg<|?_
     rcases Zsplit (p.op != 1) with ⟨h8,g8⟩ | ⟨h8,g8⟩ <;> try simp only [kb] at g8
     ·refine Tr.cond_t Z h8<|Zs<|Zr<|Zv (Y.buildS (l := []) (r := [.bool false,.int .i64 0,.int .u32 0,.int .i64 0,.int .i64 0,.int .u32 0,.int .u32 0,.int .u32 0,.int .u32 0,.slice none 0 0,.slice none 0 0,.bool false,.int .u32 0,.int .i64 0,.string ⟨#[]⟩,.int .i64 0,.int .i64 0,.int .i64 0,.int .i64 0,.int .i64 0,.int .i64 0]) Engine4_zo45 Engine4_pl45 Z Z)<|Run.stAll (l2 := [.bool false,.int .i64 0,.int .u32 0,.int .i64 0,.int .i64 0,.int .u32 0,.int .u32 0,.int .u32 0,.int .u32 0,.slice none 0 0,.slice none 0 0,.bool false,.int .u32 0,.int .i64 0,.string ⟨#[]⟩,.int .i64 0,.int .i64 0,.int .i64 0,.int .i64 0,.int .i64 0,.int .i64 0]) (j := 0) Z Z Engine4_sz45 Z Z Z Z<|?_
      refine Run.heapTo (H' := [[(b3,.cells an0 45 (0,0))],[(b2,.cells (Pc.cells p (.slice ph p.hw.length ch) (.slice po9 no9 co9)) 28 (0,0))],[(b1,.cells (Si.cells x (.slice pp x.pool.length cp)) 35 (0,0))],s]) Z ?_
      refine Ze<|Zg<|Zu<|Zn<|?_
      exact Ex.retCell [3] rfl rfl Engine4_ag45 (Kn.at 0 rfl) rfl ⟨hVle,rfl,.slice none 0 0,.slice none 0 0,by rw [Eg.ans_no (Eg.fits_n (.inr (.inr (.inr (.inr W)))))]; rfl,by rw [Eg.ans_no (Eg.fits_n (.inr (.inr (.inr (.inr W)))))]; exact Pc.zero_R _⟩
     ·refine Tr.cond_f Z h8<|Zt<|Zg<|Zs<|Zr<|Zv (Y.loadAgg Z Engine4_ag28 (Kn.at 1 Z) Z)<|Run.call0 (l := [.tmp 49]) Z Z Z (lt Z) (pasked_h hp hfew)<|Zm Z<|Zv (Y.extract Z Z)<|Zv (Y.extract Z Z)<|Za Z<|Za Z<|Ze<|Zg<|?_
      refine Tr.cut V [[(b3,.cells an0 45 (0,0))],[(b2,.cells (Pc.cells p (.slice ph p.hw.length ch) (.slice po9 no9 co9)) 28 (0,0))],[(b1,.cells (Si.cells x (.slice pp x.pool.length cp)) 35 (0,0))],s] [(1,(pZ tx)),(2,.int .i64 state),(3,.int .i64 now),(4,.int .i64 entry),(6,(pZ b1)),(11,(pZ b2)),(12,(pZ b3)),(13,.int .u32 p.asked),(14,.int .i64 (if p.asks = 0 then x.want else p.asks))] ?_ ?_
      ·refine Zs<|Zr<|Zm Z<|Zv (Y.int Z Z Z)<|Ze<|Zg<|?_
       rcases Zsplit (p.asks == 0) with ⟨h9,g9⟩ | ⟨h9,g9⟩ <;> try simp only [kb] at g9
       ·refine Tr.cond_t Z h9<|Zr<|Zv (Y.fieldAddr Z Engine4_fo35_4)<|Zv (Y.load Z Engine4_ts3 (Kn.at 2 Z) Z)<|Za Z<|Ze<|?_
        have hwt : x.want = (if p.asks = 0 then x.want else p.asks) := (if_pos W).symm
        exact Ex.cut rfl (by repeat (first | exact subB_nil _ | refine subB_cons (by first | rfl | exact congrArg (fun z => some (Value.int _ z)) W | exact congrArg (fun z => some (Value.int _ z)) hwt) ?_))
       ·refine Tr.cond_f Z h9<|Zt<|?_
        have hwt : p.asks = (if p.asks = 0 then x.want else p.asks) := (if_neg W).symm
        exact Ex.cut rfl (by repeat (first | exact subB_nil _ | refine subB_cons (by first | rfl | exact congrArg (fun z => some (Value.int _ z)) W | exact congrArg (fun z => some (Value.int _ z)) hwt) ?_))
      ·refine Zs<|Tr.tail 21 Engine4_mo WK<|ZV (Y.loadAgg Z Engine4_ag35 (Kn.at 2 Z) Z)<|ZV (Y.fieldAddr Z Engine4_fo35_0)<|ZV (Y.load Z Engine4_ts3 (Kn.at 2 Z) Z)<|ZV (Y.fieldAddr Z Engine4_fo35_1)<|ZV (Y.load Z Engine4_ts3 (Kn.at 2 Z) Z)<|ZV (Y.fieldAddr Z Engine4_fo35_2)<|ZV (Y.load Z Engine4_ts3 (Kn.at 2 Z) Z)<|ZV (Y.buildS (l := [(0,.tmp 59),(1,.tmp 61),(2,.tmp 63)]) Engine4_zo58 Engine4_pl58 Z Z)<|ZM Z<|ZM Z<|ZM Z<|?_
       refine ZM Z<|ZV (Y.loadAgg Z Engine4_ag28 (Kn.at 1 Z) Z)<|ZV (Y.loadAgg Z Engine4_ag28 (Kn.at 1 Z) Z)<|RunQ.call0 (l := [.tmp 70]) Z Z Z (lt Z) (pclient_h hp hfew)<|ZM Z<|ZM Z<|ZV (Y.fieldAddr Z Engine4_fo35_5)<|ZV (Y.load Z Engine4_ts3 (Kn.at 2 Z) Z)<|ZV (Y.min2 Z Z)<|ZV (Y.buildS (l := [(0,.tmp 57),(1,.tmp 64),(2,.tmp 65),(3,.tmp 66),(4,.tmp 67),(5,.tmp 68),(6,.tmp 69),(7,.tmp 71),(8,.tmp 72),(9,.tmp 76)]) (r := [.int .i64 x.id,.int .i64 x.lead,.int .i64 x.guard,.int .u32 x.server,.int .i64 x.want,.int .i64 x.most,.int .i64 x.first,.float .f64 x.part,.float .f64 x.slack,.float .f64 x.renew,.float .f64 x.rebind,.slice pp x.pool.length cp,.int .i64 x.room,.int .i64 x.id,.int .i64 x.lead,.int .i64 x.guard,(pZ tx),.int .i64 state,.int .i64 now,.int .i64 entry,.int .i64 p.op,.int .u32 p.xid,.int .i64 p.secs,.int .i64 p.flags,.int .u32 p.ci,.int .u32 p.yi,.int .u32 p.si,.int .u32 p.gi,.slice ph p.hw.length ch,.slice po9 no9 co9,.string p.client,.int .u32 p.asked,.int .i64 (min (if p.asks = 0 then x.want else p.asks) x.most)]) Engine4_zo90 Engine4_pl90 rfl WK)<|?_
       refine RunQ.nil_run ?_
       refine Run.box rfl (lt rfl) (fun b10 => ?_)
       refine Za Z<|Ze<|Zg<|Zs<|Zs<|Zr<|?_
       have hfit : Eg.fits x state now p = true := Eg.fits_y h4 h5 h6 h7 W
       have hqe : Eg.ans x l state now entry p = Eg.Qy.answer (Eg.qy x l state now entry p) := Eg.ans_yes hfit
       refine Run.show (fun U11 hle11 hsh11 => ?_)
       replace hv := hv.le hle11
       replace hp := hp.le hle11
       replace hVle := Vw.le_trans hVle hle11
       have hkq0 := Kn.shown hsh11
       have hkq : Kn U11 [] b10 (.cells (Eg.Qy.cells (Eg.qy x l state now entry p) (.slice pp x.pool.length cp) tx (.slice ph p.hw.length ch) (.slice po9 no9 co9)) 90 (0,0)) := hkq0
       have hok2 : Eg.Qok U11 (Eg.qy x l state now entry p) (.slice ph p.hw.length ch) (.slice po9 no9 co9) := Eg.qok_of hp hfew hci hsv hla
       refine Zv (Y.loadAgg Z Engine4_ag28 (Kn.at 1 Z) Z)<|Run.call0 (l := [.tmp 79]) Z Z Z (lt Z) (kind_h hp hfew)<|Ze<|Zg<|Zb<|Zs<|Zr<|Zv (Y.int Z Z Z)<|Za Z<|Ze<|Zg<|?_
       rcases Zsplit ((Pc.kind p) == 1) with ⟨h12,g12⟩ | ⟨h12,g12⟩ <;> try simp only [kb] at g12
       ·refine Tr.cond_t Z h12<|Zs<|Zr<|Zm Z<|?_
        refine Run.call [3] (l := [.tmp 83]) rfl rfl rfl (lt rfl) (discover_q (q := (Eg.qy x l state now entry p)) hkq hok2 hin) (fun v13 V13 H13 hle13 hR13 => ?_)
        obtain ⟨_,rfl,hv13,ov13,rfl,hRp13⟩ := hR13
        obtain ⟨W13,hVe⟩ : ∃ Vz : Vw,Vz = V13 := ⟨_,rfl⟩; subst hVe
        replace hkq := hkq.le hle13
        replace hok2 := hok2.le hle13
        replace hp := hp.le hle13
        replace hVle := Vw.le_trans hVle hle13
        obtain ⟨⟨pg13,cg13,rfl⟩,pk13,nk13,ck13,rfl⟩ := hRp13.forms
        generalize hP13 : (Eg.Qy.discover (Eg.qy x l state now entry p)) = P13 at hRp13 ⊢
        refine Run.heapTo (H' := [[(b3,.cells an0 45 (0,0))],[(b2,.cells (Pc.cells p (.slice ph p.hw.length ch) (.slice po9 no9 co9)) 28 (0,0))],[(b1,.cells (Si.cells x (.slice pp x.pool.length cp)) 35 (0,0))],s]) Z ?_
        refine Run.stAll (l2 := [.bool P13.send,.int .i64 P13.reply.op,.int .u32 P13.reply.xid,.int .i64 P13.reply.secs,.int .i64 P13.reply.flags,.int .u32 P13.reply.ci,.int .u32 P13.reply.yi,.int .u32 P13.reply.si,.int .u32 P13.reply.gi,.slice pg13 P13.reply.hw.length cg13,.slice pk13 nk13 ck13,.bool P13.change,.int .u32 P13.lease.addr,.int .i64 P13.lease.bind,.string P13.lease.client,.int .i64 P13.lease.till,.int .i64 P13.lease.acked,.int .i64 P13.lease.told,.int .i64 P13.lease.at_,.int .i64 P13.lease.ver,.int .i64 P13.pot]) (j := 0) Z Z Engine4_sz45 Z Z Z Z ?_
        refine Run.heapTo (H' := [[(b3,.cells (An.cells P13 (.slice pg13 P13.reply.hw.length cg13) (.slice pk13 nk13 ck13)) 45 (0,0))],[(b2,.cells (Pc.cells p (.slice ph p.hw.length ch) (.slice po9 no9 co9)) 28 (0,0))],[(b1,.cells (Si.cells x (.slice pp x.pool.length cp)) 35 (0,0))],s]) Z ?_
        refine Ze<|Zg<|Zu<|Zk<|Zn<|?_
        exact Ex.retCell [3] rfl rfl Engine4_ag45 (Kn.at 0 rfl) rfl ⟨hVle,rfl,.slice pg13 P13.reply.hw.length cg13,.slice pk13 nk13 ck13,by rw [hqe.trans (Eg.ans_1 (show Pc.kind p = 1 by omega)),hP13]; rfl,by rw [hqe.trans (Eg.ans_1 (show Pc.kind p = 1 by omega)),hP13]; exact hRp13⟩
       ·refine Tr.cond_f Z h12<|Zs<|Zr<|Zv (Y.int Z Z Z)<|Za Z<|Ze<|Zg<|?_
        rcases Zsplit ((Pc.kind p) == 3) with ⟨h14,g14⟩ | ⟨h14,g14⟩ <;> try simp only [kb] at g14
        ·refine Tr.cond_t Z h14<|Zs<|Zr<|Zm Z<|?_
         refine Run.call [3] (l := [.tmp 87]) rfl rfl rfl (lt rfl) (request_q (q := (Eg.qy x l state now entry p)) hkq hok2 hin) (fun v15 V15 H15 hle15 hR15 => ?_)
         obtain ⟨_,rfl,hv15,ov15,rfl,hRp15⟩ := hR15
         obtain ⟨W15,hVe⟩ : ∃ Vz : Vw,Vz = V15 := ⟨_,rfl⟩; subst hVe
         replace hkq := hkq.le hle15
         replace hok2 := hok2.le hle15
         replace hp := hp.le hle15
         replace hVle := Vw.le_trans hVle hle15
         obtain ⟨⟨pg15,cg15,rfl⟩,pk15,nk15,ck15,rfl⟩ := hRp15.forms
         generalize hP15 : (Eg.Qy.request (Eg.qy x l state now entry p)) = P15 at hRp15 ⊢
         refine Run.heapTo (H' := [[(b3,.cells an0 45 (0,0))],[(b2,.cells (Pc.cells p (.slice ph p.hw.length ch) (.slice po9 no9 co9)) 28 (0,0))],[(b1,.cells (Si.cells x (.slice pp x.pool.length cp)) 35 (0,0))],s]) Z ?_
         refine Run.stAll (l2 := [.bool P15.send,.int .i64 P15.reply.op,.int .u32 P15.reply.xid,.int .i64 P15.reply.secs,.int .i64 P15.reply.flags,.int .u32 P15.reply.ci,.int .u32 P15.reply.yi,.int .u32 P15.reply.si,.int .u32 P15.reply.gi,.slice pg15 P15.reply.hw.length cg15,.slice pk15 nk15 ck15,.bool P15.change,.int .u32 P15.lease.addr,.int .i64 P15.lease.bind,.string P15.lease.client,.int .i64 P15.lease.till,.int .i64 P15.lease.acked,.int .i64 P15.lease.told,.int .i64 P15.lease.at_,.int .i64 P15.lease.ver,.int .i64 P15.pot]) (j := 0) Z Z Engine4_sz45 Z Z Z Z ?_
         refine Run.heapTo (H' := [[(b3,.cells (An.cells P15 (.slice pg15 P15.reply.hw.length cg15) (.slice pk15 nk15 ck15)) 45 (0,0))],[(b2,.cells (Pc.cells p (.slice ph p.hw.length ch) (.slice po9 no9 co9)) 28 (0,0))],[(b1,.cells (Si.cells x (.slice pp x.pool.length cp)) 35 (0,0))],s]) Z ?_
         refine Ze<|Zg<|Zu<|Zk<|Zn<|?_
         exact Ex.retCell [3] rfl rfl Engine4_ag45 (Kn.at 0 rfl) rfl ⟨hVle,rfl,.slice pg15 P15.reply.hw.length cg15,.slice pk15 nk15 ck15,by rw [hqe.trans (Eg.ans_3 (show Pc.kind p = 3 by omega)),hP15]; rfl,by rw [hqe.trans (Eg.ans_3 (show Pc.kind p = 3 by omega)),hP15]; exact hRp15⟩
        ·refine Tr.cond_f Z h14<|Zs<|Zr<|Zv (Y.int Z Z Z)<|Za Z<|Ze<|Zg<|?_
         rcases Zsplit ((Pc.kind p) == 4) with ⟨h16,g16⟩ | ⟨h16,g16⟩ <;> try simp only [kb] at g16
         ·refine Tr.cond_t Z h16<|Zs<|Zr<|Zm Z<|Zm Z<|Zm Z<|Zv (Y.makeFunc (l := [.tmp 94]) (l' := []) Z Z)<|Run.call0 (l := [.tmp 92,.tmp 93,.tmp 95]) rfl rfl rfl (lt rfl) (Does.frame1 3 rfl (of_q (q := (Eg.qy x l state now entry p)) (a := p.asked) (fi := 43) (bl := [(pZ b10)]) (fl := []) (f := Eg.Qy.th (Eg.qy x l state now entry p)) hkq hin fun l => theirs_c hkq))<|Zm Z<|Zv (Y.extract Z Z)<|Zv (Y.extract Z Z)<|?_
          refine Run.alloc Engine4_zo43 (lt rfl) (fun b17 => ?_)
          refine Run.store (s := [(b17,.cells ((Le.cells ((Eg.of (Eg.Qy.th (Eg.qy x l state now entry p)) l p.asked).1)).toArray) 43 (0,0))]) Z Z Engine4_sz43 (i := 0) Z Z (le Z) Z Z ?_
          refine Za Z<|Ze<|Zg<|Zs<|Zr<|Zm Z<|Ze<|Zg<|?_
          rcases Zsplit ((Eg.of (Eg.Qy.th (Eg.qy x l state now entry p)) l p.asked).2) with ⟨h18,g18⟩ | ⟨h18,g18⟩ <;> try simp only [kb] at g18
          ·refine Tr.cond_t Z h18<|Zs<|Zr<|Zv (Y.fieldAddr Z Engine4_fo43_0)<|Zv (Y.load Z Engine4_ts24 (Kn.at 0 Z) Z)<|Zv (Y.fieldAddr Z Engine4_fo43_7)<|Zv (Y.load Z Engine4_ts3 (Kn.at 0 Z) Z)<|Run.call0 (l := [.tmp 101,.const (.int .i64 5),.tmp 103]) Z Z Z (lt Z) ((bare_c (a := (Eg.of (Eg.Qy.th (Eg.qy x l state now entry p)) l p.asked).1.addr) (b := 5) (v := (Eg.of (Eg.Qy.th (Eg.qy x l state now entry p)) l p.asked).1.ver)).frame)<|?_
           refine Zv (Y.buildS (l := [(2,.const (.bool true)),(3,.tmp 104)]) (r := [.bool false,.int .i64 0,.int .u32 0,.int .i64 0,.int .i64 0,.int .u32 0,.int .u32 0,.int .u32 0,.int .u32 0,.slice none 0 0,.slice none 0 0,.bool true,.int .u32 ((Le.bare ((Eg.of (Eg.Qy.th (Eg.qy x l state now entry p)) l p.asked).1.addr) 5 ((Eg.of (Eg.Qy.th (Eg.qy x l state now entry p)) l p.asked).1.ver)).addr),.int .i64 ((Le.bare ((Eg.of (Eg.Qy.th (Eg.qy x l state now entry p)) l p.asked).1.addr) 5 ((Eg.of (Eg.Qy.th (Eg.qy x l state now entry p)) l p.asked).1.ver)).bind),.string ((Le.bare ((Eg.of (Eg.Qy.th (Eg.qy x l state now entry p)) l p.asked).1.addr) 5 ((Eg.of (Eg.Qy.th (Eg.qy x l state now entry p)) l p.asked).1.ver)).client),.int .i64 ((Le.bare ((Eg.of (Eg.Qy.th (Eg.qy x l state now entry p)) l p.asked).1.addr) 5 ((Eg.of (Eg.Qy.th (Eg.qy x l state now entry p)) l p.asked).1.ver)).till),.int .i64 ((Le.bare ((Eg.of (Eg.Qy.th (Eg.qy x l state now entry p)) l p.asked).1.addr) 5 ((Eg.of (Eg.Qy.th (Eg.qy x l state now entry p)) l p.asked).1.ver)).acked),.int .i64 ((Le.bare ((Eg.of (Eg.Qy.th (Eg.qy x l state now entry p)) l p.asked).1.addr) 5 ((Eg.of (Eg.Qy.th (Eg.qy x l state now entry p)) l p.asked).1.ver)).told),.int .i64 ((Le.bare ((Eg.of (Eg.Qy.th (Eg.qy x l state now entry p)) l p.asked).1.addr) 5 ((Eg.of (Eg.Qy.th (Eg.qy x l state now entry p)) l p.asked).1.ver)).at_),.int .i64 ((Le.bare ((Eg.of (Eg.Qy.th (Eg.qy x l state now entry p)) l p.asked).1.addr) 5 ((Eg.of (Eg.Qy.th (Eg.qy x l state now entry p)) l p.asked).1.ver)).ver),.int .i64 0]) Engine4_zo45 Engine4_pl45 Z Z) ?_
           refine Run.stAll (l2 := [.bool false,.int .i64 0,.int .u32 0,.int .i64 0,.int .i64 0,.int .u32 0,.int .u32 0,.int .u32 0,.int .u32 0,.slice none 0 0,.slice none 0 0,.bool true,.int .u32 ((Le.bare ((Eg.of (Eg.Qy.th (Eg.qy x l state now entry p)) l p.asked).1.addr) 5 ((Eg.of (Eg.Qy.th (Eg.qy x l state now entry p)) l p.asked).1.ver)).addr),.int .i64 ((Le.bare ((Eg.of (Eg.Qy.th (Eg.qy x l state now entry p)) l p.asked).1.addr) 5 ((Eg.of (Eg.Qy.th (Eg.qy x l state now entry p)) l p.asked).1.ver)).bind),.string ((Le.bare ((Eg.of (Eg.Qy.th (Eg.qy x l state now entry p)) l p.asked).1.addr) 5 ((Eg.of (Eg.Qy.th (Eg.qy x l state now entry p)) l p.asked).1.ver)).client),.int .i64 ((Le.bare ((Eg.of (Eg.Qy.th (Eg.qy x l state now entry p)) l p.asked).1.addr) 5 ((Eg.of (Eg.Qy.th (Eg.qy x l state now entry p)) l p.asked).1.ver)).till),.int .i64 ((Le.bare ((Eg.of (Eg.Qy.th (Eg.qy x l state now entry p)) l p.asked).1.addr) 5 ((Eg.of (Eg.Qy.th (Eg.qy x l state now entry p)) l p.asked).1.ver)).acked),.int .i64 ((Le.bare ((Eg.of (Eg.Qy.th (Eg.qy x l state now entry p)) l p.asked).1.addr) 5 ((Eg.of (Eg.Qy.th (Eg.qy x l state now entry p)) l p.asked).1.ver)).told),.int .i64 ((Le.bare ((Eg.of (Eg.Qy.th (Eg.qy x l state now entry p)) l p.asked).1.addr) 5 ((Eg.of (Eg.Qy.th (Eg.qy x l state now entry p)) l p.asked).1.ver)).at_),.int .i64 ((Le.bare ((Eg.of (Eg.Qy.th (Eg.qy x l state now entry p)) l p.asked).1.addr) 5 ((Eg.of (Eg.Qy.th (Eg.qy x l state now entry p)) l p.asked).1.ver)).ver),.int .i64 0]) (j := 1) Z Z Engine4_sz45 Z Z Z Z ?_
           refine Run.heapTo (H' := [[(b17,.cells ((Le.cells ((Eg.of (Eg.Qy.th (Eg.qy x l state now entry p)) l p.asked).1)).toArray) 43 (0,0))],[(b3,.cells (An.cells ⟨false,Cli.zeroP,true,(Le.bare ((Eg.of (Eg.Qy.th (Eg.qy x l state now entry p)) l p.asked).1.addr) 5 ((Eg.of (Eg.Qy.th (Eg.qy x l state now entry p)) l p.asked).1.ver)),0⟩ (.slice none 0 0) (.slice none 0 0)) 45 (0,0))],[(b2,.cells (Pc.cells p (.slice ph p.hw.length ch) (.slice po9 no9 co9)) 28 (0,0))],[(b1,.cells (Si.cells x (.slice pp x.pool.length cp)) 35 (0,0))],s]) Z ?_
           refine Ze<|Zg<|Zu<|Zk<|Zn<|?_
           exact Ex.retCell [4] rfl rfl Engine4_ag45 (Kn.at 1 rfl) rfl ⟨hVle,rfl,.slice none 0 0,.slice none 0 0,by rw [(hqe.trans (Eg.ans_4 (show Pc.kind p = 4 by omega))).trans (if_pos h18)]; rfl,by rw [(hqe.trans (Eg.ans_4 (show Pc.kind p = 4 by omega))).trans (if_pos h18)]; exact Pc.zero_R _⟩
          ·refine Tr.cond_f Z h18<|Zt<|Zc<|Zg<|Zs<|Zr<|Zv (Y.buildS (l := []) (r := [.bool false,.int .i64 0,.int .u32 0,.int .i64 0,.int .i64 0,.int .u32 0,.int .u32 0,.int .u32 0,.int .u32 0,.slice none 0 0,.slice none 0 0,.bool false,.int .u32 0,.int .i64 0,.string ⟨#[]⟩,.int .i64 0,.int .i64 0,.int .i64 0,.int .i64 0,.int .i64 0,.int .i64 0]) Engine4_zo45 Engine4_pl45 Z Z)<|Run.stAll (l2 := [.bool false,.int .i64 0,.int .u32 0,.int .i64 0,.int .i64 0,.int .u32 0,.int .u32 0,.int .u32 0,.int .u32 0,.slice none 0 0,.slice none 0 0,.bool false,.int .u32 0,.int .i64 0,.string ⟨#[]⟩,.int .i64 0,.int .i64 0,.int .i64 0,.int .i64 0,.int .i64 0,.int .i64 0]) (j := 1) Z Z Engine4_sz45 Z Z Z Z<|?_
           refine Run.heapTo (H' := [[(b17,.cells ((Le.cells ((Eg.of (Eg.Qy.th (Eg.qy x l state now entry p)) l p.asked).1)).toArray) 43 (0,0))],[(b3,.cells an0 45 (0,0))],[(b2,.cells (Pc.cells p (.slice ph p.hw.length ch) (.slice po9 no9 co9)) 28 (0,0))],[(b1,.cells (Si.cells x (.slice pp x.pool.length cp)) 35 (0,0))],s]) Z ?_
           refine Ze<|Zg<|Zu<|?_
           exact Ex.retCell [4] rfl rfl Engine4_ag45 (Kn.at 1 rfl) rfl ⟨hVle,rfl,.slice none 0 0,.slice none 0 0,by rw [(hqe.trans (Eg.ans_4 (show Pc.kind p = 4 by omega))).trans (if_neg (by rw [show (Eg.of (Eg.Qy.th (Eg.qy x l state now entry p)) (Eg.Qy.l (Eg.qy x l state now entry p)) (Eg.Qy.addr (Eg.qy x l state now entry p))).2 = false from h18]; decide))]; rfl,by rw [(hqe.trans (Eg.ans_4 (show Pc.kind p = 4 by omega))).trans (if_neg (by rw [show (Eg.of (Eg.Qy.th (Eg.qy x l state now entry p)) (Eg.Qy.l (Eg.qy x l state now entry p)) (Eg.Qy.addr (Eg.qy x l state now entry p))).2 = false from h18]; decide))]; exact Pc.zero_R _⟩
         ·refine Tr.cond_f Z h16<|Zs<|Zr<|Zv (Y.int Z Z Z)<|Za Z<|Ze<|Zg<|?_
          rcases Zsplit ((Pc.kind p) == 7) with ⟨h19,g19⟩ | ⟨h19,g19⟩ <;> try simp only [kb] at g19
          ·refine Tr.cond_t Z h19<|Zs<|Zr<|Zm Z<|Zv (Y.fieldAddr Z Engine4_fo28_4)<|Zv (Y.load Z Engine4_ts24 (Kn.at 1 Z) Z)<|Zm Z<|Zv (Y.makeFunc (l := [.tmp 112]) (l' := []) Z Z)<|Run.call0 (l := [.tmp 109,.tmp 111,.tmp 113]) rfl rfl rfl (lt rfl) (Does.frame1 3 rfl (of_q (q := (Eg.qy x l state now entry p)) (a := p.ci) (fi := 43) (bl := [(pZ b10)]) (fl := []) (f := Eg.Qy.th (Eg.qy x l state now entry p)) hkq hin fun l => theirs_c hkq))<|?_
           refine Zm Z<|Zv (Y.extract Z Z)<|Zv (Y.extract Z Z)<|?_
           refine Run.alloc Engine4_zo43 (lt rfl) (fun b20 => ?_)
           refine Run.store (s := [(b20,.cells ((Le.cells ((Eg.of (Eg.Qy.th (Eg.qy x l state now entry p)) l p.ci).1)).toArray) 43 (0,0))]) Z Z Engine4_sz43 (i := 0) Z Z (le Z) Z Z ?_
           refine Za Z<|Ze<|Zg<|Zs<|Zr<|Zm Z<|Ze<|Zg<|?_
           rcases Zsplit ((Eg.of (Eg.Qy.th (Eg.qy x l state now entry p)) l p.ci).2) with ⟨h21,g21⟩ | ⟨h21,g21⟩ <;> try simp only [kb] at g21
           ·refine Tr.cond_t Z h21<|Zs<|Zr<|Zm Z<|Zv (Y.fieldAddr Z Engine4_fo43_1)<|Run.store (s := [(b20,.cells #[.int .u32 ((Eg.of (Eg.Qy.th (Eg.qy x l state now entry p)) l p.ci).1.addr),.int .i64 4,.string ((Eg.of (Eg.Qy.th (Eg.qy x l state now entry p)) l p.ci).1.client),.int .i64 ((Eg.of (Eg.Qy.th (Eg.qy x l state now entry p)) l p.ci).1.till),.int .i64 ((Eg.of (Eg.Qy.th (Eg.qy x l state now entry p)) l p.ci).1.acked),.int .i64 ((Eg.of (Eg.Qy.th (Eg.qy x l state now entry p)) l p.ci).1.told),.int .i64 ((Eg.of (Eg.Qy.th (Eg.qy x l state now entry p)) l p.ci).1.at_),.int .i64 ((Eg.of (Eg.Qy.th (Eg.qy x l state now entry p)) l p.ci).1.ver)] 43 (0,0))]) Z Z Engine4_sz3 (i := 0) Z Z (le Z) Z Z<|?_
            refine Zv (Y.fieldAddr Z Engine4_fo43_6)<|Run.store (s := [(b20,.cells #[.int .u32 ((Eg.of (Eg.Qy.th (Eg.qy x l state now entry p)) l p.ci).1.addr),.int .i64 4,.string ((Eg.of (Eg.Qy.th (Eg.qy x l state now entry p)) l p.ci).1.client),.int .i64 ((Eg.of (Eg.Qy.th (Eg.qy x l state now entry p)) l p.ci).1.till),.int .i64 ((Eg.of (Eg.Qy.th (Eg.qy x l state now entry p)) l p.ci).1.acked),.int .i64 ((Eg.of (Eg.Qy.th (Eg.qy x l state now entry p)) l p.ci).1.told),.int .i64 now,.int .i64 ((Eg.of (Eg.Qy.th (Eg.qy x l state now entry p)) l p.ci).1.ver)] 43 (0,0))]) Z Z Engine4_sz3 (i := 0) Z Z (le Z) Z Z<|?_
            refine Ze<|Zg<|Zs<|Zr<|Zv (Y.loadAgg Z Engine4_ag43 (Kn.at 0 Z) Z)<|Zv (Y.buildS (l := [(2,.const (.bool true)),(3,.tmp 121)]) (r := [.bool false,.int .i64 0,.int .u32 0,.int .i64 0,.int .i64 0,.int .u32 0,.int .u32 0,.int .u32 0,.int .u32 0,.slice none 0 0,.slice none 0 0,.bool true,.int .u32 ((Eg.of (Eg.Qy.th (Eg.qy x l state now entry p)) l p.ci).1.addr),.int .i64 4,.string ((Eg.of (Eg.Qy.th (Eg.qy x l state now entry p)) l p.ci).1.client),.int .i64 ((Eg.of (Eg.Qy.th (Eg.qy x l state now entry p)) l p.ci).1.till),.int .i64 ((Eg.of (Eg.Qy.th (Eg.qy x l state now entry p)) l p.ci).1.acked),.int .i64 ((Eg.of (Eg.Qy.th (Eg.qy x l state now entry p)) l p.ci).1.told),.int .i64 now,.int .i64 ((Eg.of (Eg.Qy.th (Eg.qy x l state now entry p)) l p.ci).1.ver),.int .i64 0]) Engine4_zo45 Engine4_pl45 Z Z)<|?_
            refine Run.stAll (l2 := [.bool false,.int .i64 0,.int .u32 0,.int .i64 0,.int .i64 0,.int .u32 0,.int .u32 0,.int .u32 0,.int .u32 0,.slice none 0 0,.slice none 0 0,.bool true,.int .u32 ((Eg.of (Eg.Qy.th (Eg.qy x l state now entry p)) l p.ci).1.addr),.int .i64 4,.string ((Eg.of (Eg.Qy.th (Eg.qy x l state now entry p)) l p.ci).1.client),.int .i64 ((Eg.of (Eg.Qy.th (Eg.qy x l state now entry p)) l p.ci).1.till),.int .i64 ((Eg.of (Eg.Qy.th (Eg.qy x l state now entry p)) l p.ci).1.acked),.int .i64 ((Eg.of (Eg.Qy.th (Eg.qy x l state now entry p)) l p.ci).1.told),.int .i64 now,.int .i64 ((Eg.of (Eg.Qy.th (Eg.qy x l state now entry p)) l p.ci).1.ver),.int .i64 0]) (j := 1) Z Z Engine4_sz45 Z Z Z Z ?_
            refine Run.heapTo (H' := [[(b20,.cells #[.int .u32 ((Eg.of (Eg.Qy.th (Eg.qy x l state now entry p)) l p.ci).1.addr),.int .i64 4,.string ((Eg.of (Eg.Qy.th (Eg.qy x l state now entry p)) l p.ci).1.client),.int .i64 ((Eg.of (Eg.Qy.th (Eg.qy x l state now entry p)) l p.ci).1.till),.int .i64 ((Eg.of (Eg.Qy.th (Eg.qy x l state now entry p)) l p.ci).1.acked),.int .i64 ((Eg.of (Eg.Qy.th (Eg.qy x l state now entry p)) l p.ci).1.told),.int .i64 now,.int .i64 ((Eg.of (Eg.Qy.th (Eg.qy x l state now entry p)) l p.ci).1.ver)] 43 (0,0))],[(b3,.cells #[.bool false,.int .i64 0,.int .u32 0,.int .i64 0,.int .i64 0,.int .u32 0,.int .u32 0,.int .u32 0,.int .u32 0,.slice none 0 0,.slice none 0 0,.bool true,.int .u32 ((Eg.of (Eg.Qy.th (Eg.qy x l state now entry p)) l p.ci).1.addr),.int .i64 4,.string ((Eg.of (Eg.Qy.th (Eg.qy x l state now entry p)) l p.ci).1.client),.int .i64 ((Eg.of (Eg.Qy.th (Eg.qy x l state now entry p)) l p.ci).1.till),.int .i64 ((Eg.of (Eg.Qy.th (Eg.qy x l state now entry p)) l p.ci).1.acked),.int .i64 ((Eg.of (Eg.Qy.th (Eg.qy x l state now entry p)) l p.ci).1.told),.int .i64 now,.int .i64 ((Eg.of (Eg.Qy.th (Eg.qy x l state now entry p)) l p.ci).1.ver),.int .i64 0] 45 (0,0))],[(b2,.cells (Pc.cells p (.slice ph p.hw.length ch) (.slice po9 no9 co9)) 28 (0,0))],[(b1,.cells (Si.cells x (.slice pp x.pool.length cp)) 35 (0,0))],s]) Z ?_
            refine Ze<|Zg<|Zu<|Zk<|Zn<|?_
            exact Ex.retCell [4] rfl rfl Engine4_ag45 (Kn.at 1 rfl) rfl ⟨hVle,rfl,.slice none 0 0,.slice none 0 0,by rw [(hqe.trans (Eg.ans_7 (show Pc.kind p = 7 by omega))).trans (if_pos h21)]; rfl,by rw [(hqe.trans (Eg.ans_7 (show Pc.kind p = 7 by omega))).trans (if_pos h21)]; exact Pc.zero_R _⟩
           ·refine Tr.cond_f Z h21<|Zt<|Zc<|Zg<|Zs<|Zr<|Zv (Y.buildS (l := []) (r := [.bool false,.int .i64 0,.int .u32 0,.int .i64 0,.int .i64 0,.int .u32 0,.int .u32 0,.int .u32 0,.int .u32 0,.slice none 0 0,.slice none 0 0,.bool false,.int .u32 0,.int .i64 0,.string ⟨#[]⟩,.int .i64 0,.int .i64 0,.int .i64 0,.int .i64 0,.int .i64 0,.int .i64 0]) Engine4_zo45 Engine4_pl45 Z Z)<|Run.stAll (l2 := [.bool false,.int .i64 0,.int .u32 0,.int .i64 0,.int .i64 0,.int .u32 0,.int .u32 0,.int .u32 0,.int .u32 0,.slice none 0 0,.slice none 0 0,.bool false,.int .u32 0,.int .i64 0,.string ⟨#[]⟩,.int .i64 0,.int .i64 0,.int .i64 0,.int .i64 0,.int .i64 0,.int .i64 0]) (j := 1) Z Z Engine4_sz45 Z Z Z Z<|?_
            refine Run.heapTo (H' := [[(b20,.cells ((Le.cells ((Eg.of (Eg.Qy.th (Eg.qy x l state now entry p)) l p.ci).1)).toArray) 43 (0,0))],[(b3,.cells an0 45 (0,0))],[(b2,.cells (Pc.cells p (.slice ph p.hw.length ch) (.slice po9 no9 co9)) 28 (0,0))],[(b1,.cells (Si.cells x (.slice pp x.pool.length cp)) 35 (0,0))],s]) Z ?_
            refine Ze<|Zg<|Zu<|?_
            exact Ex.retCell [4] rfl rfl Engine4_ag45 (Kn.at 1 rfl) rfl ⟨hVle,rfl,.slice none 0 0,.slice none 0 0,by rw [(hqe.trans (Eg.ans_7 (show Pc.kind p = 7 by omega))).trans (if_neg (by rw [show (Eg.of (Eg.Qy.th (Eg.qy x l state now entry p)) (Eg.Qy.l (Eg.qy x l state now entry p)) ((Eg.Qy.p (Eg.qy x l state now entry p)).ci)).2 = false from h21]; decide))]; rfl,by rw [(hqe.trans (Eg.ans_7 (show Pc.kind p = 7 by omega))).trans (if_neg (by rw [show (Eg.of (Eg.Qy.th (Eg.qy x l state now entry p)) (Eg.Qy.l (Eg.qy x l state now entry p)) ((Eg.Qy.p (Eg.qy x l state now entry p)).ci)).2 = false from h21]; decide))]; exact Pc.zero_R _⟩
          ·refine Tr.cond_f Z h19<|Zs<|Zr<|Zv (Y.int Z Z Z)<|Za Z<|Ze<|Zg<|?_
           rcases Zsplit ((Pc.kind p) == 8) with ⟨h22,g22⟩ | ⟨h22,g22⟩ <;> try simp only [kb] at g22
           ·refine Tr.cond_t Z h22<|Zs<|Zr<|Zm Z<|?_
            have hok := hok2
            refine Run.call [] (l := [.tmp 125,.const (.int .i64 5)]) rfl rfl rfl (lt rfl) (reply_q (q := (Eg.qy x l state now entry p)) (kind := 5) hkq hok) (fun v23 V23 H23 hle23 hR23 => ?_)
            obtain ⟨_,hv23,L23,po23,k23,so23,rfl,rfl,ho23,hr23,hm23,hh23⟩ := hR23
            obtain ⟨W23,hVe⟩ : ∃ Vz : Vw,Vz = V23 := ⟨_,rfl⟩; subst hVe
            replace hkq := hkq.le hle23
            replace hok2 := hok2.le hle23
            replace hp := hp.le hle23
            replace hok := hok.le hle23
            replace hVle := Vw.le_trans hVle hle23
            obtain ⟨ph23,ch23,rfl,_⟩ := hh23.form
            refine Run.heapTo (H' := [[(b3,.cells an0 45 (0,0))],[(b2,.cells (Pc.cells p (.slice ph p.hw.length ch) (.slice po9 no9 co9)) 28 (0,0))],[(b1,.cells (Si.cells x (.slice pp x.pool.length cp)) 35 (0,0))],s,so23]) Z ?_
            generalize hP23 : Eg.rep ((Eg.qy x l state now entry p)).x ((Eg.qy x l state now entry p)).p 5 = P23 at hm23 hh23 ⊢
            refine Run.heapTo (H' := [[(b3,.cells an0 45 (0,0))],[(b2,.cells (Pc.cells p (.slice ph p.hw.length ch) (.slice po9 no9 co9)) 28 (0,0))],[(b1,.cells (Si.cells x (.slice pp x.pool.length cp)) 35 (0,0))],s,so23]) Z ?_
            refine Zv (Y.buildS (l := [(0,.const (.bool true)),(1,.tmp 126)]) (r := [.bool true,.int .i64 P23.op,.int .u32 P23.xid,.int .i64 P23.secs,.int .i64 P23.flags,.int .u32 P23.ci,.int .u32 P23.yi,.int .u32 P23.si,.int .u32 P23.gi,.slice ph23 p.hw.length ch23,.slice po23 L23.length k23,.bool false,.int .u32 0,.int .i64 0,.string ⟨#[]⟩,.int .i64 0,.int .i64 0,.int .i64 0,.int .i64 0,.int .i64 0,.int .i64 0]) Engine4_zo45 Engine4_pl45 Z Z) ?_
            refine Run.stAll (l2 := [.bool true,.int .i64 P23.op,.int .u32 P23.xid,.int .i64 P23.secs,.int .i64 P23.flags,.int .u32 P23.ci,.int .u32 P23.yi,.int .u32 P23.si,.int .u32 P23.gi,.slice ph23 p.hw.length ch23,.slice po23 L23.length k23,.bool false,.int .u32 0,.int .i64 0,.string ⟨#[]⟩,.int .i64 0,.int .i64 0,.int .i64 0,.int .i64 0,.int .i64 0,.int .i64 0]) (j := 0) Z Z Engine4_sz45 Z Z Z Z ?_
            refine Run.heapTo (H' := [[(b3,.cells (An.cells ⟨true,P23,false,Le.dflt,0⟩ (.slice ph23 p.hw.length ch23) (.slice po23 L23.length k23)) 45 (0,0))],[(b2,.cells (Pc.cells p (.slice ph p.hw.length ch) (.slice po9 no9 co9)) 28 (0,0))],[(b1,.cells (Si.cells x (.slice pp x.pool.length cp)) 35 (0,0))],s,so23]) Z ?_
            refine Ze<|Zg<|Zu<|Zk<|Zn<|Ex.keepTo (H' := [so23,[(b3,.cells (An.cells ⟨true,P23,false,Le.dflt,0⟩ (.slice ph23 p.hw.length ch23) (.slice po23 L23.length k23)) 45 (0,0))],[(b2,.cells (Pc.cells p (.slice ph p.hw.length ch) (.slice po9 no9 co9)) 28 (0,0))],[(b1,.cells (Si.cells x (.slice pp x.pool.length cp)) 35 (0,0))],s]) [4,0,0,0,0] Z<|?_
            refine Ex.show (fun V24 hleV24 hshV24 => ?_)
            have hso := ho23.shows _ hshV24
            replace hkq := hkq.le hleV24
            replace hok2 := hok2.le hleV24
            replace hp := hp.le hleV24
            replace hok := hok.le hleV24
            replace hr23 := hr23.le hleV24
            replace hh23 := hh23.le hleV24
            replace hVle := Vw.le_trans hVle hleV24
            exact Ex.retCell [3] rfl rfl Engine4_ag45 (Kn.at 0 rfl) rfl ⟨hVle,rfl,.slice ph23 p.hw.length ch23,.slice po23 L23.length k23,by rw [hqe.trans (Eg.ans_8 (show Pc.kind p = 8 by omega)),hP23]; rfl,by rw [hqe.trans (Eg.ans_8 (show Pc.kind p = 8 by omega)),hP23]; exact ⟨(by rw [← hP23]; exact hh23),Pc.rs_of hso hr23 hm23,by rw [← hP23]; exact hok2.xid,by rw [← hP23]; exact ⟨Int.le_refl 0,(by decide : (0 : Int) ≤ 4294967295)⟩,by rw [← hP23]; exact hok2.sv⟩⟩
           ·refine Tr.cond_f Z h22<|Zt<|Zc<|Zg<|Zs<|Zr<|Zv (Y.buildS (l := []) (r := [.bool false,.int .i64 0,.int .u32 0,.int .i64 0,.int .i64 0,.int .u32 0,.int .u32 0,.int .u32 0,.int .u32 0,.slice none 0 0,.slice none 0 0,.bool false,.int .u32 0,.int .i64 0,.string ⟨#[]⟩,.int .i64 0,.int .i64 0,.int .i64 0,.int .i64 0,.int .i64 0,.int .i64 0]) Engine4_zo45 Engine4_pl45 Z Z)<|Run.stAll (l2 := [.bool false,.int .i64 0,.int .u32 0,.int .i64 0,.int .i64 0,.int .u32 0,.int .u32 0,.int .u32 0,.int .u32 0,.slice none 0 0,.slice none 0 0,.bool false,.int .u32 0,.int .i64 0,.string ⟨#[]⟩,.int .i64 0,.int .i64 0,.int .i64 0,.int .i64 0,.int .i64 0,.int .i64 0]) (j := 0) Z Z Engine4_sz45 Z Z Z Z<|?_
            refine Run.heapTo (H' := [[(b3,.cells an0 45 (0,0))],[(b2,.cells (Pc.cells p (.slice ph p.hw.length ch) (.slice po9 no9 co9)) 28 (0,0))],[(b1,.cells (Si.cells x (.slice pp x.pool.length cp)) 35 (0,0))],s]) Z ?_
            refine Ze<|Zg<|Zu<|?_
            exact Ex.retCell [3] rfl rfl Engine4_ag45 (Kn.at 0 rfl) rfl ⟨hVle,rfl,.slice none 0 0,.slice none 0 0,by rw [hqe.trans (Eg.ans_0 (show ¬ Pc.kind p = 1 by omega) (show ¬ Pc.kind p = 3 by omega) (show ¬ Pc.kind p = 4 by omega) (show ¬ Pc.kind p = 7 by omega) (show ¬ Pc.kind p = 8 by omega))]; rfl,by rw [hqe.trans (Eg.ans_0 (show ¬ Pc.kind p = 1 by omega) (show ¬ Pc.kind p = 3 by omega) (show ¬ Pc.kind p = 4 by omega) (show ¬ Pc.kind p = 7 by omega) (show ¬ Pc.kind p = 8 by omega))]; exact Pc.zero_R _⟩
    ·refine Zo (congrArg Bool.not h7) Z<|Zo (congrArg Bool.not h7) Z<|Zo (congrArg Bool.not h7) Z<|Zv (Y.pick_t Z (congrArg Bool.not h7) Z)<|Ze<|Zg<|Tr.cond_t Z Z<|Zs<|Zr<|Zv (Y.buildS (l := []) (r := [.bool false,.int .i64 0,.int .u32 0,.int .i64 0,.int .i64 0,.int .u32 0,.int .u32 0,.int .u32 0,.int .u32 0,.slice none 0 0,.slice none 0 0,.bool false,.int .u32 0,.int .i64 0,.string ⟨#[]⟩,.int .i64 0,.int .i64 0,.int .i64 0,.int .i64 0,.int .i64 0,.int .i64 0]) Engine4_zo45 Engine4_pl45 Z Z)<|?_
     refine Run.stAll (l2 := [.bool false,.int .i64 0,.int .u32 0,.int .i64 0,.int .i64 0,.int .u32 0,.int .u32 0,.int .u32 0,.int .u32 0,.slice none 0 0,.slice none 0 0,.bool false,.int .u32 0,.int .i64 0,.string ⟨#[]⟩,.int .i64 0,.int .i64 0,.int .i64 0,.int .i64 0,.int .i64 0,.int .i64 0]) (j := 0) Z Z Engine4_sz45 Z Z Z Z<|Run.heapTo (H' := [[(b3,.cells an0 45 (0,0))],[(b2,.cells (Pc.cells p (.slice ph p.hw.length ch) (.slice po9 no9 co9)) 28 (0,0))],[(b1,.cells (Si.cells x (.slice pp x.pool.length cp)) 35 (0,0))],s]) Z<|?_
     refine Ze<|Zg<|Zu<|Zn<|?_
     exact Ex.retCell [3] rfl rfl Engine4_ag45 (Kn.at 0 rfl) rfl ⟨hVle,rfl,.slice none 0 0,.slice none 0 0,by rw [Eg.ans_no (Eg.fits_n (.inr (.inr (.inr (.inl h7)))))]; rfl,by rw [Eg.ans_no (Eg.fits_n (.inr (.inr (.inr (.inl h7)))))]; exact Pc.zero_R _⟩
   ·refine Zo (congrArg Bool.not h6) Z<|Zo (congrArg Bool.not h6) Z<|Zo (congrArg Bool.not h6) Z<|Zv (Y.pick_t Z (congrArg Bool.not h6) Z)<|Zm Z<|Zo Z Z<|Zo Z Z<|Zo Z Z<|Zv (Y.pick_t Z Z Z)<|Ze<|Zg<|Tr.cond_t Z Z<|Zs<|Zr<|Zv (Y.buildS (l := []) (r := [.bool false,.int .i64 0,.int .u32 0,.int .i64 0,.int .i64 0,.int .u32 0,.int .u32 0,.int .u32 0,.int .u32 0,.slice none 0 0,.slice none 0 0,.bool false,.int .u32 0,.int .i64 0,.string ⟨#[]⟩,.int .i64 0,.int .i64 0,.int .i64 0,.int .i64 0,.int .i64 0,.int .i64 0]) Engine4_zo45 Engine4_pl45 Z Z)<|?_
    refine Run.stAll (l2 := [.bool false,.int .i64 0,.int .u32 0,.int .i64 0,.int .i64 0,.int .u32 0,.int .u32 0,.int .u32 0,.int .u32 0,.slice none 0 0,.slice none 0 0,.bool false,.int .u32 0,.int .i64 0,.string ⟨#[]⟩,.int .i64 0,.int .i64 0,.int .i64 0,.int .i64 0,.int .i64 0,.int .i64 0]) (j := 0) Z Z Engine4_sz45 Z Z Z Z<|Run.heapTo (H' := [[(b3,.cells an0 45 (0,0))],[(b2,.cells (Pc.cells p (.slice ph p.hw.length ch) (.slice po9 no9 co9)) 28 (0,0))],[(b1,.cells (Si.cells x (.slice pp x.pool.length cp)) 35 (0,0))],s]) Z<|?_
    refine Ze<|Zg<|Zu<|Zn<|?_
    exact Ex.retCell [3] rfl rfl Engine4_ag45 (Kn.at 0 rfl) rfl ⟨hVle,rfl,.slice none 0 0,.slice none 0 0,by rw [Eg.ans_no (Eg.fits_n (.inr (.inr (.inl h6))))]; rfl,by rw [Eg.ans_no (Eg.fits_n (.inr (.inr (.inl h6))))]; exact Pc.zero_R _⟩
  ·refine Zo (congrArg Bool.not h5) Z<|Zo (congrArg Bool.not h5) Z<|Zo (congrArg Bool.not h5) Z<|Zv (Y.pick_t Z (congrArg Bool.not h5) Z)<|Zm Z<|Zo Z Z<|Zo Z Z<|Zo Z Z<|Zv (Y.pick_t Z Z Z)<|Zm Z<|Zo Z Z<|Zo Z Z<|Zo Z Z<|Zv (Y.pick_t Z Z Z)<|Ze<|Zg<|?_
   refine Tr.cond_t Z Z<|Zs<|Zr<|Zv (Y.buildS (l := []) (r := [.bool false,.int .i64 0,.int .u32 0,.int .i64 0,.int .i64 0,.int .u32 0,.int .u32 0,.int .u32 0,.int .u32 0,.slice none 0 0,.slice none 0 0,.bool false,.int .u32 0,.int .i64 0,.string ⟨#[]⟩,.int .i64 0,.int .i64 0,.int .i64 0,.int .i64 0,.int .i64 0,.int .i64 0]) Engine4_zo45 Engine4_pl45 Z Z)<|Run.stAll (l2 := [.bool false,.int .i64 0,.int .u32 0,.int .i64 0,.int .i64 0,.int .u32 0,.int .u32 0,.int .u32 0,.int .u32 0,.slice none 0 0,.slice none 0 0,.bool false,.int .u32 0,.int .i64 0,.string ⟨#[]⟩,.int .i64 0,.int .i64 0,.int .i64 0,.int .i64 0,.int .i64 0,.int .i64 0]) (j := 0) Z Z Engine4_sz45 Z Z Z Z<|?_
   refine Run.heapTo (H' := [[(b3,.cells an0 45 (0,0))],[(b2,.cells (Pc.cells p (.slice ph p.hw.length ch) (.slice po9 no9 co9)) 28 (0,0))],[(b1,.cells (Si.cells x (.slice pp x.pool.length cp)) 35 (0,0))],s]) Z ?_
   refine Ze<|Zg<|Zu<|Zn<|?_
   exact Ex.retCell [3] rfl rfl Engine4_ag45 (Kn.at 0 rfl) rfl ⟨hVle,rfl,.slice none 0 0,.slice none 0 0,by rw [Eg.ans_no (Eg.fits_n (.inr (.inl h5)))]; rfl,by rw [Eg.ans_no (Eg.fits_n (.inr (.inl h5)))]; exact Pc.zero_R _⟩
 ·refine Zo (congrArg Bool.not h4) Z<|Zo (congrArg Bool.not h4) Z<|Zv (Y.pick_t Z (congrArg Bool.not h4) Z)<|Zm Z<|Zo Z Z<|Zo Z Z<|Zo Z Z<|Zv (Y.pick_t Z Z Z)<|Zm Z<|Zo Z Z<|Zo Z Z<|Zo Z Z<|Zv (Y.pick_t Z Z Z)<|Zm Z<|Zo Z Z<|Zo Z Z<|?_
  refine Zo Z Z<|Zv (Y.pick_t Z Z Z)<|Zm Z<|Zo Z Z<|Zo Z Z<|Zo Z Z<|Zv (Y.pick_t Z Z Z)<|Ze<|Zg<|Tr.cond_t Z Z<|Zs<|Zr<|Zv (Y.buildS (l := []) (r := [.bool false,.int .i64 0,.int .u32 0,.int .i64 0,.int .i64 0,.int .u32 0,.int .u32 0,.int .u32 0,.int .u32 0,.slice none 0 0,.slice none 0 0,.bool false,.int .u32 0,.int .i64 0,.string ⟨#[]⟩,.int .i64 0,.int .i64 0,.int .i64 0,.int .i64 0,.int .i64 0,.int .i64 0]) Engine4_zo45 Engine4_pl45 Z Z)<|?_
  refine Run.stAll (l2 := [.bool false,.int .i64 0,.int .u32 0,.int .i64 0,.int .i64 0,.int .u32 0,.int .u32 0,.int .u32 0,.int .u32 0,.slice none 0 0,.slice none 0 0,.bool false,.int .u32 0,.int .i64 0,.string ⟨#[]⟩,.int .i64 0,.int .i64 0,.int .i64 0,.int .i64 0,.int .i64 0,.int .i64 0]) (j := 0) Z Z Engine4_sz45 Z Z Z Z<|Run.heapTo (H' := [[(b3,.cells an0 45 (0,0))],[(b2,.cells (Pc.cells p (.slice ph p.hw.length ch) (.slice po9 no9 co9)) 28 (0,0))],[(b1,.cells (Si.cells x (.slice pp x.pool.length cp)) 35 (0,0))],s]) Z<|?_
  refine Ze<|Zg<|Zu<|Zn<|?_
  exact Ex.retCell [3] rfl rfl Engine4_ag45 (Kn.at 0 rfl) rfl ⟨hVle,rfl,.slice none 0 0,.slice none 0 0,by rw [Eg.ans_no (Eg.fits_n (.inl h4))]; rfl,by rw [Eg.ans_no (Eg.fits_n (.inl h4))]; exact Pc.zero_R _⟩
set_option maxHeartbeats 2000000 in
theorem answer_n {V : Vw} {x : Si} {pv : Value} (hv : Rd V [] 2 pv x.pool.length (x.pool.flatMap Rg.cells)) (hlm : x.pool.length ≤ 1000) (hok : Rg.Oks x.pool) {p : Pc} {hv0 ov0 : Value} (hp : Pc.R V p hv0 ov0) (hfew : p.few = true) (hci : 0 ≤ p.ci ∧ p.ci ≤ 4294967295) (hsv : 0 ≤ x.server ∧ x.server ≤ 4294967295) {state now entry : Int} {l : List Le} (hbad : ¬ (Rg.pool x.pool).2 = 0)  : Does Tryz.prog 13 [.agg (x.cells pv),.pointer none,.int .i64 state,.int .i64 now,.int .i64 entry,.agg (p.cells hv0 ov0)] V [] (fun u V' H' => V.le V' ∧ H' = [] ∧ ∃ hv' ov',u = .agg ((Eg.ans x l state now entry p).cells hv' ov') ∧ Pc.R V' (Eg.ans x l state now entry p).reply hv' ov') := by
 obtain ⟨⟨ph,ch,rfl⟩,po9,no9,co9,rfl⟩ := hp.forms
 obtain ⟨pp,cp,rfl,_⟩ := hv.form
 have hVle : V.le V := Vw.le_refl V
 refine Does.intro Tryz.func13 rfl rfl (le rfl) (fun B => ?_)
 refine Zs<|Zr<|?_
 refine Run.box rfl (lt rfl) (fun b1 => ?_)
 refine Run.box rfl (lt rfl) (fun b2 => ?_)
 refine Run.alloc Engine4_zo45 (lt rfl) (fun b3 => ?_)
 refine Ze<|Zg<|Zs<|Zs<|Zr<|Zv (Y.loadAgg Z Engine4_ag35 (Kn.at 2 Z) Z)<|Run.call0 (l := [.tmp 20]) Z Z Z (lt Z) (eright_h (x := x) hv hlm hok)<|Zv (Y.not Z)<|Zm Z<|?_
 rcases Zsplit (x.right) with ⟨h4,g4⟩ | ⟨h4,g4⟩ <;> try simp only [kb] at g4
 ·refine Zp (congrArg Bool.not h4)<|Zm Z<|Zp (congrArg Bool.not h4)<|Zv (Y.eqNil Z Z Engine4_pt38)<|Zv (Y.pick_f Z (congrArg Bool.not h4) Z)<|Zm Z<|Zo Z Z<|Zo Z Z<|Zo Z Z<|Zv (Y.pick_t Z Z Z)<|Zm Z<|Zo Z Z<|Zo Z Z<|Zo Z Z<|Zv (Y.pick_t Z Z Z)<|Zm Z<|?_
  refine Zo Z Z<|Zo Z Z<|Zo Z Z<|Zv (Y.pick_t Z Z Z)<|Zm Z<|Zo Z Z<|Zo Z Z<|Zo Z Z<|Zv (Y.pick_t Z Z Z)<|Ze<|Zg<|Tr.cond_t Z Z<|Zs<|Zr<|Zv (Y.buildS (l := []) (r := [.bool false,.int .i64 0,.int .u32 0,.int .i64 0,.int .i64 0,.int .u32 0,.int .u32 0,.int .u32 0,.int .u32 0,.slice none 0 0,.slice none 0 0,.bool false,.int .u32 0,.int .i64 0,.string ⟨#[]⟩,.int .i64 0,.int .i64 0,.int .i64 0,.int .i64 0,.int .i64 0,.int .i64 0]) Engine4_zo45 Engine4_pl45 Z Z)<|?_
  refine Run.stAll (l2 := [.bool false,.int .i64 0,.int .u32 0,.int .i64 0,.int .i64 0,.int .u32 0,.int .u32 0,.int .u32 0,.int .u32 0,.slice none 0 0,.slice none 0 0,.bool false,.int .u32 0,.int .i64 0,.string ⟨#[]⟩,.int .i64 0,.int .i64 0,.int .i64 0,.int .i64 0,.int .i64 0,.int .i64 0]) (j := 0) Z Z Engine4_sz45 Z Z Z Z<|Run.heapTo (H' := [[(b3,.cells an0 45 (0,0))],[(b2,.cells (Pc.cells p (.slice ph p.hw.length ch) (.slice po9 no9 co9)) 28 (0,0))],[(b1,.cells (Si.cells x (.slice pp x.pool.length cp)) 35 (0,0))]]) Z<|?_
  refine Ze<|Zg<|Zu<|Zn<|?_
  exact Ex.retCell [] rfl rfl Engine4_ag45 (Kn.at 0 rfl) rfl (by exfalso; exact hbad (Si.right_t.1 h4).1)
 ·refine Zo (congrArg Bool.not h4) Z<|Zo (congrArg Bool.not h4) Z<|Zv (Y.pick_t Z (congrArg Bool.not h4) Z)<|Zm Z<|Zo Z Z<|Zo Z Z<|Zo Z Z<|Zv (Y.pick_t Z Z Z)<|Zm Z<|Zo Z Z<|Zo Z Z<|Zo Z Z<|Zv (Y.pick_t Z Z Z)<|Zm Z<|Zo Z Z<|Zo Z Z<|?_
  refine Zo Z Z<|Zv (Y.pick_t Z Z Z)<|Zm Z<|Zo Z Z<|Zo Z Z<|Zo Z Z<|Zv (Y.pick_t Z Z Z)<|Ze<|Zg<|Tr.cond_t Z Z<|Zs<|Zr<|Zv (Y.buildS (l := []) (r := [.bool false,.int .i64 0,.int .u32 0,.int .i64 0,.int .i64 0,.int .u32 0,.int .u32 0,.int .u32 0,.int .u32 0,.slice none 0 0,.slice none 0 0,.bool false,.int .u32 0,.int .i64 0,.string ⟨#[]⟩,.int .i64 0,.int .i64 0,.int .i64 0,.int .i64 0,.int .i64 0,.int .i64 0]) Engine4_zo45 Engine4_pl45 Z Z)<|?_
  refine Run.stAll (l2 := [.bool false,.int .i64 0,.int .u32 0,.int .i64 0,.int .i64 0,.int .u32 0,.int .u32 0,.int .u32 0,.int .u32 0,.slice none 0 0,.slice none 0 0,.bool false,.int .u32 0,.int .i64 0,.string ⟨#[]⟩,.int .i64 0,.int .i64 0,.int .i64 0,.int .i64 0,.int .i64 0,.int .i64 0]) (j := 0) Z Z Engine4_sz45 Z Z Z Z<|Run.heapTo (H' := [[(b3,.cells an0 45 (0,0))],[(b2,.cells (Pc.cells p (.slice ph p.hw.length ch) (.slice po9 no9 co9)) 28 (0,0))],[(b1,.cells (Si.cells x (.slice pp x.pool.length cp)) 35 (0,0))]]) Z<|?_
  refine Ze<|Zg<|Zu<|Zn<|?_
  exact Ex.retCell [] rfl rfl Engine4_ag45 (Kn.at 0 rfl) rfl ⟨hVle,rfl,.slice none 0 0,.slice none 0 0,by rw [Eg.ans_no (Eg.fits_n (.inl h4))]; rfl,by rw [Eg.ans_no (Eg.fits_n (.inl h4))]; exact Pc.zero_R _⟩
end Go.Proofs.YtfgblingojgafaaGreat
namespace Go.Proofs.YtfgblingojgafaaGreat
open Go Go.K
attribute [local irreducible] Code.wp wpList Calls wpQuiet
theorem Addr4_es33 : elemS Tryz.prog 33 = some (66,2) := by kernel_rfl
theorem Addr4_mo : Tryz.prog.follows .mixedOrders = true := by kernel_rfl
theorem Addr4_fo66_1 : fieldOff Tryz.prog 66 1 = some 1 := by kernel_rfl
theorem Addr4_ts24 : scal Tryz.prog 24 = true := by kernel_rfl
theorem Addr4_it24_3 : intT Tryz.prog 24 3 = some .i64 := by kernel_rfl
theorem Addr4_fo66_0 : fieldOff Tryz.prog 66 0 = some 0 := by kernel_rfl
theorem Addr4_it3_24 : intT Tryz.prog 3 24 = some .u32 := by kernel_rfl
theorem Addr4_zo66 : zeroOf Tryz.prog 66 = some (.agg #[.int .u32 0,.int .u32 0]) := by kernel_rfl
theorem Addr4_pl66 : placesS Tryz.prog 66 = some [(0,1),(1,1)] := by kernel_rfl
theorem Addr4_zi66 : zeroInfo Tryz.prog 66 = some (2,8,.agg #[.int .u32 0,.int .u32 0]) := by kernel_rfl
theorem rcount_c {V : Vw} {H : Hp} {l : List Rg} {p : Option Addr} {c : Nat} (hv : Rd V H 2 (.slice p l.length c) l.length (l.flatMap Rg.cells)) (hlm : l.length ≤ 1000) (hok : Rg.Oks l)  : Does Tryz.prog 86 [.slice p l.length c] V H (Pv (.int .i64 (Rg.cnt l)) V H) := by
 refine Does.intro Tryz.func86 rfl rfl (le rfl) (fun B => ?_)
 refine Zs<|Zr<|Za Z<|Ze<|Zg<|Zs<|Zr<|Za Z<|Ze<|Zg<|Zs<|Zs<|Zr<|Za Z<|Ze<|Zg<|?_
 refine Zb ?_
 refine ZL (X := Nat) (fun z0 => V) (fun z0 => H) (fun z0 => [(0,.slice p l.length c),(3,.int .i64 (Rg.cnt (l.take z0))),(4,.int .i64 (z0 : Int))]) (fun z0 => z0 ≤ l.length) (fun z0 => l.length - z0) (0 : Nat) (Nat.zero_le _) ?_
 rintro i1 hi
 have hcb := Rg.cnt_bd (hok.take i1)
 rw [List.length_take] at hcb
 have hbd := hok.bd i1
 have hsd : Rg.size (l.getD i1 Rg.dflt) = (l.getD i1 Rg.dflt).high - (l.getD i1 Rg.dflt).low + 1 := rfl
 refine Zs<|Zs<|Zr<|Zm Z<|Zm Z<|Zv (Y.lenSl Z Addr4_es33)<|Zv (Y.int Z Z Z)<|Ze<|Zg<|?_
 rcases Zsplit (decide ((i1 : Int) < ((l.length : Nat) : Int))) with ⟨h1,g1⟩ | ⟨h1,g1⟩ <;> try simp only [kb] at g1
 ·refine Tr.cond_t Z h1<|Zt<|Zg<|Zs<|Zb<|Tr.quiet Addr4_mo WK<|ZM Z<|ZM Z<|ZM Z<|ZV (Y.idxR i1 Z Z Addr4_es33 hv W W)<|ZV (Y.fieldR Z Addr4_fo66_1 hv W)<|ZV (Y.ldR Z Addr4_ts24 hv (flatm_at Rg.len W Rg.dflt WD rfl))<|ZV (Y.conv ((l.getD i1 Rg.dflt).high) rfl Addr4_it24_3 (wrap_i64 W))<|ZV (Y.add Z Z W)<|ZM Z<|ZM Z<|?_
  refine ZV (Y.idxR i1 Z Z Addr4_es33 hv W W)<|ZV (Y.fieldR Z Addr4_fo66_0 hv W)<|ZV (Y.ldR Z Addr4_ts24 hv (flatm_at Rg.len W Rg.dflt WD rfl))<|ZV (Y.conv ((l.getD i1 Rg.dflt).low) rfl Addr4_it24_3 (wrap_i64 W))<|ZV (Y.sub Z Z W)<|ZV (Y.add Z Z W)<|ZA Z<|ZE<|Zc<|Zg<|Zr<|Zm Z<|Zv (Y.add Z Z W)<|Za Z<|Ze<|?_
  have er := Rg.cnt_take (l := l) (i := i1) W
  exact ZR (i1 + 1 : Nat) W W (by repeat (first | exact subB_nil _ | refine subB_cons (by first | rfl | exact congrArg (fun z => some (Value.int _ z)) W | exact congrArg (fun z => some (Value.int _ z)) W) ?_))
 ·refine Tr.cond_f Z h1<|Zx<|Zy<|Zy<|Zi<|Zg<|Zs<|Zr<|Zm Z<|Za Z<|Ze<|Zg<|Zu<|?_
  exact Ex.ret1 rfl rfl  ⟨congrArg (Value.int _) (by rw [List.take_of_length_le W]),rfl,rfl⟩
theorem rat_c {V : Vw} {H : Hp} {l : List Rg} {p : Option Addr} {c : Nat} (hv : Rd V H 2 (.slice p l.length c) l.length (l.flatMap Rg.cells)) (hlm : l.length ≤ 1000) (hok : Rg.Oks l) (hlh : ∀ r,r ∈ l → r.low ≤ r.high) {n : Int} (hn : -9223372036854775808 ≤ n ∧ n ≤ 9223372036854775807)  : Does Tryz.prog 87 [.slice p l.length c,.int .i64 n] V H (Pv (.tuple #[.int .u32 ((Rg.at_ (Rg.adr l) n).1),.int .i64 ((Rg.at_ (Rg.adr l) n).2)]) V H) := by
 refine Does.intro Tryz.func87 rfl rfl (le rfl) (fun B => ?_)
 refine Zs<|Zr<|Za Z<|Za Z<|Ze<|Zg<|Zs<|Zs<|Zr<|Za Z<|Ze<|Zg<|Zb<|?_
 refine ZL (X := Nat) (fun z0 => V) (fun z0 => H) (fun z0 => [(0,.slice p l.length c),(1,.int .i64 (n - (((Rg.adr (l.take z0)).length : Nat) : Int))),(6,.int .i64 (z0 : Int))]) (fun z0 => z0 ≤ l.length ∧ (z0 = 0 ∨ 0 ≤ n - (((Rg.adr (l.take z0)).length : Nat) : Int))) (fun z0 => l.length - z0) (0 : Nat) ⟨Nat.zero_le _,.inl rfl⟩ ?_ (by repeat (first | exact subB_nil _ | refine subB_cons (by first | rfl | exact congrArg (fun z => some (Value.int _ z)) W | exact congrArg (fun z => some (Value.int _ z)) (Int.sub_zero n).symm) ?_))
 rintro i1 ⟨hi,hz⟩
 have hal := Rg.adr_len_le (hok.take i1)
 rw [List.length_take] at hal
 have ha0 : i1 = 0 → (Rg.adr (l.take i1)).length = 0 := fun h => by subst h; rfl
 have hbd := hok.bd i1
 have hsd : Rg.size (l.getD i1 Rg.dflt) = (l.getD i1 Rg.dflt).high - (l.getD i1 Rg.dflt).low + 1 := rfl
 refine Zs<|Zs<|Zr<|Zm Z<|Zm Z<|Zv (Y.lenSl Z Addr4_es33)<|Zv (Y.int Z Z Z)<|Zm Z<|?_
 rcases Zsplit (decide ((i1 : Int) < ((l.length : Nat) : Int))) with ⟨h1,g1⟩ | ⟨h1,g1⟩ <;> try simp only [kb] at g1
 ·refine Zp h1<|Zm Z<|Zp h1<|Zv (Y.int Z Z Z)<|Zv (Y.pick_t Z h1 Z)<|Ze<|Zg<|?_
  rcases Zsplit (decide ((n - (((Rg.adr (l.take i1)).length : Nat) : Int)) ≥ 0)) with ⟨h2,g2⟩ | ⟨h2,g2⟩ <;> try simp only [kb] at g2
  ·refine Tr.cond_t Z h2<|Zt<|Zg<|Zs<|Zb<|Zs<|Tr.quiet Addr4_mo WK<|?_
   have hlo := hlh (l.getD i1 Rg.dflt) (getD_mem' W _)
   refine ZM Z<|ZM Z<|ZV (Y.idxR i1 Z Z Addr4_es33 hv W W)<|ZV (Y.fieldR Z Addr4_fo66_1 hv W)<|ZV (Y.ldR Z Addr4_ts24 hv (flatm_at Rg.len W Rg.dflt WD rfl))<|ZV (Y.conv ((l.getD i1 Rg.dflt).high) rfl Addr4_it24_3 (wrap_i64 W))<|ZM Z<|ZM Z<|ZV (Y.idxR i1 Z Z Addr4_es33 hv W W)<|ZV (Y.fieldR Z Addr4_fo66_0 hv W)<|ZV (Y.ldR Z Addr4_ts24 hv (flatm_at Rg.len W Rg.dflt WD rfl))<|?_
   refine ZV (Y.conv ((l.getD i1 Rg.dflt).low) rfl Addr4_it24_3 (wrap_i64 W))<|ZV (Y.sub Z Z W)<|ZV (Y.add Z Z W)<|ZA Z<|ZE<|Zg<|Zs<|Zs<|Zr<|Zm Z<|Zm Z<|Zv (Y.int Z Z Z)<|Ze<|Zg<|?_
   rcases Zsplit (decide ((n - (((Rg.adr (l.take i1)).length : Nat) : Int)) < ((((l.getD i1 Rg.dflt).high) - ((l.getD i1 Rg.dflt).low)) + 1))) with ⟨h3,g3⟩ | ⟨h3,g3⟩ <;> try simp only [kb] at g3
   ·refine Tr.cond_t Z h3<|Zs<|Zr<|Zm Z<|Zm Z<|Zv (Y.idxR i1 Z Z Addr4_es33 hv W W)<|Zv (Y.fieldR Z Addr4_fo66_0 hv W)<|Zv (Y.ldR Z Addr4_ts24 hv (flatm_at Rg.len W Rg.dflt WD rfl))<|Zm Z<|Zv (Y.conv (n - (((Rg.adr (l.take i1)).length : Nat) : Int)) rfl Addr4_it3_24 (wrap_u32 W))<|Zv (Y.int (r := .int .u32 ((l.getD i1 Rg.dflt).low + (n - (((Rg.adr (l.take i1)).length : Nat) : Int)))) rfl rfl (by simp only [intRes]; rw [wrap_u32 W]))<|?_
    refine Za Z<|Za Z<|Ze<|Zg<|Zu<|Zn<|Zk<|Zn<|Zn<|Zk<|Zn<|?_
    exact Ex.ret2 rfl rfl rfl  ⟨by rw [Rg.at_at2 (l := l) (i := i1) (n := n) W W W],rfl,rfl⟩
   ·refine Tr.cond_f Z h3<|Zt<|Zg<|Zr<|Zm Z<|Zm Z<|Zv (Y.sub Z Z W)<|Za Z<|Ze<|Zc<|Zg<|Zr<|Zm Z<|Zv (Y.add Z Z W)<|Za Z<|Ze<|?_
    have el := Rg.adr_len_take (l := l) (i := i1) W
    exact ZR (i1 + 1 : Nat) ⟨by omega,.inr W⟩ W (by repeat (first | exact subB_nil _ | refine subB_cons (by first | rfl | exact congrArg (fun z => some (Value.int _ z)) W | exact congrArg (fun z => some (Value.int _ z)) (by (try dsimp only); omega)) ?_))
  ·refine Tr.cond_f Z h2<|Zx<|Zy<|Zy<|Zi<|Zg<|Zs<|Zr<|Za Z<|Za Z<|Ze<|Zg<|Zu<|?_
   have hfl : i1 = l.length → (Rg.adr (l.take i1)).length = (Rg.adr l).length := fun h => by rw [h,List.take_length]
   exact Ex.ret2 rfl rfl rfl  ⟨by rw [Rg.at_out (n := n) (by by_cases hq : n < 0; (left; exact hq); (right; have := hfl W; omega))],rfl,rfl⟩
 ·refine Zo h1 Z<|Zo h1 Z<|Zv (Y.pick_f Z h1 Z)<|Ze<|Zg<|Tr.cond_f Z Z<|Zx<|Zy<|Zy<|Zi<|Zg<|Zs<|Zr<|Za Z<|Za Z<|Ze<|?_
  refine Zg<|Zu<|?_
  have hfl : i1 = l.length → (Rg.adr (l.take i1)).length = (Rg.adr l).length := fun h => by rw [h,List.take_length]
  exact Ex.ret2 rfl rfl rfl  ⟨by rw [Rg.at_out (n := n) (by by_cases hq : n < 0; (left; exact hq); (right; have := hfl W; omega))],rfl,rfl⟩
theorem rnext_c {V : Vw} {H : Hp} {l : List Rg} {p : Option Addr} {c : Nat} (hv : Rd V H 2 (.slice p l.length c) l.length (l.flatMap Rg.cells)) (hlm : l.length ≤ 1000) (hok : Rg.Oks l) {a : Int} (ha : 0 ≤ a ∧ a ≤ 4294967296)  : Does Tryz.prog 130 [.slice p l.length c,.int .i64 a] V H (Pv (.int .i64 (Rg.nx l a)) V H) := by
 refine Does.intro Tryz.func130 rfl rfl (le rfl) (fun B => ?_)
 refine Zs<|Zr<|Za Z<|Ze<|Zg<|Zs<|Zr<|Za Z<|Ze<|Zg<|Zs<|Zs<|Zr<|Za Z<|Ze<|Zg<|?_
 refine Zb ?_
 refine ZL (X := Nat) (fun z0 => V) (fun z0 => H) (fun z0 => [(0,.slice p l.length c),(1,.int .i64 a),(5,.int .i64 (Rg.nx (l.take z0) a)),(6,.int .i64 (z0 : Int))]) (fun z0 => z0 ≤ l.length) (fun z0 => l.length - z0) (0 : Nat) (Nat.zero_le _) ?_
 rintro i1 hi
 have hbd := hok.bd i1
 have hsd : Rg.size (l.getD i1 Rg.dflt) = (l.getD i1 Rg.dflt).high - (l.getD i1 Rg.dflt).low + 1 := rfl
 refine Zs<|Zs<|Zr<|Zm Z<|Zm Z<|Zv (Y.lenSl Z Addr4_es33)<|Zv (Y.int Z Z Z)<|Ze<|Zg<|?_
 rcases Zsplit (decide ((i1 : Int) < ((l.length : Nat) : Int))) with ⟨h1,g1⟩ | ⟨h1,g1⟩ <;> try simp only [kb] at g1
 ·refine Tr.cond_t Z h1<|Zt<|Zg<|Zs<|Zb<|Zs<|Zr<|Zm Z<|Zm Z<|Zv (Y.idxR i1 Z Z Addr4_es33 hv W W)<|Zv (Y.fieldR Z Addr4_fo66_0 hv W)<|Zv (Y.ldR Z Addr4_ts24 hv (flatm_at Rg.len W Rg.dflt WD rfl))<|Zv (Y.conv ((l.getD i1 Rg.dflt).low) rfl Addr4_it24_3 (wrap_i64 W))<|Zm Z<|Zv (Y.max2 Z Z)<|Za Z<|?_
  refine Ze<|Zg<|Zs<|Zr<|Zm Z<|Zm Z<|Zm Z<|Zv (Y.idxR i1 Z Z Addr4_es33 hv W W)<|Zv (Y.fieldR Z Addr4_fo66_1 hv W)<|Zv (Y.ldR Z Addr4_ts24 hv (flatm_at Rg.len W Rg.dflt WD rfl))<|Zv (Y.conv ((l.getD i1 Rg.dflt).high) rfl Addr4_it24_3 (wrap_i64 W))<|Zv (Y.int Z Z Z)<|Zm Z<|?_
  rcases Zsplit (decide ((max ((l.getD i1 Rg.dflt).low) a) ≤ ((l.getD i1 Rg.dflt).high))) with ⟨h2,g2⟩ | ⟨h2,g2⟩ <;> try simp only [kb] at g2
  ·refine Zp h2<|Zm Z<|Zp h2<|Zv (Y.int Z Z Z)<|Zp h2<|Zm Z<|?_
   rcases Zsplit (decide ((Rg.nx (l.take i1) a) < 0)) with ⟨h3,g3⟩ | ⟨h3,g3⟩ <;> try simp only [kb] at g3
   ·refine Zo h3 Z<|Zo h3 Z<|Zo h3 Z<|Zp h2<|Zv (Y.pick_t Z h3 Z)<|Zv (Y.pick_t Z h2 Z)<|Ze<|Zg<|Tr.cond_t Z Z<|Zr<|Zm Z<|Za Z<|Ze<|Zc<|Zg<|Zr<|?_
    refine Zm Z<|Zv (Y.add Z Z W)<|Za Z<|Ze<|?_
    have en := Rg.nx_take (l := l) (i := i1) (a := a) W
    rw [Rg.nx_yes W W] at en
    exact ZR (i1 + 1 : Nat) W W (by repeat (first | exact subB_nil _ | refine subB_cons (by first | rfl | exact congrArg (fun z => some (Value.int _ z)) W | exact congrArg (fun z => some (Value.int _ z)) (by (try dsimp only); omega)) ?_))
   ·refine Zp h3<|Zm Z<|Zp h3<|Zm Z<|Zp h3<|Zv (Y.int Z Z Z)<|Zp h2<|Zv (Y.pick_f Z h3 Z)<|Zv (Y.pick_t Z h2 Z)<|Ze<|Zg<|?_
    rcases Zsplit (decide ((max ((l.getD i1 Rg.dflt).low) a) < (Rg.nx (l.take i1) a))) with ⟨h4,g4⟩ | ⟨h4,g4⟩ <;> try simp only [kb] at g4
    ·refine Tr.cond_t Z h4<|Zr<|Zm Z<|Za Z<|Ze<|Zc<|Zg<|Zr<|Zm Z<|Zv (Y.add Z Z W)<|Za Z<|Ze<|?_
     have en := Rg.nx_take (l := l) (i := i1) (a := a) W
     rw [Rg.nx_yes W W] at en
     exact ZR (i1 + 1 : Nat) W W (by repeat (first | exact subB_nil _ | refine subB_cons (by first | rfl | exact congrArg (fun z => some (Value.int _ z)) W | exact congrArg (fun z => some (Value.int _ z)) (by (try dsimp only); omega)) ?_))
    ·refine Tr.cond_f Z h4<|Zt<|Zc<|Zg<|Zr<|Zm Z<|Zv (Y.add Z Z W)<|Za Z<|Ze<|?_
     have en := Rg.nx_take (l := l) (i := i1) (a := a) W
     rw [Rg.nx_no (by first | (left; omega) | (right; omega))] at en
     exact ZR (i1 + 1 : Nat) W W (by repeat (first | exact subB_nil _ | refine subB_cons (by first | rfl | exact congrArg (fun z => some (Value.int _ z)) W | exact congrArg (fun z => some (Value.int _ z)) (by (try dsimp only); omega)) ?_))
  ·refine Zo h2 Z<|Zo h2 Z<|Zo h2 Z<|Run.off_u Z Z Z Z (lt Z)<|Run.off_u Z Z Z Z (lt Z)<|Run.off_u Z Z Z Z (lt Z)<|Zo h2 Z<|Zv (Y.pick_f Z h2 Z)<|Ze<|Zg<|Tr.cond_f Z Z<|Zt<|Zc<|Zg<|Zr<|Zm Z<|?_
   refine Zv (Y.add Z Z W)<|Za Z<|Ze<|?_
   have en := Rg.nx_take (l := l) (i := i1) (a := a) W
   rw [Rg.nx_no (by first | (left; omega) | (right; omega))] at en
   exact ZR (i1 + 1 : Nat) W W (by repeat (first | exact subB_nil _ | refine subB_cons (by first | rfl | exact congrArg (fun z => some (Value.int _ z)) W | exact congrArg (fun z => some (Value.int _ z)) (by (try dsimp only); omega)) ?_))
 ·refine Tr.cond_f Z h1<|Zx<|Zy<|Zy<|Zi<|Zg<|Zs<|Zr<|Zm Z<|Za Z<|Ze<|Zg<|Zu<|?_
  exact Ex.ret1 rfl rfl  ⟨congrArg (Value.int _) (by rw [List.take_of_length_le W]),rfl,rfl⟩
theorem rhas_c {V : Vw} {H : Hp} {l : List Rg} {p : Option Addr} {c : Nat} (hv : Rd V H 2 (.slice p l.length c) l.length (l.flatMap Rg.cells)) (hlm : l.length ≤ 1000) (hok : Rg.Oks l) {a : Int} (ha : 0 ≤ a ∧ a ≤ 4294967296)  : Does Tryz.prog 131 [.slice p l.length c,.int .i64 a] V H (Pv (.bool (Rg.hasB l a)) V H) := by
 refine Does.intro Tryz.func131 rfl rfl (le rfl) (fun B => ?_)
 refine Zs<|Zr<|Za Z<|Ze<|Zg<|Zs<|Zs<|Zr<|Za Z<|Ze<|Zg<|Zb<|?_
 refine ZL (X := Nat) (fun z0 => V) (fun z0 => H) (fun z0 => [(0,.slice p l.length c),(1,.int .i64 a),(5,.int .i64 (z0 : Int))]) (fun z0 => z0 ≤ l.length ∧ ∀ j,j < z0 → ¬ ((l.getD j Rg.dflt).low ≤ a ∧ a ≤ (l.getD j Rg.dflt).high)) (fun z0 => l.length - z0) (0 : Nat) ⟨Nat.zero_le _,fun j hj => absurd hj (Nat.not_lt_zero j)⟩ ?_
 rintro i1 ⟨hi,hno⟩
 have hbd := hok.bd i1
 have hsd : Rg.size (l.getD i1 Rg.dflt) = (l.getD i1 Rg.dflt).high - (l.getD i1 Rg.dflt).low + 1 := rfl
 refine Zs<|Zs<|Zr<|Zm Z<|Zm Z<|Zv (Y.lenSl Z Addr4_es33)<|Zv (Y.int Z Z Z)<|Ze<|Zg<|?_
 rcases Zsplit (decide ((i1 : Int) < ((l.length : Nat) : Int))) with ⟨h1,g1⟩ | ⟨h1,g1⟩ <;> try simp only [kb] at g1
 ·refine Tr.cond_t Z h1<|Zt<|Zg<|Zs<|Zb<|Zs<|Zr<|Zm Z<|Zm Z<|Zm Z<|Zv (Y.idxR i1 Z Z Addr4_es33 hv W W)<|Zv (Y.fieldR Z Addr4_fo66_0 hv W)<|Zv (Y.ldR Z Addr4_ts24 hv (flatm_at Rg.len W Rg.dflt WD rfl))<|Zv (Y.conv ((l.getD i1 Rg.dflt).low) rfl Addr4_it24_3 (wrap_i64 W))<|Zv (Y.int Z Z Z)<|Zm Z<|?_
  rcases Zsplit (decide (a ≥ ((l.getD i1 Rg.dflt).low))) with ⟨h2,g2⟩ | ⟨h2,g2⟩ <;> try simp only [kb] at g2
  ·refine Zp h2<|Zm Z<|Zp h2<|Zm Z<|Zp h2<|Zm Z<|Zp h2<|Zv (Y.idxR i1 Z Z Addr4_es33 hv W W)<|Zp h2<|Zv (Y.fieldR Z Addr4_fo66_1 hv W)<|Zp h2<|Zv (Y.ldR Z Addr4_ts24 hv (flatm_at Rg.len W Rg.dflt WD rfl))<|Zp h2<|Zv (Y.conv ((l.getD i1 Rg.dflt).high) rfl Addr4_it24_3 (wrap_i64 W))<|Zp h2<|Zv (Y.int Z Z Z)<|?_
   refine Zv (Y.pick_t Z h2 Z)<|Ze<|Zg<|?_
   rcases Zsplit (decide (a ≤ ((l.getD i1 Rg.dflt).high))) with ⟨h3,g3⟩ | ⟨h3,g3⟩ <;> try simp only [kb] at g3
   ·refine Tr.cond_t Z h3<|Zs<|Zr<|Za Z<|Ze<|Zg<|Zu<|Zk<|Zn<|Zn<|Zk<|Zn<|?_
    exact Ex.ret1 rfl rfl  ⟨congrArg Value.bool (Rg.hasB_yes (j := i1) W W W).symm,rfl,rfl⟩
   ·refine Tr.cond_f Z h3<|Zt<|Zc<|Zg<|Zr<|Zm Z<|Zv (Y.add Z Z W)<|Za Z<|Ze<|?_
    exact ZR (i1 + 1 : Nat) ⟨by omega,upto_succ hno W⟩ W
  ·refine Zo h2 Z<|Zo h2 Z<|Zo h2 Z<|Zo h2 Z<|Zo h2 Z<|Zo h2 Z<|Zo h2 Z<|Zo h2 Z<|Zv (Y.pick_f Z h2 Z)<|Ze<|Zg<|Tr.cond_f Z Z<|Zt<|Zc<|Zg<|Zr<|?_
   refine Zm Z<|Zv (Y.add Z Z W)<|Za Z<|Ze<|?_
   exact ZR (i1 + 1 : Nat) ⟨by omega,upto_succ hno W⟩ W
 ·refine Tr.cond_f Z h1<|Zx<|Zy<|Zy<|Zi<|Zg<|Zs<|Zr<|Za Z<|Ze<|Zg<|Zu<|?_
  exact Ex.ret1 rfl rfl  ⟨congrArg Value.bool (Rg.hasB_no fun j hj => hno j W).symm,rfl,rfl⟩
theorem rcount_h {V : Vw} {H : Hp} {l : List Rg} {v : Value}  (hv : Rd V H 2 v l.length (l.flatMap Rg.cells)) (hlm : l.length ≤ 1000) (hok : Rg.Oks l) : Does Tryz.prog 86 [v] V H (Pv (.int .i64 (Rg.cnt l)) V H) := by
  obtain ⟨p,c,rfl,_⟩ := hv.form
  exact rcount_c hv hlm hok
theorem rat_h {V : Vw} {H : Hp} {l : List Rg} {v : Value} {n : Int} (hn : -9223372036854775808 ≤ n ∧ n ≤ 9223372036854775807) (hlh : ∀ r,r ∈ l → r.low ≤ r.high) (hv : Rd V H 2 v l.length (l.flatMap Rg.cells)) (hlm : l.length ≤ 1000) (hok : Rg.Oks l) : Does Tryz.prog 87 [v,.int .i64 n] V H (Pv (.tuple #[.int .u32 ((Rg.at_ (Rg.adr l) n).1),.int .i64 ((Rg.at_ (Rg.adr l) n).2)]) V H) := by
  obtain ⟨p,c,rfl,_⟩ := hv.form
  exact rat_c hv hlm hok hlh hn
theorem rnext_h {V : Vw} {H : Hp} {l : List Rg} {v : Value} {a : Int} (ha : 0 ≤ a ∧ a ≤ 4294967296) (hv : Rd V H 2 v l.length (l.flatMap Rg.cells)) (hlm : l.length ≤ 1000) (hok : Rg.Oks l) : Does Tryz.prog 130 [v,.int .i64 a] V H (Pv (.int .i64 (Rg.nx l a)) V H) := by
  obtain ⟨p,c,rfl,_⟩ := hv.form
  exact rnext_c hv hlm hok ha
theorem rhas_h {V : Vw} {H : Hp} {l : List Rg} {v : Value} {a : Int} (ha : 0 ≤ a ∧ a ≤ 4294967296) (hv : Rd V H 2 v l.length (l.flatMap Rg.cells)) (hlm : l.length ≤ 1000) (hok : Rg.Oks l) : Does Tryz.prog 131 [v,.int .i64 a] V H (Pv (.bool (Rg.hasB l a)) V H) := by
  obtain ⟨p,c,rfl,_⟩ := hv.form
  exact rhas_c hv hlm hok ha
theorem rpool_c {V : Vw} {l : List Rg} {p : Option Addr} {c : Nat} (hv : Rd V [] 2 (.slice p l.length c) l.length (l.flatMap Rg.cells)) (hlm : l.length ≤ 1000) (hok : Rg.Oks l)  : Does Tryz.prog 67 [.slice p l.length c] V [] (fun v V' H' => V.le V' ∧ H' = [] ∧ ∃ w,v = .tuple #[w,.int .i64 (Rg.pool l).2] ∧ Rd V' [] 2 w (Rg.pool l).1.length ((Rg.pool l).1.flatMap Rg.cells)) := by
 refine Does.intro Tryz.func67 rfl rfl (le rfl) (fun B => ?_)
 refine Zs<|Zr<|Za Z<|Za Z<|Ze<|Zg<|Zs<|Zs<|Zr<|Za Z<|Ze<|Zg<|Zb<|?_
 refine ZL (X := Nat) (fun z0 => V) (fun z0 => []) (fun z0 => [(0,.slice p l.length c),(4,.int .i64 (z0 : Int))]) (fun z0 => z0 ≤ l.length ∧ ∀ j,j < z0 → ¬ (l.getD j Rg.dflt).high < (l.getD j Rg.dflt).low) (fun z0 => l.length - z0) (0 : Nat) ⟨Nat.zero_le _,fun j hj => absurd hj (Nat.not_lt_zero j)⟩ ?_
 rintro i1 ⟨hi,hno⟩
 have hbd := hok.bd i1
 have hsd : Rg.size (l.getD i1 Rg.dflt) = (l.getD i1 Rg.dflt).high - (l.getD i1 Rg.dflt).low + 1 := rfl
 refine Zs<|Zs<|Zr<|Zm Z<|Zm Z<|Zv (Y.lenSl Z Addr4_es33)<|Zv (Y.int Z Z Z)<|Ze<|Zg<|?_
 rcases Zsplit (decide ((i1 : Int) < ((l.length : Nat) : Int))) with ⟨h1,g1⟩ | ⟨h1,g1⟩ <;> try simp only [kb] at g1
 ·refine Tr.cond_t Z h1<|Zt<|Zg<|Zs<|Zb<|Zs<|Tr.quiet Addr4_mo WK<|ZM Z<|ZM Z<|ZV (Y.idxR i1 Z Z Addr4_es33 hv.of_nil W W)<|ZV (Y.fieldR Z Addr4_fo66_1 hv.of_nil W)<|ZV (Y.ldR Z Addr4_ts24 hv.of_nil (flatm_at Rg.len W Rg.dflt WD rfl))<|ZM Z<|ZM Z<|ZV (Y.idxR i1 Z Z Addr4_es33 hv.of_nil W W)<|ZV (Y.fieldR Z Addr4_fo66_0 hv.of_nil W)<|?_
  refine ZV (Y.ldR Z Addr4_ts24 hv.of_nil (flatm_at Rg.len W Rg.dflt WD rfl))<|ZV (Y.int Z Z Z)<|ZE<|Zg<|?_
  rcases Zsplit (decide (((l.getD i1 Rg.dflt).high) < ((l.getD i1 Rg.dflt).low))) with ⟨h2,g2⟩ | ⟨h2,g2⟩ <;> try simp only [kb] at g2
  ·refine Tr.cond_t Z h2<|Zs<|Zr<|Za Z<|Za Z<|Ze<|Zg<|Zu<|Zk<|Zn<|Zn<|Zk<|Zn<|Ex.keep []<|?_
   exact Ex.ret2 rfl rfl rfl  ⟨Vw.le_refl _,rfl,_,by rw [Rg.pool_odd (Rg.odd_at (l := l) (i := i1) W W)],by rw [Rg.pool_odd (Rg.odd_at (l := l) (i := i1) W W)]; exact Rd.nil _ _ _⟩
  ·refine Tr.cond_f Z h2<|Zt<|Zc<|Zg<|Zr<|Zm Z<|Zv (Y.add Z Z W)<|Za Z<|Ze<|?_
   exact ZR (i1 + 1 : Nat) ⟨by omega,upto_succ hno W⟩ W
 ·refine Tr.cond_f Z h1<|Zx<|Zy<|Zy<|Zi<|Zg<|Zs<|Zr<|?_
  have hod := Rg.odd_none (l := l) fun j hj => hno j W
  have hsp := Rg.can_spec (Rg.odd_all hod)
  have hco := Rg.can_ok hok
  have hcl := Rg.can_len l
  refine Run.nilseg<|Za Z<|Ze<|Zg<|Zs<|Zr<|Za Z<|Ze<|Zg<|Zs<|Zr<|Zm Z<|?_
  have hnx : Rg.nx l (0) = Rg.lowk (Rg.can l) 0 := Rg.nx_first hsp.1 hsp.2 hco
  refine Run.call0 (l := [.tmp 26,.const (.int .i64 0)]) rfl rfl rfl (lt rfl) (show Does Tryz.prog 130 [_,.int .i64 (0)] _ _ (Pv (.int .i64 (Rg.lowk (Rg.can l) 0)) _ _) from by have h := rnext_h (H := [[]]) (a := 0) W hv.of_nil W hok; rw [hnx] at h; exact h)<|Run.heapTo (H' := [[]]) Z<|Za Z<|Ze<|Zg<|Zs<|Zb<|?_
  refine ZL (X := Nat × Option Addr × Nat × Nat × Sg) (fun z0 => V) (fun z0 => [z0.2.2.2.2]) (fun z0 => [(0,.slice p l.length c),(5,.slice z0.2.1 z0.2.2.1 z0.2.2.2.1),(6,.int .i64 (Rg.cnt ((Rg.can l).take z0.1))),(7,.int .i64 (Rg.lowk (Rg.can l) z0.1))]) (fun z0 => Ow 66 2 (.slice z0.2.1 z0.2.2.1 z0.2.2.2.1) z0.2.2.1 (((Rg.can l).take z0.1).flatMap Rg.cells) z0.2.2.2.2 ∧ z0.2.2.1 = ((Rg.can l).take z0.1).length ∧ z0.1 ≤ (Rg.can l).length ∧ Rg.cnt ((Rg.can l).take z0.1) ≤ 256) (fun z0 => (Rg.can l).length - z0.1) (⟨0,none,0,0,[]⟩ : Nat × Option Addr × Nat × Nat × Sg) ⟨Ow.nil _ _,rfl,Nat.zero_le _,(show (0 : Int) ≤ 256 by decide)⟩ ?_
  rintro ⟨k1,p1,n1,c1,q1⟩ ⟨how,hn,hk,hc⟩
  try dsimp only at how hn hk hc ⊢
  have hlw := Rg.lowk_nn hco k1
  have hcn := Rg.cnt_nn hsp.1 k1
  have hbk := hco.bd k1
  have hn9 : n1 ≤ k1 := by rw [hn,List.length_take]; omega
  refine Zs<|Zs<|Zr<|Zm Z<|Zv (Y.int Z Z Z)<|Ze<|Zg<|?_
  rcases Zsplit (decide ((Rg.lowk (Rg.can l) k1) ≥ 0)) with ⟨h3,g3⟩ | ⟨h3,g3⟩ <;> try simp only [kb] at g3
  ·refine Tr.cond_t Z h3<|Zt<|Zg<|Zb<|Zs<|Zr<|?_
   obtain ⟨_,hkl,hlk⟩ : Rg.lowk (Rg.can l) k1 ≥ 0 ∧ k1 < (Rg.can l).length ∧ Rg.lowk (Rg.can l) k1 = ((Rg.can l).getD k1 Rg.dflt).low := by omega
   have hlh := Rg.can_lh hsp.1 hkl
   refine Zm Z<|Za Z<|Ze<|Zg<|Zs<|Zr<|Zm Z<|Zv (Y.add Z Z W)<|Za Z<|Ze<|Zg<|Zs<|Zb<|?_
   refine ZL (X := Int) (fun z0 => V) (fun z0 => [q1]) (fun z0 => [(0,.slice p l.length c),(5,.slice p1 n1 c1),(6,.int .i64 (Rg.cnt ((Rg.can l).take k1) + (z0 - Rg.lowk (Rg.can l) k1 + 1))),(7,.int .i64 (Rg.lowk (Rg.can l) k1)),(8,.int .i64 z0)]) (fun z0 => ((Rg.can l).getD k1 Rg.dflt).low ≤ z0 ∧ z0 ≤ ((Rg.can l).getD k1 Rg.dflt).high ∧ Rg.cnt ((Rg.can l).take k1) + (z0 - Rg.lowk (Rg.can l) k1 + 1) ≤ 257) (fun z0 => (((Rg.can l).getD k1 Rg.dflt).high - z0).toNat) (Rg.lowk (Rg.can l) k1 : Int) ⟨by omega,by omega,by omega⟩ ?_
   rintro h1 ⟨hh1,hh2,hh3⟩
   refine Zs<|Zs<|Zr<|Zm Z<|Zm Z<|Zv (Y.add Z Z W)<|Run.call0 (l := [.tmp 33,.tmp 35]) rfl rfl rfl (lt rfl) (rhas_h (a := h1 + 1) W hv.of_nil W hok)<|Zm Z<|?_
   rcases Zsplit (Rg.hasB l (h1 + 1)) with ⟨h4,g4⟩ | ⟨h4,g4⟩ <;> try simp only [kb] at g4
   ·refine Zp h4<|Zm Z<|Zp h4<|Zv (Y.int Z Z Z)<|Zv (Y.pick_t Z h4 Z)<|Ze<|Zg<|?_
    rcases Zsplit (decide ((Rg.cnt ((Rg.can l).take k1) + (h1 - Rg.lowk (Rg.can l) k1 + 1)) ≤ 256)) with ⟨h5,g5⟩ | ⟨h5,g5⟩ <;> try simp only [kb] at g5
    ·refine Tr.cond_t Z h5<|Zt<|Zg<|Zb<|Zs<|Zr<|Zm Z<|Zv (Y.add Z Z W)<|Za Z<|Ze<|Zg<|Zr<|Zm Z<|Zv (Y.add Z Z W)<|Za Z<|Ze<|?_
     refine Zc ?_
     have hne : h1 ≠ ((Rg.can l).getD k1 Rg.dflt).high := fun he => by have := Rg.has_behind hsp.1 hsp.2 hkl; rw [← he,h4] at this; cases this
     exact ZR (h1 + 1 : Int) ⟨by omega,by omega,by omega⟩ W (by repeat (first | exact subB_nil _ | refine subB_cons (by first | rfl | exact congrArg (fun z => some (Value.int _ z)) W | exact congrArg (fun z => some (Value.int _ z)) (by (try dsimp only); omega)) ?_))
    ·refine Tr.cond_f Z h5<|Zx<|Zy<|Zy<|Zi<|Zg<|Zs<|Zs<|Zr<|Zm Z<|Zv (Y.int Z Z Z)<|Ze<|Zg<|?_
     rcases Zsplit (decide ((Rg.cnt ((Rg.can l).take k1) + (h1 - Rg.lowk (Rg.can l) k1 + 1)) > 256)) with ⟨h6,g6⟩ | ⟨h6,g6⟩ <;> try simp only [kb] at g6
     ·refine Tr.cond_t Z h6<|Zs<|Zr<|Za Z<|Za Z<|Ze<|Zg<|Zu<|Zn<|Zk<|Zn<|Zk<|Zn<|Ex.keep []<|?_
      have hge := Rg.cnt_ge hsp.1 (k1 + 1)
      have ec := Rg.cnt_take (l := (Rg.can l)) (i := k1) W
      have hsz : Rg.size ((Rg.can l).getD k1 Rg.dflt) = ((Rg.can l).getD k1 Rg.dflt).high - ((Rg.can l).getD k1 Rg.dflt).low + 1 := rfl
      exact Ex.ret2 rfl rfl rfl  ⟨Vw.le_refl _,rfl,_,by rw [Rg.pool_full hod W],by rw [Rg.pool_full hod W]; exact Rd.nil _ _ _⟩
     ·refine Tr.cond_f Z h6<|Zt<|Zg<|Zs<|Zr<|?_
      have heq : h1 = ((Rg.can l).getD k1 Rg.dflt).high := Int.le_antisymm hh2 (Int.not_lt.1 fun hcq => by have := Rg.has_inside hsp.2 hkl hh1 hcq; omega)
      refine Zm Z<|Zm Z<|Zv (Y.conv (Rg.lowk (Rg.can l) k1) rfl Addr4_it3_24 (wrap_u32 W))<|Zm Z<|Zv (Y.conv (h1) rfl Addr4_it3_24 (wrap_u32 W))<|Zv (Y.buildS (l := [(0,.tmp 49),(1,.tmp 51)]) Addr4_zo66 Addr4_pl66 Z Z)<|?_
      refine Run.buildSlice (l := [(0,.tmp 52)]) Addr4_es33 Addr4_zo66 rfl WD rfl rfl WD (lt rfl) (fun b7 => ?_)
      refine Run.append (n := n1) (m := 1) (xs := ((Rg.can l).take k1).flatMap Rg.cells) (ys := [.int .u32 (Rg.lowk (Rg.can l) k1),.int .u32 h1]) rfl rfl Addr4_es33 Addr4_zi66 WD (j := 1) rfl how (Src.of_rd Addr4_es33 (Rd.one (Kn.at 0 rfl) rfl)) W W rfl (lt rfl) (fun v8 s9 ho10 hf => ?_)
      obtain ⟨p8,c8,rfl⟩ := hf
      replace ho10 := Ow.app1 (f := Rg.cells) (l := (Rg.can l).take k1) (x := (⟨Rg.lowk (Rg.can l) k1,h1⟩ : Rg)) ho10
      refine Za Z<|Ze<|Zg<|Zr<|Zm Z<|Zm Z<|Zv (Y.add Z Z W)<|?_
      have hnx : Rg.nx l (h1 + 1) = Rg.lowk (Rg.can l) (k1 + 1) := by rw [heq]; exact Rg.nx_next hsp.1 hsp.2 hco W
      refine Run.call0 (l := [.tmp 55,.tmp 57]) rfl rfl rfl (lt rfl) (show Does Tryz.prog 130 [_,.int .i64 (h1 + 1)] _ _ (Pv (.int .i64 (Rg.lowk (Rg.can l) (k1 + 1))) _ _) from by have h := rnext_h (H := [[(b7,.cells #[.int .u32 (Rg.lowk (Rg.can l) k1),.int .u32 h1] 66 (0,0))],s9]) (a := h1 + 1) W hv.of_nil W hok; rw [hnx] at h; exact h)<|Run.heapTo (H' := [[(b7,.cells #[.int .u32 (Rg.lowk (Rg.can l) k1),.int .u32 h1] 66 (0,0))],s9]) Z<|?_
      refine Za Z<|Ze<|Zc<|Ex.keep [1]<|?_
      have ec := Rg.cnt_take (l := (Rg.can l)) (i := k1) W
      have et := take_succ_getD (Rg.can l) k1 Rg.dflt W
      have hsz : Rg.size ((Rg.can l).getD k1 Rg.dflt) = ((Rg.can l).getD k1 Rg.dflt).high - ((Rg.can l).getD k1 Rg.dflt).low + 1 := rfl
      have hoz := ho10
      rw [heq,hlk] at hoz
      exact ZR (⟨k1 + 1,p8,(n1 + 1),c8,s9⟩ : Nat × Option Addr × Nat × Nat × Sg) ⟨by rw [et]; exact hoz,by (try dsimp only); rw [et,List.length_append,List.length_singleton]; omega,by omega,by dsimp only; omega⟩ (by dsimp only; omega) (by repeat (first | exact subB_nil _ | refine subB_cons (by first | rfl | exact congrArg (fun z => some (Value.int _ z)) W | exact congrArg (fun z => some (Value.int _ z)) (by (try dsimp only); omega)) ?_))
   ·refine Zo h4 Z<|Zo h4 Z<|Zv (Y.pick_f Z h4 Z)<|Ze<|Zg<|Tr.cond_f Z Z<|Zx<|Zy<|Zy<|Zi<|Zg<|Zs<|Zs<|Zr<|Zm Z<|Zv (Y.int Z Z Z)<|?_
    refine Ze<|Zg<|?_
    rcases Zsplit (decide ((Rg.cnt ((Rg.can l).take k1) + (h1 - Rg.lowk (Rg.can l) k1 + 1)) > 256)) with ⟨h11,g11⟩ | ⟨h11,g11⟩ <;> try simp only [kb] at g11
    ·refine Tr.cond_t Z h11<|Zs<|Zr<|Za Z<|Za Z<|Ze<|Zg<|Zu<|Zn<|Zk<|Zn<|Zk<|Zn<|Ex.keep []<|?_
     have hge := Rg.cnt_ge hsp.1 (k1 + 1)
     have ec := Rg.cnt_take (l := (Rg.can l)) (i := k1) W
     have hsz : Rg.size ((Rg.can l).getD k1 Rg.dflt) = ((Rg.can l).getD k1 Rg.dflt).high - ((Rg.can l).getD k1 Rg.dflt).low + 1 := rfl
     exact Ex.ret2 rfl rfl rfl  ⟨Vw.le_refl _,rfl,_,by rw [Rg.pool_full hod W],by rw [Rg.pool_full hod W]; exact Rd.nil _ _ _⟩
    ·refine Tr.cond_f Z h11<|Zt<|Zg<|Zs<|Zr<|?_
     have heq : h1 = ((Rg.can l).getD k1 Rg.dflt).high := Int.le_antisymm hh2 (Int.not_lt.1 fun hcq => by have := Rg.has_inside hsp.2 hkl hh1 hcq; rw [h4] at this; cases this)
     refine Zm Z<|Zm Z<|Zv (Y.conv (Rg.lowk (Rg.can l) k1) rfl Addr4_it3_24 (wrap_u32 W))<|Zm Z<|Zv (Y.conv (h1) rfl Addr4_it3_24 (wrap_u32 W))<|Zv (Y.buildS (l := [(0,.tmp 49),(1,.tmp 51)]) Addr4_zo66 Addr4_pl66 Z Z)<|?_
     refine Run.buildSlice (l := [(0,.tmp 52)]) Addr4_es33 Addr4_zo66 rfl WD rfl rfl WD (lt rfl) (fun b12 => ?_)
     refine Run.append (n := n1) (m := 1) (xs := ((Rg.can l).take k1).flatMap Rg.cells) (ys := [.int .u32 (Rg.lowk (Rg.can l) k1),.int .u32 h1]) rfl rfl Addr4_es33 Addr4_zi66 WD (j := 1) rfl how (Src.of_rd Addr4_es33 (Rd.one (Kn.at 0 rfl) rfl)) W W rfl (lt rfl) (fun v13 s14 ho15 hf => ?_)
     obtain ⟨p13,c13,rfl⟩ := hf
     replace ho15 := Ow.app1 (f := Rg.cells) (l := (Rg.can l).take k1) (x := (⟨Rg.lowk (Rg.can l) k1,h1⟩ : Rg)) ho15
     refine Za Z<|Ze<|Zg<|Zr<|Zm Z<|Zm Z<|Zv (Y.add Z Z W)<|?_
     have hnx : Rg.nx l (h1 + 1) = Rg.lowk (Rg.can l) (k1 + 1) := by rw [heq]; exact Rg.nx_next hsp.1 hsp.2 hco W
     refine Run.call0 (l := [.tmp 55,.tmp 57]) rfl rfl rfl (lt rfl) (show Does Tryz.prog 130 [_,.int .i64 (h1 + 1)] _ _ (Pv (.int .i64 (Rg.lowk (Rg.can l) (k1 + 1))) _ _) from by have h := rnext_h (H := [[(b12,.cells #[.int .u32 (Rg.lowk (Rg.can l) k1),.int .u32 h1] 66 (0,0))],s14]) (a := h1 + 1) W hv.of_nil W hok; rw [hnx] at h; exact h)<|Run.heapTo (H' := [[(b12,.cells #[.int .u32 (Rg.lowk (Rg.can l) k1),.int .u32 h1] 66 (0,0))],s14]) Z<|?_
     refine Za Z<|Ze<|Zc<|Ex.keep [1]<|?_
     have ec := Rg.cnt_take (l := (Rg.can l)) (i := k1) W
     have et := take_succ_getD (Rg.can l) k1 Rg.dflt W
     have hsz : Rg.size ((Rg.can l).getD k1 Rg.dflt) = ((Rg.can l).getD k1 Rg.dflt).high - ((Rg.can l).getD k1 Rg.dflt).low + 1 := rfl
     have hoz := ho15
     rw [heq,hlk] at hoz
     exact ZR (⟨k1 + 1,p13,(n1 + 1),c13,s14⟩ : Nat × Option Addr × Nat × Nat × Sg) ⟨by rw [et]; exact hoz,by (try dsimp only); rw [et,List.length_append,List.length_singleton]; omega,by omega,by dsimp only; omega⟩ (by dsimp only; omega) (by repeat (first | exact subB_nil _ | refine subB_cons (by first | rfl | exact congrArg (fun z => some (Value.int _ z)) W | exact congrArg (fun z => some (Value.int _ z)) (by (try dsimp only); omega)) ?_))
  ·refine Tr.cond_f Z h3<|Zx<|Zy<|Zy<|Zi<|Zg<|Zs<|Zr<|Zm Z<|Za Z<|Za Z<|Ze<|Zg<|Zu<|?_
   have ek : k1 = (Rg.can l).length := by omega
   rw [ek,List.take_length] at how hn hc; subst hn
   refine Ex.show (fun V2 hle2 hsh2 => ?_)
   exact Ex.ret2 rfl rfl rfl  ⟨hle2,rfl,_,by rw [Rg.pool_ok hod W],by rw [Rg.pool_ok hod W]; exact how.show hsh2⟩
theorem rpool_h {V : Vw} {l : List Rg} {v : Value} (hv : Rd V [] 2 v l.length (l.flatMap Rg.cells)) (hlm : l.length ≤ 1000) (hok : Rg.Oks l) : Does Tryz.prog 67 [v] V [] (fun v V' H' => V.le V' ∧ H' = [] ∧ ∃ w,v = .tuple #[w,.int .i64 (Rg.pool l).2] ∧ Rd V' [] 2 w (Rg.pool l).1.length ((Rg.pool l).1.flatMap Rg.cells)) := by
  obtain ⟨p,c,rfl,_⟩ := hv.form
  exact rpool_c hv hlm hok
end Go.Proofs.YtfgblingojgafaaGreat
namespace Go.Proofs.YtfgblingojgafaaGreat
open Go Go.K
attribute [local irreducible] Code.wp wpList Calls wpQuiet
theorem Table4_fo128_0 : fieldOff Tryz.prog 128 0 = some 0 := by kernel_rfl
theorem Table4_ts22 : scal Tryz.prog 22 = true := by kernel_rfl
theorem Table4_es22 : elemS Tryz.prog 22 = some (43,8) := by kernel_rfl
theorem Table4_fo43_0 : fieldOff Tryz.prog 43 0 = some 0 := by kernel_rfl
theorem Table4_ts24 : scal Tryz.prog 24 = true := by kernel_rfl
theorem Table4_zo43 : zeroOf Tryz.prog 43 = some (.agg #[.int .u32 0,.int .i64 0,.string ⟨#[]⟩,.int .i64 0,.int .i64 0,.int .i64 0,.int .i64 0,.int .i64 0]) := by kernel_rfl
theorem Table4_sz43 : sizeT Tryz.prog 43 = some 8 := by kernel_rfl
theorem Table4_ag43 : aggsz Tryz.prog 43 = some 8 := by kernel_rfl
theorem Table4_mo : Tryz.prog.follows .mixedOrders = true := by kernel_rfl
theorem Table4_zo128 : zeroOf Tryz.prog 128 = some (.agg #[.slice none 0 0]) := by kernel_rfl
theorem Table4_pl128 : placesS Tryz.prog 128 = some [(0,1)] := by kernel_rfl
theorem Table4_zi43 : zeroInfo Tryz.prog 43 = some (8,72,.agg #[.int .u32 0,.int .i64 0,.string ⟨#[]⟩,.int .i64 0,.int .i64 0,.int .i64 0,.int .i64 0,.int .i64 0]) := by kernel_rfl
theorem Table4_sz22 : sizeT Tryz.prog 22 = some 1 := by kernel_rfl
theorem rfind_c {V : Vw} {l : List Le} {rx : Nat} {pl : Option Addr} {cl : Nat} {ql : Sg} (hl : Ow 43 8 (.slice pl l.length cl) l.length (l.flatMap Le.cells) ql) (hlm : l.length ≤ 256) {a : Int}  : Does Tryz.prog 89 [(pZ rx),.int .u32 a] V [[(rx,.cells #[.slice pl l.length cl] 128 (0,0))],ql] (fun v V' H' => V' = V ∧ H' = [[(rx,.cells #[.slice pl l.length cl] 128 (0,0))],ql] ∧ ∃ k : Int,v = .int .i64 k ∧ (k = -1 ∧ Le.get l a = none ∨ ∃ i : Nat,k = (i : Int) ∧ i < l.length ∧ (l.getD i Le.dflt).addr = a ∧ Le.get l a = some (l.getD i Le.dflt))) := by
 have hcl := hl.cap
 refine Does.intro Tryz.func89 rfl rfl (le rfl) (fun B => ?_)
 refine Zs<|Zr<|Za Z<|Ze<|Zg<|Zs<|Zs<|Zr<|Za Z<|Ze<|Zg<|Zb<|?_
 refine ZL (X := Nat) (fun z0 => V) (fun z0 => [[(rx,.cells #[.slice pl l.length cl] 128 (0,0))],ql]) (fun z0 => [(0,(pZ rx)),(1,.int .u32 a),(5,.int .i64 (z0 : Int))]) (fun z0 => z0 ≤ l.length ∧ ∀ j,j < z0 → (l.getD j Le.dflt).addr ≠ a) (fun z0 => l.length - z0) (0 : Nat) ⟨Nat.zero_le _,fun j hj => absurd hj (Nat.not_lt_zero j)⟩ ?_
 rintro i1 ⟨hi,hno⟩
 refine Zs<|Zs<|Zr<|Zm Z<|Zm Z<|Zv (Y.nilCheck Z)<|Zv (Y.fieldAddr Z Table4_fo128_0)<|Zv (Y.load Z Table4_ts22 (Kn.at 0 Z) Z)<|Zv (Y.lenSl Z Table4_es22)<|Zv (Y.int Z Z Z)<|Ze<|Zg<|?_
 rcases Zsplit (decide ((i1 : Int) < ((l.length : Nat) : Int))) with ⟨h1,g1⟩ | ⟨h1,g1⟩ <;> try simp only [kb] at g1
 ·refine Tr.cond_t Z h1<|Zt<|Zg<|Zs<|Zb<|Zs<|Zr<|Zm Z<|Zv (Y.nilCheck Z)<|Zv (Y.fieldAddr Z Table4_fo128_0)<|Zv (Y.load Z Table4_ts22 (Kn.at 0 Z) Z)<|Zm Z<|Zv (Y.idxR i1 Z Z Table4_es22 (hl.rd 1 rfl) W W)<|Zv (Y.fieldR Z Table4_fo43_0 (hl.rd 1 rfl) W)<|Zv (Y.ldR Z Table4_ts24 (hl.rd 1 rfl) (flatm_at Le.len W Le.dflt WD rfl))<|Zm Z<|?_
  refine Zv (Y.int Z Z Z)<|Ze<|Zg<|?_
  rcases Zsplit (((l.getD i1 Le.dflt).addr) == a) with ⟨h2,g2⟩ | ⟨h2,g2⟩ <;> try simp only [kb] at g2
  ·refine Tr.cond_t Z h2<|Zs<|Zr<|Zm Z<|Za Z<|Ze<|Zg<|Zu<|Zk<|Zn<|Zn<|Zk<|Zn<|Ex.keep [0,0]<|?_
   exact Ex.ret1 rfl rfl  ⟨rfl,rfl,_,rfl,.inr ⟨i1,rfl,by omega,by omega,Le.get_at hno W W⟩⟩
  ·refine Tr.cond_f Z h2<|Zt<|Zc<|Zg<|Zr<|Zm Z<|Zv (Y.add Z Z W)<|Za Z<|Ze<|Ex.keep [0,0]<|?_
   exact ZR (i1 + 1 : Nat) ⟨by omega,upto_succ hno W⟩ W
 ·refine Tr.cond_f Z h1<|Zx<|Zy<|Zy<|Zi<|Zg<|Zs<|Zr<|Za Z<|Ze<|Zg<|Zu<|Ex.keep [0,0]<|?_
  exact Ex.ret1 rfl rfl  ⟨rfl,rfl,_,rfl,.inl ⟨rfl,Le.get_no fun j hj => hno j W⟩⟩
theorem rset_c {V : Vw} {l : List Le} {rx : Nat} {pl : Option Addr} {cl : Nat} {ql : Sg} (hl : Ow 43 8 (.slice pl l.length cl) l.length (l.flatMap Le.cells) ql) (hlm : l.length ≤ 256) (hr : Le.Ris l) {q : Le} (hs : q.client.size ≤ 9223372036854775807)  : Does Tryz.prog 36 [(pZ rx),.agg #[.int .u32 q.addr,.int .i64 q.bind,.string q.client,.int .i64 q.till,.int .i64 q.acked,.int .i64 q.told,.int .i64 q.at_,.int .i64 q.ver]] V [[(rx,.cells #[.slice pl l.length cl] 128 (0,0))],ql] (fun v V' H' => V' = V ∧ v = .int .i64 (Le.setE l q).1 ∧ ∃ q2,Ow 43 8 (.slice pl (Le.setE l q).2.length cl) (Le.setE l q).2.length ((Le.setE l q).2.flatMap Le.cells) q2 ∧ H' = [[(rx,.cells #[.slice pl (Le.setE l q).2.length cl] 128 (0,0))],q2]) := by
 have hcl := hl.cap
 refine Does.intro Tryz.func36 rfl rfl (le rfl) (fun B => ?_)
 refine Zs<|Zr<|?_
 refine Run.box rfl (lt rfl) (fun b1 => ?_)
 refine Za Z<|Ze<|Zg<|Zs<|Zr<|Zv (Y.loadAgg Z Table4_ag43 (Kn.at 0 Z) Z)<|Run.call0 (l := [.tmp 7]) Z Z Z (lt Z) (rright11_h (q := q) hs)<|Za Z<|Ze<|Zg<|Zs<|Zs<|Zr<|Zm Z<|Zv (Y.not Z)<|Ze<|?_
 refine Zg ?_
 rcases Zsplit (Le.right q) with ⟨h2,g2⟩ | ⟨h2,g2⟩ <;> try simp only [kb] at g2
 ·refine Tr.cond_f Z (congrArg Bool.not h2)<|Zt<|Zg<|Zs<|Zr<|Zm Z<|Zv (Y.fieldAddr Z Table4_fo43_0)<|Zv (Y.load Z Table4_ts24 (Kn.at 0 Z) Z)<|?_
  refine Run.call [1,1] (l := [.tmp 11,.tmp 13]) rfl rfl rfl (lt rfl) (rfind_c (a := q.addr) hl hlm) (fun v9 V9 H9 hle9 hR => ?_)
  obtain ⟨hV,rfl,k,rfl,hk⟩ := hR; replace hV := hV.symm; subst hV
  refine Run.heapTo (H' := [[(b1,.cells #[.int .u32 q.addr,.int .i64 q.bind,.string q.client,.int .i64 q.till,.int .i64 q.acked,.int .i64 q.told,.int .i64 q.at_,.int .i64 q.ver] 43 (0,0))],[(rx,.cells #[.slice pl l.length cl] 128 (0,0))],ql]) Z<|Run.heapTo (H' := [[(b1,.cells #[.int .u32 q.addr,.int .i64 q.bind,.string q.client,.int .i64 q.till,.int .i64 q.acked,.int .i64 q.told,.int .i64 q.at_,.int .i64 q.ver] 43 (0,0))],[(rx,.cells #[.slice pl l.length cl] 128 (0,0))],ql]) Z<|?_
  refine Za Z<|Ze<|Zg<|Zs<|Zs<|Zr<|?_
  rcases hk with ⟨rfl,hg⟩ | ⟨i1,rfl,hi1,ha,hg⟩
  ·refine Zm Z<|Zv (Y.int (r := .bool true) Z Z Z)<|Ze<|Zg<|Tr.cond_t Z Z<|Zs<|Zr<|Za Z<|Ze<|Zg<|Zu<|Zn<|Ex.keepTo (H' := [[(rx,.cells #[.slice pl l.length cl] 128 (0,0))],ql]) [1,1] Z<|?_
   exact Ex.ret1 rfl rfl  ⟨rfl,by rw [Le.setE_none h2 hg],_,by rw [Le.setE_none h2 hg]; exact hl,by rw [Le.setE_none h2 hg]⟩
  ·refine Zm Z<|Zv (Y.int Z Z Z)<|Ze<|Zg<|Tr.cond_f rfl (decide_eq_false W)<|Zt<|Zg<|Zs<|Tr.anyL [(rx,.cells #[.slice pl l.length cl] 128 (0,0)),(b1,.cells #[.int .u32 q.addr,.int .i64 q.bind,.string q.client,.int .i64 q.till,.int .i64 q.acked,.int .i64 q.told,.int .i64 q.at_,.int .i64 q.ver] 43 (0,0))] 7 Table4_mo<|RunL.pure (i := 0) rfl WK WK WK WK (fun _ _ _ h => h) (lt rfl) (KnAll.cons (Kn.at 1 rfl) (ZK 0 Z)) (fun _ => (Y.move rfl))<|?_
   refine RunL.pure (i := 1) rfl WK WK WK WK (fun _ _ _ h => h) (lt rfl) (KnAll.cons (Kn.at 1 rfl) (ZK 0 Z)) (fun _ => (Y.nilCheck rfl))<|RunL.pure (i := 2) rfl WK WK WK WK (fun _ _ _ h => h) (lt rfl) (KnAll.cons (Kn.at 1 rfl) (ZK 0 Z)) (fun _ => (Y.fieldAddr rfl Table4_fo128_0))<|RunL.take (i := 3) 0 rfl rfl WK WK WK WK (fun _ _ _ h => h) (lt rfl) (KnAll.cons (Kn.at 1 rfl) (ZK 0 Z)) (fun _ => (Y.load rfl Table4_ts22 Kn.vk1 rfl))<|?_
   refine RunL.pure (i := 4) rfl WK WK WK WK (fun _ _ _ h => h) (lt rfl) (KnAll.cons (Kn.at 1 rfl) (ZK 0 Z)) (fun _ => (Y.move rfl))<|RunL.take (i := 5) 1 rfl rfl WK WK WK WK (fun _ _ _ h => h) (lt rfl) (KnAll.cons (Kn.at 1 rfl) (ZK 0 Z)) (fun _ => (Y.loadAgg rfl Table4_ag43 Kn.vk1 rfl))<|RunL.pure (i := 6) rfl WK WK WK WK (fun _ _ _ h => h) (lt rfl) (KnAll.cons (Kn.at 1 rfl) (ZK 0 Z)) (fun _ => (Y.idxO i1 rfl rfl Table4_es22 hl W W))<|?_
   refine RunL.one (i := 7) WK rfl  ?_
   refine Run.stOA (u := q) (i := i1) (j := 2) Le.enc1 WD rfl rfl Table4_sz43 hl rfl W rfl (fun s3 ho4 => ?_)
   refine Run.heapTo (H' := [[(b1,.cells #[.int .u32 q.addr,.int .i64 q.bind,.string q.client,.int .i64 q.till,.int .i64 q.acked,.int .i64 q.told,.int .i64 q.at_,.int .i64 q.ver] 43 (0,0))],[(rx,.cells #[.slice pl l.length cl] 128 (0,0))],s3]) Z<|Ze<|Ex.anyLz Z<|RunL.done WK<|Zg<|Zs<|Zr<|Za Z<|Ze<|Zg<|Zu<|Ex.keepTo (H' := [[(rx,.cells #[.slice pl l.length cl] 128 (0,0))],s3]) [1,1] Z<|?_
   have e9 : (Le.setE l q).2 = l.set i1 q := by rw [Le.setE_ok h2 hg]; exact (Le.put_at hr hi1 ha).symm
   have n9 : (Le.setE l q).2.length = l.length := Le.setE_len l q
   exact Ex.ret1 rfl rfl  ⟨rfl,by rw [Le.setE_ok h2 hg],_,by rw [n9,e9]; exact ho4,by rw [n9]⟩
 ·refine Tr.cond_t Z (congrArg Bool.not h2)<|Zs<|Zr<|Za Z<|Ze<|Zg<|Zu<|Zn<|Ex.keepTo (H' := [[(rx,.cells #[.slice pl l.length cl] 128 (0,0))],ql]) [1,1] Z<|?_
  exact Ex.ret1 rfl rfl  ⟨rfl,by rw [Le.setE_wrong h2],_,by rw [Le.setE_wrong h2]; exact hl,by rw [Le.setE_wrong h2]⟩
theorem rnew12_c {V : Vw} {rs : List Rg} {p : Option Addr} {c : Nat} (hv : Rd V [] 2 (.slice p rs.length c) rs.length (rs.flatMap Rg.cells)) (hlm : rs.length ≤ 1000) (hok : Rg.Oks rs)  : Does Tryz.prog 35 [.slice p rs.length c] V [] (fun v V' H' => V.le V' ∧ ((Rg.pool rs).2 ≠ 0 ∧ v = .tuple #[.pointer none,.int .i64 (Rg.pool rs).2] ∧ H' = [] ∨ (Rg.pool rs).2 = 0 ∧ ∃ rx pl cl ql,v = .tuple #[(pZ rx),.int .i64 0] ∧ Ow 43 8 (.slice pl (Le.new (Rg.adr (Rg.pool rs).1)).length cl) (Le.new (Rg.adr (Rg.pool rs).1)).length ((Le.new (Rg.adr (Rg.pool rs).1)).flatMap Le.cells) ql ∧ H' = [[(rx,.cells #[.slice pl (Le.new (Rg.adr (Rg.pool rs).1)).length cl] 128 (0,0))],ql])) := by
 refine Does.intro Tryz.func35 rfl rfl (le rfl) (fun B => ?_)
 refine Zs<|Zr<|Za Z<|Za Z<|Ze<|Zg<|Zs<|Zr<|Zm Z<|?_
 refine Run.call [] (l := [.tmp 11]) rfl rfl rfl (lt rfl) (rpool_h hv hlm hok) (fun v3 V3 H3 hle3 hR => ?_)
 obtain ⟨hle3b,rfl,w3,rfl,hp3⟩ := hR
 obtain ⟨pp,pc,rfl,_⟩ := hp3.form
 have hpl := Rg.pool_len rs
 have hpo := Rg.pool_oks hok
 refine Run.heapTo (H' := []) Z<|Run.heapTo (H' := []) Z<|Zm Z<|Zv (Y.extract Z Z)<|Zv (Y.extract Z Z)<|Za Z<|Za Z<|Ze<|Zg<|Zs<|Zs<|Zr<|Zm Z<|Zv (Y.int Z Z Z)<|Ze<|Zg<|?_
 rcases Zsplit (((Rg.pool rs).2) != 0) with ⟨h1,g1⟩ | ⟨h1,g1⟩ <;> try simp only [kb] at g1
 ·refine Tr.cond_t Z h1<|Zs<|Zr<|Zm Z<|Za Z<|Za Z<|Ze<|Zg<|Zu<|Zn<|Ex.keep []<|?_
  exact Ex.ret2 rfl rfl rfl  ⟨hle3b,.inl ⟨by omega,rfl,rfl⟩⟩
 ·refine Tr.cond_f Z h1<|Zt<|Zg<|Zs<|Zr<|?_
  have hp0 : (Rg.pool rs).2 = 0 := by omega
  obtain ⟨hcan,hcnt⟩ := Rg.pool_can hp0
  have hup := Rg.adr_up hcan
  have hce := Rg.cnt_adr hcan.1
  have hc256 : (Rg.adr (Rg.pool rs).1).length ≤ 256 := by omega
  refine Run.nilseg<|Zv (Y.buildS (l := []) Table4_zo128 Table4_pl128 Z Z)<|?_
  refine Run.box rfl (lt rfl) (fun b2 => ?_)
  refine Za Z<|Ze<|Zg<|Zs<|Zs<|Zr<|Run.keepTo (H' := [[(b2,.cells #[.slice none 0 0] 128 (0,0))],[]]) [0,0] Z<|Za Z<|Ze<|Zg<|Zb<|?_
  refine ZL (X := Nat × Option Addr × Nat × Nat × Sg) (fun z0 => V3) (fun z0 => [[(b2,.cells #[.slice z0.2.1 z0.2.2.1 z0.2.2.2.1] 128 (0,0))],z0.2.2.2.2]) (fun z0 => [(4,.slice pp (Rg.pool rs).1.length pc),(6,(pZ b2)),(7,.int .i64 (z0.1 : Int))]) (fun z0 => Ow 43 8 (.slice z0.2.1 z0.2.2.1 z0.2.2.2.1) z0.2.2.1 ((Le.new ((Rg.adr (Rg.pool rs).1).take z0.1)).flatMap Le.cells) z0.2.2.2.2 ∧ z0.2.2.1 = (Le.new ((Rg.adr (Rg.pool rs).1).take z0.1)).length ∧ z0.1 ≤ (Rg.adr (Rg.pool rs).1).length) (fun z0 => (Rg.adr (Rg.pool rs).1).length - z0.1) (⟨0,none,0,0,[]⟩ : Nat × Option Addr × Nat × Nat × Sg) ⟨Ow.nil _ _,rfl,Nat.zero_le _⟩ ?_
  rintro ⟨i1,p1,n1,k1,q1⟩ ⟨how,hn,hi⟩
  try dsimp only at how hn hi ⊢
  have hnl : (Le.new ((Rg.adr (Rg.pool rs).1).take i1)).length = i1 := by rw [Le.new_len,List.length_take]; omega
  have hcp := how.cap
  refine Zs<|Zs<|Zr<|Zm Z<|Zm Z<|Run.call0 (l := [.tmp 21]) rfl rfl rfl (lt rfl) (rcount_h hp3.of_nil W hpo)<|Zv (Y.int Z Z Z)<|Ze<|Zg<|?_
  rcases Zsplit (decide ((i1 : Int) < (Rg.cnt (Rg.pool rs).1))) with ⟨h3,g3⟩ | ⟨h3,g3⟩ <;> try simp only [kb] at g3
  ·refine Tr.cond_t Z h3<|Zt<|Zg<|Zs<|Zb<|Zs<|Zr<|Zm Z<|Zm Z<|Run.call0 (l := [.tmp 27,.tmp 28]) rfl rfl rfl (lt rfl) (rat_h (n := (i1 : Int)) W hcan.1 hp3.of_nil W hpo)<|Zm Z<|Zv (Y.extract Z Z)<|Zv (Y.extract Z Z)<|Za Z<|?_
   have hat := Rg.at_in2 (i := i1) (show i1 < (Rg.adr (Rg.pool rs).1).length by omega)
   rw [hat]
   refine Za Z<|Ze<|Zg<|Tr.anyL [(b2,.cells #[.slice p1 n1 k1] 128 (0,0))] 11 Table4_mo<|RunL.pure (i := 0) rfl WK WK WK WK (fun _ _ _ h => h) (lt rfl) (ZK 0 Z) (fun _ => (Y.move rfl))<|RunL.pure (i := 1) rfl WK WK WK WK (fun _ _ _ h => h) (lt rfl) (ZK 0 Z) (fun _ => (Y.move rfl))<|RunL.pure (i := 2) rfl WK WK WK WK (fun _ _ _ h => h) (lt rfl) (ZK 0 Z) (fun _ => (Y.nilCheck rfl))<|?_
   refine RunL.pure (i := 3) rfl WK WK WK WK (fun _ _ _ h => h) (lt rfl) (ZK 0 Z) (fun _ => (Y.fieldAddr rfl Table4_fo128_0))<|RunL.take (i := 4) 0 rfl rfl WK WK WK WK (fun _ _ _ h => h) (lt rfl) (ZK 0 Z) (fun _ => (Y.load rfl Table4_ts22 Kn.vk1 rfl))<|RunL.pure (i := 5) rfl WK WK WK WK (fun _ _ _ h => h) (lt rfl) (ZK 0 Z) (fun _ => (Y.move rfl))<|?_
   refine RunL.one (i := 6) WK rfl  ?_
   refine Run.call0 (l := [.tmp 37,.const (.int .i64 0),.const (.int .i64 0)]) Z Z Z (lt Z) rbare_c_h<|Ze<|Ex.anyL (ZK 0 Z)<|?_
   refine RunL.one (i := 7) WK rfl  ?_
   refine Run.buildSlice (l := [(0,.tmp 38)]) (r := [.int .u32 ((Rg.adr (Rg.pool rs).1).getD i1 0),.int .i64 0,.string ⟨#[]⟩,.int .i64 0,.int .i64 0,.int .i64 0,.int .i64 0,.int .i64 0]) Table4_es22 Table4_zo43 rfl WD rfl rfl WD (lt rfl) (fun b4 => ?_)
   refine Ze<|Ex.anyL (ZK 1 Z)<|?_
   refine RunL.one (i := 8) WK rfl  ?_
   refine Run.append (n := n1) (m := 1) (xs := (Le.new ((Rg.adr (Rg.pool rs).1).take i1)).flatMap Le.cells) (ys := [.int .u32 ((Rg.adr (Rg.pool rs).1).getD i1 0),.int .i64 0,.string ⟨#[]⟩,.int .i64 0,.int .i64 0,.int .i64 0,.int .i64 0,.int .i64 0]) rfl rfl Table4_es22 Table4_zi43 WD (j := 2) rfl how (Src.of_rd Table4_es22 (Rd.one (Kn.at 0 rfl) rfl)) W W rfl (lt rfl) (fun v5 s6 ho7 hf => ?_)
   obtain ⟨p5,c5,rfl⟩ := hf
   replace ho7 := Ow.app1 (f := Le.cells) (l := Le.new ((Rg.adr (Rg.pool rs).1).take i1)) (x := (⟨(Rg.adr (Rg.pool rs).1).getD i1 0,0,⟨#[]⟩,0,0,0,0,0⟩ : Le)) ho7
   refine Ze<|Ex.anyL (ZK 1 Z)<|?_
   refine RunL.one (i := 9) WK rfl  ?_
   refine Zv (Y.nilCheck Z)<|Ze<|Ex.anyL (ZK 1 Z)<|RunL.pure (i := 10) rfl WK WK WK WK (fun _ _ _ h => h) (lt rfl) (ZK 1 Z) (fun _ => (Y.fieldAddr rfl Table4_fo128_0))<|?_
   refine RunL.one (i := 11) WK rfl  ?_
   refine Run.store (s := [(b2,.cells #[.slice p5 (n1 + 1) c5] 128 (0,0))]) Z Z Table4_sz22 (i := 1) Z Z (le Z) Z Z<|Ze<|Ex.anyLz Z<|RunL.done WK<|Zc<|Zg<|Zr<|Zm Z<|Zv (Y.add Z Z W)<|Za Z<|Ze<|Ex.keep [1,1]<|?_
   exact ZR (⟨i1 + 1,p5,(n1 + 1),c5,s6⟩ : Nat × Option Addr × Nat × Nat × Sg) ⟨by rw [Le.new_take W]; exact ho7,by rw [Le.new_take W,List.length_append,List.length_singleton]; (try dsimp only); omega,by omega⟩ (by dsimp only; omega)
  ·refine Tr.cond_f Z h3<|Zx<|Zy<|Zy<|Zi<|Zg<|Zs<|Zr<|Zm Z<|Za Z<|Za Z<|Ze<|Zg<|Zu<|?_
   obtain rfl : i1 = (Rg.adr (Rg.pool rs).1).length := by omega
   rw [List.take_length] at how hn
   refine Ex.keepTo (H' := [[(b2,.cells #[.slice p1 n1 k1] 128 (0,0))],q1]) [0,0] Z ?_
   exact Ex.ret2 rfl rfl rfl  ⟨hle3b,.inr ⟨hp0,b2,_,_,q1,rfl,by rw [← hn]; exact how,by rw [← hn]⟩⟩
end Go.Proofs.YtfgblingojgafaaGreat
