/- Statements on answers, walked: what they begin with.
Conditions: as each theorem names them. -/
import Derived.Test.YtfgblingojgafaaGreatProg
import Derived.Test.YtfgblingojgafaaGreatEB
import Derived.Test.YtfgblingojgafaaGreatTable4
import Derived.Test.YtfgblingojgafaaGreatOpt3
import Derived.Test.YtfgblingojgafaaGreatRA
import Derived.Test.YtfgblingojgafaaGreatBucket
import Derived.Test.YtfgblingojgafaaGreatSortnum
import Derived.Test.YtfgblingojgafaaGreatTimes
set_option linter.unusedSimpArgs false
set_option linter.unusedVariables false
set_option maxRecDepth 4000
namespace Go.Proofs.YtfgblingojgafaaGreat
open Go Go.K
attribute [local irreducible] Code.wp wpList Calls wpQuiet
theorem Law20_zo35 : zeroOf Tryz.prog 35 = some (.agg #[.int .i64 0,.int .i64 0,.int .i64 0,.int .u32 0,.int .i64 0,.int .i64 0,.int .i64 0,.float .f64 0,.float .f64 0,.float .f64 0,.float .f64 0,.slice none 0 0,.int .i64 0]) := by kernel_rfl
theorem Law20_zo66 : zeroOf Tryz.prog 66 = some (.agg #[.int .u32 0,.int .u32 0]) := by kernel_rfl
theorem Law20_pl66 : placesS Tryz.prog 66 = some [(0,1),(1,1)] := by kernel_rfl
theorem Law20_es33 : elemS Tryz.prog 33 = some (66,2) := by kernel_rfl
theorem Law20_pl35 : placesS Tryz.prog 35 = some [(0,1),(1,1),(2,1),(3,1),(4,1),(5,1),(6,1),(7,1),(8,1),(9,1),(10,1),(11,1),(12,1)] := by kernel_rfl
theorem Law20_sz35 : sizeT Tryz.prog 35 = some 13 := by kernel_rfl
theorem Law20_ag35 : aggsz Tryz.prog 35 = some 13 := by kernel_rfl
theorem Law20_fo30_3 : fieldOff Tryz.prog 30 3 = some 3 := by kernel_rfl
theorem Law20_ag28 : aggsz Tryz.prog 28 = some 10 := by kernel_rfl
theorem Law20_es22 : elemS Tryz.prog 22 = some (43,8) := by kernel_rfl
theorem Law20_fo43_2 : fieldOff Tryz.prog 43 2 = some 2 := by kernel_rfl
theorem Law20_ts9 : scal Tryz.prog 9 = true := by kernel_rfl
theorem Law20_st9 : strT Tryz.prog 9 = true := by kernel_rfl
theorem Law20_fo35_11 : fieldOff Tryz.prog 35 11 = some 11 := by kernel_rfl
theorem Law20_ts33 : scal Tryz.prog 33 = true := by kernel_rfl
theorem Law20_pt38 : ptrT Tryz.prog 38 = true := by kernel_rfl
theorem Law20_pt39 : ptrT Tryz.prog 39 = true := by kernel_rfl
theorem Law20_ag43 : aggsz Tryz.prog 43 = some 8 := by kernel_rfl
theorem Law20_fs35_11 : fieldS Tryz.prog 35 11 = some 11 := by kernel_rfl
theorem Law20_es25 : elemS Tryz.prog 25 = some (5,1) := by kernel_rfl
theorem Law20_zo5 : zeroOf Tryz.prog 5 = some (.int .u8 0) := by kernel_rfl
theorem Law20_zo81 : zeroOf Tryz.prog 81 = some (.agg #[.int .i64 0,.slice none 0 0]) := by kernel_rfl
theorem Law20_pl81 : placesS Tryz.prog 81 = some [(0,1),(1,1)] := by kernel_rfl
theorem Law20_es26 : elemS Tryz.prog 26 = some (81,2) := by kernel_rfl
theorem Law20_zo28 : zeroOf Tryz.prog 28 = some (.agg #[.int .i64 0,.int .u32 0,.int .i64 0,.int .i64 0,.int .u32 0,.int .u32 0,.int .u32 0,.int .u32 0,.slice none 0 0,.slice none 0 0]) := by kernel_rfl
theorem Law20_pl28 : placesS Tryz.prog 28 = some [(0,1),(1,1),(2,1),(3,1),(4,1),(5,1),(6,1),(7,1),(8,1),(9,1)] := by kernel_rfl
theorem Law20_sz28 : sizeT Tryz.prog 28 = some 10 := by kernel_rfl
theorem Law20_mo : Tryz.prog.follows .mixedOrders = true := by kernel_rfl
theorem Law20_zo45 : zeroOf Tryz.prog 45 = some (.agg #[.bool false,.int .i64 0,.int .u32 0,.int .i64 0,.int .i64 0,.int .u32 0,.int .u32 0,.int .u32 0,.int .u32 0,.slice none 0 0,.slice none 0 0,.bool false,.int .u32 0,.int .i64 0,.string ⟨#[]⟩,.int .i64 0,.int .i64 0,.int .i64 0,.int .i64 0,.int .i64 0,.int .i64 0]) := by kernel_rfl
theorem Law20_sz45 : sizeT Tryz.prog 45 = some 21 := by kernel_rfl
theorem Law20_fo45_0 : fieldOff Tryz.prog 45 0 = some 0 := by kernel_rfl
theorem Law20_ts4 : scal Tryz.prog 4 = true := by kernel_rfl
theorem Law20_fo45_1 : fieldOff Tryz.prog 45 1 = some 1 := by kernel_rfl
theorem Law20_fo28_5 : fieldOff Tryz.prog 28 5 = some 5 := by kernel_rfl
theorem Law20_ts24 : scal Tryz.prog 24 = true := by kernel_rfl
theorem Law20_fo45_2 : fieldOff Tryz.prog 45 2 = some 11 := by kernel_rfl
theorem site20_c {V : Vw} {id : Int}  : Does Tryz.prog 10 [.int .i64 id] V [] (fun u V' H' => V.le V' ∧ H' = [] ∧ ∃ pv,u = .agg ((Eg.si id).cells pv) ∧ Rd V' [] 2 pv 1 ([(⟨1,6⟩ : Rg)].flatMap Rg.cells)) := by
 refine Does.intro Tryz.func10 rfl rfl (le rfl) (fun B => ?_)
 refine Zs<|Zr<|?_
 refine Run.alloc Law20_zo35 (lt rfl) (fun b1 => ?_)
 refine Ze<|Zg<|Zs<|Zr<|Zm Z<|Zv (Y.buildS (l := [(0,.const (.int .u32 1)),(1,.const (.int .u32 6))]) Law20_zo66 Law20_pl66 Z Z)<|?_
 refine Run.buildSlice (l := [(0,.tmp 4)]) Law20_es33 Law20_zo66 rfl WD rfl rfl WD (lt rfl) (fun b2 => ?_)
 refine Zv (Y.buildS (l := [(0,.tmp 3),(1,.const (.int .i64 10)),(2,.const (.int .i64 4)),(3,.const (.int .u32 9)),(4,.const (.int .i64 100)),(5,.const (.int .i64 1000)),(6,.const (.int .i64 256)),(7,.const (.float .f64 4602678819172646912)),(8,.const (.float .f64 4591870180066957722)),(9,.const (.float .f64 4602678819172646912)),(10,.const (.float .f64 4606056518893174784)),(11,.tmp 5),(12,.const (.int .i64 10000))]) (r := [.int .i64 id,.int .i64 10,.int .i64 4,.int .u32 9,.int .i64 100,.int .i64 1000,.int .i64 256,.float .f64 4602678819172646912,.float .f64 4591870180066957722,.float .f64 4602678819172646912,.float .f64 4606056518893174784,.slice (some ⟨b2,0,none⟩) 1 1,.int .i64 10000]) Law20_zo35 Law20_pl35 rfl WK) ?_
 refine Run.stAll (l2 := [.int .i64 id,.int .i64 10,.int .i64 4,.int .u32 9,.int .i64 100,.int .i64 1000,.int .i64 256,.float .f64 4602678819172646912,.float .f64 4591870180066957722,.float .f64 4602678819172646912,.float .f64 4606056518893174784,.slice (some ⟨b2,0,none⟩) 1 1,.int .i64 10000]) (j := 1) Z Z Law20_sz35 Z Z Z Z<|Run.heapTo (H' := [[(b2,.cells #[.int .u32 1,.int .u32 6] 66 (0,0))],[(b1,.cells #[.int .i64 id,.int .i64 10,.int .i64 4,.int .u32 9,.int .i64 100,.int .i64 1000,.int .i64 256,.float .f64 4602678819172646912,.float .f64 4591870180066957722,.float .f64 4602678819172646912,.float .f64 4606056518893174784,.slice (some ⟨b2,0,none⟩) 1 1,.int .i64 10000] 35 (0,0))]]) Z<|?_
 refine Ze<|Zg<|Zu<|Ex.keepTo (H' := [[(b2,.cells #[.int .u32 1,.int .u32 6] 66 (0,0))],[(b1,.cells #[.int .i64 id,.int .i64 10,.int .i64 4,.int .u32 9,.int .i64 100,.int .i64 1000,.int .i64 256,.float .f64 4602678819172646912,.float .f64 4591870180066957722,.float .f64 4602678819172646912,.float .f64 4606056518893174784,.slice (some ⟨b2,0,none⟩) 1 1,.int .i64 10000] 35 (0,0))]]) [0,0] Z<|?_
 refine Ex.show (fun V3 hleV3 hshV3 => ?_)
 have hpo := (Ow.lit (e := 66) (k := 2) (b := b2) (n := 1) (cur := #[.int .u32 1,.int .u32 6]) rfl WD).shows _ hshV3
 have hVle := hleV3
 exact Ex.retCell [] rfl rfl Law20_ag35 (Kn.at 0 rfl) rfl ⟨hVle,rfl,.slice (some ⟨b2,0,none⟩) 1 1,rfl,hpo⟩
theorem long20_c {V : Vw} {x : Si} {pp : Option Addr} {cp : Nat} {c : Eg.Cs} {ls : List Le} {p2 : Option Addr} {c2 : Nat} (hv2 : Rd V [] 8 (.slice p2 ls.length c2) ls.length (ls.flatMap Le.cells)) (hl9 : ls.length ≤ 9223372036854775807) (hw9 : Rd V [] 1 c.hv c.p.hw.length (c.p.hw.map byteV)) (ho9 : Pc.Rs V c.ov c.p.os)  : Does Tryz.prog 11 [.agg (x.cells (.slice pp x.pool.length cp)),.slice p2 ls.length c2,.agg c.cells] V [] (Pv (.bool (Eg.long c.p ls x.pool.length)) V []) := by
 refine Does.intro Tryz.func11 rfl rfl (le rfl) (fun B => ?_)
 refine Zs<|Zr<|?_
 refine Run.box rfl (lt rfl) (fun b1 => ?_)
 refine Run.box rfl (lt rfl) (fun b2 => ?_)
 refine Za Z<|Ze<|Zg<|Zs<|Zr<|Zv (Y.fieldAddr Z Law20_fo30_3)<|Zv (Y.loadAgg Z Law20_ag28 (Kn.at 0 Z) Z)<|Run.call0 (l := [.tmp 10]) Z Z Z (lt Z) (few_h hw9 ho9)<|Za Z<|Ze<|Zg<|Zs<|Zs<|Zr<|Za Z<|Ze<|?_
 refine Zg<|Zb<|?_
 refine ZL (X := Nat) (fun z0 => V) (fun z0 => [[(b2,.cells (Eg.Cs.cells c) 30 (0,0))],[(b1,.cells (Si.cells x (.slice pp x.pool.length cp)) 35 (0,0))]]) (fun z0 => [(1,.slice p2 ls.length c2),(3,(pZ b1)),(7,.bool (Pc.few c.p)),(8,.int .i64 (z0 : Int))]) (fun z0 => z0 ≤ ls.length ∧ ∀ j,j < z0 → ¬ (ls.getD j Le.dflt).client.size > 100) (fun z0 => ls.length - z0) (0 : Nat) ⟨Nat.zero_le _,fun j hj => absurd hj (Nat.not_lt_zero j)⟩ ?_
 rintro i1 ⟨hi,hno⟩
 refine Zs<|Zs<|Zr<|Zm Z<|Zm Z<|Zv (Y.lenSl Z Law20_es22)<|Zv (Y.int Z Z Z)<|Ze<|Zg<|?_
 rcases Zsplit (decide ((i1 : Int) < ((ls.length : Nat) : Int))) with ⟨h3,g3⟩ | ⟨h3,g3⟩ <;> try simp only [kb] at g3
 ·refine Tr.cond_t Z h3<|Zt<|Zg<|Zs<|Zb<|Zs<|Zr<|Zm Z<|Zm Z<|Zv (Y.idxR i1 Z Z Law20_es22 hv2.of_nil W W)<|Zv (Y.fieldR Z Law20_fo43_2 hv2.of_nil W)<|Zv (Y.ldR Z Law20_ts9 hv2.of_nil (flatm_at Le.len W Le.dflt WD rfl))<|Zv (Y.lenStr Z Law20_st9)<|Zv (Y.int Z Z Z)<|Ze<|Zg<|?_
  rcases Zsplit (decide ((((ls.getD i1 Le.dflt).client).size : Int) > 100)) with ⟨h4,g4⟩ | ⟨h4,g4⟩ <;> try simp only [kb] at g4
  ·refine Tr.cond_t Z h4<|Zs<|Zr<|Za Z<|Ze<|Zg<|Zu<|Zk<|Zn<|Zn<|Zk<|Zn<|Ex.keep []<|?_
   exact Ex.ret1 rfl rfl  ⟨by rw [Eg.long_at (i := i1) W W],rfl,rfl⟩
  ·refine Tr.cond_f Z h4<|Zt<|Zc<|Zg<|Zr<|Zm Z<|Zv (Y.add Z Z W)<|Za Z<|Ze<|?_
   exact ZR (i1 + 1 : Nat) ⟨by omega,upto_succ hno W⟩ W
 ·refine Tr.cond_f Z h3<|Zx<|Zy<|Zy<|Zi<|Zg<|Zs<|Zr<|Zm Z<|Zv (Y.not Z)<|Zm Z<|?_
  rcases Zsplit (Pc.few c.p) with ⟨h5,g5⟩ | ⟨h5,g5⟩ <;> try simp only [kb] at g5
  ·refine Zp (congrArg Bool.not h5)<|Zm Z<|Zp (congrArg Bool.not h5)<|Zv (Y.lenSl Z Law20_es22)<|Zp (congrArg Bool.not h5)<|Zv (Y.int Z Z Z)<|Zv (Y.pick_f Z (congrArg Bool.not h5) Z)<|Zm Z<|?_
   rcases Zsplit (decide (((ls.length : Nat) : Int) > 100)) with ⟨h6,g6⟩ | ⟨h6,g6⟩ <;> try simp only [kb] at g6
   ·refine Zo h6 Z<|Zo h6 Z<|Zo h6 Z<|Zo h6 Z<|Zv (Y.pick_t Z h6 Z)<|Za Z<|Ze<|Zg<|Zu<|Ex.keep []<|?_
    exact Ex.ret1 rfl rfl  ⟨congrArg Value.bool (by rw [Eg.long_no fun j hj => hno j W,decide_eq_true (p := ls.length > 100) W,h5]; rfl),rfl,rfl⟩
   ·refine Zp h6<|Zv (Y.fieldAddr Z Law20_fo35_11)<|Zp h6<|Zv (Y.load Z Law20_ts33 (Kn.at 1 Z) Z)<|Zp h6<|Zv (Y.lenSl Z Law20_es33)<|Zp h6<|Zv (Y.int Z Z Z)<|Zv (Y.pick_f Z h6 Z)<|Za Z<|Ze<|Zg<|Zu<|Ex.keep []<|?_
    exact Ex.ret1 rfl rfl  ⟨congrArg Value.bool (by rw [Eg.long_no fun j hj => hno j W,decide_eq_false (p := ls.length > 100) W,h5,show (decide (((x.pool.length : Nat) : Int) > 20)) = decide (x.pool.length > 20) from decide_eq_decide.2 W]; rfl),rfl,rfl⟩
  ·refine Zo (congrArg Bool.not h5) Z<|Zo (congrArg Bool.not h5) Z<|Zo (congrArg Bool.not h5) Z<|Zv (Y.pick_t Z (congrArg Bool.not h5) Z)<|Zm Z<|Zo Z Z<|Zo Z Z<|Zo Z Z<|Zo Z Z<|Zv (Y.pick_t Z Z Z)<|Za Z<|Ze<|Zg<|Zu<|Ex.keep []<|?_
   exact Ex.ret1 rfl rfl  ⟨congrArg Value.bool (by rw [Eg.long_no fun j hj => hno j W,h5]; rfl),rfl,rfl⟩
theorem made20_c {V : Vw} {x : Si} {pp : Option Addr} {cp : Nat} (hv : Rd V [] 2 (.slice pp x.pool.length cp) x.pool.length (x.pool.flatMap Rg.cells)) (hlm : x.pool.length ≤ 1000) (hpk : Rg.Oks x.pool) {ls : List Le} {p2 : Option Addr} {c2 : Nat} (hv2 : Rd V [] 8 (.slice p2 ls.length c2) ls.length (ls.flatMap Le.cells)) (hl9 : ls.length ≤ 9223372036854775807) (hcs : ∀ x,x ∈ ls → x.client.size ≤ 9223372036854775807)  : Does Tryz.prog 12 [.agg (x.cells (.slice pp x.pool.length cp)),.slice p2 ls.length c2] V [] (fun v V' H' => V.le V' ∧ ((Rg.pool x.pool).2 ≠ 0 ∧ v = .tuple #[.pointer none,.pointer none] ∧ H' = [] ∨ (Rg.pool x.pool).2 = 0 ∧ ∃ l tx rx s pl cl ql,v = .tuple #[(pZ tx),(pZ rx)] ∧ Le.In 99 l tx s ∧ Ow 43 8 (.slice pl l.length cl) l.length (l.flatMap Le.cells) ql ∧ l.map Le.addr = Rg.adr (Rg.pool x.pool).1 ∧ Eg.Ab l ∧ H' = [s,[(rx,.cells #[.slice pl l.length cl] 128 (0,0))],ql])) := by
 refine Does.intro Tryz.func12 rfl rfl (le rfl) (fun B => ?_)
 refine Zs<|Zr<|?_
 refine Run.box rfl (lt rfl) (fun b1 => ?_)
 refine Za Z<|Za Z<|Ze<|Zg<|Zs<|Zr<|?_
 by_cases hp0 : (Rg.pool x.pool).2 = 0
 ·refine Zv (Y.fieldAddr Z Law20_fo35_11)<|Zv (Y.load Z Law20_ts33 (Kn.at 0 Z) Z)<|?_
  refine Run.call [] (l := [.tmp 13]) rfl rfl rfl (lt rfl) (new_t (rs := x.pool) hv hlm hpk) (fun v2 V2 H2 hle2 hR2 => ?_)
  rcases hR2 with ⟨_,⟨hpn,_⟩ | ⟨_,tx,s0,rfl,hin0,rfl⟩⟩
  · exact absurd hp0 hpn
  replace hv := hv.le hle2
  replace hv2 := hv2.le hle2
  have hVle := hle2
  refine Run.heapTo (H' := [[(b1,.cells (Si.cells x (.slice pp x.pool.length cp)) 35 (0,0))],s0]) Z<|Run.heapTo (H' := [[(b1,.cells (Si.cells x (.slice pp x.pool.length cp)) 35 (0,0))],s0]) Z<|?_
  refine Zm Z<|Zv (Y.extract Z Z)<|Zv (Y.extract Z Z)<|Za Z<|Za Z<|Ze<|Zg<|Zs<|Zr<|Zv (Y.fieldAddr Z Law20_fo35_11)<|Zv (Y.load Z Law20_ts33 (Kn.at 0 Z) Z)<|?_
  refine Run.call [] (l := [.tmp 19]) rfl rfl rfl (lt rfl) (rnew12_c (rs := x.pool) hv hlm hpk) (fun v3 V3 H3 hle3 hR3 => ?_)
  rcases hR3 with ⟨_,⟨hpn,_⟩ | ⟨_,rx,pl,cl,ql0,rfl,hl0,rfl⟩⟩
  · exact absurd hp0 hpn
  replace hv := hv.le hle3
  replace hv2 := hv2.le hle3
  replace hVle := Vw.le_trans hVle hle3
  refine Run.heapTo (H' := [[(b1,.cells (Si.cells x (.slice pp x.pool.length cp)) 35 (0,0))],s0,[(rx,.cells #[.slice pl (Le.new (Rg.adr (Rg.pool x.pool).1)).length cl] 128 (0,0))],ql0]) Z ?_
  refine Zm Z<|Zv (Y.extract Z Z)<|Zv (Y.extract Z Z)<|Za Z<|Za Z<|Ze<|Zg<|Zs<|Zs<|Zr<|Run.keepTo (H' := [s0,[(rx,.cells #[.slice pl (Le.new (Rg.adr (Rg.pool x.pool).1)).length cl] 128 (0,0))],ql0]) [1,1,1] Z<|Za Z<|Ze<|Zg<|Zb<|?_
  refine ZL (X := Nat × List Le × Sg × Sg) (fun z0 => V3) (fun z0 => [z0.2.2.1,[(rx,.cells #[.slice pl z0.2.1.length cl] 128 (0,0))],z0.2.2.2]) (fun z0 => [(1,.slice p2 ls.length c2),(6,(pZ tx)),(8,(pZ rx)),(10,.int .i64 (z0.1 : Int))]) (fun z0 => Le.In 99 z0.2.1 tx z0.2.2.1 ∧ Ow 43 8 (.slice pl z0.2.1.length cl) z0.2.1.length (z0.2.1.flatMap Le.cells) z0.2.2.2 ∧ z0.2.1.map Le.addr = Rg.adr (Rg.pool x.pool).1 ∧ Eg.Ab z0.2.1 ∧ z0.1 ≤ ls.length) (fun z0 => ls.length - z0.1) (⟨0,Le.new (Rg.adr (Rg.pool x.pool).1),s0,ql0⟩ : Nat × List Le × Sg × Sg) ⟨hin0,hl0,Eg.new_addrs _,Eg.new_ab _,Nat.zero_le _⟩ ?_
  rintro ⟨i1,l,s1,ql⟩ ⟨hin,hl,had,hab,hi⟩
  try dsimp only at hin hl had hab hi ⊢
  refine Zs<|Zs<|Zr<|Zm Z<|Zm Z<|Zv (Y.lenSl Z Law20_es22)<|Zv (Y.int Z Z Z)<|Zm Z<|?_
  rcases Zsplit (decide ((i1 : Int) < ((ls.length : Nat) : Int))) with ⟨h4,g4⟩ | ⟨h4,g4⟩ <;> try simp only [kb] at g4
  ·refine Zp h4<|Zm Z<|Zp h4<|Zv (Y.neNil Z Z Law20_pt38)<|Zv (Y.pick_t Z h4 Z)<|Zm Z<|Zp Z<|Zm Z<|Zp Z<|Zv (Y.neNil Z Z Law20_pt39)<|Zv (Y.pick_t Z Z Z)<|Ze<|Zg<|Tr.cond_t Z Z<|Zt<|Zg<|?_
   refine Zs<|Zb<|Zs<|Zr<|?_
   obtain ⟨hr,hlm2,_⟩ := id hin
   refine Zm Z<|Zm Z<|Zm Z<|Zv (Y.idxR i1 Z Z Law20_es22 hv2.of_nil W W)<|Zv (Y.ldRA (vs := [.int .u32 ((ls.getD i1 Le.dflt).addr),.int .i64 ((ls.getD i1 Le.dflt).bind),.string ((ls.getD i1 Le.dflt).client),.int .i64 ((ls.getD i1 Le.dflt).till),.int .i64 ((ls.getD i1 Le.dflt).acked),.int .i64 ((ls.getD i1 Le.dflt).told),.int .i64 ((ls.getD i1 Le.dflt).at_),.int .i64 ((ls.getD i1 Le.dflt).ver)]) rfl Law20_ag43 hv2.of_nil rfl WD (fun o ho => flatm_atA Le.len W Le.dflt o ho))<|?_
   refine Run.call [0] (l := [.tmp 37,.tmp 41]) rfl rfl rfl (lt rfl) (set_o (q := (ls.getD i1 Le.dflt)) hin (hcs _ (Le.mem_getD W))) (fun v5 V5 H5 hle5 hR5 => ?_)
   obtain ⟨hV,rfl,sb5,hin5,rfl⟩ := hR5; replace hV := hV.symm; subst hV
   refine Run.heapTo (H' := [[(rx,.cells #[.slice pl l.length cl] 128 (0,0))],ql,sb5]) Z<|Run.heapTo (H' := [[(rx,.cells #[.slice pl l.length cl] 128 (0,0))],ql,sb5]) Z<|Ze<|Zg<|Zr<|Zm Z<|Zm Z<|Zm Z<|Zv (Y.idxR i1 Z Z Law20_es22 hv2.of_nil W W)<|Zv (Y.ldRA (vs := [.int .u32 ((ls.getD i1 Le.dflt).addr),.int .i64 ((ls.getD i1 Le.dflt).bind),.string ((ls.getD i1 Le.dflt).client),.int .i64 ((ls.getD i1 Le.dflt).till),.int .i64 ((ls.getD i1 Le.dflt).acked),.int .i64 ((ls.getD i1 Le.dflt).told),.int .i64 ((ls.getD i1 Le.dflt).at_),.int .i64 ((ls.getD i1 Le.dflt).ver)]) rfl Law20_ag43 hv2.of_nil rfl WD (fun o ho => flatm_atA Le.len W Le.dflt o ho))<|?_
   refine Run.call [0,0] (l := [.tmp 43,.tmp 47]) rfl rfl rfl (lt rfl) (rset_c (q := (ls.getD i1 Le.dflt)) hl hlm2 hr (hcs _ (Le.mem_getD W))) (fun v6 V6 H6 hle6 hR6 => ?_)
   obtain ⟨hV,rfl,q6,ho6,rfl⟩ := hR6; replace hV := hV.symm; subst hV
   refine Run.heapTo (H' := [sb5,[(rx,.cells #[.slice pl (Le.setE l (ls.getD i1 Le.dflt)).2.length cl] 128 (0,0))],q6]) Z<|Run.heapTo (H' := [sb5,[(rx,.cells #[.slice pl (Le.setE l (ls.getD i1 Le.dflt)).2.length cl] 128 (0,0))],q6]) Z<|Ze<|Zc<|Zg<|Zr<|Zm Z<|Zv (Y.add Z Z W)<|Za Z<|Ze<|Ex.keep [0,0,0]<|?_
   exact ZR (⟨i1 + 1,(Le.setE l (ls.getD i1 Le.dflt)).2,sb5,q6⟩ : Nat × List Le × Sg × Sg) ⟨hin5,ho6,(Eg.setE_addrs _ _).trans had,Eg.setE_ab hab _,by omega⟩ (by dsimp only; omega)
  ·refine Zo h4 Z<|Zo h4 Z<|Zv (Y.pick_f Z h4 Z)<|Zm Z<|Zo Z Z<|Zo Z Z<|Zv (Y.pick_f Z Z Z)<|Ze<|Zg<|Tr.cond_f Z Z<|Zx<|Zy<|Zy<|Zi<|Zg<|Zs<|?_
   refine Zr<|Zm Z<|Zm Z<|Za Z<|Za Z<|Ze<|Zg<|Zu<|Ex.keepTo (H' := [s1,[(rx,.cells #[.slice pl l.length cl] 128 (0,0))],ql]) [0,0,0] Z<|?_
   exact Ex.ret2 rfl rfl rfl  ⟨hVle,.inr ⟨hp0,l,tx,rx,s1,pl,cl,ql,rfl,hin,hl,had,hab,rfl⟩⟩
 ·refine Zv (Y.fieldAddr Z Law20_fo35_11)<|Zv (Y.load Z Law20_ts33 (Kn.at 0 Z) Z)<|?_
  refine Run.call [] (l := [.tmp 13]) rfl rfl rfl (lt rfl) (new_t (rs := x.pool) hv hlm hpk) (fun v7 V7 H7 hle7 hR7 => ?_)
  obtain ⟨_,rfl,rfl⟩ := hR7.2.resolve_right fun h9 => hp0 h9.1
  replace hv := hv.le hle7
  replace hv2 := hv2.le hle7
  have hVle := hle7
  refine Run.heapTo (H' := [[(b1,.cells (Si.cells x (.slice pp x.pool.length cp)) 35 (0,0))]]) Z<|Run.heapTo (H' := [[(b1,.cells (Si.cells x (.slice pp x.pool.length cp)) 35 (0,0))]]) Z<|?_
  refine Zm Z<|Zv (Y.extract Z Z)<|Zv (Y.extract Z Z)<|Za Z<|Za Z<|Ze<|Zg<|Zs<|Zr<|Zv (Y.fieldAddr Z Law20_fo35_11)<|Zv (Y.load Z Law20_ts33 (Kn.at 0 Z) Z)<|?_
  refine Run.call [] (l := [.tmp 19]) rfl rfl rfl (lt rfl) (rnew12_c (rs := x.pool) hv hlm hpk) (fun v8 V8 H8 hle8 hR8 => ?_)
  obtain ⟨_,rfl,rfl⟩ := hR8.2.resolve_right fun h9 => hp0 h9.1
  replace hv := hv.le hle8
  replace hv2 := hv2.le hle8
  replace hVle := Vw.le_trans hVle hle8
  refine Run.heapTo (H' := [[(b1,.cells (Si.cells x (.slice pp x.pool.length cp)) 35 (0,0))]]) Z<|Run.heapTo (H' := [[(b1,.cells (Si.cells x (.slice pp x.pool.length cp)) 35 (0,0))]]) Z<|?_
  refine Zm Z<|Zv (Y.extract Z Z)<|Zv (Y.extract Z Z)<|Za Z<|Za Z<|Ze<|Zg<|Zs<|Zs<|Zr<|Run.keepTo (H' := []) [] Z<|Za Z<|Ze<|Zg<|Zb<|?_
  refine ZL (X := Nat) (fun z0 => V8) (fun z0 => []) (fun z0 => [(1,.slice p2 ls.length c2),(6,.pointer none),(8,.pointer none),(10,.int .i64 (z0 : Int))]) (fun z0 => z0 = 0) (fun z0 => ls.length - z0) (0 : Nat) rfl ?_
  rintro i1 hi
  refine Zs<|Zs<|Zr<|Zm Z<|Zm Z<|Zv (Y.lenSl Z Law20_es22)<|Zv (Y.int Z Z Z)<|Zm Z<|?_
  rcases Zsplit (decide ((i1 : Int) < ((ls.length : Nat) : Int))) with ⟨h9,g9⟩ | ⟨h9,g9⟩ <;> try simp only [kb] at g9
  ·refine Zp h9<|Zm Z<|Zp h9<|Zv (Y.neNil Z Z Law20_pt38)<|Zv (Y.pick_t Z h9 Z)<|Zm Z<|Zo Z Z<|Zo Z Z<|Zv (Y.pick_f Z Z Z)<|Ze<|Zg<|Tr.cond_f Z Z<|Zx<|Zy<|Zy<|Zi<|?_
   refine Zg<|Zs<|Zr<|Zm Z<|Zm Z<|Za Z<|Za Z<|Ze<|Zg<|Zu<|Ex.keep []<|?_
   exact Ex.ret2 rfl rfl rfl  ⟨hVle,.inl ⟨hp0,rfl,rfl⟩⟩
  ·refine Zo h9 Z<|Zo h9 Z<|Zv (Y.pick_f Z h9 Z)<|Zm Z<|Zo Z Z<|Zo Z Z<|Zv (Y.pick_f Z Z Z)<|Ze<|Zg<|Tr.cond_f Z Z<|Zx<|Zy<|Zy<|Zi<|Zg<|Zs<|?_
   refine Zr<|Zm Z<|Zm Z<|Za Z<|Za Z<|Ze<|Zg<|Zu<|Ex.keep []<|?_
   exact Ex.ret2 rfl rfl rfl  ⟨hVle,.inl ⟨hp0,rfl,rfl⟩⟩
set_option maxHeartbeats 1000000 in
theorem awake20_c  {V : Vw} : Does Tryz.prog 9 [] V [] (fun v V' H' => V.le V' ∧ H' = [] ∧ v = .bool true) := by
 refine Does.intro Tryz.func9 rfl rfl (le rfl) (fun B => ?_)
 refine Zs<|Zr<|Za Z<|Ze<|Zg<|Zs<|Zr<|?_
 refine Run.call [] (l := [.const (.int .i64 0)]) rfl rfl rfl (lt rfl) (site20_c (id := 0)) (fun v1 V1 H1 hle1 hR1 => ?_)
 obtain ⟨_,rfl,pv1,rfl,hpv1⟩ := hR1; obtain ⟨pp1,cp1,rfl,_⟩ := hpv1.form
 obtain ⟨W1,hVe⟩ : ∃ Vz : Vw,Vz = V1 := ⟨_,rfl⟩; subst hVe
 have hVle := hle1
 refine Run.heapTo (H' := []) Z<|Run.heapTo (H' := []) Z<|Zv (Y.field Z Law20_fs35_11 Z)<|?_
 refine Run.call [] (l := [.tmp 7]) rfl rfl rfl (lt rfl) (new_t (rs := [⟨1,6⟩]) hpv1 (Nat.le_of_ble_eq_true rfl) Eg.oks6) (fun v2 V2 H2 hle2 hR2 => ?_)
 rw [Eg.pool6] at hR2; dsimp only at hR2; rw [Eg.adr6] at hR2
 rcases hR2 with ⟨_,⟨hpn,_⟩ | ⟨_,tx,sb,rfl,hin,rfl⟩⟩
 · exact absurd rfl hpn
 replace hpv1 := hpv1.le hle2
 replace hVle := Vw.le_trans hVle hle2
 refine Run.heapTo (H' := [sb]) Z<|Run.heapTo (H' := [sb]) Z<|Zm Z<|Zv (Y.extract Z Z)<|Zv (Y.extract Z Z)<|Za Z<|Za Z<|Ze<|Zg<|Zs<|Zs<|Zr<|Zm Z<|Zv (Y.int (r := .bool false) Z Z Z)<|Zm Z<|Zp Z<|?_
 refine Zm Z<|Zp Z<|Zv (Y.eqNil Z Z Law20_pt38)<|Zv (Y.pick_f Z Z Z)<|Ze<|Zg<|Tr.cond_f Z Z<|Zt<|Zg<|Zs<|Zr<|?_
 refine Run.buildSlice (l := [(0,.const (.int .u8 3))]) Law20_es25 Law20_zo5 rfl WD rfl rfl WD (lt rfl) (fun b3 => ?_)
 refine Run.buildSlice (l := [(0,.const (.int .u8 1))]) Law20_es25 Law20_zo5 rfl WD rfl rfl WD (lt rfl) (fun b4 => ?_)
 refine Zv (Y.buildS (l := [(0,.const (.int .i64 53)),(1,.tmp 18)]) Law20_zo81 Law20_pl81 Z Z) ?_
 refine Run.buildSlice (l := [(0,.tmp 19)]) Law20_es26 Law20_zo81 rfl WD rfl rfl WD (lt rfl) (fun b5 => ?_)
 refine Zv (Y.buildS (l := [(0,.const (.int .i64 1)),(1,.const (.int .u32 7)),(8,.tmp 17),(9,.tmp 20)]) Law20_zo28 Law20_pl28 Z Z) ?_
 refine Run.alloc Law20_zo28 (lt rfl) (fun b6 => ?_)
 refine Run.keepTo (H' := [[(b3,.cells #[.int .u8 3] 5 (0,0))],[(b6,.cells #[.int .i64 0,.int .u32 0,.int .i64 0,.int .i64 0,.int .u32 0,.int .u32 0,.int .u32 0,.int .u32 0,.slice none 0 0,.slice none 0 0] 28 (0,0))],[(b5,.cells #[.int .i64 53,.slice (some ⟨b4,0,none⟩) 1 1] 81 (0,0))],[(b4,.cells #[.int .u8 1] 5 (0,0))],sb]) [3,0,0,0,0] Z ?_
 refine Run.show (fun V7 hleV7 hshV7 => ?_)
 have hhw := (Ow.lit (e := 5) (k := 1) (b := b3) (n := 1) (cur := #[.int .u8 3]) rfl WD).shows _ hshV7
 replace hpv1 := hpv1.le hleV7
 replace hVle := Vw.le_trans hVle hleV7
 refine Run.keepTo (H' := [[(b4,.cells #[.int .u8 1] 5 (0,0))],[(b6,.cells #[.int .i64 0,.int .u32 0,.int .i64 0,.int .i64 0,.int .u32 0,.int .u32 0,.int .u32 0,.int .u32 0,.slice none 0 0,.slice none 0 0] 28 (0,0))],[(b5,.cells #[.int .i64 53,.slice (some ⟨b4,0,none⟩) 1 1] 81 (0,0))],sb]) [2,0,0,0] Z ?_
 refine Run.show (fun V8 hleV8 hshV8 => ?_)
 have hdd := (Ow.lit (e := 5) (k := 1) (b := b4) (n := 1) (cur := #[.int .u8 1]) rfl WD).shows _ hshV8
 replace hpv1 := hpv1.le hleV8
 replace hhw := hhw.le hleV8
 replace hVle := Vw.le_trans hVle hleV8
 refine Run.keepTo (H' := [[(b5,.cells #[.int .i64 53,.slice (some ⟨b4,0,none⟩) 1 1] 81 (0,0))],[(b6,.cells #[.int .i64 0,.int .u32 0,.int .i64 0,.int .i64 0,.int .u32 0,.int .u32 0,.int .u32 0,.int .u32 0,.slice none 0 0,.slice none 0 0] 28 (0,0))],sb]) [1,0,0] Z ?_
 refine Run.show (fun V9 hleV9 hshV9 => ?_)
 have hoo := (Ow.lit (e := 81) (k := 2) (b := b5) (n := 1) (cur := #[.int .i64 53,.slice (some ⟨b4,0,none⟩) 1 1]) rfl WD).shows _ hshV9
 replace hpv1 := hpv1.le hleV9
 replace hhw := hhw.le hleV9
 replace hdd := hdd.le hleV9
 replace hVle := Vw.le_trans hVle hleV9
 have hpa : Pc.R V9 Eg.pa (.slice (some ⟨b3,0,none⟩) 1 1) (.slice (some ⟨b5,0,none⟩) 1 1) := ⟨hhw,Pc.rs_of (L := [(⟨53,.slice (some ⟨b4,0,none⟩) 1 1,[1]⟩ : Opn)]) hoo (Opn.Rds.one hdd) rfl,by decide,by decide,by decide⟩
 refine Run.store (s := [(b6,.cells #[.int .i64 1,.int .u32 7,.int .i64 0,.int .i64 0,.int .u32 0,.int .u32 0,.int .u32 0,.int .u32 0,.slice (some ⟨b3,0,none⟩) 1 1,.slice (some ⟨b5,0,none⟩) 1 1] 28 (0,0))]) Z Z Law20_sz28 (i := 0) Z Z (le Z) Z Z<|Ze<|Zg<|Zs<|Tr.anyD [(b6,.cells #[.int .i64 1,.int .u32 7,.int .i64 0,.int .i64 0,.int .u32 0,.int .u32 0,.int .u32 0,.int .u32 0,.slice (some ⟨b3,0,none⟩) 1 1,.slice (some ⟨b5,0,none⟩) 1 1] 28 (0,0))] Law20_mo<|?_
 refine RunD.pure (i := 1) rfl WK WK WK (fun _ _ _ h => h) (lt rfl) (ZK 0 Z) (fun _ => (Y.move rfl))<|RunD.take (i := 2) 0 rfl rfl WK WK WK (fun _ _ _ h => h) (lt rfl) (ZK 0 Z) (fun _ => (Y.loadAgg rfl Law20_ag28 Kn.vk1 rfl))<|?_
 refine RunD.two (i := 0) (j := 4) WK rfl rfl  ?_ ?_
 ·refine Run.call [] (l := [.const (.int .i64 0)]) rfl rfl rfl (lt rfl) (site20_c (id := 0)) (fun v10 V10 H10 hle10 hR10 => ?_)
  obtain ⟨_,rfl,pv10,rfl,hpv10⟩ := hR10; obtain ⟨pp10,cp10,rfl,_⟩ := hpv10.form
  obtain ⟨W10,hVe⟩ : ∃ Vz : Vw,Vz = V10 := ⟨_,rfl⟩; subst hVe
  replace hpv1 := hpv1.le hle10
  replace hpa := hpa.le hle10
  replace hVle := Vw.le_trans hVle hle10
  refine Run.heapTo (H' := [[(b6,.cells #[.int .i64 1,.int .u32 7,.int .i64 0,.int .i64 0,.int .u32 0,.int .u32 0,.int .u32 0,.int .u32 0,.slice (some ⟨b3,0,none⟩) 1 1,.slice (some ⟨b5,0,none⟩) 1 1] 28 (0,0))],sb]) Z<|Run.heapTo (H' := [[(b6,.cells #[.int .i64 1,.int .u32 7,.int .i64 0,.int .i64 0,.int .u32 0,.int .u32 0,.int .u32 0,.int .u32 0,.slice (some ⟨b3,0,none⟩) 1 1,.slice (some ⟨b5,0,none⟩) 1 1] 28 (0,0))],sb]) Z<|?_
  refine Ze<|Ex.anyD (ZK 0 Z)<|?_
  refine RunD.two (i := 3) (j := 4) WK rfl rfl  ?_ ?_
  ·refine Run.call [1] (l := [.tmp 22,.tmp 23,.const (.int .i64 1),.const (.int .i64 5),.const (.int .i64 0),.tmp 24]) rfl rfl rfl (lt rfl) (answer_t (x := Eg.si 0) (p := Eg.pa) (l := Le.new [1,2,3,4,5,6]) (state := 1) (now := 5) (entry := 0) hpv10 (Nat.le_of_ble_eq_true rfl) Eg.oks6 hpa Eg.pa_few WD WD hin (fun y hy => by have := Eg.la6 (Eg.new_addrs _) y hy; omega)) (fun v11 V11 H11 hle11 hR11 => ?_)
   obtain ⟨_,rfl,hv11,ov11,rfl,hRa⟩ := hR11
   obtain ⟨W11,hVe⟩ : ∃ Vz : Vw,Vz = V11 := ⟨_,rfl⟩; subst hVe
   replace hpv1 := hpv1.le hle11
   replace hpa := hpa.le hle11
   replace hpv10 := hpv10.le hle11
   replace hVle := Vw.le_trans hVle hle11
   obtain ⟨⟨pg11,cg11,rfl⟩,pk11,nk11,ck11,rfl⟩ := hRa.forms
   generalize hA : Eg.ans (Eg.si 0) (Le.new [1,2,3,4,5,6]) 1 5 0 Eg.pa = A at hRa ⊢
   replace hA := hA.symm
   refine Run.heapTo (H' := [[(b6,.cells #[.int .i64 1,.int .u32 7,.int .i64 0,.int .i64 0,.int .u32 0,.int .u32 0,.int .u32 0,.int .u32 0,.slice (some ⟨b3,0,none⟩) 1 1,.slice (some ⟨b5,0,none⟩) 1 1] 28 (0,0))],sb]) Z<|Run.heapTo (H' := [[(b6,.cells #[.int .i64 1,.int .u32 7,.int .i64 0,.int .i64 0,.int .u32 0,.int .u32 0,.int .u32 0,.int .u32 0,.slice (some ⟨b3,0,none⟩) 1 1,.slice (some ⟨b5,0,none⟩) 1 1] 28 (0,0))],sb]) Z<|?_
   refine Ze<|Ex.anyD (ZK 0 Z)<|?_
   refine RunD.one (i := 4) WK rfl  ?_
   refine Run.alloc Law20_zo45 (lt rfl) (fun b12 => ?_)
   refine Ze<|Ex.anyD (ZK 1 Z)<|?_
   refine RunD.one (i := 5) WK rfl  ?_
   refine Run.stAll (l2 := [.bool A.send,.int .i64 A.reply.op,.int .u32 A.reply.xid,.int .i64 A.reply.secs,.int .i64 A.reply.flags,.int .u32 A.reply.ci,.int .u32 A.reply.yi,.int .u32 A.reply.si,.int .u32 A.reply.gi,.slice pg11 A.reply.hw.length cg11,.slice pk11 nk11 ck11,.bool A.change,.int .u32 A.lease.addr,.int .i64 A.lease.bind,.string A.lease.client,.int .i64 A.lease.till,.int .i64 A.lease.acked,.int .i64 A.lease.told,.int .i64 A.lease.at_,.int .i64 A.lease.ver,.int .i64 A.pot]) (j := 0) Z Z Law20_sz45 Z Z Z Z ?_
   refine Run.heapTo (H' := [[(b12,.cells (An.cells A (.slice pg11 A.reply.hw.length cg11) (.slice pk11 nk11 ck11)) 45 (0,0))],[(b6,.cells #[.int .i64 1,.int .u32 7,.int .i64 0,.int .i64 0,.int .u32 0,.int .u32 0,.int .u32 0,.int .u32 0,.slice (some ⟨b3,0,none⟩) 1 1,.slice (some ⟨b5,0,none⟩) 1 1] 28 (0,0))],sb]) Z ?_
   refine Ze<|Ex.anyD (ZK 1 Z)<|RunD.done WK<|Zg<|Zs<|Zr<|?_
   have hA1 : A.send = true := by rw [hA]; exact Eg.aw_send
   have hA2 : (A.reply.yi == 1) = true := by rw [hA]; exact beq_iff_eq.2 Eg.aw_yi
   have hA3 : (Pc.kind A.reply == 2) = true := by rw [hA]; exact beq_iff_eq.2 Eg.aw_kind
   have hA4 : A.change = false := by rw [hA]; exact Eg.aw_change
   refine Zv (Y.fieldAddr Z Law20_fo45_0)<|Zv (Y.load Z Law20_ts4 (Kn.at 0 Z) Z)<|Zm Z<|Zp hA1<|Zv (Y.fieldAddr Z Law20_fo45_1)<|Zp hA1<|Zv (Y.fieldAddr Z Law20_fo28_5)<|Zp hA1<|Zv (Y.load Z Law20_ts24 (Kn.at 0 Z) Z)<|Zp hA1<|Zv (Y.int Z Z Z)<|Zv (Y.pick_t Z hA1 Z)<|Zm Z<|Zp hA2<|Zv (Y.fieldAddr Z Law20_fo45_1)<|Zp hA2<|?_
   refine Zv (Y.loadAgg Z Law20_ag28 (Kn.at 0 Z) Z)<|Zp hA2<|Run.call0 (l := [.tmp 36]) rfl rfl rfl (lt rfl) (kind_h hRa (by rw [hA]; exact Eg.aw_few))<|Zp hA2<|Zv (Y.int Z Z Z)<|Zv (Y.pick_t Z hA2 Z)<|Zm Z<|Zp hA3<|Zv (Y.fieldAddr Z Law20_fo45_2)<|Zp hA3<|Zv (Y.load Z Law20_ts4 (Kn.at 0 Z) Z)<|Zp hA3<|Zv (Y.not Z)<|Zv (Y.pick_t Z hA3 Z)<|Za Z<|Ze<|?_
   refine Zg<|Zu<|Ex.keep []<|?_
   exact Ex.ret1 rfl rfl  ⟨hVle,rfl,congrArg Value.bool (congrArg Bool.not hA4)⟩
  ·refine Run.alloc Law20_zo45 (lt rfl) (fun b13 => ?_)
   refine Ze<|Ex.anyD (ZK 1 Z)<|?_
   refine RunD.one (i := 3) WK rfl  ?_
   refine Run.call [2] (l := [.tmp 22,.tmp 23,.const (.int .i64 1),.const (.int .i64 5),.const (.int .i64 0),.tmp 24]) rfl rfl rfl (lt rfl) (answer_t (x := Eg.si 0) (p := Eg.pa) (l := Le.new [1,2,3,4,5,6]) (state := 1) (now := 5) (entry := 0) hpv10 (Nat.le_of_ble_eq_true rfl) Eg.oks6 hpa Eg.pa_few WD WD hin (fun y hy => by have := Eg.la6 (Eg.new_addrs _) y hy; omega)) (fun v14 V14 H14 hle14 hR14 => ?_)
   obtain ⟨_,rfl,hv14,ov14,rfl,hRa⟩ := hR14
   obtain ⟨W14,hVe⟩ : ∃ Vz : Vw,Vz = V14 := ⟨_,rfl⟩; subst hVe
   replace hpv1 := hpv1.le hle14
   replace hpa := hpa.le hle14
   replace hpv10 := hpv10.le hle14
   replace hVle := Vw.le_trans hVle hle14
   obtain ⟨⟨pg14,cg14,rfl⟩,pk14,nk14,ck14,rfl⟩ := hRa.forms
   generalize hA : Eg.ans (Eg.si 0) (Le.new [1,2,3,4,5,6]) 1 5 0 Eg.pa = A at hRa ⊢
   replace hA := hA.symm
   refine Run.heapTo (H' := [[(b13,.cells an0 45 (0,0))],[(b6,.cells #[.int .i64 1,.int .u32 7,.int .i64 0,.int .i64 0,.int .u32 0,.int .u32 0,.int .u32 0,.int .u32 0,.slice (some ⟨b3,0,none⟩) 1 1,.slice (some ⟨b5,0,none⟩) 1 1] 28 (0,0))],sb]) Z ?_
   refine Ze<|Ex.anyD (ZK 1 Z)<|?_
   refine RunD.one (i := 5) WK rfl  ?_
   refine Run.stAll (l2 := [.bool A.send,.int .i64 A.reply.op,.int .u32 A.reply.xid,.int .i64 A.reply.secs,.int .i64 A.reply.flags,.int .u32 A.reply.ci,.int .u32 A.reply.yi,.int .u32 A.reply.si,.int .u32 A.reply.gi,.slice pg14 A.reply.hw.length cg14,.slice pk14 nk14 ck14,.bool A.change,.int .u32 A.lease.addr,.int .i64 A.lease.bind,.string A.lease.client,.int .i64 A.lease.till,.int .i64 A.lease.acked,.int .i64 A.lease.told,.int .i64 A.lease.at_,.int .i64 A.lease.ver,.int .i64 A.pot]) (j := 0) Z Z Law20_sz45 Z Z Z Z ?_
   refine Run.heapTo (H' := [[(b13,.cells (An.cells A (.slice pg14 A.reply.hw.length cg14) (.slice pk14 nk14 ck14)) 45 (0,0))],[(b6,.cells #[.int .i64 1,.int .u32 7,.int .i64 0,.int .i64 0,.int .u32 0,.int .u32 0,.int .u32 0,.int .u32 0,.slice (some ⟨b3,0,none⟩) 1 1,.slice (some ⟨b5,0,none⟩) 1 1] 28 (0,0))],sb]) Z ?_
   refine Ze<|Ex.anyD (ZK 1 Z)<|RunD.done WK<|Zg<|Zs<|Zr<|?_
   have hA1 : A.send = true := by rw [hA]; exact Eg.aw_send
   have hA2 : (A.reply.yi == 1) = true := by rw [hA]; exact beq_iff_eq.2 Eg.aw_yi
   have hA3 : (Pc.kind A.reply == 2) = true := by rw [hA]; exact beq_iff_eq.2 Eg.aw_kind
   have hA4 : A.change = false := by rw [hA]; exact Eg.aw_change
   refine Zv (Y.fieldAddr Z Law20_fo45_0)<|Zv (Y.load Z Law20_ts4 (Kn.at 0 Z) Z)<|Zm Z<|Zp hA1<|Zv (Y.fieldAddr Z Law20_fo45_1)<|Zp hA1<|Zv (Y.fieldAddr Z Law20_fo28_5)<|Zp hA1<|Zv (Y.load Z Law20_ts24 (Kn.at 0 Z) Z)<|Zp hA1<|Zv (Y.int Z Z Z)<|Zv (Y.pick_t Z hA1 Z)<|Zm Z<|Zp hA2<|Zv (Y.fieldAddr Z Law20_fo45_1)<|Zp hA2<|?_
   refine Zv (Y.loadAgg Z Law20_ag28 (Kn.at 0 Z) Z)<|Zp hA2<|Run.call0 (l := [.tmp 36]) rfl rfl rfl (lt rfl) (kind_h hRa (by rw [hA]; exact Eg.aw_few))<|Zp hA2<|Zv (Y.int Z Z Z)<|Zv (Y.pick_t Z hA2 Z)<|Zm Z<|Zp hA3<|Zv (Y.fieldAddr Z Law20_fo45_2)<|Zp hA3<|Zv (Y.load Z Law20_ts4 (Kn.at 0 Z) Z)<|Zp hA3<|Zv (Y.not Z)<|Zv (Y.pick_t Z hA3 Z)<|Za Z<|Ze<|?_
   refine Zg<|Zu<|Ex.keep []<|?_
   exact Ex.ret1 rfl rfl  ⟨hVle,rfl,congrArg Value.bool (congrArg Bool.not hA4)⟩
 ·refine Run.alloc Law20_zo45 (lt rfl) (fun b15 => ?_)
  refine Ze<|Ex.anyD (ZK 1 Z)<|?_
  refine RunD.one (i := 0) WK rfl  ?_
  refine Run.call [] (l := [.const (.int .i64 0)]) rfl rfl rfl (lt rfl) (site20_c (id := 0)) (fun v16 V16 H16 hle16 hR16 => ?_)
  obtain ⟨_,rfl,pv16,rfl,hpv16⟩ := hR16; obtain ⟨pp16,cp16,rfl,_⟩ := hpv16.form
  obtain ⟨W16,hVe⟩ : ∃ Vz : Vw,Vz = V16 := ⟨_,rfl⟩; subst hVe
  replace hpv1 := hpv1.le hle16
  replace hpa := hpa.le hle16
  replace hVle := Vw.le_trans hVle hle16
  refine Run.heapTo (H' := [[(b15,.cells an0 45 (0,0))],[(b6,.cells #[.int .i64 1,.int .u32 7,.int .i64 0,.int .i64 0,.int .u32 0,.int .u32 0,.int .u32 0,.int .u32 0,.slice (some ⟨b3,0,none⟩) 1 1,.slice (some ⟨b5,0,none⟩) 1 1] 28 (0,0))],sb]) Z ?_
  refine Ze<|Ex.anyD (ZK 1 Z)<|?_
  refine RunD.one (i := 3) WK rfl  ?_
  refine Run.call [2] (l := [.tmp 22,.tmp 23,.const (.int .i64 1),.const (.int .i64 5),.const (.int .i64 0),.tmp 24]) rfl rfl rfl (lt rfl) (answer_t (x := Eg.si 0) (p := Eg.pa) (l := Le.new [1,2,3,4,5,6]) (state := 1) (now := 5) (entry := 0) hpv16 (Nat.le_of_ble_eq_true rfl) Eg.oks6 hpa Eg.pa_few WD WD hin (fun y hy => by have := Eg.la6 (Eg.new_addrs _) y hy; omega)) (fun v17 V17 H17 hle17 hR17 => ?_)
  obtain ⟨_,rfl,hv17,ov17,rfl,hRa⟩ := hR17
  obtain ⟨W17,hVe⟩ : ∃ Vz : Vw,Vz = V17 := ⟨_,rfl⟩; subst hVe
  replace hpv1 := hpv1.le hle17
  replace hpa := hpa.le hle17
  replace hpv16 := hpv16.le hle17
  replace hVle := Vw.le_trans hVle hle17
  obtain ⟨⟨pg17,cg17,rfl⟩,pk17,nk17,ck17,rfl⟩ := hRa.forms
  generalize hA : Eg.ans (Eg.si 0) (Le.new [1,2,3,4,5,6]) 1 5 0 Eg.pa = A at hRa ⊢
  replace hA := hA.symm
  refine Run.heapTo (H' := [[(b15,.cells an0 45 (0,0))],[(b6,.cells #[.int .i64 1,.int .u32 7,.int .i64 0,.int .i64 0,.int .u32 0,.int .u32 0,.int .u32 0,.int .u32 0,.slice (some ⟨b3,0,none⟩) 1 1,.slice (some ⟨b5,0,none⟩) 1 1] 28 (0,0))],sb]) Z ?_
  refine Ze<|Ex.anyD (ZK 1 Z)<|?_
  refine RunD.one (i := 5) WK rfl  ?_
  refine Run.stAll (l2 := [.bool A.send,.int .i64 A.reply.op,.int .u32 A.reply.xid,.int .i64 A.reply.secs,.int .i64 A.reply.flags,.int .u32 A.reply.ci,.int .u32 A.reply.yi,.int .u32 A.reply.si,.int .u32 A.reply.gi,.slice pg17 A.reply.hw.length cg17,.slice pk17 nk17 ck17,.bool A.change,.int .u32 A.lease.addr,.int .i64 A.lease.bind,.string A.lease.client,.int .i64 A.lease.till,.int .i64 A.lease.acked,.int .i64 A.lease.told,.int .i64 A.lease.at_,.int .i64 A.lease.ver,.int .i64 A.pot]) (j := 0) Z Z Law20_sz45 Z Z Z Z ?_
  refine Run.heapTo (H' := [[(b15,.cells (An.cells A (.slice pg17 A.reply.hw.length cg17) (.slice pk17 nk17 ck17)) 45 (0,0))],[(b6,.cells #[.int .i64 1,.int .u32 7,.int .i64 0,.int .i64 0,.int .u32 0,.int .u32 0,.int .u32 0,.int .u32 0,.slice (some ⟨b3,0,none⟩) 1 1,.slice (some ⟨b5,0,none⟩) 1 1] 28 (0,0))],sb]) Z ?_
  refine Ze<|Ex.anyD (ZK 1 Z)<|RunD.done WK<|Zg<|Zs<|Zr<|?_
  have hA1 : A.send = true := by rw [hA]; exact Eg.aw_send
  have hA2 : (A.reply.yi == 1) = true := by rw [hA]; exact beq_iff_eq.2 Eg.aw_yi
  have hA3 : (Pc.kind A.reply == 2) = true := by rw [hA]; exact beq_iff_eq.2 Eg.aw_kind
  have hA4 : A.change = false := by rw [hA]; exact Eg.aw_change
  refine Zv (Y.fieldAddr Z Law20_fo45_0)<|Zv (Y.load Z Law20_ts4 (Kn.at 0 Z) Z)<|Zm Z<|Zp hA1<|Zv (Y.fieldAddr Z Law20_fo45_1)<|Zp hA1<|Zv (Y.fieldAddr Z Law20_fo28_5)<|Zp hA1<|Zv (Y.load Z Law20_ts24 (Kn.at 0 Z) Z)<|Zp hA1<|Zv (Y.int Z Z Z)<|Zv (Y.pick_t Z hA1 Z)<|Zm Z<|Zp hA2<|Zv (Y.fieldAddr Z Law20_fo45_1)<|Zp hA2<|?_
  refine Zv (Y.loadAgg Z Law20_ag28 (Kn.at 0 Z) Z)<|Zp hA2<|Run.call0 (l := [.tmp 36]) rfl rfl rfl (lt rfl) (kind_h hRa (by rw [hA]; exact Eg.aw_few))<|Zp hA2<|Zv (Y.int Z Z Z)<|Zv (Y.pick_t Z hA2 Z)<|Zm Z<|Zp hA3<|Zv (Y.fieldAddr Z Law20_fo45_2)<|Zp hA3<|Zv (Y.load Z Law20_ts4 (Kn.at 0 Z) Z)<|Zp hA3<|Zv (Y.not Z)<|Zv (Y.pick_t Z hA3 Z)<|Za Z<|Ze<|?_
  refine Zg<|Zu<|Ex.keep []<|?_
  exact Ex.ret1 rfl rfl  ⟨hVle,rfl,congrArg Value.bool (congrArg Bool.not hA4)⟩
end Go.Proofs.YtfgblingojgafaaGreat
namespace Go.Proofs.YtfgblingojgafaaGreat
open Go Go.K
attribute [local irreducible] Code.wp wpList Calls wpQuiet
end Go.Proofs.YtfgblingojgafaaGreat
namespace Go.Proofs.YtfgblingojgafaaGreat
open Go Go.K
attribute [local irreducible] Code.wp wpList Calls wpQuiet
theorem Law20n_zo35 : zeroOf Tryz.prog 35 = some (.agg #[.int .i64 0,.int .i64 0,.int .i64 0,.int .u32 0,.int .i64 0,.int .i64 0,.int .i64 0,.float .f64 0,.float .f64 0,.float .f64 0,.float .f64 0,.slice none 0 0,.int .i64 0]) := by kernel_rfl
theorem Law20n_sz35 : sizeT Tryz.prog 35 = some 13 := by kernel_rfl
theorem Law20n_ag35 : aggsz Tryz.prog 35 = some 13 := by kernel_rfl
theorem Law20n_ag30 : aggsz Tryz.prog 30 = some 13 := by kernel_rfl
theorem Law20n_fo30_0 : fieldOff Tryz.prog 30 0 = some 0 := by kernel_rfl
theorem Law20n_ts3 : scal Tryz.prog 3 = true := by kernel_rfl
theorem Law20n_fo30_1 : fieldOff Tryz.prog 30 1 = some 1 := by kernel_rfl
theorem Law20n_fo30_2 : fieldOff Tryz.prog 30 2 = some 2 := by kernel_rfl
theorem Law20n_fo30_3 : fieldOff Tryz.prog 30 3 = some 3 := by kernel_rfl
theorem Law20n_ag28 : aggsz Tryz.prog 28 = some 10 := by kernel_rfl
theorem Law20n_zo45 : zeroOf Tryz.prog 45 = some (.agg #[.bool false,.int .i64 0,.int .u32 0,.int .i64 0,.int .i64 0,.int .u32 0,.int .u32 0,.int .u32 0,.int .u32 0,.slice none 0 0,.slice none 0 0,.bool false,.int .u32 0,.int .i64 0,.string ⟨#[]⟩,.int .i64 0,.int .i64 0,.int .i64 0,.int .i64 0,.int .i64 0,.int .i64 0]) := by kernel_rfl
theorem Law20n_sz45 : sizeT Tryz.prog 45 = some 21 := by kernel_rfl
theorem Law20n_fo45_1 : fieldOff Tryz.prog 45 1 = some 1 := by kernel_rfl
theorem Law20n_fo45_0 : fieldOff Tryz.prog 45 0 = some 0 := by kernel_rfl
theorem Law20n_ts4 : scal Tryz.prog 4 = true := by kernel_rfl
theorem Law20n_fo45_4 : fieldOff Tryz.prog 45 4 = some 20 := by kernel_rfl
theorem Law20n_fo45_2 : fieldOff Tryz.prog 45 2 = some 11 := by kernel_rfl
theorem Law20n_fo45_3 : fieldOff Tryz.prog 45 3 = some 12 := by kernel_rfl
theorem Law20n_fo43_1 : fieldOff Tryz.prog 43 1 = some 1 := by kernel_rfl
theorem Law20n_fo28_5 : fieldOff Tryz.prog 28 5 = some 5 := by kernel_rfl
theorem Law20n_ts24 : scal Tryz.prog 24 = true := by kernel_rfl
theorem Law20n_fo28_9 : fieldOff Tryz.prog 28 9 = some 9 := by kernel_rfl
theorem Law20n_ts26 : scal Tryz.prog 26 = true := by kernel_rfl
theorem Law20n_mo : Tryz.prog.follows .mixedOrders = true := by kernel_rfl
theorem Law20n_fo43_0 : fieldOff Tryz.prog 43 0 = some 0 := by kernel_rfl
theorem Law20n_fo43_2 : fieldOff Tryz.prog 43 2 = some 2 := by kernel_rfl
theorem Law20n_ts9 : scal Tryz.prog 9 = true := by kernel_rfl
theorem Law20n_fo43_3 : fieldOff Tryz.prog 43 3 = some 3 := by kernel_rfl
theorem Law20n_fo43_6 : fieldOff Tryz.prog 43 6 = some 6 := by kernel_rfl
set_option maxHeartbeats 1000000 in
theorem notes20_c {V : Vw} {id : Int} {ls : List Le} {p2 : Option Addr} {c2 : Nat} (hv2 : Rd V [] 8 (.slice p2 ls.length c2) ls.length (ls.flatMap Le.cells)) (hl9 : ls.length ≤ 9223372036854775807) (hcs : ∀ x,x ∈ ls → x.client.size ≤ 9223372036854775807) {c : Eg.Cs} (hco : Eg.Csok V c)  : Does Tryz.prog 3 [.int .i64 id,.slice p2 ls.length c2,.agg c.cells] V [] (fun v _ _ => v = .bool true) := by
 refine Does.intro Tryz.func3 rfl rfl (le rfl) (fun B => ?_)
 refine Zs<|Zr<|?_
 refine Run.box rfl (lt rfl) (fun b1 => ?_)
 refine Za Z<|Ze<|Zg<|Zs<|Zr<|?_
 refine Run.call [] (l := []) rfl rfl rfl (lt rfl) awake20_c (fun v2 V2 H2 hle2 hR2 => ?_)
 obtain ⟨_,rfl,rfl⟩ := hR2
 obtain ⟨W2,hVe⟩ : ∃ Vz : Vw,Vz = V2 := ⟨_,rfl⟩; subst hVe
 replace hv2 := hv2.le hle2
 replace hco := hco.le hle2
 have hVle := hle2
 refine Run.heapTo (H' := [[(b1,.cells (Eg.Cs.cells c) 30 (0,0))]]) Z<|Run.heapTo (H' := [[(b1,.cells (Eg.Cs.cells c) 30 (0,0))]]) Z<|?_
 refine Za Z<|Ze<|Zg<|Zs<|Zr<|Zm Z<|Zv (Y.int (r := .int .i64 (id % 2)) rfl rfl (by simp only [intRes]; rw [and_low2 id 1 2 1 WD rfl rfl]))<|?_
 refine Run.call [] (l := [.tmp 20]) rfl rfl rfl (lt rfl) (site20_c (id := id % 2)) (fun v3 V3 H3 hle3 hR3 => ?_)
 obtain ⟨_,rfl,pv3,rfl,hpv3⟩ := hR3; obtain ⟨pp3,cp3,rfl,_⟩ := hpv3.form
 obtain ⟨W3,hVe⟩ : ∃ Vz : Vw,Vz = V3 := ⟨_,rfl⟩; subst hVe
 replace hv2 := hv2.le hle3
 replace hco := hco.le hle3
 replace hVle := Vw.le_trans hVle hle3
 refine Run.heapTo (H' := [[(b1,.cells (Eg.Cs.cells c) 30 (0,0))]]) Z<|Run.heapTo (H' := [[(b1,.cells (Eg.Cs.cells c) 30 (0,0))]]) Z<|?_
 refine Run.alloc Law20n_zo35 (lt rfl) (fun b4 => ?_)
 refine Run.store (s := [(b4,.cells #[.int .i64 ((Eg.si (id % 2)).id),.int .i64 ((Eg.si (id % 2)).lead),.int .i64 ((Eg.si (id % 2)).guard),.int .u32 ((Eg.si (id % 2)).server),.int .i64 ((Eg.si (id % 2)).want),.int .i64 ((Eg.si (id % 2)).most),.int .i64 ((Eg.si (id % 2)).first),.float .f64 ((Eg.si (id % 2)).part),.float .f64 ((Eg.si (id % 2)).slack),.float .f64 ((Eg.si (id % 2)).renew),.float .f64 ((Eg.si (id % 2)).rebind),.slice pp3 1 cp3,.int .i64 ((Eg.si (id % 2)).room)] 35 (0,0))]) Z Z Law20n_sz35 (i := 0) Z Z (le Z) Z Z ?_
 refine Ze<|Zg<|Zs<|Zr<|Zv (Y.loadAgg Z Law20n_ag35 (Kn.at 0 Z) Z)<|Zm Z<|Zv (Y.loadAgg Z Law20n_ag30 (Kn.at 1 Z) Z)<|Run.call0 (l := [.tmp 22,.tmp 23,.tmp 24]) Z Z Z (lt Z) ((long20_c (x := (Eg.si (id % 2))) (c := c) hv2 hl9 hco.r.hw hco.r.os).frame)<|Za Z<|Ze<|Zg<|Zs<|Zs<|Zr<|Zm Z<|Zv (Y.not Z)<|?_
 refine Zm Z<|Zp Z<|Zm Z<|Zv (Y.pick_f Z Z Z)<|Ze<|Zg<|?_
 rcases Zsplit (Eg.long c.p ls (Eg.si (id % 2)).pool.length) with ⟨h5,g5⟩ | ⟨h5,g5⟩ <;> try simp only [kb] at g5
 ·refine Tr.cond_t Z h5<|Zs<|Zr<|Zm Z<|Za Z<|Ze<|Zg<|Zu<|Zn<|Ex.keep []<|?_
  exact Ex.ret1 rfl rfl  rfl
 ·obtain ⟨hfew,hlen,hnp⟩ := Eg.long_f h5
  have hw3 : c.p.hw.length < 1000 := by have h := hfew; simp only [Pc.few,Bool.and_eq_true,decide_eq_true_eq] at h; omega
  refine Tr.cond_f Z h5<|Zt<|Zg<|Zs<|Zr<|Zv (Y.loadAgg Z Law20n_ag35 (Kn.at 0 Z) Z)<|Zm Z<|?_
  refine Run.call [] (l := [.tmp 33,.tmp 34]) rfl rfl rfl (lt rfl) (made20_c (x := (Eg.si (id % 2))) hpv3 (Nat.le_of_ble_eq_true rfl) Eg.oks6 hv2 hl9 hcs) (fun v6 V6 H6 hle6 hR6 => ?_)
  rcases hR6 with ⟨_,⟨hpn,_⟩ | ⟨_,l,tx,rx,s1,pl,cl,ql,rfl,hin,hl,had,hab,rfl⟩⟩
  · exact absurd (by rw [show ((Eg.si (id % 2))).pool = [⟨1,6⟩] from rfl,Eg.pool6]) hpn
  obtain ⟨W6,hVe⟩ : ∃ Vz : Vw,Vz = V6 := ⟨_,rfl⟩; subst hVe
  replace hv2 := hv2.le hle6
  replace hco := hco.le hle6
  replace hpv3 := hpv3.le hle6
  replace hVle := Vw.le_trans hVle hle6
  have hin2 := hin
  obtain ⟨hris,hlm3,_⟩ := hin2
  refine Run.heapTo (H' := [[(b4,.cells #[.int .i64 ((Eg.si (id % 2)).id),.int .i64 ((Eg.si (id % 2)).lead),.int .i64 ((Eg.si (id % 2)).guard),.int .u32 ((Eg.si (id % 2)).server),.int .i64 ((Eg.si (id % 2)).want),.int .i64 ((Eg.si (id % 2)).most),.int .i64 ((Eg.si (id % 2)).first),.float .f64 ((Eg.si (id % 2)).part),.float .f64 ((Eg.si (id % 2)).slack),.float .f64 ((Eg.si (id % 2)).renew),.float .f64 ((Eg.si (id % 2)).rebind),.slice pp3 1 cp3,.int .i64 ((Eg.si (id % 2)).room)] 35 (0,0))],[(b1,.cells (Eg.Cs.cells c) 30 (0,0))],s1,[(rx,.cells #[.slice pl l.length cl] 128 (0,0))],ql]) Z ?_
  refine Zm Z<|Zv (Y.extract Z Z)<|Zv (Y.extract Z Z)<|Za Z<|Za Z<|Ze<|Zg<|Zs<|Zr<|Zv (Y.loadAgg Z Law20n_ag35 (Kn.at 0 Z) Z)<|Zm Z<|Zv (Y.fieldAddr Z Law20n_fo30_0)<|Zv (Y.load Z Law20n_ts3 (Kn.at 1 Z) Z)<|Zv (Y.fieldAddr Z Law20n_fo30_1)<|Zv (Y.load Z Law20n_ts3 (Kn.at 1 Z) Z)<|Zv (Y.fieldAddr Z Law20n_fo30_2)<|?_
  refine Zv (Y.load Z Law20n_ts3 (Kn.at 1 Z) Z)<|Zv (Y.fieldAddr Z Law20n_fo30_3)<|Zv (Y.loadAgg Z Law20n_ag28 (Kn.at 1 Z) Z)<|?_
  refine Run.call [2] (l := [.tmp 38,.tmp 39,.tmp 41,.tmp 43,.tmp 45,.tmp 47]) rfl rfl rfl (lt rfl) (answer_t (x := (Eg.si (id % 2))) (p := c.p) (l := l) (state := c.state) (now := c.now) (entry := c.entry) hpv3 (Nat.le_of_ble_eq_true rfl) Eg.oks6 hco.r hfew hco.ci (show (0 : Int) ≤ 9 ∧ (9 : Int) ≤ 4294967295 by decide) hin (Eg.la_of had Eg.oks6)) (fun v7 V7 H7 hle7 hR7 => ?_)
  obtain ⟨_,rfl,hv7,ov7,rfl,hRa⟩ := hR7
  obtain ⟨W7,hVe⟩ : ∃ Vz : Vw,Vz = V7 := ⟨_,rfl⟩; subst hVe
  replace hv2 := hv2.le hle7
  replace hco := hco.le hle7
  replace hpv3 := hpv3.le hle7
  replace hVle := Vw.le_trans hVle hle7
  obtain ⟨⟨pg7,cg7,rfl⟩,pk7,nk7,ck7,rfl⟩ := hRa.forms
  generalize hA : Eg.ans ((Eg.si (id % 2))) l c.state c.now c.entry c.p = A at hRa ⊢
  have hC : Eg.Case ((Eg.si (id % 2))) l c A := by rw [← hA]; exact Eg.cases _ hris c
  clear hA
  refine Run.heapTo (H' := [[(b4,.cells #[.int .i64 ((Eg.si (id % 2)).id),.int .i64 ((Eg.si (id % 2)).lead),.int .i64 ((Eg.si (id % 2)).guard),.int .u32 ((Eg.si (id % 2)).server),.int .i64 ((Eg.si (id % 2)).want),.int .i64 ((Eg.si (id % 2)).most),.int .i64 ((Eg.si (id % 2)).first),.float .f64 ((Eg.si (id % 2)).part),.float .f64 ((Eg.si (id % 2)).slack),.float .f64 ((Eg.si (id % 2)).renew),.float .f64 ((Eg.si (id % 2)).rebind),.slice pp3 1 cp3,.int .i64 ((Eg.si (id % 2)).room)] 35 (0,0))],[(b1,.cells (Eg.Cs.cells c) 30 (0,0))],[(rx,.cells #[.slice pl l.length cl] 128 (0,0))],ql,s1]) Z ?_
  refine Run.alloc Law20n_zo45 (lt rfl) (fun b8 => ?_)
  refine Run.stAll (l2 := [.bool A.send,.int .i64 A.reply.op,.int .u32 A.reply.xid,.int .i64 A.reply.secs,.int .i64 A.reply.flags,.int .u32 A.reply.ci,.int .u32 A.reply.yi,.int .u32 A.reply.si,.int .u32 A.reply.gi,.slice pg7 A.reply.hw.length cg7,.slice pk7 nk7 ck7,.bool A.change,.int .u32 A.lease.addr,.int .i64 A.lease.bind,.string A.lease.client,.int .i64 A.lease.till,.int .i64 A.lease.acked,.int .i64 A.lease.told,.int .i64 A.lease.at_,.int .i64 A.lease.ver,.int .i64 A.pot]) (j := 0) Z Z Law20n_sz45 Z Z Z Z ?_
  refine Run.heapTo (H' := [[(b8,.cells (An.cells A (.slice pg7 A.reply.hw.length cg7) (.slice pk7 nk7 ck7)) 45 (0,0))],[(b4,.cells #[.int .i64 ((Eg.si (id % 2)).id),.int .i64 ((Eg.si (id % 2)).lead),.int .i64 ((Eg.si (id % 2)).guard),.int .u32 ((Eg.si (id % 2)).server),.int .i64 ((Eg.si (id % 2)).want),.int .i64 ((Eg.si (id % 2)).most),.int .i64 ((Eg.si (id % 2)).first),.float .f64 ((Eg.si (id % 2)).part),.float .f64 ((Eg.si (id % 2)).slack),.float .f64 ((Eg.si (id % 2)).renew),.float .f64 ((Eg.si (id % 2)).rebind),.slice pp3 1 cp3,.int .i64 ((Eg.si (id % 2)).room)] 35 (0,0))],[(b1,.cells (Eg.Cs.cells c) 30 (0,0))],[(rx,.cells #[.slice pl l.length cl] 128 (0,0))],ql,s1]) Z ?_
  refine Ze<|Zg<|Zs<|Zr<|?_
  rcases Eg.Case.eq hC with hE | ⟨m,hb,hf,hE⟩ | ⟨k,hk,hf,hE⟩ | ⟨y,hg,hf,hE⟩ | ⟨y,hg,hf,hE⟩
  ·have hsend : A.send = false := by rw [hE] <;> rfl
   have hchg : A.change = false := by rw [hE] <;> rfl
   have hpot : A.pot = 0 := by rw [hE] <;> rfl
   have hrep : A.reply = Cli.zeroP := by rw [hE] <;> rfl
   have hAf : A.reply.few = true := by rw [hrep]; exact Cli.few_zero
   have hyi : A.reply.yi = 0 := by rw [hrep] <;> rfl
   have h51 : ¬ (Oc.fd 51 A.reply.os).length = 4 := by rw [hrep]; exact (by decide : ¬ (0 : Nat) = 4)
   have hhas : Oc.has 51 A.reply.os = false := by rw [hrep] <;> rfl
   refine Zv (Y.fieldAddr Z Law20n_fo45_1)<|Zv (Y.loadAgg Z Law20n_ag28 (Kn.at 0 Z) Z)<|Run.call0 (l := [.tmp 50]) Z Z Z (lt Z) (kind_h hRa hAf)<|Za Z<|Ze<|Zg<|Zs<|Zs<|Zr<|Zv (Y.fieldAddr Z Law20n_fo45_0)<|Zv (Y.load Z Law20n_ts4 (Kn.at 0 Z) Z)<|Zv (Y.not Z)<|Ze<|Zg<|Tr.cond_t Z (congrArg Bool.not hsend)<|Zs<|?_
   refine Zr<|Zv (Y.fieldAddr Z Law20n_fo45_4)<|Zv (Y.load Z Law20n_ts3 (Kn.at 0 Z) Z)<|Zv (Y.int Z Z Z)<|Zm Z<|Zp (beq_iff_eq.2 hpot)<|Zv (Y.fieldAddr Z Law20n_fo45_2)<|Zp (beq_iff_eq.2 hpot)<|Zv (Y.load Z Law20n_ts4 (Kn.at 0 Z) Z)<|Zp (beq_iff_eq.2 hpot)<|Zv (Y.not Z)<|Zp (beq_iff_eq.2 hpot)<|Zm Z<|Zo (congrArg Bool.not hchg) Z<|Zo (congrArg Bool.not hchg) Z<|Zo (congrArg Bool.not hchg) Z<|?_
   refine Zo (congrArg Bool.not hchg) Z<|Zp (beq_iff_eq.2 hpot)<|Zv (Y.pick_t Z (congrArg Bool.not hchg) Z)<|Zp (beq_iff_eq.2 hpot)<|Zm Z<|Zo Z Z<|Zo Z Z<|Zo Z Z<|Zo Z Z<|Zp (beq_iff_eq.2 hpot)<|Zv (Y.pick_t Z Z Z)<|Zv (Y.pick_t Z (beq_iff_eq.2 hpot) Z)<|Za Z<|Ze<|Zg<|Zu<|?_
   refine Zn<|Ex.keep []<|?_
   exact Ex.ret1 rfl rfl  rfl
  ·have hsend : A.send = false := by rw [hE] <;> rfl
   have hchg : A.change = true := by rw [hE] <;> rfl
   have hpot : A.pot = 0 := by rw [hE] <;> rfl
   obtain ⟨hf1,hf2,hnow,hf4,hf5⟩ := Eg.fits_t hf
   have hrep : A.reply = Cli.zeroP := by rw [hE] <;> rfl
   have hAf : A.reply.few = true := by rw [hrep]; exact Cli.few_zero
   have hyi : A.reply.yi = 0 := by rw [hrep] <;> rfl
   have hbd : A.lease.bind = 4 ∨ A.lease.bind = 5 := by rw [hE]; exact hb
   have h51 : ¬ (Oc.fd 51 A.reply.os).length = 4 := by rw [hrep]; exact (by decide : ¬ (0 : Nat) = 4)
   have hhas : Oc.has 51 A.reply.os = false := by rw [hrep] <;> rfl
   refine Zv (Y.fieldAddr Z Law20n_fo45_1)<|Zv (Y.loadAgg Z Law20n_ag28 (Kn.at 0 Z) Z)<|Run.call0 (l := [.tmp 50]) Z Z Z (lt Z) (kind_h hRa hAf)<|Za Z<|Ze<|Zg<|Zs<|Zs<|Zr<|Zv (Y.fieldAddr Z Law20n_fo45_0)<|Zv (Y.load Z Law20n_ts4 (Kn.at 0 Z) Z)<|Zv (Y.not Z)<|Ze<|Zg<|Tr.cond_t Z (congrArg Bool.not hsend)<|Zs<|?_
   refine Zr<|Zv (Y.fieldAddr Z Law20n_fo45_4)<|Zv (Y.load Z Law20n_ts3 (Kn.at 0 Z) Z)<|Zv (Y.int Z Z Z)<|Zm Z<|Zp (beq_iff_eq.2 hpot)<|Zv (Y.fieldAddr Z Law20n_fo45_2)<|Zp (beq_iff_eq.2 hpot)<|Zv (Y.load Z Law20n_ts4 (Kn.at 0 Z) Z)<|Zp (beq_iff_eq.2 hpot)<|Zv (Y.not Z)<|Zp (beq_iff_eq.2 hpot)<|Zm Z<|Zp (congrArg Bool.not hchg)<|Zv (Y.fieldAddr Z Law20n_fo45_3)<|Zp (congrArg Bool.not hchg)<|?_
   refine Zv (Y.fieldAddr Z Law20n_fo43_1)<|Zp (congrArg Bool.not hchg)<|Zv (Y.load Z Law20n_ts3 (Kn.at 0 Z) Z)<|Zp (congrArg Bool.not hchg)<|Zv (Y.int Z Z Z)<|Zp (beq_iff_eq.2 hpot)<|Zv (Y.pick_f Z (congrArg Bool.not hchg) Z)<|Zp (beq_iff_eq.2 hpot)<|Zm Z<|?_
   rcases Zsplit (A.lease.bind == 4) with ⟨h9,g9⟩ | ⟨h9,g9⟩ <;> try simp only [kb] at g9
   ·refine Zo h9 Z<|Zo h9 Z<|Zo h9 Z<|Zo h9 Z<|Zp (beq_iff_eq.2 hpot)<|Zv (Y.pick_t Z h9 Z)<|Zv (Y.pick_t Z (beq_iff_eq.2 hpot) Z)<|Za Z<|Ze<|Zg<|Zu<|Zn<|Ex.keep []<|?_
    exact Ex.ret1 rfl rfl  rfl
   ·refine Zp h9<|Zv (Y.fieldAddr Z Law20n_fo45_3)<|Zp h9<|Zv (Y.fieldAddr Z Law20n_fo43_1)<|Zp h9<|Zv (Y.load Z Law20n_ts3 (Kn.at 0 Z) Z)<|Zp h9<|Zv (Y.int Z Z Z)<|Zp (beq_iff_eq.2 hpot)<|Zv (Y.pick_f Z h9 Z)<|Zv (Y.pick_t Z (beq_iff_eq.2 hpot) Z)<|Za Z<|Ze<|Zg<|Zu<|Zn<|?_
    refine Ex.keep [] ?_
    exact Ex.ret1 rfl rfl  (congrArg Value.bool ((by first | exact beq_iff_eq.2 W | exact decide_eq_true W | simp_all)))
  ·have hsend : A.send = true := by rw [hE] <;> rfl
   have hchg : A.change = false := by rw [hE] <;> rfl
   have hpot : A.pot = 0 := by rw [hE] <;> rfl
   obtain ⟨hf1,hf2,hnow,hf4,hf5⟩ := Eg.fits_t hf
   have hrep : A.reply = Eg.rep ((Eg.si (id % 2))) c.p k := by rw [hE] <;> rfl
   have hAf : A.reply.few = true := by rw [hrep]; exact Eg.few_rep hw3 _
   have hyi : A.reply.yi = 0 := by rw [hrep] <;> rfl
   have hkd : Pc.kind A.reply = 5 ∨ Pc.kind A.reply = 6 := by rw [hrep]; rcases hk with rfl | rfl; exact .inl rfl; exact .inr rfl
   have h51 : ¬ (Oc.fd 51 A.reply.os).length = 4 := by rw [hrep]; exact (by decide : ¬ (0 : Nat) = 4)
   have hhas : Oc.has 51 A.reply.os = false := by rw [hrep] <;> rfl
   have hxid : A.reply.xid = c.p.xid := by rw [hrep] <;> rfl
   have hop : A.reply.op = 2 := by rw [hrep] <;> rfl
   have hsi : A.reply.si = (Eg.si (id % 2)).server := by rw [hrep] <;> rfl
   refine Zv (Y.fieldAddr Z Law20n_fo45_1)<|Zv (Y.loadAgg Z Law20n_ag28 (Kn.at 0 Z) Z)<|Run.call0 (l := [.tmp 50]) Z Z Z (lt Z) (kind_h hRa hAf)<|Za Z<|Ze<|Zg<|Zs<|Zs<|Zr<|Zv (Y.fieldAddr Z Law20n_fo45_0)<|Zv (Y.load Z Law20n_ts4 (Kn.at 0 Z) Z)<|Zv (Y.not Z)<|Ze<|Zg<|Tr.cond_f Z (congrArg Bool.not hsend)<|Zt<|?_
   refine Zg<|Zs<|Zs<|Zr<|Zm Z<|Zv (Y.int Z Z Z)<|Zm Z<|?_
   rcases Zsplit ((Pc.kind A.reply) != 5) with ⟨h10,g10⟩ | ⟨h10,g10⟩ <;> try simp only [kb] at g10
   ·refine Zo h10 Z<|Zo h10 Z<|Zo h10 Z<|Zo h10 Z<|Zv (Y.pick_t Z h10 Z)<|Ze<|Zg<|Tr.cond_t Z Z<|Zs<|Zr<|Zv (Y.fieldAddr Z Law20n_fo45_2)<|Zv (Y.load Z Law20n_ts4 (Kn.at 0 Z) Z)<|Zv (Y.not Z)<|Zm Z<|Zp (congrArg Bool.not hchg)<|Zm Z<|?_
    refine Zp (congrArg Bool.not hchg)<|Zv (Y.int Z Z Z)<|Zp (congrArg Bool.not hchg)<|Zm Z<|?_
    rcases Zsplit ((Pc.kind A.reply) == 2) with ⟨h11,g11⟩ | ⟨h11,g11⟩ <;> try simp only [kb] at g11
    ·refine Zo h11 Z<|Zo h11 Z<|Zp (congrArg Bool.not hchg)<|Zv (Y.pick_t Z h11 Z)<|Zp (congrArg Bool.not hchg)<|Zm Z<|Zo Z Z<|Zo Z Z<|Zp (congrArg Bool.not hchg)<|Zv (Y.pick_t Z Z Z)<|Zv (Y.pick_t Z (congrArg Bool.not hchg) Z)<|Za Z<|Ze<|Zg<|Zu<|Zn<|?_
     refine Ex.keep [] ?_
     exact Ex.ret1 rfl rfl  rfl
    ·refine Zp h11<|Zm Z<|Zp h11<|Zv (Y.int Z Z Z)<|Zp (congrArg Bool.not hchg)<|Zv (Y.pick_f Z h11 Z)<|Zp (congrArg Bool.not hchg)<|Zm Z<|?_
     rcases Zsplit ((Pc.kind A.reply) == 6) with ⟨h12,g12⟩ | ⟨h12,g12⟩ <;> try simp only [kb] at g12
     ·refine Zo h12 Z<|Zo h12 Z<|Zp (congrArg Bool.not hchg)<|Zv (Y.pick_t Z h12 Z)<|Zv (Y.pick_t Z (congrArg Bool.not hchg) Z)<|Za Z<|Ze<|Zg<|Zu<|Zn<|Ex.keep []<|?_
      exact Ex.ret1 rfl rfl  rfl
     ·refine Zp h12<|Zm Z<|Zp h12<|Zv (Y.int Z Z Z)<|Zp (congrArg Bool.not hchg)<|Zv (Y.pick_f Z h12 Z)<|Zv (Y.pick_t Z (congrArg Bool.not hchg) Z)<|Za Z<|Ze<|Zg<|Zu<|Zn<|Ex.keep []<|?_
      exact Ex.ret1 rfl rfl  (congrArg Value.bool ((by first | exact beq_iff_eq.2 W | exact decide_eq_true W | simp_all)))
   ·refine Zp h10<|Zv (Y.fieldAddr Z Law20n_fo45_1)<|Zp h10<|Zv (Y.fieldAddr Z Law20n_fo28_5)<|Zp h10<|Zv (Y.load Z Law20n_ts24 (Kn.at 0 Z) Z)<|Zp h10<|Zv (Y.int Z Z Z)<|Zv (Y.pick_f Z h10 Z)<|Ze<|Zg<|Tr.cond_t Z (beq_iff_eq.2 hyi)<|Zs<|Zr<|Zv (Y.fieldAddr Z Law20n_fo45_2)<|Zv (Y.load Z Law20n_ts4 (Kn.at 0 Z) Z)<|?_
    refine Zv (Y.not Z)<|Zm Z<|Zp (congrArg Bool.not hchg)<|Zm Z<|Zp (congrArg Bool.not hchg)<|Zv (Y.int Z Z Z)<|Zp (congrArg Bool.not hchg)<|Zm Z<|?_
    rcases Zsplit ((Pc.kind A.reply) == 2) with ⟨h13,g13⟩ | ⟨h13,g13⟩ <;> try simp only [kb] at g13
    ·refine Zo h13 Z<|Zo h13 Z<|Zp (congrArg Bool.not hchg)<|Zv (Y.pick_t Z h13 Z)<|Zp (congrArg Bool.not hchg)<|Zm Z<|Zo Z Z<|Zo Z Z<|Zp (congrArg Bool.not hchg)<|Zv (Y.pick_t Z Z Z)<|Zv (Y.pick_t Z (congrArg Bool.not hchg) Z)<|Za Z<|Ze<|Zg<|Zu<|Zn<|?_
     refine Ex.keep [] ?_
     exact Ex.ret1 rfl rfl  rfl
    ·refine Zp h13<|Zm Z<|Zp h13<|Zv (Y.int Z Z Z)<|Zp (congrArg Bool.not hchg)<|Zv (Y.pick_f Z h13 Z)<|Zp (congrArg Bool.not hchg)<|Zm Z<|?_
     rcases Zsplit ((Pc.kind A.reply) == 6) with ⟨h14,g14⟩ | ⟨h14,g14⟩ <;> try simp only [kb] at g14
     ·refine Zo h14 Z<|Zo h14 Z<|Zp (congrArg Bool.not hchg)<|Zv (Y.pick_t Z h14 Z)<|Zv (Y.pick_t Z (congrArg Bool.not hchg) Z)<|Za Z<|Ze<|Zg<|Zu<|Zn<|Ex.keep []<|?_
      exact Ex.ret1 rfl rfl  rfl
     ·refine Zp h14<|Zm Z<|Zp h14<|Zv (Y.int Z Z Z)<|Zp (congrArg Bool.not hchg)<|Zv (Y.pick_f Z h14 Z)<|Zv (Y.pick_t Z (congrArg Bool.not hchg) Z)<|Za Z<|Ze<|Zg<|Zu<|Zn<|Ex.keep []<|?_
      exact Ex.ret1 rfl rfl  (congrArg Value.bool ((by first | exact beq_iff_eq.2 W | exact decide_eq_true W | simp_all)))
  ·have hsend : A.send = true := by rw [hE] <;> rfl
   have hchg : A.change = false := by rw [hE] <;> rfl
   have hpot : A.pot = 0 := by rw [hE] <;> rfl
   obtain ⟨hf1,hf2,hnow,hf4,hf5⟩ := Eg.fits_t hf
   have hrep : A.reply = Eg.prom ((Eg.si (id % 2))) c.p 2 y.addr ((Eg.sq ((Eg.si (id % 2))) l c).tm y) := by rw [hE] <;> rfl
   have hAf : A.reply.few = true := by rw [hrep]; exact Eg.few_prom hw3 _ _ _
   have hyi : A.reply.yi = y.addr := by rw [hrep] <;> rfl
   have hkd : Pc.kind A.reply = 2 := by rw [hrep] <;> rfl
   have h51 : (Oc.fd 51 A.reply.os).length = 4 := by rw [hrep]; exact Msg.be_length _ _
   have hhas : Oc.has 51 A.reply.os = true := by rw [hrep] <;> rfl
   have hval : val (Oc.fd 51 A.reply.os) = (Eg.sq ((Eg.si (id % 2))) l c).tm y := by rw [hrep]; exact Eg.val_t (Eg.good_tm hg)
   have hty := Eg.good_tm hg
   have hxid : A.reply.xid = c.p.xid := by rw [hrep] <;> rfl
   have hop : A.reply.op = 2 := by rw [hrep] <;> rfl
   have hsi : A.reply.si = (Eg.si (id % 2)).server := by rw [hrep] <;> rfl
   refine Zv (Y.fieldAddr Z Law20n_fo45_1)<|Zv (Y.loadAgg Z Law20n_ag28 (Kn.at 0 Z) Z)<|Run.call0 (l := [.tmp 50]) Z Z Z (lt Z) (kind_h hRa hAf)<|Za Z<|Ze<|Zg<|Zs<|Zs<|Zr<|Zv (Y.fieldAddr Z Law20n_fo45_0)<|Zv (Y.load Z Law20n_ts4 (Kn.at 0 Z) Z)<|Zv (Y.not Z)<|Ze<|Zg<|Tr.cond_f Z (congrArg Bool.not hsend)<|Zt<|?_
   refine Zg<|Zs<|Zs<|Zr<|Zm Z<|Zv (Y.int Z Z Z)<|Zm Z<|?_
   rcases Zsplit ((Pc.kind A.reply) != 5) with ⟨h15,g15⟩ | ⟨h15,g15⟩ <;> try simp only [kb] at g15
   ·refine Zo h15 Z<|Zo h15 Z<|Zo h15 Z<|Zo h15 Z<|Zv (Y.pick_t Z h15 Z)<|Ze<|Zg<|Tr.cond_t Z Z<|Zs<|Zr<|Zv (Y.fieldAddr Z Law20n_fo45_2)<|Zv (Y.load Z Law20n_ts4 (Kn.at 0 Z) Z)<|Zv (Y.not Z)<|Zm Z<|Zp (congrArg Bool.not hchg)<|Zm Z<|?_
    refine Zp (congrArg Bool.not hchg)<|Zv (Y.int Z Z Z)<|Zp (congrArg Bool.not hchg)<|Zm Z<|?_
    rcases Zsplit ((Pc.kind A.reply) == 2) with ⟨h16,g16⟩ | ⟨h16,g16⟩ <;> try simp only [kb] at g16
    ·refine Zo h16 Z<|Zo h16 Z<|Zp (congrArg Bool.not hchg)<|Zv (Y.pick_t Z h16 Z)<|Zp (congrArg Bool.not hchg)<|Zm Z<|Zo Z Z<|Zo Z Z<|Zp (congrArg Bool.not hchg)<|Zv (Y.pick_t Z Z Z)<|Zv (Y.pick_t Z (congrArg Bool.not hchg) Z)<|Za Z<|Ze<|Zg<|Zu<|Zn<|?_
     refine Ex.keep [] ?_
     exact Ex.ret1 rfl rfl  rfl
    ·refine Zp h16<|Zm Z<|Zp h16<|Zv (Y.int Z Z Z)<|Zp (congrArg Bool.not hchg)<|Zv (Y.pick_f Z h16 Z)<|Zp (congrArg Bool.not hchg)<|Zm Z<|?_
     rcases Zsplit ((Pc.kind A.reply) == 6) with ⟨h17,g17⟩ | ⟨h17,g17⟩ <;> try simp only [kb] at g17
     ·refine Zo h17 Z<|Zo h17 Z<|Zp (congrArg Bool.not hchg)<|Zv (Y.pick_t Z h17 Z)<|Zv (Y.pick_t Z (congrArg Bool.not hchg) Z)<|Za Z<|Ze<|Zg<|Zu<|Zn<|Ex.keep []<|?_
      exact Ex.ret1 rfl rfl  rfl
     ·refine Zp h17<|Zm Z<|Zp h17<|Zv (Y.int Z Z Z)<|Zp (congrArg Bool.not hchg)<|Zv (Y.pick_f Z h17 Z)<|Zv (Y.pick_t Z (congrArg Bool.not hchg) Z)<|Za Z<|Ze<|Zg<|Zu<|Zn<|Ex.keep []<|?_
      exact Ex.ret1 rfl rfl  (congrArg Value.bool ((by first | exact beq_iff_eq.2 W | exact decide_eq_true W | simp_all)))
   ·refine Zp h15<|Zv (Y.fieldAddr Z Law20n_fo45_1)<|Zp h15<|Zv (Y.fieldAddr Z Law20n_fo28_5)<|Zp h15<|Zv (Y.load Z Law20n_ts24 (Kn.at 0 Z) Z)<|Zp h15<|Zv (Y.int Z Z Z)<|Zv (Y.pick_f Z h15 Z)<|Ze<|Zg<|?_
    rcases Zsplit (A.reply.yi == 0) with ⟨h18,g18⟩ | ⟨h18,g18⟩ <;> try simp only [kb] at g18
    ·refine Tr.cond_t Z h18<|Zs<|Zr<|Zv (Y.fieldAddr Z Law20n_fo45_2)<|Zv (Y.load Z Law20n_ts4 (Kn.at 0 Z) Z)<|Zv (Y.not Z)<|Zm Z<|Zp (congrArg Bool.not hchg)<|Zm Z<|Zp (congrArg Bool.not hchg)<|Zv (Y.int Z Z Z)<|Zp (congrArg Bool.not hchg)<|Zm Z<|?_
     rcases Zsplit ((Pc.kind A.reply) == 2) with ⟨h19,g19⟩ | ⟨h19,g19⟩ <;> try simp only [kb] at g19
     ·refine Zo h19 Z<|Zo h19 Z<|Zp (congrArg Bool.not hchg)<|Zv (Y.pick_t Z h19 Z)<|Zp (congrArg Bool.not hchg)<|Zm Z<|Zo Z Z<|Zo Z Z<|Zp (congrArg Bool.not hchg)<|Zv (Y.pick_t Z Z Z)<|Zv (Y.pick_t Z (congrArg Bool.not hchg) Z)<|Za Z<|Ze<|Zg<|Zu<|Zn<|?_
      refine Ex.keep [] ?_
      exact Ex.ret1 rfl rfl  rfl
     ·refine Zp h19<|Zm Z<|Zp h19<|Zv (Y.int Z Z Z)<|Zp (congrArg Bool.not hchg)<|Zv (Y.pick_f Z h19 Z)<|Zp (congrArg Bool.not hchg)<|Zm Z<|?_
      rcases Zsplit ((Pc.kind A.reply) == 6) with ⟨h20,g20⟩ | ⟨h20,g20⟩ <;> try simp only [kb] at g20
      ·refine Zo h20 Z<|Zo h20 Z<|Zp (congrArg Bool.not hchg)<|Zv (Y.pick_t Z h20 Z)<|Zv (Y.pick_t Z (congrArg Bool.not hchg) Z)<|Za Z<|Ze<|Zg<|Zu<|Zn<|Ex.keep []<|?_
       exact Ex.ret1 rfl rfl  rfl
      ·refine Zp h20<|Zm Z<|Zp h20<|Zv (Y.int Z Z Z)<|Zp (congrArg Bool.not hchg)<|Zv (Y.pick_f Z h20 Z)<|Zv (Y.pick_t Z (congrArg Bool.not hchg) Z)<|Za Z<|Ze<|Zg<|Zu<|Zn<|Ex.keep []<|?_
       exact Ex.ret1 rfl rfl  (congrArg Value.bool ((by first | exact beq_iff_eq.2 W | exact decide_eq_true W | simp_all)))
    ·refine Tr.cond_f Z h18<|Zt<|Zg<|Zs<|Zr<|Zv (Y.fieldAddr Z Law20n_fo45_1)<|Zv (Y.fieldAddr Z Law20n_fo28_9)<|Zv (Y.load Z Law20n_ts26 (Kn.at 0 Z) Z)<|?_
     refine Run.call [] (l := [.tmp 101,.const (.int .i64 51)]) rfl rfl rfl (lt rfl) (rfind_h (code := 51) hRa.os (Eg.few_len hAf)) (fun v21 V2 H2 _ hR => ?_)
     obtain ⟨hV,rfl,d21,rfl,hd21⟩ := hR; replace hV := hV.symm; subst hV; obtain ⟨pd21,cd21,rfl,_⟩ := hd21.form
     refine Run.heapTo (H' := [[(b8,.cells (An.cells A (.slice pg7 A.reply.hw.length cg7) (.slice pk7 nk7 ck7)) 45 (0,0))],[(b4,.cells #[.int .i64 ((Eg.si (id % 2)).id),.int .i64 ((Eg.si (id % 2)).lead),.int .i64 ((Eg.si (id % 2)).guard),.int .u32 ((Eg.si (id % 2)).server),.int .i64 ((Eg.si (id % 2)).want),.int .i64 ((Eg.si (id % 2)).most),.int .i64 ((Eg.si (id % 2)).first),.float .f64 ((Eg.si (id % 2)).part),.float .f64 ((Eg.si (id % 2)).slack),.float .f64 ((Eg.si (id % 2)).renew),.float .f64 ((Eg.si (id % 2)).rebind),.slice pp3 1 cp3,.int .i64 ((Eg.si (id % 2)).room)] 35 (0,0))],[(b1,.cells (Eg.Cs.cells c) 30 (0,0))],[(rx,.cells #[.slice pl l.length cl] 128 (0,0))],ql,s1]) Z ?_
     refine Zm Z<|Zv (Y.extract Z Z)<|Zv (Y.extract Z Z)<|Za Z<|Za Z<|Ze<|Zg<|Zs<|Zr<|Zm Z<|Run.call0 (l := [.tmp 106]) Z Z Z (lt Z) (rnumber_h (bs := Oc.fd 51 A.reply.os) hd21.of_nil h51)<|Run.heapTo (H' := [[(b8,.cells (An.cells A (.slice pg7 A.reply.hw.length cg7) (.slice pk7 nk7 ck7)) 45 (0,0))],[(b4,.cells #[.int .i64 ((Eg.si (id % 2)).id),.int .i64 ((Eg.si (id % 2)).lead),.int .i64 ((Eg.si (id % 2)).guard),.int .u32 ((Eg.si (id % 2)).server),.int .i64 ((Eg.si (id % 2)).want),.int .i64 ((Eg.si (id % 2)).most),.int .i64 ((Eg.si (id % 2)).first),.float .f64 ((Eg.si (id % 2)).part),.float .f64 ((Eg.si (id % 2)).slack),.float .f64 ((Eg.si (id % 2)).renew),.float .f64 ((Eg.si (id % 2)).rebind),.slice pp3 1 cp3,.int .i64 ((Eg.si (id % 2)).room)] 35 (0,0))],[(b1,.cells (Eg.Cs.cells c) 30 (0,0))],[(rx,.cells #[.slice pl l.length cl] 128 (0,0))],ql,s1]) Z<|?_
     refine Zm Z<|Zv (Y.extract Z Z)<|Zv (Y.extract Z Z)<|Za Z<|Za Z<|Ze<|Zg<|Zs<|Tr.quiet Law20n_mo WK<|ZM Z<|ZV (Y.int (r := .bool true) Z Z Z)<|ZM Z<|ZP Z<|ZV (Y.fieldAddr Z Law20n_fo45_2)<|ZP Z<|ZV (Y.load Z Law20n_ts4 (Kn.at 0 Z) Z)<|?_
     refine ZV (Y.pick_t Z Z Z)<|ZM Z<|ZO hchg Z<|ZO hchg Z<|ZO hchg Z<|ZO hchg Z<|ZO hchg Z<|ZO hchg Z<|ZO hchg Z<|ZV (Y.pick_f Z hchg Z)<|ZM Z<|ZO Z Z<|ZO Z Z<|ZO Z Z<|ZO Z Z<|ZV (Y.pick_f Z Z Z)<|?_
     refine ZM Z<|ZO Z Z<|ZO Z Z<|ZO Z Z<|ZO Z Z<|ZO Z Z<|ZO Z Z<|ZO Z Z<|ZV (Y.pick_f Z Z Z)<|ZM Z<|ZO Z Z<|ZO Z Z<|ZO Z Z<|ZO Z Z<|ZO Z Z<|ZO Z Z<|?_
     refine ZO Z Z<|ZO Z Z<|ZV (Y.pick_f Z Z Z)<|ZM Z<|ZO Z Z<|ZO Z Z<|ZV (Y.pick_f Z Z Z)<|ZM Z<|ZO Z Z<|ZO Z Z<|ZO Z Z<|ZO Z Z<|ZO Z Z<|ZO Z Z<|ZV (Y.pick_f Z Z Z)<|ZM Z<|?_
     refine ZO Z Z<|ZO Z Z<|ZO Z Z<|ZO Z Z<|ZO Z Z<|ZO Z Z<|ZV (Y.pick_f Z Z Z)<|ZA Z<|ZE<|Zg<|Zu<|Ex.keep []<|?_
     exact Ex.ret1 rfl rfl  (congrArg Value.bool ((by first | exact beq_iff_eq.2 W | exact decide_eq_true W | simp_all)))
  ·have hsend : A.send = true := by rw [hE] <;> rfl
   have hchg : A.change = true := by rw [hE] <;> rfl
   obtain ⟨hf1,hf2,hnow,hf4,hf5⟩ := Eg.fits_t hf
   have hrep : A.reply = Eg.prom ((Eg.si (id % 2))) c.p 5 y.addr ((Eg.sq ((Eg.si (id % 2))) l c).tm y) := by rw [hE] <;> rfl
   have hAf : A.reply.few = true := by rw [hrep]; exact Eg.few_prom hw3 _ _ _
   have hyi : A.reply.yi = y.addr := by rw [hrep] <;> rfl
   have hkd : Pc.kind A.reply = 5 := by rw [hrep] <;> rfl
   have h51 : (Oc.fd 51 A.reply.os).length = 4 := by rw [hrep]; exact Msg.be_length _ _
   have hhas : Oc.has 51 A.reply.os = true := by rw [hrep] <;> rfl
   have hval : val (Oc.fd 51 A.reply.os) = (Eg.sq ((Eg.si (id % 2))) l c).tm y := by rw [hrep]; exact Eg.val_t (Eg.good_tm hg)
   have hty := Eg.good_tm hg
   have hxid : A.reply.xid = c.p.xid := by rw [hrep] <;> rfl
   have hop : A.reply.op = 2 := by rw [hrep] <;> rfl
   have hsi : A.reply.si = (Eg.si (id % 2)).server := by rw [hrep] <;> rfl
   obtain ⟨n1,n2,n3,n4,n5,n6,n7⟩ := Eg.note_facts hg hnow A.lease (by rw [hE] <;> rfl)
   have hpt : A.lease.till ≤ A.pot := by have h := n6; rw [hE] at h ⊢; exact h
   have hy1 := Eg.la6 had y (Eg.good_mem hg)
   refine Zv (Y.fieldAddr Z Law20n_fo45_1)<|Zv (Y.loadAgg Z Law20n_ag28 (Kn.at 0 Z) Z)<|Run.call0 (l := [.tmp 50]) Z Z Z (lt Z) (kind_h hRa hAf)<|Za Z<|Ze<|Zg<|Zs<|Zs<|Zr<|Zv (Y.fieldAddr Z Law20n_fo45_0)<|Zv (Y.load Z Law20n_ts4 (Kn.at 0 Z) Z)<|Zv (Y.not Z)<|Ze<|Zg<|Tr.cond_f Z (congrArg Bool.not hsend)<|Zt<|?_
   refine Zg<|Zs<|Zs<|Zr<|Zm Z<|Zv (Y.int Z Z Z)<|Zm Z<|?_
   rcases Zsplit ((Pc.kind A.reply) != 5) with ⟨h22,g22⟩ | ⟨h22,g22⟩ <;> try simp only [kb] at g22
   ·refine Zo h22 Z<|Zo h22 Z<|Zo h22 Z<|Zo h22 Z<|Zv (Y.pick_t Z h22 Z)<|Ze<|Zg<|Tr.cond_t Z Z<|Zs<|Zr<|Zv (Y.fieldAddr Z Law20n_fo45_2)<|Zv (Y.load Z Law20n_ts4 (Kn.at 0 Z) Z)<|Zv (Y.not Z)<|Zm Z<|Zo (congrArg Bool.not hchg) Z<|Zo (congrArg Bool.not hchg) Z<|?_
    refine Zo (congrArg Bool.not hchg) Z<|Run.off_u Z Z Z Z (lt Z)<|Run.off_u Z Z Z Z (lt Z)<|Zo (congrArg Bool.not hchg) Z<|Zo (congrArg Bool.not hchg) Z<|Run.off_u Z Z Z Z (lt Z)<|Run.off_u Z Z Z Z (lt Z)<|Zo (congrArg Bool.not hchg) Z<|Zv (Y.pick_f Z (congrArg Bool.not hchg) Z)<|Za Z<|Ze<|Zg<|Zu<|Zn<|Ex.keep []<|?_
    exact Ex.ret1 rfl rfl  (congrArg Value.bool ((by first | exact beq_iff_eq.2 W | exact decide_eq_true W | simp_all)))
   ·refine Zp h22<|Zv (Y.fieldAddr Z Law20n_fo45_1)<|Zp h22<|Zv (Y.fieldAddr Z Law20n_fo28_5)<|Zp h22<|Zv (Y.load Z Law20n_ts24 (Kn.at 0 Z) Z)<|Zp h22<|Zv (Y.int Z Z Z)<|Zv (Y.pick_f Z h22 Z)<|Ze<|Zg<|Tr.cond_f rfl (beq_eq_false_iff_ne.2 W)<|Zt<|Zg<|Zs<|Zr<|?_
    refine Zv (Y.fieldAddr Z Law20n_fo45_1)<|Zv (Y.fieldAddr Z Law20n_fo28_9)<|Zv (Y.load Z Law20n_ts26 (Kn.at 0 Z) Z)<|?_
    refine Run.call [] (l := [.tmp 101,.const (.int .i64 51)]) rfl rfl rfl (lt rfl) (rfind_h (code := 51) hRa.os (Eg.few_len hAf)) (fun v23 V2 H2 _ hR => ?_)
    obtain ⟨hV,rfl,d23,rfl,hd23⟩ := hR; replace hV := hV.symm; subst hV; obtain ⟨pd23,cd23,rfl,_⟩ := hd23.form
    refine Run.heapTo (H' := [[(b8,.cells (An.cells A (.slice pg7 A.reply.hw.length cg7) (.slice pk7 nk7 ck7)) 45 (0,0))],[(b4,.cells #[.int .i64 ((Eg.si (id % 2)).id),.int .i64 ((Eg.si (id % 2)).lead),.int .i64 ((Eg.si (id % 2)).guard),.int .u32 ((Eg.si (id % 2)).server),.int .i64 ((Eg.si (id % 2)).want),.int .i64 ((Eg.si (id % 2)).most),.int .i64 ((Eg.si (id % 2)).first),.float .f64 ((Eg.si (id % 2)).part),.float .f64 ((Eg.si (id % 2)).slack),.float .f64 ((Eg.si (id % 2)).renew),.float .f64 ((Eg.si (id % 2)).rebind),.slice pp3 1 cp3,.int .i64 ((Eg.si (id % 2)).room)] 35 (0,0))],[(b1,.cells (Eg.Cs.cells c) 30 (0,0))],[(rx,.cells #[.slice pl l.length cl] 128 (0,0))],ql,s1]) Z ?_
    refine Zm Z<|Zv (Y.extract Z Z)<|Zv (Y.extract Z Z)<|Za Z<|Za Z<|Ze<|Zg<|Zs<|Zr<|Zm Z<|Run.call0 (l := [.tmp 106]) Z Z Z (lt Z) (rnumber_h (bs := Oc.fd 51 A.reply.os) hd23.of_nil h51)<|Run.heapTo (H' := [[(b8,.cells (An.cells A (.slice pg7 A.reply.hw.length cg7) (.slice pk7 nk7 ck7)) 45 (0,0))],[(b4,.cells #[.int .i64 ((Eg.si (id % 2)).id),.int .i64 ((Eg.si (id % 2)).lead),.int .i64 ((Eg.si (id % 2)).guard),.int .u32 ((Eg.si (id % 2)).server),.int .i64 ((Eg.si (id % 2)).want),.int .i64 ((Eg.si (id % 2)).most),.int .i64 ((Eg.si (id % 2)).first),.float .f64 ((Eg.si (id % 2)).part),.float .f64 ((Eg.si (id % 2)).slack),.float .f64 ((Eg.si (id % 2)).renew),.float .f64 ((Eg.si (id % 2)).rebind),.slice pp3 1 cp3,.int .i64 ((Eg.si (id % 2)).room)] 35 (0,0))],[(b1,.cells (Eg.Cs.cells c) 30 (0,0))],[(rx,.cells #[.slice pl l.length cl] 128 (0,0))],ql,s1]) Z<|?_
    refine Zm Z<|Zv (Y.extract Z Z)<|Zv (Y.extract Z Z)<|Za Z<|Za Z<|Ze<|Zg<|Zs<|Tr.quiet Law20n_mo WK<|ZM Z<|ZV (Y.int (r := .bool true) Z Z Z)<|ZM Z<|ZP Z<|ZV (Y.fieldAddr Z Law20n_fo45_2)<|ZP Z<|ZV (Y.load Z Law20n_ts4 (Kn.at 0 Z) Z)<|?_
    refine ZV (Y.pick_t Z Z Z)<|ZM Z<|ZP hchg<|ZV (Y.fieldAddr Z Law20n_fo45_3)<|ZP hchg<|ZV (Y.fieldAddr Z Law20n_fo43_0)<|ZP hchg<|ZV (Y.load Z Law20n_ts24 (Kn.at 0 Z) Z)<|ZP hchg<|ZV (Y.fieldAddr Z Law20n_fo45_1)<|ZP hchg<|ZV (Y.fieldAddr Z Law20n_fo28_5)<|ZP hchg<|ZV (Y.load Z Law20n_ts24 (Kn.at 0 Z) Z)<|ZP hchg<|ZV (Y.int Z Z Z)<|?_
    refine ZV (Y.pick_t Z hchg Z)<|ZM Z<|?_
    rcases Zsplit (A.lease.addr == A.reply.yi) with ⟨h24,g24⟩ | ⟨h24,g24⟩ <;> try simp only [kb] at g24
    ·refine ZP h24<|ZV (Y.fieldAddr Z Law20n_fo45_3)<|ZP h24<|ZV (Y.fieldAddr Z Law20n_fo43_1)<|ZP h24<|ZV (Y.load Z Law20n_ts3 (Kn.at 0 Z) Z)<|ZP h24<|ZV (Y.int Z Z Z)<|ZV (Y.pick_t Z h24 Z)<|ZM Z<|?_
     rcases Zsplit (A.lease.bind == 2) with ⟨h25,g25⟩ | ⟨h25,g25⟩ <;> try simp only [kb] at g25
     ·refine ZP h25<|ZV (Y.fieldAddr Z Law20n_fo45_3)<|ZP h25<|ZV (Y.fieldAddr Z Law20n_fo43_2)<|ZP h25<|ZV (Y.load Z Law20n_ts9 (Kn.at 0 Z) Z)<|ZP h25<|ZV (Y.fieldAddr Z Law20n_fo30_3)<|ZP h25<|ZV (Y.loadAgg Z Law20n_ag28 (Kn.at 2 Z) Z)<|ZP h25<|RunQ.call0 (l := [.tmp 136]) Z Z Z (lt Z) (pclient_h hco.r hfew)<|ZP h25<|ZV (Y.eqStr Z Z)<|ZV (Y.pick_t Z h25 Z)<|ZM Z<|?_
      refine ZP n3<|ZV (Y.fieldAddr Z Law20n_fo45_3)<|ZP n3<|ZV (Y.fieldAddr Z Law20n_fo43_3)<|ZP n3<|ZV (Y.load Z Law20n_ts3 (Kn.at 0 Z) Z)<|ZP n3<|ZV (Y.fieldAddr Z Law20n_fo30_1)<|ZP n3<|ZV (Y.load Z Law20n_ts3 (Kn.at 2 Z) Z)<|ZP n3<|ZM Z<|ZP n3<|ZV (Y.add Z Z W)<|ZP n3<|ZV (Y.int Z Z Z)<|?_
      refine ZV (Y.pick_t Z n3 Z)<|ZM Z<|?_
      rcases Zsplit (decide (A.lease.till ≥ (c.now + (val (Oc.fd 51 A.reply.os))))) with ⟨h26,g26⟩ | ⟨h26,g26⟩ <;> try simp only [kb] at g26
      ·refine ZP h26<|ZM Z<|ZP h26<|ZV (Y.int Z Z Z)<|ZV (Y.pick_t Z h26 Z)<|ZM Z<|?_
       rcases Zsplit (decide ((val (Oc.fd 51 A.reply.os)) ≥ 1)) with ⟨h27,g27⟩ | ⟨h27,g27⟩ <;> try simp only [kb] at g27
       ·refine ZP h27<|ZV (Y.fieldAddr Z Law20n_fo45_4)<|ZP h27<|ZV (Y.load Z Law20n_ts3 (Kn.at 0 Z) Z)<|ZP h27<|ZV (Y.fieldAddr Z Law20n_fo45_3)<|ZP h27<|ZV (Y.fieldAddr Z Law20n_fo43_3)<|ZP h27<|ZV (Y.load Z Law20n_ts3 (Kn.at 0 Z) Z)<|ZP h27<|ZV (Y.int Z Z Z)<|ZV (Y.pick_t Z h27 Z)<|ZM Z<|?_
        rcases Zsplit (decide (A.pot ≥ A.lease.till)) with ⟨h28,g28⟩ | ⟨h28,g28⟩ <;> try simp only [kb] at g28
        ·refine ZP h28<|ZV (Y.fieldAddr Z Law20n_fo45_3)<|ZP h28<|ZV (Y.fieldAddr Z Law20n_fo43_6)<|ZP h28<|ZV (Y.load Z Law20n_ts3 (Kn.at 0 Z) Z)<|ZP h28<|ZV (Y.fieldAddr Z Law20n_fo30_1)<|ZP h28<|ZV (Y.load Z Law20n_ts3 (Kn.at 2 Z) Z)<|ZP h28<|ZV (Y.int Z Z Z)<|ZV (Y.pick_t Z h28 Z)<|ZA Z<|ZE<|Zg<|?_
         refine Zu<|Ex.keep []<|?_
         exact Ex.ret1 rfl rfl  (congrArg Value.bool ((by first | exact beq_iff_eq.2 W | exact decide_eq_true W | simp_all)))
        ·exfalso; omega
       ·exfalso; omega
      ·exfalso; omega
     ·exfalso; omega
    ·exfalso; omega
theorem notes20_h {V : Vw} {id : Int} {ls : List Le} {v1 : Value} (hv2 : Rd V [] 8 v1 ls.length (ls.map Le.cells).flatten) (hcs : ∀ x,x ∈ ls → Le.Ok x) (hl9 : ls.length ≤ 9223372036854775807) {c : Eg.Cs} (hco : Eg.Csok V c) : Does Tryz.prog 3 [.int .i64 id,v1,.agg c.cells] V [] (fun v _ _ => v = .bool true) := by
  obtain ⟨p2,c2,rfl,_⟩ := hv2.form
  rw [← List.flatMap_def] at hv2
  exact notes20_c hv2 hl9 (fun x hx => (hcs x hx).client) hco
end Go.Proofs.YtfgblingojgafaaGreat
