/- A server's packets, offers and promises, walked.
Conditions: as each theorem names them. -/
import Derived.Test.YtfgblingojgafaaGreatProg
import Derived.Test.YtfgblingojgafaaGreatTimes
import Derived.Test.YtfgblingojgafaaGreatOpt3
import Derived.Test.YtfgblingojgafaaGreatSA
import Derived.Test.YtfgblingojgafaaGreatSortnum
set_option linter.unusedSimpArgs false
set_option linter.unusedVariables false
set_option maxRecDepth 4000
namespace Go.Proofs.YtfgblingojgafaaGreat
open Go Go.K
attribute [local irreducible] Code.wp wpList Calls wpQuiet
theorem Engine3_es185 : elemS Tryz.prog 185 = some (142,2) := by kernel_rfl
theorem Engine3_ag142 : aggsz Tryz.prog 142 = some 2 := by kernel_rfl
theorem Engine3_zo142 : zeroOf Tryz.prog 142 = some (.agg #[.int .i64 0,.int .i64 0]) := by kernel_rfl
theorem Engine3_sz142 : sizeT Tryz.prog 142 = some 2 := by kernel_rfl
theorem Engine3_al142 : arrT Tryz.prog 142 = some (2,1) := by kernel_rfl
theorem Engine3_ts3 : scal Tryz.prog 3 = true := by kernel_rfl
theorem Engine3_mo : Tryz.prog.follows .mixedOrders = true := by kernel_rfl
theorem Engine3_fo28_9 : fieldOff Tryz.prog 28 9 = some 9 := by kernel_rfl
theorem Engine3_ts26 : scal Tryz.prog 26 = true := by kernel_rfl
theorem Engine3_zo81 : zeroOf Tryz.prog 81 = some (.agg #[.int .i64 0,.slice none 0 0]) := by kernel_rfl
theorem Engine3_pl81 : placesS Tryz.prog 81 = some [(0,1),(1,1)] := by kernel_rfl
theorem Engine3_es26 : elemS Tryz.prog 26 = some (81,2) := by kernel_rfl
theorem Engine3_zi81 : zeroInfo Tryz.prog 81 = some (2,32,.agg #[.int .i64 0,.slice none 0 0]) := by kernel_rfl
theorem Engine3_sz26 : sizeT Tryz.prog 26 = some 1 := by kernel_rfl
theorem Engine3_sl25 : sliceT Tryz.prog 25 = true := by kernel_rfl
theorem Engine3_es25 : elemS Tryz.prog 25 = some (5,1) := by kernel_rfl
theorem Engine3_zi5 : zeroInfo Tryz.prog 5 = some (1,1,.int .u8 0) := by kernel_rfl
theorem Engine3_zo28 : zeroOf Tryz.prog 28 = some (.agg #[.int .i64 0,.int .u32 0,.int .i64 0,.int .i64 0,.int .u32 0,.int .u32 0,.int .u32 0,.int .u32 0,.slice none 0 0,.slice none 0 0]) := by kernel_rfl
theorem Engine3_fo90_6 : fieldOff Tryz.prog 90 6 = some 20 := by kernel_rfl
theorem Engine3_ag28 : aggsz Tryz.prog 28 = some 10 := by kernel_rfl
theorem Engine3_sz28 : sizeT Tryz.prog 28 = some 10 := by kernel_rfl
theorem Engine3_fo28_1 : fieldOff Tryz.prog 28 1 = some 1 := by kernel_rfl
theorem Engine3_ts23 : scal Tryz.prog 23 = true := by kernel_rfl
theorem Engine3_fo28_3 : fieldOff Tryz.prog 28 3 = some 3 := by kernel_rfl
theorem Engine3_fo28_7 : fieldOff Tryz.prog 28 7 = some 7 := by kernel_rfl
theorem Engine3_ts24 : scal Tryz.prog 24 = true := by kernel_rfl
theorem Engine3_fo28_8 : fieldOff Tryz.prog 28 8 = some 8 := by kernel_rfl
theorem Engine3_ts25 : scal Tryz.prog 25 = true := by kernel_rfl
theorem Engine3_fo90_0 : fieldOff Tryz.prog 90 0 = some 0 := by kernel_rfl
theorem Engine3_fo35_3 : fieldOff Tryz.prog 35 3 = some 3 := by kernel_rfl
theorem Engine3_pl28 : placesS Tryz.prog 28 = some [(0,1),(1,1),(2,1),(3,1),(4,1),(5,1),(6,1),(7,1),(8,1),(9,1)] := by kernel_rfl
theorem Engine3_fo28_4 : fieldOff Tryz.prog 28 4 = some 4 := by kernel_rfl
theorem Engine3_sz24 : sizeT Tryz.prog 24 = some 1 := by kernel_rfl
theorem Engine3_it3_5 : intT Tryz.prog 3 5 = some .u8 := by kernel_rfl
theorem Engine3_zo5 : zeroOf Tryz.prog 5 = some (.int .u8 0) := by kernel_rfl
theorem Engine3_it24_3 : intT Tryz.prog 24 3 = some .i64 := by kernel_rfl
theorem Engine3_ea142 : elemA Tryz.prog 142 = some 1 := by kernel_rfl
theorem Engine3_fo35_9 : fieldOff Tryz.prog 35 9 = some 9 := by kernel_rfl
theorem Engine3_ts32 : scal Tryz.prog 32 = true := by kernel_rfl
theorem Engine3_fo35_10 : fieldOff Tryz.prog 35 10 = some 10 := by kernel_rfl
theorem Engine3_fo28_5 : fieldOff Tryz.prog 28 5 = some 5 := by kernel_rfl
theorem Engine3_zo45 : zeroOf Tryz.prog 45 = some (.agg #[.bool false,.int .i64 0,.int .u32 0,.int .i64 0,.int .i64 0,.int .u32 0,.int .u32 0,.int .u32 0,.int .u32 0,.slice none 0 0,.slice none 0 0,.bool false,.int .u32 0,.int .i64 0,.string ⟨#[]⟩,.int .i64 0,.int .i64 0,.int .i64 0,.int .i64 0,.int .i64 0,.int .i64 0]) := by kernel_rfl
theorem Engine3_ts88 : scal Tryz.prog 88 = true := by kernel_rfl
theorem Engine3_fo90_3 : fieldOff Tryz.prog 90 3 = some 17 := by kernel_rfl
theorem Engine3_es135 : elemS Tryz.prog 135 = some (134,1) := by kernel_rfl
theorem Engine3_zo134 : zeroOf Tryz.prog 134 = some (.nilFunc) := by kernel_rfl
theorem Engine3_ts134 : scal Tryz.prog 134 = true := by kernel_rfl
theorem Engine3_zo43 : zeroOf Tryz.prog 43 = some (.agg #[.int .u32 0,.int .i64 0,.string ⟨#[]⟩,.int .i64 0,.int .i64 0,.int .i64 0,.int .i64 0,.int .i64 0]) := by kernel_rfl
theorem Engine3_sz43 : sizeT Tryz.prog 43 = some 8 := by kernel_rfl
theorem Engine3_ag43 : aggsz Tryz.prog 43 = some 8 := by kernel_rfl
theorem Engine3_pl45 : placesS Tryz.prog 45 = some [(0,1),(1,10),(11,1),(12,8),(20,1)] := by kernel_rfl
theorem Engine3_sz45 : sizeT Tryz.prog 45 = some 21 := by kernel_rfl
theorem Engine3_ag45 : aggsz Tryz.prog 45 = some 21 := by kernel_rfl
theorem Engine3_fo43_0 : fieldOff Tryz.prog 43 0 = some 0 := by kernel_rfl
theorem Engine3_fo90_8 : fieldOff Tryz.prog 90 8 = some 31 := by kernel_rfl
theorem Engine3_fo90_2 : fieldOff Tryz.prog 90 2 = some 16 := by kernel_rfl
theorem Engine3_ts38 : scal Tryz.prog 38 = true := by kernel_rfl
theorem Engine3_fo43_1 : fieldOff Tryz.prog 43 1 = some 1 := by kernel_rfl
theorem Engine3_fo90_1 : fieldOff Tryz.prog 90 1 = some 13 := by kernel_rfl
theorem Engine3_ag58 : aggsz Tryz.prog 58 = some 3 := by kernel_rfl
theorem Engine3_fo90_7 : fieldOff Tryz.prog 90 7 = some 30 := by kernel_rfl
theorem Engine3_ts9 : scal Tryz.prog 9 = true := by kernel_rfl
theorem Engine3_fo90_4 : fieldOff Tryz.prog 90 4 = some 18 := by kernel_rfl
theorem Engine3_fo90_9 : fieldOff Tryz.prog 90 9 = some 32 := by kernel_rfl
theorem put_q {V : Vw} {bp k : Nat} {po : Option Addr} {so : Sg} {x0 x1 x2 x3 x4 x5 x6 x7 x8 : Value} {L : List Opn} {cs : List Cn} {pl : Option Addr} {cl : Nat} (ho : Ow 81 2 (.slice po L.length k) L.length (L.flatMap Opn.cells) so) (hr : Opn.Rds V L) (hv : Rd V [] 2 (.slice pl cs.length cl) cs.length (cs.flatMap Cn.cells)) (hcn : Cn.Fine cs) (hcl : cs.length ≤ 100) (hLl : L.length ≤ 100)  : Does Tryz.prog 105 [(pZ bp),.slice pl cs.length cl] V [[(bp,.cells #[x0,x1,x2,x3,x4,x5,x6,x7,x8,.slice po L.length k] 28 (0,0))],so] (fun u V' H' => V.le V' ∧ u = .tuple #[] ∧ ∃ L' po' k' so',H' = [[(bp,.cells #[x0,x1,x2,x3,x4,x5,x6,x7,x8,.slice po' L'.length k'] 28 (0,0))],so'] ∧ Ow 81 2 (.slice po' L'.length k') L'.length (L'.flatMap Opn.cells) so' ∧ Opn.Rds V' L' ∧ L'.map Opn.c = L.map Opn.c ++ cs.map Cn.oc) := by
 refine Does.intro Tryz.func105 rfl rfl (le rfl) (fun B => ?_)
 refine Zs<|Zr<|Zm Z<|Zv (Y.lenSl Z Engine3_es185)<|Zm Z<|Ze<|Zg<|Zb<|?_
 refine ZL (X := Nat × Vw × List Opn × Nat × Option Addr × Nat × Sg) (fun z0 => z0.2.1) (fun z0 => [[(bp,.cells #[x0,x1,x2,x3,x4,x5,x6,x7,x8,.slice z0.2.2.2.2.1 z0.2.2.2.1 z0.2.2.2.2.2.1] 28 (0,0))],z0.2.2.2.2.2.2]) (fun z0 => [(8,.slice pl cs.length cl),(0,(pZ bp)),(9,.int .i64 ((cs.length : Nat) : Int)),(10,.int .i64 (z0.1 : Int))]) (fun z0 => V.le z0.2.1 ∧ Ow 81 2 (.slice z0.2.2.2.2.1 z0.2.2.2.1 z0.2.2.2.2.2.1) z0.2.2.2.1 (z0.2.2.1.flatMap Opn.cells) z0.2.2.2.2.2.2 ∧ Opn.Rds z0.2.1 z0.2.2.1 ∧ z0.2.2.1.map Opn.c = L.map Opn.c ++ (cs.take z0.1).map Cn.oc ∧ z0.2.2.2.1 = z0.2.2.1.length ∧ z0.1 ≤ cs.length) (fun z0 => cs.length - z0.1) (⟨0,V,L,L.length,po,k,so⟩ : Nat × Vw × List Opn × Nat × Option Addr × Nat × Sg) ⟨Vw.le_refl _,ho,hr,by rw [List.take_zero,List.map_nil,List.append_nil],rfl,Nat.zero_le _⟩ ?_
 rintro ⟨i1,V1,L1,n1,po1,k1,so1⟩ ⟨hVle,ho1,hr1,hm1,hn1,hi⟩
 try dsimp only at hVle ho1 hr1 hm1 hn1 hi ⊢
 refine Zs<|Zr<|Zv (Y.int Z Z Z)<|Ze<|Zg<|Zs<|?_
 rcases Zsplit (decide ((i1 : Int) < ((cs.length : Nat) : Int))) with ⟨h1,g1⟩ | ⟨h1,g1⟩ <;> try simp only [kb] at g1
 ·refine Tr.cond_t Z h1<|Zt<|Zg<|Zs<|Zb<|Zs<|Zr<|?_
  have hci := hcn.at (i := i1) W
  have hv := hv.le hVle
  have hlb : n1 ≤ 200 := by have h := congrArg List.length hm1; rw [List.length_map,List.length_append,List.length_map,List.length_map,List.length_take] at h; omega
  refine Zv (Y.idxR i1 Z Z Engine3_es185 hv.of_nil W W)<|Zv (Y.ldRA (vs := [.int .i64 ((cs.getD i1 Cn.dflt).code),.int .i64 ((cs.getD i1 Cn.dflt).n)]) rfl Engine3_ag142 hv.of_nil rfl WD (fun o ho => flatm_atA Cn.len W Cn.dflt o ho))<|?_
  refine Run.alloc Engine3_zo142 (lt rfl) (fun b2 => ?_)
  refine Run.store (s := [(b2,.cells #[.int .i64 ((cs.getD i1 Cn.dflt).code),.int .i64 ((cs.getD i1 Cn.dflt).n)] 142 (0,0))]) Z Z Engine3_sz142 (i := 0) Z Z (le Z) Z Z<|Ze<|Zg<|Zs<|Zr<|Zv (Y.idxArr Z Z Engine3_al142 WD WD)<|Zv (Y.load Z Engine3_ts3 (Kn.at 0 Z) Z)<|?_
  refine Run.call [] (l := [.tmp 16,.const (.int .i64 4)]) rfl rfl rfl (lt rfl) (bytes_c (n := (cs.getD i1 Cn.dflt).n) W) (fun v3 V2 H2 _ hR => ?_)
  obtain ⟨hV,z4,s5,rfl,rfl,ho6⟩ := hR; replace hV := hV.symm; subst hV; obtain ⟨p7,c8,rfl⟩ := ho6.form
  refine Run.heapTo (H' := [[(b2,.cells #[.int .i64 ((cs.getD i1 Cn.dflt).code),.int .i64 ((cs.getD i1 Cn.dflt).n)] 142 (0,0))],[(bp,.cells #[x0,x1,x2,x3,x4,x5,x6,x7,x8,.slice po1 n1 k1] 28 (0,0))],so1,s5]) Z<|Zm Z<|Zv (Y.extract Z Z)<|Zv (Y.extract Z Z)<|Za Z<|Run.keepTo (H' := [s5,[(b2,.cells #[.int .i64 ((cs.getD i1 Cn.dflt).code),.int .i64 ((cs.getD i1 Cn.dflt).n)] 142 (0,0))],[(bp,.cells #[x0,x1,x2,x3,x4,x5,x6,x7,x8,.slice po1 n1 k1] 28 (0,0))],so1]) [3,0,0,0] Z<|?_
  refine Run.show (fun V9 hleV9 hshV9 => ?_)
  have hhd := ho6.shows _ hshV9
  replace hv := hv.le hleV9
  replace hr1 := hr1.le hleV9
  replace hVle := Vw.le_trans hVle hleV9
  refine Za Z<|Ze<|Zg<|Tr.anyL [(bp,.cells #[x0,x1,x2,x3,x4,x5,x6,x7,x8,.slice po1 n1 k1] 28 (0,0)),(b2,.cells #[.int .i64 ((cs.getD i1 Cn.dflt).code),.int .i64 ((cs.getD i1 Cn.dflt).n)] 142 (0,0))] 13 Engine3_mo<|RunL.pure (i := 0) rfl WK WK WK WK (fun _ _ _ h => h) (lt rfl) (KnAll.cons (Kn.at 1 rfl) (ZK 0 Z)) (fun _ => (Y.move rfl))<|RunL.pure (i := 1) rfl WK WK WK WK (fun _ _ _ h => h) (lt rfl) (KnAll.cons (Kn.at 1 rfl) (ZK 0 Z)) (fun _ => (Y.move rfl))<|?_
  refine RunL.pure (i := 2) rfl WK WK WK WK (fun _ _ _ h => h) (lt rfl) (KnAll.cons (Kn.at 1 rfl) (ZK 0 Z)) (fun _ => (Y.nilCheck rfl))<|RunL.pure (i := 3) rfl WK WK WK WK (fun _ _ _ h => h) (lt rfl) (KnAll.cons (Kn.at 1 rfl) (ZK 0 Z)) (fun _ => (Y.fieldAddr rfl Engine3_fo28_9))<|RunL.take (i := 4) 0 rfl rfl WK WK WK WK (fun _ _ _ h => h) (lt rfl) (KnAll.cons (Kn.at 1 rfl) (ZK 0 Z)) (fun _ => (Y.load rfl Engine3_ts26 Kn.vk1 rfl))<|?_
  refine RunL.pure (i := 5) rfl WK WK WK WK (fun _ _ _ h => h) (lt rfl) (KnAll.cons (Kn.at 1 rfl) (ZK 0 Z)) (fun _ => (Y.idxArr rfl rfl Engine3_al142 WD WD))<|RunL.take (i := 6) 1 rfl rfl WK WK WK WK (fun _ _ _ h => h) (lt rfl) (KnAll.cons (Kn.at 1 rfl) (ZK 0 Z)) (fun _ => (Y.load rfl Engine3_ts3 Kn.vk1 rfl))<|?_
  refine RunL.pure (i := 7) rfl WK WK WK WK (fun _ _ _ h => h) (lt rfl) (KnAll.cons (Kn.at 1 rfl) (ZK 0 Z)) (fun _ => (Y.move rfl))<|RunL.pure (i := 8) rfl WK WK WK WK (fun _ _ _ h => h) (lt rfl) (KnAll.cons (Kn.at 1 rfl) (ZK 0 Z)) (fun _ => (Y.buildS (l := [(0,.tmp 26),(1,.tmp 27)]) Engine3_zo81 Engine3_pl81 rfl rfl))<|?_
  refine RunL.one (i := 9) WK rfl  ?_
  refine Run.buildSlice (l := [(0,.tmp 28)]) Engine3_es26 Engine3_zo81 rfl WD rfl rfl WD (lt rfl) (fun b10 => ?_)
  refine Ze<|Ex.anyL (KnAll.cons (Kn.at 2 Z) (ZK 1 Z))<|?_
  refine RunL.one (i := 10) WK rfl  ?_
  refine Run.append (n := n1) (m := 1) (xs := L1.flatMap Opn.cells) (ys := [.int .i64 ((cs.getD i1 Cn.dflt).code),.slice p7 4 c8]) rfl rfl Engine3_es26 Engine3_zi81 WD (j := 3) rfl ho1 (Src.of_rd Engine3_es26 (Rd.one (Kn.at 0 rfl) rfl)) W W rfl (lt rfl) (fun v11 s12 ho13 hf => ?_)
  obtain ⟨p11,c11,rfl⟩ := hf
  replace ho13 := Ow.app1 (f := Opn.cells) (l := L1) (x := (⟨(cs.getD i1 Cn.dflt).code,.slice p7 4 c8,Msg.be 4 (cs.getD i1 Cn.dflt).n⟩ : Opn)) ho13
  refine Ze<|Ex.anyL (KnAll.cons (Kn.at 2 Z) (ZK 1 Z))<|?_
  refine RunL.one (i := 11) WK rfl  ?_
  refine Zv (Y.nilCheck Z)<|Ze<|Ex.anyL (KnAll.cons (Kn.at 2 Z) (ZK 1 Z))<|RunL.pure (i := 12) rfl WK WK WK WK (fun _ _ _ h => h) (lt rfl) (KnAll.cons (Kn.at 2 rfl) (ZK 1 Z)) (fun _ => (Y.fieldAddr rfl Engine3_fo28_9))<|?_
  refine RunL.one (i := 13) WK rfl  ?_
  refine Run.store (s := [(bp,.cells #[x0,x1,x2,x3,x4,x5,x6,x7,x8,.slice p11 (n1 + 1) c11] 28 (0,0))]) Z Z Engine3_sz26 (i := 2) Z Z (le Z) Z Z<|Ze<|Ex.anyLz Z<|RunL.done WK<|Zc<|Zg<|Zr<|Zv (Y.add Z Z W)<|Zm Z<|Ze<|Ex.keep [2,2]<|?_
  exact ZR (⟨i1 + 1,V9,L1 ++ [(⟨(cs.getD i1 Cn.dflt).code,.slice p7 4 c8,Msg.be 4 (cs.getD i1 Cn.dflt).n⟩ : Opn)],n1 + 1,p11,c11,s12⟩ : Nat × Vw × List Opn × Nat × Option Addr × Nat × Sg) ⟨hVle,ho13,hr1.snoc hhd,by rw [List.map_append,hm1,Cn.take_oc W,List.append_assoc]; rfl,by rw [List.length_append,← hn1]; rfl,by omega⟩ (by dsimp only; omega)
 ·refine Tr.cond_f Z h1<|Zx<|Zy<|Zy<|Zi<|Ex.keep [0,0]<|?_
  exact Ex.end0 rfl ⟨hVle,rfl,L1,po1,k1,so1,by rw [hn1]; rfl,by rw [hn1] at ho1; exact ho1,hr1,by rw [hm1,List.take_of_length_le W]⟩
theorem sclone_c {V : Vw} {bs : List UInt8} {pb : Option Addr} {cb : Nat} (hvb : Rd V [] 1 (.slice pb bs.length cb) bs.length (bs.map byteV)) (hl : bs.length ≤ 1000000)  : Does Tryz.prog 104 [.slice pb bs.length cb] V [] (fun u V' H' => V' = V ∧ ∃ s',H' = [s'] ∧ Ow 5 1 u bs.length (bs.map byteV) s') := by
 refine Does.intro Tryz.func104 rfl rfl (le rfl) (fun B => ?_)
 refine Zs<|Zr<|Za Z<|Ze<|Zg<|Zs<|Zs<|Zr<|Zm Z<|Zv (Y.eqNilS Z Z Engine3_sl25)<|Ze<|Zg<|?_
 rcases Zsplit (Option.isNone pb) with ⟨h1,g1⟩ | ⟨h1,g1⟩ <;> try simp only [kb] at g1
 ·refine Tr.cond_t Z h1<|Zs<|Zr<|Run.nilseg<|Za Z<|Ze<|Zg<|Zu<|Zn<|?_
  obtain rfl : pb = none := by simpa using h1
  obtain rfl : bs = [] := List.eq_nil_of_length_eq_zero hvb.none
  exact Ex.ret1 rfl rfl  ⟨rfl,[],rfl,Ow.nil _ _⟩
 ·refine Tr.cond_f Z h1<|Zt<|Zg<|Zs<|Zr<|?_
  refine Run.buildSlice0 Engine3_es25 (lt rfl) (fun b2 => ?_)
  refine Zm Z ?_
  refine Run.append (n := 0) (m := bs.length) (xs := []) (ys := bs.map byteV) rfl rfl Engine3_es25 Engine3_zi5 WD (j := 0) rfl (Ow.lit (cur := #[]) rfl WD) (Src.of_rd Engine3_es25 hvb.of_nil) W W (all_one_bytes _) (lt rfl) (fun v3 s4 ho5 hf => ?_)
  obtain ⟨p3,c3,rfl⟩ := hf
  refine Za Z<|Ze<|Zg<|Zu<|?_
  exact Ex.ret1 rfl rfl  ⟨rfl,_,rfl,by have h := ho5; simpa using h⟩
theorem sclone_h {V : Vw} {v : Value} {bs : List UInt8} (hv : Rd V [] 1 v bs.length (bs.map byteV)) (hl : bs.length ≤ 1000000) : Does Tryz.prog 104 [v] V [] (fun u V' H' => V' = V ∧ ∃ s',H' = [s'] ∧ Ow 5 1 u bs.length (bs.map byteV) s') := by
  obtain ⟨p,c,rfl,_⟩ := hv.form
  exact sclone_c hv hl
set_option maxHeartbeats 1000000 in
theorem reply_q {V : Vw} {bq tx : Nat} {q : Eg.Qy} {pv hv ov : Value} (hkq : Kn V [] bq (.cells (q.cells pv tx hv ov) 90 (0,0))) (hok : Eg.Qok V q hv ov) {kind : Int}  : Does Tryz.prog 45 [(pZ bq),.int .i64 kind] V [] (fun u V' H' => V.le V' ∧ ∃ hv' L po k so,u = .agg ((Eg.rep q.x q.p kind).cells hv' (.slice po L.length k)) ∧ H' = [so] ∧ Ow 81 2 (.slice po L.length k) L.length (L.flatMap Opn.cells) so ∧ Opn.Rds V' L ∧ L.map Opn.c = (Eg.rep q.x q.p kind).os ∧ Rd V' [] 1 hv' q.p.hw.length (q.p.hw.map byteV)) := by
 obtain ⟨⟨ph,ch,rfl⟩,po9,no9,co9,rfl⟩ := hok.forms
 refine Does.intro Tryz.func45 rfl rfl (le rfl) (fun B => ?_)
 refine Zs<|Zr<|?_
 refine Run.alloc Engine3_zo28 (lt rfl) (fun b1 => ?_)
 refine Ze<|Zg<|Zs<|Zr<|Zm Z<|Zv (Y.nilCheck Z)<|Zv (Y.fieldAddr Z Engine3_fo90_6)<|Zv (Y.loadAgg Z Engine3_ag28 hkq.of_nil Z)<|?_
 refine Run.alloc Engine3_zo28 (lt rfl) (fun b2 => ?_)
 refine Run.store (s := [(b2,.cells (Pc.cells q.p (.slice ph q.p.hw.length ch) (.slice po9 no9 co9)) 28 (0,0))]) Z Z Engine3_sz28 (i := 0) Z Z (le Z) Z Z<|Ze<|Zg<|?_
 refine Tr.cutx (X := Nat × Sg × Option Addr × Nat) (fun y => V) (fun y => [[(y.1,.cells #[.int .i64 2,.int .u32 q.p.xid,.int .i64 0,.int .i64 q.p.flags,.int .u32 0,.int .u32 0,.int .u32 q.x.server,.int .u32 q.p.gi,.slice y.2.2.1 q.p.hw.length y.2.2.2,.slice none 0 0] 28 (0,0))],y.2.1,[(b2,.cells (Pc.cells q.p (.slice ph q.p.hw.length ch) (.slice po9 no9 co9)) 28 (0,0))],[(b1,.cells #[.int .i64 0,.int .u32 0,.int .i64 0,.int .i64 0,.int .u32 0,.int .u32 0,.int .u32 0,.int .u32 0,.slice none 0 0,.slice none 0 0] 28 (0,0))]]) (fun y => [(0,(pZ bq)),(1,.int .i64 kind),(4,(pZ b1)),(5,(pZ b2)),(6,.pointer (some ⟨y.1,0,none⟩))]) (fun y => Ow 5 1 (.slice y.2.2.1 q.p.hw.length y.2.2.2) q.p.hw.length (q.p.hw.map byteV) y.2.1) ?_ ?_
 ·refine Tr.anyL [(b2,.cells (Pc.cells q.p (.slice ph q.p.hw.length ch) (.slice po9 no9 co9)) 28 (0,0)),(bq,.cells (q.cells pv tx (.slice ph q.p.hw.length ch) (.slice po9 no9 co9)) 90 (0,0))] 16 Engine3_mo<|RunL.pure (i := 0) rfl WK WK WK WK (fun _ _ _ h => h) (lt rfl) (KnAll.cons (Kn.at 0 rfl) (KnAll.cons hkq.of_nil KnAll.nil)) (fun _ => (Y.fieldAddr rfl Engine3_fo28_1))<|?_
  refine RunL.take (i := 1) 0 rfl rfl WK WK WK WK (fun _ _ _ h => h) (lt rfl) (KnAll.cons (Kn.at 0 rfl) (KnAll.cons hkq.of_nil KnAll.nil)) (fun _ => (Y.load rfl Engine3_ts23 Kn.vk1 rfl))<|RunL.pure (i := 2) rfl WK WK WK WK (fun _ _ _ h => h) (lt rfl) (KnAll.cons (Kn.at 0 rfl) (KnAll.cons hkq.of_nil KnAll.nil)) (fun _ => (Y.fieldAddr rfl Engine3_fo28_3))<|?_
  refine RunL.take (i := 3) 0 rfl rfl WK WK WK WK (fun _ _ _ h => h) (lt rfl) (KnAll.cons (Kn.at 0 rfl) (KnAll.cons hkq.of_nil KnAll.nil)) (fun _ => (Y.load rfl Engine3_ts3 Kn.vk1 rfl))<|RunL.pure (i := 4) rfl WK WK WK WK (fun _ _ _ h => h) (lt rfl) (KnAll.cons (Kn.at 0 rfl) (KnAll.cons hkq.of_nil KnAll.nil)) (fun _ => (Y.fieldAddr rfl Engine3_fo28_7))<|?_
  refine RunL.take (i := 5) 0 rfl rfl WK WK WK WK (fun _ _ _ h => h) (lt rfl) (KnAll.cons (Kn.at 0 rfl) (KnAll.cons hkq.of_nil KnAll.nil)) (fun _ => (Y.load rfl Engine3_ts24 Kn.vk1 rfl))<|RunL.pure (i := 6) rfl WK WK WK WK (fun _ _ _ h => h) (lt rfl) (KnAll.cons (Kn.at 0 rfl) (KnAll.cons hkq.of_nil KnAll.nil)) (fun _ => (Y.fieldAddr rfl Engine3_fo28_8))<|?_
  refine RunL.take (i := 7) 0 rfl rfl WK WK WK WK (fun _ _ _ h => h) (lt rfl) (KnAll.cons (Kn.at 0 rfl) (KnAll.cons hkq.of_nil KnAll.nil)) (fun _ => (Y.load rfl Engine3_ts25 Kn.vk1 rfl))<|RunL.pure (i := 9) rfl WK WK WK WK (fun _ _ _ h => h) (lt rfl) (KnAll.cons (Kn.at 0 rfl) (KnAll.cons hkq.of_nil KnAll.nil)) (fun _ => (Y.move rfl))<|?_
  refine RunL.pure (i := 10) rfl WK WK WK WK (fun _ _ _ h => h) (lt rfl) (KnAll.cons (Kn.at 0 rfl) (KnAll.cons hkq.of_nil KnAll.nil)) (fun _ => (Y.nilCheck rfl))<|RunL.pure (i := 11) rfl WK WK WK WK (fun _ _ _ h => h) (lt rfl) (KnAll.cons (Kn.at 0 rfl) (KnAll.cons hkq.of_nil KnAll.nil)) (fun _ => (Y.fieldAddr rfl Engine3_fo90_0))<|?_
  refine RunL.pure (i := 12) rfl WK WK WK WK (fun _ _ _ h => h) (lt rfl) (KnAll.cons (Kn.at 0 rfl) (KnAll.cons hkq.of_nil KnAll.nil)) (fun _ => (Y.fieldAddr rfl Engine3_fo35_3))<|RunL.take (i := 13) 1 rfl rfl WK WK WK WK (fun _ _ _ h => h) (lt rfl) (KnAll.cons (Kn.at 0 rfl) (KnAll.cons hkq.of_nil KnAll.nil)) (fun _ => (Y.load rfl Engine3_ts24 Kn.vk1 rfl))<|?_
  refine RunL.two (i := 8) (j := 15) WK rfl rfl  ?_ ?_
  ·refine Run.call [] (l := [.tmp 18]) rfl rfl rfl (lt rfl) (sclone_h hok.hw (Nat.le_trans (Nat.le_of_lt hok.hl) WD)) (fun v3 V2 H2 _ hR => ?_)
   obtain ⟨hV,s3,rfl,ho3⟩ := hR; replace hV := hV.symm; subst hV; obtain ⟨p3,c3,rfl⟩ := ho3.form
   refine Run.heapTo (H' := [[(b2,.cells (Pc.cells q.p (.slice ph q.p.hw.length ch) (.slice po9 no9 co9)) 28 (0,0))],[(b1,.cells #[.int .i64 0,.int .u32 0,.int .i64 0,.int .i64 0,.int .u32 0,.int .u32 0,.int .u32 0,.int .u32 0,.slice none 0 0,.slice none 0 0] 28 (0,0))],s3]) Z ?_
   refine Ze<|Ex.anyL (KnAll.cons (Kn.at 0 Z) (KnAll.cons hkq.of_nil KnAll.nil))<|RunL.pure (i := 14) rfl WK WK WK WK (fun _ _ _ h => h) (lt rfl) (KnAll.cons (Kn.at 0 rfl) (KnAll.cons hkq.of_nil KnAll.nil)) (fun _ => (Y.buildS (l := [(0,.const (.int .i64 2)),(1,.tmp 12),(3,.tmp 14),(7,.tmp 16),(8,.tmp 19),(6,.tmp 24)]) Engine3_zo28 Engine3_pl28 rfl rfl))<|?_
   refine RunL.one (i := 15) WK rfl  ?_
   refine Run.alloc Engine3_zo28 (lt rfl) (fun b4 => ?_)
   refine Ze<|Ex.anyL (KnAll.cons (Kn.at 1 Z) (KnAll.cons hkq.of_nil KnAll.nil))<|?_
   refine RunL.one (i := 16) WK rfl  ?_
   refine Run.store (s := [(b4,.cells #[.int .i64 2,.int .u32 q.p.xid,.int .i64 0,.int .i64 q.p.flags,.int .u32 0,.int .u32 0,.int .u32 q.x.server,.int .u32 q.p.gi,.slice p3 q.p.hw.length c3,.slice none 0 0] 28 (0,0))]) Z Z Engine3_sz28 (i := 0) Z Z (le Z) Z Z<|Ze<|Ex.anyLz Z<|RunL.done WK<|Ex.keep [0,2,0,0]<|?_
   exact ZX (b4,s3,p3,c3) ho3
  ·refine Run.alloc Engine3_zo28 (lt rfl) (fun b5 => ?_)
   refine Ze<|Ex.anyL (KnAll.cons (Kn.at 1 Z) (KnAll.cons hkq.of_nil KnAll.nil))<|?_
   refine RunL.one (i := 8) WK rfl  ?_
   refine Run.call [] (l := [.tmp 18]) rfl rfl rfl (lt rfl) (sclone_h hok.hw (Nat.le_trans (Nat.le_of_lt hok.hl) WD)) (fun v6 V2 H2 _ hR => ?_)
   obtain ⟨hV,s6,rfl,ho6⟩ := hR; replace hV := hV.symm; subst hV; obtain ⟨p6,c6,rfl⟩ := ho6.form
   refine Run.heapTo (H' := [[(b5,.cells #[.int .i64 0,.int .u32 0,.int .i64 0,.int .i64 0,.int .u32 0,.int .u32 0,.int .u32 0,.int .u32 0,.slice none 0 0,.slice none 0 0] 28 (0,0))],[(b2,.cells (Pc.cells q.p (.slice ph q.p.hw.length ch) (.slice po9 no9 co9)) 28 (0,0))],[(b1,.cells #[.int .i64 0,.int .u32 0,.int .i64 0,.int .i64 0,.int .u32 0,.int .u32 0,.int .u32 0,.int .u32 0,.slice none 0 0,.slice none 0 0] 28 (0,0))],s6]) Z ?_
   refine Ze<|Ex.anyL (KnAll.cons (Kn.at 1 Z) (KnAll.cons hkq.of_nil KnAll.nil))<|RunL.pure (i := 14) rfl WK WK WK WK (fun _ _ _ h => h) (lt rfl) (KnAll.cons (Kn.at 1 rfl) (KnAll.cons hkq.of_nil KnAll.nil)) (fun _ => (Y.buildS (l := [(0,.const (.int .i64 2)),(1,.tmp 12),(3,.tmp 14),(7,.tmp 16),(8,.tmp 19),(6,.tmp 24)]) Engine3_zo28 Engine3_pl28 rfl rfl))<|?_
   refine RunL.one (i := 16) WK rfl  ?_
   refine Run.store (s := [(b5,.cells #[.int .i64 2,.int .u32 q.p.xid,.int .i64 0,.int .i64 q.p.flags,.int .u32 0,.int .u32 0,.int .u32 q.x.server,.int .u32 q.p.gi,.slice p6 q.p.hw.length c6,.slice none 0 0] 28 (0,0))]) Z Z Engine3_sz28 (i := 0) Z Z (le Z) Z Z<|Ze<|Ex.anyLz Z<|RunL.done WK<|Ex.keep [0,2,0,0]<|?_
   exact ZX (b5,s6,p6,c6) ho6
 ·rintro y hy
  refine Tr.cut V [[(y.1,.cells #[.int .i64 2,.int .u32 q.p.xid,.int .i64 0,.int .i64 q.p.flags,.int .u32 (if kind = 5 then q.p.ci else 0),.int .u32 0,.int .u32 q.x.server,.int .u32 q.p.gi,.slice y.2.2.1 q.p.hw.length y.2.2.2,.slice none 0 0] 28 (0,0))],y.2.1,[(b2,.cells (Pc.cells q.p (.slice ph q.p.hw.length ch) (.slice po9 no9 co9)) 28 (0,0))],[(b1,.cells #[.int .i64 0,.int .u32 0,.int .i64 0,.int .i64 0,.int .u32 0,.int .u32 0,.int .u32 0,.int .u32 0,.slice none 0 0,.slice none 0 0] 28 (0,0))]] [(0,(pZ bq)),(1,.int .i64 kind),(4,(pZ b1)),(5,(pZ b2)),(6,.pointer (some ⟨y.1,0,none⟩))] ?_ ?_
  ·refine Zs<|Zr<|Zm Z<|Zv (Y.int Z Z Z)<|Ze<|Zg<|?_
   rcases Zsplit (kind == 5) with ⟨h7,g7⟩ | ⟨h7,g7⟩ <;> try simp only [kb] at g7
   ·refine Tr.cond_t Z h7<|Zr<|Zv (Y.fieldAddr Z Engine3_fo28_4)<|Zv (Y.load Z Engine3_ts24 (Kn.at 2 Z) Z)<|Zv (Y.fieldAddr Z Engine3_fo28_4)<|Run.store (s := [(y.1,.cells #[.int .i64 2,.int .u32 q.p.xid,.int .i64 0,.int .i64 q.p.flags,.int .u32 q.p.ci,.int .u32 0,.int .u32 q.x.server,.int .u32 q.p.gi,.slice y.2.2.1 q.p.hw.length y.2.2.2,.slice none 0 0] 28 (0,0))]) Z Z Engine3_sz24 (i := 0) Z Z (le Z) Z Z<|Ze<|?_
    exact Ex.cut (by rw [if_pos (show kind = 5 by omega)]; try rfl) ZS
   ·refine Tr.cond_f Z h7<|Zt<|?_
    exact Ex.cut (by rw [if_neg (show ¬ kind = 5 by omega)]; try rfl) ZS
  ·refine Zs<|Zr<|Run.keepTo (H' := [y.2.1,[(y.1,.cells #[.int .i64 2,.int .u32 q.p.xid,.int .i64 0,.int .i64 q.p.flags,.int .u32 (if kind = 5 then q.p.ci else 0),.int .u32 0,.int .u32 q.x.server,.int .u32 q.p.gi,.slice y.2.2.1 q.p.hw.length y.2.2.2,.slice none 0 0] 28 (0,0))],[(b2,.cells (Pc.cells q.p (.slice ph q.p.hw.length ch) (.slice po9 no9 co9)) 28 (0,0))],[(b1,.cells #[.int .i64 0,.int .u32 0,.int .i64 0,.int .i64 0,.int .u32 0,.int .u32 0,.int .u32 0,.int .u32 0,.slice none 0 0,.slice none 0 0] 28 (0,0))]]) [1,0,0,0] Z<|?_
   refine Run.show (fun V8 hleV8 hshV8 => ?_)
   have hhw1 := hy.shows _ hshV8
   replace hkq := hkq.le hleV8
   replace hok := hok.le hleV8
   have hVle := hleV8
   refine Zm Z<|Zv (Y.conv (kind % 256) Z Engine3_it3_5 (wrap_u8m _))<|?_
   refine Run.buildSlice (l := [(0,.tmp 32)]) Engine3_es25 Engine3_zo5 rfl WD rfl rfl WD (lt rfl) (fun b9 => ?_)
   refine Zv (Y.buildS (l := [(0,.const (.int .i64 53)),(1,.tmp 33)]) Engine3_zo81 Engine3_pl81 Z Z) ?_
   refine Run.buildSlice (l := [(0,.tmp 34)]) Engine3_es26 Engine3_zo81 rfl WD rfl rfl WD (lt rfl) (fun b10 => ?_)
   refine Zv (Y.fieldAddr Z Engine3_fo28_9)<|Run.store (s := [(y.1,.cells #[.int .i64 2,.int .u32 q.p.xid,.int .i64 0,.int .i64 q.p.flags,.int .u32 (if kind = 5 then q.p.ci else 0),.int .u32 0,.int .u32 q.x.server,.int .u32 q.p.gi,.slice y.2.2.1 q.p.hw.length y.2.2.2,.slice (some ⟨b10,0,none⟩) 1 1] 28 (0,0))]) Z Z Engine3_sz26 (i := 2) Z Z (le Z) Z Z<|Ze<|Zg<|Zs<|Zr<|Zm Z<|Zv (Y.nilCheck Z)<|Zv (Y.fieldAddr Z Engine3_fo90_0)<|?_
   refine Zv (Y.fieldAddr Z Engine3_fo35_3)<|Zv (Y.load Z Engine3_ts24 hkq.of_nil Z)<|Zv (Y.conv (q.x.server) rfl Engine3_it24_3 (wrap_i64 (by have := hok.sv; omega)))<|Zv (Y.buildA (l := [(0,.const (.int .i64 54)),(1,.tmp 42)]) Engine3_zo142 Engine3_ea142 Z Z)<|?_
   refine Run.buildSlice (l := [(0,.tmp 43)]) Engine3_es185 Engine3_zo142 rfl WD rfl rfl WD (lt rfl) (fun b11 => ?_)
   refine Run.keepTo (H' := [[(b9,.cells #[.int .u8 (kind % 256)] 5 (0,0))],[(b11,.cells #[.int .i64 54,.int .i64 q.x.server] 142 (0,0))],[(b10,.cells #[.int .i64 53,.slice (some ⟨b9,0,none⟩) 1 1] 81 (0,0))],[(y.1,.cells #[.int .i64 2,.int .u32 q.p.xid,.int .i64 0,.int .i64 q.p.flags,.int .u32 (if kind = 5 then q.p.ci else 0),.int .u32 0,.int .u32 q.x.server,.int .u32 q.p.gi,.slice y.2.2.1 q.p.hw.length y.2.2.2,.slice (some ⟨b10,0,none⟩) 1 1] 28 (0,0))],[(b2,.cells (Pc.cells q.p (.slice ph q.p.hw.length ch) (.slice po9 no9 co9)) 28 (0,0))],[(b1,.cells #[.int .i64 0,.int .u32 0,.int .i64 0,.int .i64 0,.int .u32 0,.int .u32 0,.int .u32 0,.int .u32 0,.slice none 0 0,.slice none 0 0] 28 (0,0))]]) [2,0,0,0,0,0] Z ?_
   refine Run.show (fun V12 hleV12 hshV12 => ?_)
   have hdA := (Ow.lit (e := 5) (k := 1) (b := b9) (n := 1) (cur := #[.int .u8 (kind % 256)]) rfl WD).shows _ hshV12
   replace hkq := hkq.le hleV12
   replace hok := hok.le hleV12
   replace hhw1 := hhw1.le hleV12
   replace hVle := Vw.le_trans hVle hleV12
   have hr0 : Opn.Rds V12 [(⟨53,.slice (some ⟨b9,0,none⟩) 1 1,[Eg.bt kind]⟩ : Opn)] := Opn.Rds.one (by rw [byte_row] at hdA; exact hdA)
   have ho0 : Ow 81 2 (.slice (some ⟨b10,0,none⟩) 1 1) [(⟨53,.slice (some ⟨b9,0,none⟩) 1 1,[Eg.bt kind]⟩ : Opn)].length ([(⟨53,.slice (some ⟨b9,0,none⟩) 1 1,[Eg.bt kind]⟩ : Opn)].flatMap Opn.cells) [(b10,.cells #[.int .i64 53,.slice (some ⟨b9,0,none⟩) 1 1] 81 (0,0))] := Ow.lit (cur := #[.int .i64 53,.slice (some ⟨b9,0,none⟩) 1 1]) rfl WD
   refine Run.keepTo (H' := [[(b11,.cells #[.int .i64 54,.int .i64 q.x.server] 142 (0,0))],[(b10,.cells #[.int .i64 53,.slice (some ⟨b9,0,none⟩) 1 1] 81 (0,0))],[(y.1,.cells #[.int .i64 2,.int .u32 q.p.xid,.int .i64 0,.int .i64 q.p.flags,.int .u32 (if kind = 5 then q.p.ci else 0),.int .u32 0,.int .u32 q.x.server,.int .u32 q.p.gi,.slice y.2.2.1 q.p.hw.length y.2.2.2,.slice (some ⟨b10,0,none⟩) 1 1] 28 (0,0))],[(b2,.cells (Pc.cells q.p (.slice ph q.p.hw.length ch) (.slice po9 no9 co9)) 28 (0,0))],[(b1,.cells #[.int .i64 0,.int .u32 0,.int .i64 0,.int .i64 0,.int .u32 0,.int .u32 0,.int .u32 0,.int .u32 0,.slice none 0 0,.slice none 0 0] 28 (0,0))]]) [0,0,0,0,0] Z ?_
   refine Run.show (fun V13 hleV13 hshV13 => ?_)
   have hcs := (Ow.lit (e := 142) (k := 2) (b := b11) (n := 1) (cur := #[.int .i64 54,.int .i64 q.x.server]) rfl WD).shows _ hshV13
   replace hkq := hkq.le hleV13
   replace hok := hok.le hleV13
   replace hhw1 := hhw1.le hleV13
   replace hr0 := hr0.le hleV13
   replace hVle := Vw.le_trans hVle hleV13
   refine Run.call [1,0] (l := [.tmp 6,.tmp 44]) rfl rfl rfl (lt rfl) (put_q (L := [(⟨53,.slice (some ⟨b9,0,none⟩) 1 1,[Eg.bt kind]⟩ : Opn)]) (cs := [(⟨54,q.x.server⟩ : Cn)]) ho0 hr0 hcs (Cn.fine1 hok.sv) (Nat.le_of_ble_eq_true rfl) (Nat.le_of_ble_eq_true rfl)) (fun v14 V14 H14 hle14 hR14 => ?_)
   obtain ⟨_,rfl,L14,po14,k14,so14,rfl,ho14,hr14,hm14⟩ := hR14
   obtain ⟨W14,hVe⟩ : ∃ Vz : Vw,Vz = V14 := ⟨_,rfl⟩; subst hVe
   replace hkq := hkq.le hle14
   replace hok := hok.le hle14
   replace hhw1 := hhw1.le hle14
   replace hVle := Vw.le_trans hVle hle14
   refine Run.heapTo (H' := [[(b2,.cells (Pc.cells q.p (.slice ph q.p.hw.length ch) (.slice po9 no9 co9)) 28 (0,0))],[(b1,.cells #[.int .i64 0,.int .u32 0,.int .i64 0,.int .i64 0,.int .u32 0,.int .u32 0,.int .u32 0,.int .u32 0,.slice none 0 0,.slice none 0 0] 28 (0,0))],[(y.1,.cells #[.int .i64 2,.int .u32 q.p.xid,.int .i64 0,.int .i64 q.p.flags,.int .u32 (if kind = 5 then q.p.ci else 0),.int .u32 0,.int .u32 q.x.server,.int .u32 q.p.gi,.slice y.2.2.1 q.p.hw.length y.2.2.2,.slice po14 L14.length k14] 28 (0,0))],so14]) Z ?_
   refine Ze<|Zg<|Zs<|Zr<|Zv (Y.loadAgg Z Engine3_ag28 (Kn.at 2 Z) Z)<|Run.store (s := [(b1,.cells #[.int .i64 2,.int .u32 q.p.xid,.int .i64 0,.int .i64 q.p.flags,.int .u32 (if kind = 5 then q.p.ci else 0),.int .u32 0,.int .u32 q.x.server,.int .u32 q.p.gi,.slice y.2.2.1 q.p.hw.length y.2.2.2,.slice po14 L14.length k14] 28 (0,0))]) Z Z Engine3_sz28 (i := 1) Z Z (le Z) Z Z<|Ze<|Zg<|Zu<|?_
   exact Ex.retCell [3] rfl rfl Engine3_ag28 (Kn.at 1 rfl) rfl ⟨hVle,_,L14,po14,k14,so14,rfl,rfl,ho14,hr14,by rw [hm14]; rfl,hhw1⟩
theorem promise_q {V : Vw} {bq tx : Nat} {q : Eg.Qy} {pv hv ov : Value} (hkq : Kn V [] bq (.cells (q.cells pv tx hv ov) 90 (0,0))) (hok : Eg.Qok V q hv ov) {kind a t : Int} (ha : 0 ≤ a ∧ a ≤ 4294967295) (ht : 0 ≤ t ∧ t ≤ 4294967295)  : Does Tryz.prog 99 [(pZ bq),.int .i64 kind,.int .u32 a,.int .i64 t] V [] (fun u V' H' => V.le V' ∧ H' = [] ∧ ∃ hv' ov',u = .agg ((Eg.prom q.x q.p kind a t).cells hv' ov') ∧ Pc.R V' (Eg.prom q.x q.p kind a t) hv' ov') := by
 have h58 : 0 ≤ Fl.part t q.x.renew ∧ Fl.part t q.x.renew ≤ 4294967295 := by have := Fl.part_range ht.1 q.x.renew; omega
 have h59 : 0 ≤ max (Fl.part t q.x.renew) (Fl.part t q.x.rebind) ∧ max (Fl.part t q.x.renew) (Fl.part t q.x.rebind) ≤ 4294967295 := by have := Fl.part_range ht.1 q.x.rebind; omega
 refine Does.intro Tryz.func99 rfl rfl (le rfl) (fun B => ?_)
 refine Zs<|Zr<|?_
 refine Run.alloc Engine3_zo28 (lt rfl) (fun b1 => ?_)
 refine Ze<|Zg<|Zs<|Zr<|Zm Z<|Zm Z<|?_
 refine Run.call [] (l := [.tmp 12,.tmp 13]) rfl rfl rfl (lt rfl) (reply_q (q := q) (kind := kind) hkq hok) (fun v2 V2 H2 hle2 hR2 => ?_)
 obtain ⟨_,hv2,L2,po2,k2,so2,rfl,rfl,ho2,hr2,hm2,hh2⟩ := hR2
 obtain ⟨W2,hVe⟩ : ∃ Vz : Vw,Vz = V2 := ⟨_,rfl⟩; subst hVe
 replace hkq := hkq.le hle2
 replace hok := hok.le hle2
 have hVle := hle2
 obtain ⟨ph2,ch2,rfl,_⟩ := hh2.form
 refine Run.heapTo (H' := [[(b1,.cells #[.int .i64 0,.int .u32 0,.int .i64 0,.int .i64 0,.int .u32 0,.int .u32 0,.int .u32 0,.int .u32 0,.slice none 0 0,.slice none 0 0] 28 (0,0))],so2]) Z<|Run.heapTo (H' := [[(b1,.cells #[.int .i64 0,.int .u32 0,.int .i64 0,.int .i64 0,.int .u32 0,.int .u32 0,.int .u32 0,.int .u32 0,.slice none 0 0,.slice none 0 0] 28 (0,0))],so2]) Z<|?_
 refine Run.alloc Engine3_zo28 (lt rfl) (fun b3 => ?_)
 refine Run.store (s := [(b3,.cells (Pc.cells (Eg.rep q.x q.p kind) (.slice ph2 q.p.hw.length ch2) (.slice po2 L2.length k2)) 28 (0,0))]) Z Z Engine3_sz28 (i := 0) Z Z (le Z) Z Z ?_
 refine Ze<|Zg<|Zs<|Tr.quiet Engine3_mo WK<|ZM Z<|ZM Z<|ZV (Y.nilCheck Z)<|ZV (Y.fieldAddr Z Engine3_fo90_0)<|ZV (Y.fieldAddr Z Engine3_fo35_9)<|ZV (Y.load Z Engine3_ts32 hkq.of_nil Z)<|ZM Z<|ZV (Y.nilCheck Z)<|ZV (Y.fieldAddr Z Engine3_fo90_0)<|ZV (Y.fieldAddr Z Engine3_fo35_10)<|ZV (Y.load Z Engine3_ts32 hkq.of_nil Z)<|RunQ.call0 (l := [.tmp 16,.tmp 21,.tmp 26]) Z Z Z (lt Z) ((tms_c (n := t) (y := q.x.renew) (z := q.x.rebind)).frame)<|?_
 refine ZM Z<|ZV (Y.extract Z Z)<|ZV (Y.extract Z Z)<|ZA Z<|ZA Z<|ZE<|Zg<|Zs<|Zr<|Zm Z<|Zv (Y.fieldAddr Z Engine3_fo28_5)<|Run.store (s := [(b3,.cells #[.int .i64 ((Eg.rep q.x q.p kind).op),.int .u32 ((Eg.rep q.x q.p kind).xid),.int .i64 ((Eg.rep q.x q.p kind).secs),.int .i64 ((Eg.rep q.x q.p kind).flags),.int .u32 ((Eg.rep q.x q.p kind).ci),.int .u32 a,.int .u32 ((Eg.rep q.x q.p kind).si),.int .u32 ((Eg.rep q.x q.p kind).gi),.slice ph2 q.p.hw.length ch2,.slice po2 L2.length k2] 28 (0,0))]) Z Z Engine3_sz24 (i := 0) Z Z (le Z) Z Z<|?_
 refine Ze<|Zg<|Zs<|Zr<|Zm Z<|Zv (Y.buildA (l := [(0,.const (.int .i64 51)),(1,.tmp 32)]) Engine3_zo142 Engine3_ea142 Z Z)<|Zm Z<|Zv (Y.buildA (l := [(0,.const (.int .i64 58)),(1,.tmp 34)]) Engine3_zo142 Engine3_ea142 Z Z)<|Zm Z<|Zv (Y.buildA (l := [(0,.const (.int .i64 59)),(1,.tmp 36)]) Engine3_zo142 Engine3_ea142 Z Z)<|?_
 refine Run.buildSlice (l := [(0,.tmp 33),(1,.tmp 35),(2,.tmp 37)]) (r := [.int .i64 51,.int .i64 t,.int .i64 58,.int .i64 (Fl.part t q.x.renew),.int .i64 59,.int .i64 (max (Fl.part t q.x.renew) (Fl.part t q.x.rebind))]) Engine3_es185 Engine3_zo142 rfl WD rfl rfl WD (lt rfl) (fun b4 => ?_)
 refine Run.keepTo (H' := [[(b4,.cells #[.int .i64 51,.int .i64 t,.int .i64 58,.int .i64 (Fl.part t q.x.renew),.int .i64 59,.int .i64 (max (Fl.part t q.x.renew) (Fl.part t q.x.rebind))] 142 (0,0))],[(b3,.cells #[.int .i64 ((Eg.rep q.x q.p kind).op),.int .u32 ((Eg.rep q.x q.p kind).xid),.int .i64 ((Eg.rep q.x q.p kind).secs),.int .i64 ((Eg.rep q.x q.p kind).flags),.int .u32 ((Eg.rep q.x q.p kind).ci),.int .u32 a,.int .u32 ((Eg.rep q.x q.p kind).si),.int .u32 ((Eg.rep q.x q.p kind).gi),.slice ph2 q.p.hw.length ch2,.slice po2 L2.length k2] 28 (0,0))],[(b1,.cells #[.int .i64 0,.int .u32 0,.int .i64 0,.int .i64 0,.int .u32 0,.int .u32 0,.int .u32 0,.int .u32 0,.slice none 0 0,.slice none 0 0] 28 (0,0))],so2]) [0,0,0,0] Z ?_
 refine Run.show (fun V5 hleV5 hshV5 => ?_)
 have hcs := (Ow.lit (e := 142) (k := 2) (b := b4) (n := 3) (cur := #[.int .i64 51,.int .i64 t,.int .i64 58,.int .i64 (Fl.part t q.x.renew),.int .i64 59,.int .i64 (max (Fl.part t q.x.renew) (Fl.part t q.x.rebind))]) rfl WD).shows _ hshV5
 replace hkq := hkq.le hleV5
 replace hok := hok.le hleV5
 replace hr2 := hr2.le hleV5
 replace hh2 := hh2.le hleV5
 replace hVle := Vw.le_trans hVle hleV5
 refine Run.call [0,1] (l := [.tmp 9,.tmp 38]) rfl rfl rfl (lt rfl) (put_q (L := L2) (cs := [(⟨51,t⟩ : Cn),(⟨58,Fl.part t q.x.renew⟩ : Cn),(⟨59,max (Fl.part t q.x.renew) (Fl.part t q.x.rebind)⟩ : Cn)]) ho2 hr2 hcs (Cn.fine3 ht h58 h59) (Nat.le_of_ble_eq_true rfl) (by have h := congrArg List.length hm2; rw [List.length_map] at h; rw [h]; exact Nat.le_of_ble_eq_true rfl)) (fun v6 V6 H6 hle6 hR6 => ?_)
 obtain ⟨_,rfl,L6,po6,k6,so6,rfl,ho6,hr6,hm6⟩ := hR6
 obtain ⟨W6,hVe⟩ : ∃ Vz : Vw,Vz = V6 := ⟨_,rfl⟩; subst hVe
 replace hkq := hkq.le hle6
 replace hok := hok.le hle6
 replace hh2 := hh2.le hle6
 replace hVle := Vw.le_trans hVle hle6
 refine Run.heapTo (H' := [[(b1,.cells #[.int .i64 0,.int .u32 0,.int .i64 0,.int .i64 0,.int .u32 0,.int .u32 0,.int .u32 0,.int .u32 0,.slice none 0 0,.slice none 0 0] 28 (0,0))],[(b3,.cells #[.int .i64 ((Eg.rep q.x q.p kind).op),.int .u32 ((Eg.rep q.x q.p kind).xid),.int .i64 ((Eg.rep q.x q.p kind).secs),.int .i64 ((Eg.rep q.x q.p kind).flags),.int .u32 ((Eg.rep q.x q.p kind).ci),.int .u32 a,.int .u32 ((Eg.rep q.x q.p kind).si),.int .u32 ((Eg.rep q.x q.p kind).gi),.slice ph2 q.p.hw.length ch2,.slice po6 L6.length k6] 28 (0,0))],so6]) Z ?_
 refine Ze<|Zg<|Zs<|Zr<|Zv (Y.loadAgg Z Engine3_ag28 (Kn.at 1 Z) Z)<|Run.store (s := [(b1,.cells #[.int .i64 ((Eg.rep q.x q.p kind).op),.int .u32 ((Eg.rep q.x q.p kind).xid),.int .i64 ((Eg.rep q.x q.p kind).secs),.int .i64 ((Eg.rep q.x q.p kind).flags),.int .u32 ((Eg.rep q.x q.p kind).ci),.int .u32 a,.int .u32 ((Eg.rep q.x q.p kind).si),.int .u32 ((Eg.rep q.x q.p kind).gi),.slice ph2 q.p.hw.length ch2,.slice po6 L6.length k6] 28 (0,0))]) Z Z Engine3_sz28 (i := 0) Z Z (le Z) Z Z<|?_
 refine Ze<|Zg<|Zu<|Ex.keepTo (H' := [so6,[(b1,.cells #[.int .i64 ((Eg.rep q.x q.p kind).op),.int .u32 ((Eg.rep q.x q.p kind).xid),.int .i64 ((Eg.rep q.x q.p kind).secs),.int .i64 ((Eg.rep q.x q.p kind).flags),.int .u32 ((Eg.rep q.x q.p kind).ci),.int .u32 a,.int .u32 ((Eg.rep q.x q.p kind).si),.int .u32 ((Eg.rep q.x q.p kind).gi),.slice ph2 q.p.hw.length ch2,.slice po6 L6.length k6] 28 (0,0))],[(b3,.cells #[.int .i64 ((Eg.rep q.x q.p kind).op),.int .u32 ((Eg.rep q.x q.p kind).xid),.int .i64 ((Eg.rep q.x q.p kind).secs),.int .i64 ((Eg.rep q.x q.p kind).flags),.int .u32 ((Eg.rep q.x q.p kind).ci),.int .u32 a,.int .u32 ((Eg.rep q.x q.p kind).si),.int .u32 ((Eg.rep q.x q.p kind).gi),.slice ph2 q.p.hw.length ch2,.slice po6 L6.length k6] 28 (0,0))]]) [2,0,0] Z<|?_
 refine Ex.show (fun V7 hleV7 hshV7 => ?_)
 have hso := ho6.shows _ hshV7
 replace hkq := hkq.le hleV7
 replace hok := hok.le hleV7
 replace hh2 := hh2.le hleV7
 replace hr6 := hr6.le hleV7
 replace hVle := Vw.le_trans hVle hleV7
 exact Ex.retCell [] rfl rfl Engine3_ag28 (Kn.at 0 rfl) rfl ⟨hVle,rfl,.slice ph2 q.p.hw.length ch2,.slice po6 L6.length k6,rfl,hh2,Pc.rs_of hso hr6 (by rw [hm6,hm2]; rfl),hok.xid,ha,hok.sv⟩
set_option maxHeartbeats 1000000 in
theorem discover_q {V : Vw} {bq tx : Nat} {q : Eg.Qy} {pv hv ov : Value} (hkq : Kn V [] bq (.cells (q.cells pv tx hv ov) 90 (0,0))) (hok : Eg.Qok V q hv ov) {s : Sg} (hin : Le.In 99 q.l tx s)  : Does Tryz.prog 40 [(pZ bq)] V [s] (fun u V' H' => V.le V' ∧ H' = [s] ∧ ∃ hv' ov',u = .agg ((q.discover).cells hv' ov') ∧ Pc.R V' (q.discover).reply hv' ov') := by
 refine Does.intro Tryz.func40 rfl rfl (le rfl) (fun B => ?_)
 refine Zs<|Zr<|?_
 refine Run.box rfl (lt rfl) (fun b1 => ?_)
 refine Run.alloc Engine3_zo45 (lt rfl) (fun b2 => ?_)
 refine Ze<|Zg<|Zs<|Zs<|Zr<|Run.keepTo (H' := [(cL 88 b1 bq),[(b2,.cells an0 45 (0,0))],s]) [1,0,0] Z<|?_
 refine Run.show (fun U3 hle3 hsh3 => ?_)
 replace hkq := hkq.le hle3
 replace hok := hok.le hle3
 have hVle := hle3
 have hk1 := Kn.shown hsh3
 refine Zv (Y.load Z Engine3_ts88 hk1.of_nil Z)<|Zv (Y.nilCheck Z)<|Zv (Y.fieldAddr Z Engine3_fo90_3)<|Zv (Y.load Z Engine3_ts3 hkq.of_nil Z)<|Zv (Y.int Z Z Z)<|Zm Z<|?_
 rcases Zsplit (q.state == 1) with ⟨h4,g4⟩ | ⟨h4,g4⟩ <;> try simp only [kb] at g4
 ·refine Zp h4<|Zv (Y.load Z Engine3_ts88 hk1.of_nil Z)<|Zp h4<|Run.call0 (l := [.tmp 14]) Z Z Z (lt Z) ((mine_q hkq hok.cl).frame)<|Zp h4<|Zv (Y.not Z)<|Zv (Y.pick_t Z h4 Z)<|Ze<|Zg<|?_
  rcases Zsplit (Eg.mine q.x q.client) with ⟨h5,g5⟩ | ⟨h5,g5⟩ <;> try simp only [kb] at g5
  ·refine Tr.cond_f Z (congrArg Bool.not h5)<|Zt<|Zg<|Zs<|Zs<|Zr<|Zv (Y.makeFunc (l := []) (l' := [.tmp 1]) Z Z)<|Zv (Y.makeFunc (l := []) (l' := [.tmp 1]) Z Z)<|Zv (Y.makeFunc (l := []) (l' := [.tmp 1]) Z Z)<|?_
   refine Run.buildSlice (l := [(0,.tmp 19),(1,.tmp 20),(2,.tmp 21)]) Engine3_es135 Engine3_zo134 rfl WD rfl rfl WD (lt rfl) (fun b6 => ?_)
   refine Zv (Y.lenSl Z Engine3_es135)<|Zm Z<|Ze<|Zg<|Zb<|Tr.unroll 3<|Zs<|Zr<|Zv (Y.int (r := .bool true) Z Z Z)<|Ze<|Zg<|Zs<|Tr.cond_t Z Z<|Zt<|Zg<|Zs<|?_
   refine Zb<|Zs<|Zr<|Zv (Y.idxAddr Z Z Engine3_es135 WD WD)<|Zv (Y.load Z Engine3_ts134 (Kn.at 0 Z) Z)<|Za Z<|Ze<|Zg<|Zs<|Zr<|Zm Z<|Run.call0 (l := []) Z Z Z (lt Z) (Does.frame1 2 Z (disc1_q hkq hk1 hin))<|Zm Z<|Zv (Y.extract Z Z)<|Zv (Y.extract Z Z)<|?_
   refine Run.alloc Engine3_zo43 (lt rfl) (fun b7 => ?_)
   refine Run.store (s := [(b7,.cells ((Le.cells ((Eg.fst q.th q.l).1)).toArray) 43 (0,0))]) Z Z Engine3_sz43 (i := 0) Z Z (le Z) Z Z<|Za Z<|Ze<|Zg<|Zs<|Zs<|Zr<|?_
   refine Zm Z<|Zv (Y.not Z)<|Ze<|Zg<|?_
   rcases Zsplit ((Eg.fst q.th q.l).2) with ⟨h8,g8⟩ | ⟨h8,g8⟩ <;> try simp only [kb] at g8
   ·refine Tr.cond_f Z (congrArg Bool.not h8)<|Zt<|Zg<|Zs<|Zr<|Zv (Y.load Z Engine3_ts88 hk1.of_nil Z)<|Zv (Y.loadAgg Z Engine3_ag43 (Kn.at 0 Z) Z)<|Run.call0 (l := [.tmp 35,.tmp 36]) Z Z Z (lt Z) ((time_q (l := (Eg.fst q.th q.l).1) hkq).frame)<|Za Z<|Ze<|Zg<|Zs<|Zs<|Zr<|Zm Z<|Zv (Y.int Z Z Z)<|?_
    refine Ze<|Zg<|?_
    rcases Zsplit (decide ((q.tm ((Eg.fst q.th q.l).1)) < 1)) with ⟨h9,g9⟩ | ⟨h9,g9⟩ <;> try simp only [kb] at g9
    ·refine Tr.cond_t Z h9<|Zs<|Zr<|Zv (Y.buildS (l := []) (r := [.bool false,.int .i64 0,.int .u32 0,.int .i64 0,.int .i64 0,.int .u32 0,.int .u32 0,.int .u32 0,.int .u32 0,.slice none 0 0,.slice none 0 0,.bool false,.int .u32 0,.int .i64 0,.string ⟨#[]⟩,.int .i64 0,.int .i64 0,.int .i64 0,.int .i64 0,.int .i64 0,.int .i64 0]) Engine3_zo45 Engine3_pl45 Z Z)<|Run.stAll (l2 := [.bool false,.int .i64 0,.int .u32 0,.int .i64 0,.int .i64 0,.int .u32 0,.int .u32 0,.int .u32 0,.int .u32 0,.slice none 0 0,.slice none 0 0,.bool false,.int .u32 0,.int .i64 0,.string ⟨#[]⟩,.int .i64 0,.int .i64 0,.int .i64 0,.int .i64 0,.int .i64 0,.int .i64 0]) (j := 2) Z Z Engine3_sz45 Z Z Z Z<|?_
     refine Run.heapTo (H' := [[(b7,.cells ((Le.cells ((Eg.fst q.th q.l).1)).toArray) 43 (0,0))],[(b6,.cells #[.func (.func 93) #[] #[(pZ b1)],.func (.func 95) #[] #[(pZ b1)],.func (.func 97) #[] #[(pZ b1)]] 134 (0,0))],[(b2,.cells an0 45 (0,0))],s]) Z ?_
     refine Ze<|Zg<|Zu<|Zn<|Zk<|Zn<|Zn<|Zk<|Zn<|?_
     exact Ex.retCell [3] rfl rfl Engine3_ag45 (Kn.at 2 rfl) rfl ⟨hVle,rfl,.slice none 0 0,.slice none 0 0,by rw [(Eg.disc_1 (.inr h5) h8).trans (Eg.offer_no (of_decide_eq_true h9))]; rfl,by rw [(Eg.disc_1 (.inr h5) h8).trans (Eg.offer_no (of_decide_eq_true h9))]; exact Pc.zero_R _⟩
    ·refine Tr.cond_f Z h9<|Zt<|Zg<|Zs<|Zr<|Zv (Y.load Z Engine3_ts88 hk1.of_nil Z)<|Zv (Y.fieldAddr Z Engine3_fo43_0)<|Zv (Y.load Z Engine3_ts24 (Kn.at 0 Z) Z)<|Zm Z<|?_
     refine Run.call [] (l := [.tmp 41,.const (.int .i64 2),.tmp 43,.tmp 44]) rfl rfl rfl (lt rfl) (promise_q (q := q) (kind := 2) (a := (Eg.fst q.th q.l).1.addr) (t := q.tm ((Eg.fst q.th q.l).1)) hkq hok (Eg.fst_la h8 hok.la) ⟨Eg.tm_nn _ _,Eg.tm_le _ _⟩) (fun v10 V10 H10 hle10 hR10 => ?_)
     obtain ⟨_,rfl,hv10,ov10,rfl,hRp10⟩ := hR10
     obtain ⟨W10,hVe⟩ : ∃ Vz : Vw,Vz = V10 := ⟨_,rfl⟩; subst hVe
     replace hkq := hkq.le hle10
     replace hok := hok.le hle10
     replace hk1 := hk1.le hle10
     replace hVle := Vw.le_trans hVle hle10
     obtain ⟨⟨pg10,cg10,rfl⟩,pk10,nk10,ck10,rfl⟩ := hRp10.forms
     generalize hP10 : Eg.prom q.x q.p 2 ((Eg.fst q.th q.l).1.addr) (q.tm ((Eg.fst q.th q.l).1)) = P10 at hRp10 ⊢
     refine Run.heapTo (H' := [[(b7,.cells ((Le.cells ((Eg.fst q.th q.l).1)).toArray) 43 (0,0))],[(b6,.cells #[.func (.func 93) #[] #[(pZ b1)],.func (.func 95) #[] #[(pZ b1)],.func (.func 97) #[] #[(pZ b1)]] 134 (0,0))],[(b2,.cells an0 45 (0,0))],s]) Z ?_
     refine Zv (Y.buildS (l := [(0,.const (.bool true)),(1,.tmp 45)]) (r := [.bool true,.int .i64 P10.op,.int .u32 P10.xid,.int .i64 P10.secs,.int .i64 P10.flags,.int .u32 P10.ci,.int .u32 P10.yi,.int .u32 P10.si,.int .u32 P10.gi,.slice pg10 P10.hw.length cg10,.slice pk10 nk10 ck10,.bool false,.int .u32 0,.int .i64 0,.string ⟨#[]⟩,.int .i64 0,.int .i64 0,.int .i64 0,.int .i64 0,.int .i64 0,.int .i64 0]) Engine3_zo45 Engine3_pl45 Z Z) ?_
     refine Run.stAll (l2 := [.bool true,.int .i64 P10.op,.int .u32 P10.xid,.int .i64 P10.secs,.int .i64 P10.flags,.int .u32 P10.ci,.int .u32 P10.yi,.int .u32 P10.si,.int .u32 P10.gi,.slice pg10 P10.hw.length cg10,.slice pk10 nk10 ck10,.bool false,.int .u32 0,.int .i64 0,.string ⟨#[]⟩,.int .i64 0,.int .i64 0,.int .i64 0,.int .i64 0,.int .i64 0,.int .i64 0]) (j := 2) Z Z Engine3_sz45 Z Z Z Z ?_
     refine Run.heapTo (H' := [[(b7,.cells ((Le.cells ((Eg.fst q.th q.l).1)).toArray) 43 (0,0))],[(b6,.cells #[.func (.func 93) #[] #[(pZ b1)],.func (.func 95) #[] #[(pZ b1)],.func (.func 97) #[] #[(pZ b1)]] 134 (0,0))],[(b2,.cells (An.cells ⟨true,P10,false,Le.dflt,0⟩ (.slice pg10 P10.hw.length cg10) (.slice pk10 nk10 ck10)) 45 (0,0))],s]) Z ?_
     refine Ze<|Zg<|Zu<|Zk<|Zn<|Zn<|Zk<|Zn<|?_
     exact Ex.retCell [3] rfl rfl Engine3_ag45 (Kn.at 2 rfl) rfl ⟨hVle,rfl,.slice pg10 P10.hw.length cg10,.slice pk10 nk10 ck10,by rw [(Eg.disc_1 (.inr h5) h8).trans (Eg.offer_is (of_decide_eq_false h9)),hP10]; rfl,by rw [(Eg.disc_1 (.inr h5) h8).trans (Eg.offer_is (of_decide_eq_false h9)),hP10]; exact hRp10⟩
   ·refine Tr.cond_t Z (congrArg Bool.not h8)<|Zx<|Zy<|Zi<|Zg<|Zr<|Zv (Y.int (r := .int .i64 1) Z Z Z)<|Zm Z<|Ze<|Ex.goU<|Zs<|Zr<|Zv (Y.int (r := .bool true) Z Z Z)<|Ze<|Zg<|Zs<|?_
    refine Tr.cond_t Z Z<|Zt<|Zg<|Zs<|Zb<|Zs<|Zr<|Zv (Y.idxAddr Z Z Engine3_es135 WD WD)<|Zv (Y.load Z Engine3_ts134 (Kn.at 1 Z) Z)<|Za Z<|Ze<|Zg<|Zs<|Zr<|Zm Z<|Run.call0 (l := []) Z Z Z (lt Z) (Does.frame1 3 Z (disc2_q hkq hk1 hin))<|?_
    refine Zm Z<|Zv (Y.extract Z Z)<|Zv (Y.extract Z Z)<|?_
    refine Run.alloc Engine3_zo43 (lt rfl) (fun b11 => ?_)
    refine Run.store (s := [(b11,.cells ((Le.cells ((Eg.of q.may q.l q.addr).1)).toArray) 43 (0,0))]) Z Z Engine3_sz43 (i := 0) Z Z (le Z) Z Z ?_
    refine Za Z<|Ze<|Zg<|Zs<|Zs<|Zr<|Zm Z<|Zv (Y.not Z)<|Ze<|Zg<|?_
    rcases Zsplit ((Eg.of q.may q.l q.addr).2) with ⟨h12,g12⟩ | ⟨h12,g12⟩ <;> try simp only [kb] at g12
    ·refine Tr.cond_f Z (congrArg Bool.not h12)<|Zt<|Zg<|Zs<|Zr<|Zv (Y.load Z Engine3_ts88 hk1.of_nil Z)<|Zv (Y.loadAgg Z Engine3_ag43 (Kn.at 0 Z) Z)<|Run.call0 (l := [.tmp 35,.tmp 36]) Z Z Z (lt Z) ((time_q (l := (Eg.of q.may q.l q.addr).1) hkq).frame)<|Za Z<|Ze<|Zg<|Zs<|Zs<|Zr<|Zm Z<|Zv (Y.int Z Z Z)<|?_
     refine Ze<|Zg<|?_
     rcases Zsplit (decide ((q.tm ((Eg.of q.may q.l q.addr).1)) < 1)) with ⟨h13,g13⟩ | ⟨h13,g13⟩ <;> try simp only [kb] at g13
     ·refine Tr.cond_t Z h13<|Zs<|Zr<|Zv (Y.buildS (l := []) (r := [.bool false,.int .i64 0,.int .u32 0,.int .i64 0,.int .i64 0,.int .u32 0,.int .u32 0,.int .u32 0,.int .u32 0,.slice none 0 0,.slice none 0 0,.bool false,.int .u32 0,.int .i64 0,.string ⟨#[]⟩,.int .i64 0,.int .i64 0,.int .i64 0,.int .i64 0,.int .i64 0,.int .i64 0]) Engine3_zo45 Engine3_pl45 Z Z)<|Run.stAll (l2 := [.bool false,.int .i64 0,.int .u32 0,.int .i64 0,.int .i64 0,.int .u32 0,.int .u32 0,.int .u32 0,.int .u32 0,.slice none 0 0,.slice none 0 0,.bool false,.int .u32 0,.int .i64 0,.string ⟨#[]⟩,.int .i64 0,.int .i64 0,.int .i64 0,.int .i64 0,.int .i64 0,.int .i64 0]) (j := 3) Z Z Engine3_sz45 Z Z Z Z<|?_
      refine Run.heapTo (H' := [[(b11,.cells ((Le.cells ((Eg.of q.may q.l q.addr).1)).toArray) 43 (0,0))],[(b7,.cells ((Le.cells ((Eg.fst q.th q.l).1)).toArray) 43 (0,0))],[(b6,.cells #[.func (.func 93) #[] #[(pZ b1)],.func (.func 95) #[] #[(pZ b1)],.func (.func 97) #[] #[(pZ b1)]] 134 (0,0))],[(b2,.cells an0 45 (0,0))],s]) Z ?_
      refine Ze<|Zg<|Zu<|Zn<|Zk<|Zn<|Zn<|Zk<|Zn<|?_
      exact Ex.retCell [4] rfl rfl Engine3_ag45 (Kn.at 3 rfl) rfl ⟨hVle,rfl,.slice none 0 0,.slice none 0 0,by rw [(Eg.disc_2 (.inr h5) h8 h12).trans (Eg.offer_no (of_decide_eq_true h13))]; rfl,by rw [(Eg.disc_2 (.inr h5) h8 h12).trans (Eg.offer_no (of_decide_eq_true h13))]; exact Pc.zero_R _⟩
     ·refine Tr.cond_f Z h13<|Zt<|Zg<|Zs<|Zr<|Zv (Y.load Z Engine3_ts88 hk1.of_nil Z)<|Zv (Y.fieldAddr Z Engine3_fo43_0)<|Zv (Y.load Z Engine3_ts24 (Kn.at 0 Z) Z)<|Zm Z<|?_
      refine Run.call [] (l := [.tmp 41,.const (.int .i64 2),.tmp 43,.tmp 44]) rfl rfl rfl (lt rfl) (promise_q (q := q) (kind := 2) (a := (Eg.of q.may q.l q.addr).1.addr) (t := q.tm ((Eg.of q.may q.l q.addr).1)) hkq hok (Eg.of_la h12 hok.la) ⟨Eg.tm_nn _ _,Eg.tm_le _ _⟩) (fun v14 V14 H14 hle14 hR14 => ?_)
      obtain ⟨_,rfl,hv14,ov14,rfl,hRp14⟩ := hR14
      obtain ⟨W14,hVe⟩ : ∃ Vz : Vw,Vz = V14 := ⟨_,rfl⟩; subst hVe
      replace hkq := hkq.le hle14
      replace hok := hok.le hle14
      replace hk1 := hk1.le hle14
      replace hVle := Vw.le_trans hVle hle14
      obtain ⟨⟨pg14,cg14,rfl⟩,pk14,nk14,ck14,rfl⟩ := hRp14.forms
      generalize hP14 : Eg.prom q.x q.p 2 ((Eg.of q.may q.l q.addr).1.addr) (q.tm ((Eg.of q.may q.l q.addr).1)) = P14 at hRp14 ⊢
      refine Run.heapTo (H' := [[(b11,.cells ((Le.cells ((Eg.of q.may q.l q.addr).1)).toArray) 43 (0,0))],[(b7,.cells ((Le.cells ((Eg.fst q.th q.l).1)).toArray) 43 (0,0))],[(b6,.cells #[.func (.func 93) #[] #[(pZ b1)],.func (.func 95) #[] #[(pZ b1)],.func (.func 97) #[] #[(pZ b1)]] 134 (0,0))],[(b2,.cells an0 45 (0,0))],s]) Z ?_
      refine Zv (Y.buildS (l := [(0,.const (.bool true)),(1,.tmp 45)]) (r := [.bool true,.int .i64 P14.op,.int .u32 P14.xid,.int .i64 P14.secs,.int .i64 P14.flags,.int .u32 P14.ci,.int .u32 P14.yi,.int .u32 P14.si,.int .u32 P14.gi,.slice pg14 P14.hw.length cg14,.slice pk14 nk14 ck14,.bool false,.int .u32 0,.int .i64 0,.string ⟨#[]⟩,.int .i64 0,.int .i64 0,.int .i64 0,.int .i64 0,.int .i64 0,.int .i64 0]) Engine3_zo45 Engine3_pl45 Z Z) ?_
      refine Run.stAll (l2 := [.bool true,.int .i64 P14.op,.int .u32 P14.xid,.int .i64 P14.secs,.int .i64 P14.flags,.int .u32 P14.ci,.int .u32 P14.yi,.int .u32 P14.si,.int .u32 P14.gi,.slice pg14 P14.hw.length cg14,.slice pk14 nk14 ck14,.bool false,.int .u32 0,.int .i64 0,.string ⟨#[]⟩,.int .i64 0,.int .i64 0,.int .i64 0,.int .i64 0,.int .i64 0,.int .i64 0]) (j := 3) Z Z Engine3_sz45 Z Z Z Z ?_
      refine Run.heapTo (H' := [[(b11,.cells ((Le.cells ((Eg.of q.may q.l q.addr).1)).toArray) 43 (0,0))],[(b7,.cells ((Le.cells ((Eg.fst q.th q.l).1)).toArray) 43 (0,0))],[(b6,.cells #[.func (.func 93) #[] #[(pZ b1)],.func (.func 95) #[] #[(pZ b1)],.func (.func 97) #[] #[(pZ b1)]] 134 (0,0))],[(b2,.cells (An.cells ⟨true,P14,false,Le.dflt,0⟩ (.slice pg14 P14.hw.length cg14) (.slice pk14 nk14 ck14)) 45 (0,0))],s]) Z ?_
      refine Ze<|Zg<|Zu<|Zk<|Zn<|Zn<|Zk<|Zn<|?_
      exact Ex.retCell [4] rfl rfl Engine3_ag45 (Kn.at 3 rfl) rfl ⟨hVle,rfl,.slice pg14 P14.hw.length cg14,.slice pk14 nk14 ck14,by rw [(Eg.disc_2 (.inr h5) h8 h12).trans (Eg.offer_is (of_decide_eq_false h13)),hP14]; rfl,by rw [(Eg.disc_2 (.inr h5) h8 h12).trans (Eg.offer_is (of_decide_eq_false h13)),hP14]; exact hRp14⟩
    ·refine Tr.cond_t Z (congrArg Bool.not h12)<|Zx<|Zy<|Zi<|Zg<|Zr<|Zv (Y.int (r := .int .i64 2) Z Z Z)<|Zm Z<|Ze<|Ex.goU<|Zs<|Zr<|Zv (Y.int (r := .bool true) Z Z Z)<|Ze<|Zg<|Zs<|?_
     refine Tr.cond_t Z Z<|Zt<|Zg<|Zs<|Zb<|Zs<|Zr<|Zv (Y.idxAddr Z Z Engine3_es135 WD WD)<|Zv (Y.load Z Engine3_ts134 (Kn.at 2 Z) Z)<|Za Z<|Ze<|Zg<|Zs<|Zr<|Zm Z<|Run.call0 (l := []) Z Z Z (lt Z) (Does.frame1 4 Z (disc3_q hkq hk1 hin))<|?_
     refine Zm Z<|Zv (Y.extract Z Z)<|Zv (Y.extract Z Z)<|?_
     refine Run.alloc Engine3_zo43 (lt rfl) (fun b15 => ?_)
     refine Run.store (s := [(b15,.cells ((Le.cells ((Eg.fst q.may q.l).1)).toArray) 43 (0,0))]) Z Z Engine3_sz43 (i := 0) Z Z (le Z) Z Z<|Za Z<|?_
     refine Ze<|Zg<|Zs<|Zs<|Zr<|Zm Z<|Zv (Y.not Z)<|Ze<|Zg<|?_
     rcases Zsplit ((Eg.fst q.may q.l).2) with ⟨h16,g16⟩ | ⟨h16,g16⟩ <;> try simp only [kb] at g16
     ·refine Tr.cond_f Z (congrArg Bool.not h16)<|Zt<|Zg<|Zs<|Zr<|Zv (Y.load Z Engine3_ts88 hk1.of_nil Z)<|Zv (Y.loadAgg Z Engine3_ag43 (Kn.at 0 Z) Z)<|Run.call0 (l := [.tmp 35,.tmp 36]) Z Z Z (lt Z) ((time_q (l := (Eg.fst q.may q.l).1) hkq).frame)<|Za Z<|Ze<|Zg<|Zs<|Zs<|Zr<|Zm Z<|Zv (Y.int Z Z Z)<|?_
      refine Ze<|Zg<|?_
      rcases Zsplit (decide ((q.tm ((Eg.fst q.may q.l).1)) < 1)) with ⟨h17,g17⟩ | ⟨h17,g17⟩ <;> try simp only [kb] at g17
      ·refine Tr.cond_t Z h17<|Zs<|Zr<|Zv (Y.buildS (l := []) (r := [.bool false,.int .i64 0,.int .u32 0,.int .i64 0,.int .i64 0,.int .u32 0,.int .u32 0,.int .u32 0,.int .u32 0,.slice none 0 0,.slice none 0 0,.bool false,.int .u32 0,.int .i64 0,.string ⟨#[]⟩,.int .i64 0,.int .i64 0,.int .i64 0,.int .i64 0,.int .i64 0,.int .i64 0]) Engine3_zo45 Engine3_pl45 Z Z)<|Run.stAll (l2 := [.bool false,.int .i64 0,.int .u32 0,.int .i64 0,.int .i64 0,.int .u32 0,.int .u32 0,.int .u32 0,.int .u32 0,.slice none 0 0,.slice none 0 0,.bool false,.int .u32 0,.int .i64 0,.string ⟨#[]⟩,.int .i64 0,.int .i64 0,.int .i64 0,.int .i64 0,.int .i64 0,.int .i64 0]) (j := 4) Z Z Engine3_sz45 Z Z Z Z<|?_
       refine Run.heapTo (H' := [[(b15,.cells ((Le.cells ((Eg.fst q.may q.l).1)).toArray) 43 (0,0))],[(b11,.cells ((Le.cells ((Eg.of q.may q.l q.addr).1)).toArray) 43 (0,0))],[(b7,.cells ((Le.cells ((Eg.fst q.th q.l).1)).toArray) 43 (0,0))],[(b6,.cells #[.func (.func 93) #[] #[(pZ b1)],.func (.func 95) #[] #[(pZ b1)],.func (.func 97) #[] #[(pZ b1)]] 134 (0,0))],[(b2,.cells an0 45 (0,0))],s]) Z ?_
       refine Ze<|Zg<|Zu<|Zn<|Zk<|Zn<|Zn<|Zk<|Zn<|?_
       exact Ex.retCell [5] rfl rfl Engine3_ag45 (Kn.at 4 rfl) rfl ⟨hVle,rfl,.slice none 0 0,.slice none 0 0,by rw [((Eg.disc_3 (.inr h5) h8 h12).trans (if_pos h16)).trans (Eg.offer_no (of_decide_eq_true h17))]; rfl,by rw [((Eg.disc_3 (.inr h5) h8 h12).trans (if_pos h16)).trans (Eg.offer_no (of_decide_eq_true h17))]; exact Pc.zero_R _⟩
      ·refine Tr.cond_f Z h17<|Zt<|Zg<|Zs<|Zr<|Zv (Y.load Z Engine3_ts88 hk1.of_nil Z)<|Zv (Y.fieldAddr Z Engine3_fo43_0)<|Zv (Y.load Z Engine3_ts24 (Kn.at 0 Z) Z)<|Zm Z<|?_
       refine Run.call [] (l := [.tmp 41,.const (.int .i64 2),.tmp 43,.tmp 44]) rfl rfl rfl (lt rfl) (promise_q (q := q) (kind := 2) (a := (Eg.fst q.may q.l).1.addr) (t := q.tm ((Eg.fst q.may q.l).1)) hkq hok (Eg.fst_la h16 hok.la) ⟨Eg.tm_nn _ _,Eg.tm_le _ _⟩) (fun v18 V18 H18 hle18 hR18 => ?_)
       obtain ⟨_,rfl,hv18,ov18,rfl,hRp18⟩ := hR18
       obtain ⟨W18,hVe⟩ : ∃ Vz : Vw,Vz = V18 := ⟨_,rfl⟩; subst hVe
       replace hkq := hkq.le hle18
       replace hok := hok.le hle18
       replace hk1 := hk1.le hle18
       replace hVle := Vw.le_trans hVle hle18
       obtain ⟨⟨pg18,cg18,rfl⟩,pk18,nk18,ck18,rfl⟩ := hRp18.forms
       generalize hP18 : Eg.prom q.x q.p 2 ((Eg.fst q.may q.l).1.addr) (q.tm ((Eg.fst q.may q.l).1)) = P18 at hRp18 ⊢
       refine Run.heapTo (H' := [[(b15,.cells ((Le.cells ((Eg.fst q.may q.l).1)).toArray) 43 (0,0))],[(b11,.cells ((Le.cells ((Eg.of q.may q.l q.addr).1)).toArray) 43 (0,0))],[(b7,.cells ((Le.cells ((Eg.fst q.th q.l).1)).toArray) 43 (0,0))],[(b6,.cells #[.func (.func 93) #[] #[(pZ b1)],.func (.func 95) #[] #[(pZ b1)],.func (.func 97) #[] #[(pZ b1)]] 134 (0,0))],[(b2,.cells an0 45 (0,0))],s]) Z ?_
       refine Zv (Y.buildS (l := [(0,.const (.bool true)),(1,.tmp 45)]) (r := [.bool true,.int .i64 P18.op,.int .u32 P18.xid,.int .i64 P18.secs,.int .i64 P18.flags,.int .u32 P18.ci,.int .u32 P18.yi,.int .u32 P18.si,.int .u32 P18.gi,.slice pg18 P18.hw.length cg18,.slice pk18 nk18 ck18,.bool false,.int .u32 0,.int .i64 0,.string ⟨#[]⟩,.int .i64 0,.int .i64 0,.int .i64 0,.int .i64 0,.int .i64 0,.int .i64 0]) Engine3_zo45 Engine3_pl45 Z Z) ?_
       refine Run.stAll (l2 := [.bool true,.int .i64 P18.op,.int .u32 P18.xid,.int .i64 P18.secs,.int .i64 P18.flags,.int .u32 P18.ci,.int .u32 P18.yi,.int .u32 P18.si,.int .u32 P18.gi,.slice pg18 P18.hw.length cg18,.slice pk18 nk18 ck18,.bool false,.int .u32 0,.int .i64 0,.string ⟨#[]⟩,.int .i64 0,.int .i64 0,.int .i64 0,.int .i64 0,.int .i64 0,.int .i64 0]) (j := 4) Z Z Engine3_sz45 Z Z Z Z ?_
       refine Run.heapTo (H' := [[(b15,.cells ((Le.cells ((Eg.fst q.may q.l).1)).toArray) 43 (0,0))],[(b11,.cells ((Le.cells ((Eg.of q.may q.l q.addr).1)).toArray) 43 (0,0))],[(b7,.cells ((Le.cells ((Eg.fst q.th q.l).1)).toArray) 43 (0,0))],[(b6,.cells #[.func (.func 93) #[] #[(pZ b1)],.func (.func 95) #[] #[(pZ b1)],.func (.func 97) #[] #[(pZ b1)]] 134 (0,0))],[(b2,.cells (An.cells ⟨true,P18,false,Le.dflt,0⟩ (.slice pg18 P18.hw.length cg18) (.slice pk18 nk18 ck18)) 45 (0,0))],s]) Z ?_
       refine Ze<|Zg<|Zu<|Zk<|Zn<|Zn<|Zk<|Zn<|?_
       exact Ex.retCell [5] rfl rfl Engine3_ag45 (Kn.at 4 rfl) rfl ⟨hVle,rfl,.slice pg18 P18.hw.length cg18,.slice pk18 nk18 ck18,by rw [((Eg.disc_3 (.inr h5) h8 h12).trans (if_pos h16)).trans (Eg.offer_is (of_decide_eq_false h17)),hP18]; rfl,by rw [((Eg.disc_3 (.inr h5) h8 h12).trans (if_pos h16)).trans (Eg.offer_is (of_decide_eq_false h17)),hP18]; exact hRp18⟩
     ·refine Tr.cond_t Z (congrArg Bool.not h16)<|Zx<|Zy<|Zi<|Zg<|Zr<|Zv (Y.int (r := .int .i64 3) Z Z Z)<|Zm Z<|Ze<|Ex.goU<|Zs<|Zr<|Zv (Y.int (r := .bool false) Z Z Z)<|Ze<|Zg<|Zs<|?_
      refine Tr.cond_f Z Z<|Zx<|Zy<|Zy<|Zi<|Zg<|Zs<|Zr<|Zv (Y.buildS (l := []) (r := [.bool false,.int .i64 0,.int .u32 0,.int .i64 0,.int .i64 0,.int .u32 0,.int .u32 0,.int .u32 0,.int .u32 0,.slice none 0 0,.slice none 0 0,.bool false,.int .u32 0,.int .i64 0,.string ⟨#[]⟩,.int .i64 0,.int .i64 0,.int .i64 0,.int .i64 0,.int .i64 0,.int .i64 0]) Engine3_zo45 Engine3_pl45 Z Z)<|Run.stAll (l2 := [.bool false,.int .i64 0,.int .u32 0,.int .i64 0,.int .i64 0,.int .u32 0,.int .u32 0,.int .u32 0,.int .u32 0,.slice none 0 0,.slice none 0 0,.bool false,.int .u32 0,.int .i64 0,.string ⟨#[]⟩,.int .i64 0,.int .i64 0,.int .i64 0,.int .i64 0,.int .i64 0,.int .i64 0]) (j := 4) Z Z Engine3_sz45 Z Z Z Z<|?_
      refine Run.heapTo (H' := [[(b15,.cells ((Le.cells ((Eg.fst q.may q.l).1)).toArray) 43 (0,0))],[(b11,.cells ((Le.cells ((Eg.of q.may q.l q.addr).1)).toArray) 43 (0,0))],[(b7,.cells ((Le.cells ((Eg.fst q.th q.l).1)).toArray) 43 (0,0))],[(b6,.cells #[.func (.func 93) #[] #[(pZ b1)],.func (.func 95) #[] #[(pZ b1)],.func (.func 97) #[] #[(pZ b1)]] 134 (0,0))],[(b2,.cells an0 45 (0,0))],s]) Z ?_
      refine Ze<|Zg<|Zu<|?_
      exact Ex.retCell [5] rfl rfl Engine3_ag45 (Kn.at 4 rfl) rfl ⟨hVle,rfl,.slice none 0 0,.slice none 0 0,by rw [(Eg.disc_3 (.inr h5) h8 h12).trans (if_neg (by rw [h16]; decide))]; rfl,by rw [(Eg.disc_3 (.inr h5) h8 h12).trans (if_neg (by rw [h16]; decide))]; exact Pc.zero_R _⟩
  ·refine Tr.cond_t Z (congrArg Bool.not h5)<|Zs<|Zr<|Zv (Y.buildS (l := []) (r := [.bool false,.int .i64 0,.int .u32 0,.int .i64 0,.int .i64 0,.int .u32 0,.int .u32 0,.int .u32 0,.int .u32 0,.slice none 0 0,.slice none 0 0,.bool false,.int .u32 0,.int .i64 0,.string ⟨#[]⟩,.int .i64 0,.int .i64 0,.int .i64 0,.int .i64 0,.int .i64 0,.int .i64 0]) Engine3_zo45 Engine3_pl45 Z Z)<|Run.stAll (l2 := [.bool false,.int .i64 0,.int .u32 0,.int .i64 0,.int .i64 0,.int .u32 0,.int .u32 0,.int .u32 0,.int .u32 0,.slice none 0 0,.slice none 0 0,.bool false,.int .u32 0,.int .i64 0,.string ⟨#[]⟩,.int .i64 0,.int .i64 0,.int .i64 0,.int .i64 0,.int .i64 0,.int .i64 0]) (j := 0) Z Z Engine3_sz45 Z Z Z Z<|?_
   refine Run.heapTo (H' := [[(b2,.cells an0 45 (0,0))],s]) Z<|Ze<|Zg<|Zu<|Zn<|?_
   exact Ex.retCell [1] rfl rfl Engine3_ag45 (Kn.at 0 rfl) rfl ⟨hVle,rfl,.slice none 0 0,.slice none 0 0,by rw [Eg.disc_no W h5]; rfl,by rw [Eg.disc_no W h5]; exact Pc.zero_R _⟩
 ·refine Zo h4 Z<|Zo h4 Z<|Zo h4 Z<|Zv (Y.pick_f Z h4 Z)<|Ze<|Zg<|Tr.cond_f Z Z<|Zt<|Zg<|Zs<|Zs<|Zr<|Zv (Y.makeFunc (l := []) (l' := [.tmp 1]) Z Z)<|Zv (Y.makeFunc (l := []) (l' := [.tmp 1]) Z Z)<|Zv (Y.makeFunc (l := []) (l' := [.tmp 1]) Z Z)<|?_
  refine Run.buildSlice (l := [(0,.tmp 19),(1,.tmp 20),(2,.tmp 21)]) Engine3_es135 Engine3_zo134 rfl WD rfl rfl WD (lt rfl) (fun b19 => ?_)
  refine Zv (Y.lenSl Z Engine3_es135)<|Zm Z<|Ze<|Zg<|Zb<|Tr.unroll 3<|Zs<|Zr<|Zv (Y.int (r := .bool true) Z Z Z)<|Ze<|Zg<|Zs<|Tr.cond_t Z Z<|Zt<|Zg<|Zs<|?_
  refine Zb<|Zs<|Zr<|Zv (Y.idxAddr Z Z Engine3_es135 WD WD)<|Zv (Y.load Z Engine3_ts134 (Kn.at 0 Z) Z)<|Za Z<|Ze<|Zg<|Zs<|Zr<|Zm Z<|Run.call0 (l := []) Z Z Z (lt Z) (Does.frame1 2 Z (disc1_q hkq hk1 hin))<|Zm Z<|Zv (Y.extract Z Z)<|Zv (Y.extract Z Z)<|?_
  refine Run.alloc Engine3_zo43 (lt rfl) (fun b20 => ?_)
  refine Run.store (s := [(b20,.cells ((Le.cells ((Eg.fst q.th q.l).1)).toArray) 43 (0,0))]) Z Z Engine3_sz43 (i := 0) Z Z (le Z) Z Z<|Za Z<|Ze<|Zg<|Zs<|Zs<|?_
  refine Zr<|Zm Z<|Zv (Y.not Z)<|Ze<|Zg<|?_
  rcases Zsplit ((Eg.fst q.th q.l).2) with ⟨h21,g21⟩ | ⟨h21,g21⟩ <;> try simp only [kb] at g21
  ·refine Tr.cond_f Z (congrArg Bool.not h21)<|Zt<|Zg<|Zs<|Zr<|Zv (Y.load Z Engine3_ts88 hk1.of_nil Z)<|Zv (Y.loadAgg Z Engine3_ag43 (Kn.at 0 Z) Z)<|Run.call0 (l := [.tmp 35,.tmp 36]) Z Z Z (lt Z) ((time_q (l := (Eg.fst q.th q.l).1) hkq).frame)<|Za Z<|Ze<|Zg<|Zs<|Zs<|Zr<|Zm Z<|Zv (Y.int Z Z Z)<|?_
   refine Ze<|Zg<|?_
   rcases Zsplit (decide ((q.tm ((Eg.fst q.th q.l).1)) < 1)) with ⟨h22,g22⟩ | ⟨h22,g22⟩ <;> try simp only [kb] at g22
   ·refine Tr.cond_t Z h22<|Zs<|Zr<|Zv (Y.buildS (l := []) (r := [.bool false,.int .i64 0,.int .u32 0,.int .i64 0,.int .i64 0,.int .u32 0,.int .u32 0,.int .u32 0,.int .u32 0,.slice none 0 0,.slice none 0 0,.bool false,.int .u32 0,.int .i64 0,.string ⟨#[]⟩,.int .i64 0,.int .i64 0,.int .i64 0,.int .i64 0,.int .i64 0,.int .i64 0]) Engine3_zo45 Engine3_pl45 Z Z)<|Run.stAll (l2 := [.bool false,.int .i64 0,.int .u32 0,.int .i64 0,.int .i64 0,.int .u32 0,.int .u32 0,.int .u32 0,.int .u32 0,.slice none 0 0,.slice none 0 0,.bool false,.int .u32 0,.int .i64 0,.string ⟨#[]⟩,.int .i64 0,.int .i64 0,.int .i64 0,.int .i64 0,.int .i64 0,.int .i64 0]) (j := 2) Z Z Engine3_sz45 Z Z Z Z<|?_
    refine Run.heapTo (H' := [[(b20,.cells ((Le.cells ((Eg.fst q.th q.l).1)).toArray) 43 (0,0))],[(b19,.cells #[.func (.func 93) #[] #[(pZ b1)],.func (.func 95) #[] #[(pZ b1)],.func (.func 97) #[] #[(pZ b1)]] 134 (0,0))],[(b2,.cells an0 45 (0,0))],s]) Z ?_
    refine Ze<|Zg<|Zu<|Zn<|Zk<|Zn<|Zn<|Zk<|Zn<|?_
    exact Ex.retCell [3] rfl rfl Engine3_ag45 (Kn.at 2 rfl) rfl ⟨hVle,rfl,.slice none 0 0,.slice none 0 0,by rw [(Eg.disc_1 (.inl W) h21).trans (Eg.offer_no (of_decide_eq_true h22))]; rfl,by rw [(Eg.disc_1 (.inl W) h21).trans (Eg.offer_no (of_decide_eq_true h22))]; exact Pc.zero_R _⟩
   ·refine Tr.cond_f Z h22<|Zt<|Zg<|Zs<|Zr<|Zv (Y.load Z Engine3_ts88 hk1.of_nil Z)<|Zv (Y.fieldAddr Z Engine3_fo43_0)<|Zv (Y.load Z Engine3_ts24 (Kn.at 0 Z) Z)<|Zm Z<|?_
    refine Run.call [] (l := [.tmp 41,.const (.int .i64 2),.tmp 43,.tmp 44]) rfl rfl rfl (lt rfl) (promise_q (q := q) (kind := 2) (a := (Eg.fst q.th q.l).1.addr) (t := q.tm ((Eg.fst q.th q.l).1)) hkq hok (Eg.fst_la h21 hok.la) ⟨Eg.tm_nn _ _,Eg.tm_le _ _⟩) (fun v23 V23 H23 hle23 hR23 => ?_)
    obtain ⟨_,rfl,hv23,ov23,rfl,hRp23⟩ := hR23
    obtain ⟨W23,hVe⟩ : ∃ Vz : Vw,Vz = V23 := ⟨_,rfl⟩; subst hVe
    replace hkq := hkq.le hle23
    replace hok := hok.le hle23
    replace hk1 := hk1.le hle23
    replace hVle := Vw.le_trans hVle hle23
    obtain ⟨⟨pg23,cg23,rfl⟩,pk23,nk23,ck23,rfl⟩ := hRp23.forms
    generalize hP23 : Eg.prom q.x q.p 2 ((Eg.fst q.th q.l).1.addr) (q.tm ((Eg.fst q.th q.l).1)) = P23 at hRp23 ⊢
    refine Run.heapTo (H' := [[(b20,.cells ((Le.cells ((Eg.fst q.th q.l).1)).toArray) 43 (0,0))],[(b19,.cells #[.func (.func 93) #[] #[(pZ b1)],.func (.func 95) #[] #[(pZ b1)],.func (.func 97) #[] #[(pZ b1)]] 134 (0,0))],[(b2,.cells an0 45 (0,0))],s]) Z ?_
    refine Zv (Y.buildS (l := [(0,.const (.bool true)),(1,.tmp 45)]) (r := [.bool true,.int .i64 P23.op,.int .u32 P23.xid,.int .i64 P23.secs,.int .i64 P23.flags,.int .u32 P23.ci,.int .u32 P23.yi,.int .u32 P23.si,.int .u32 P23.gi,.slice pg23 P23.hw.length cg23,.slice pk23 nk23 ck23,.bool false,.int .u32 0,.int .i64 0,.string ⟨#[]⟩,.int .i64 0,.int .i64 0,.int .i64 0,.int .i64 0,.int .i64 0,.int .i64 0]) Engine3_zo45 Engine3_pl45 Z Z) ?_
    refine Run.stAll (l2 := [.bool true,.int .i64 P23.op,.int .u32 P23.xid,.int .i64 P23.secs,.int .i64 P23.flags,.int .u32 P23.ci,.int .u32 P23.yi,.int .u32 P23.si,.int .u32 P23.gi,.slice pg23 P23.hw.length cg23,.slice pk23 nk23 ck23,.bool false,.int .u32 0,.int .i64 0,.string ⟨#[]⟩,.int .i64 0,.int .i64 0,.int .i64 0,.int .i64 0,.int .i64 0,.int .i64 0]) (j := 2) Z Z Engine3_sz45 Z Z Z Z ?_
    refine Run.heapTo (H' := [[(b20,.cells ((Le.cells ((Eg.fst q.th q.l).1)).toArray) 43 (0,0))],[(b19,.cells #[.func (.func 93) #[] #[(pZ b1)],.func (.func 95) #[] #[(pZ b1)],.func (.func 97) #[] #[(pZ b1)]] 134 (0,0))],[(b2,.cells (An.cells ⟨true,P23,false,Le.dflt,0⟩ (.slice pg23 P23.hw.length cg23) (.slice pk23 nk23 ck23)) 45 (0,0))],s]) Z ?_
    refine Ze<|Zg<|Zu<|Zk<|Zn<|Zn<|Zk<|Zn<|?_
    exact Ex.retCell [3] rfl rfl Engine3_ag45 (Kn.at 2 rfl) rfl ⟨hVle,rfl,.slice pg23 P23.hw.length cg23,.slice pk23 nk23 ck23,by rw [(Eg.disc_1 (.inl W) h21).trans (Eg.offer_is (of_decide_eq_false h22)),hP23]; rfl,by rw [(Eg.disc_1 (.inl W) h21).trans (Eg.offer_is (of_decide_eq_false h22)),hP23]; exact hRp23⟩
  ·refine Tr.cond_t Z (congrArg Bool.not h21)<|Zx<|Zy<|Zi<|Zg<|Zr<|Zv (Y.int (r := .int .i64 1) Z Z Z)<|Zm Z<|Ze<|Ex.goU<|Zs<|Zr<|Zv (Y.int (r := .bool true) Z Z Z)<|Ze<|Zg<|Zs<|?_
   refine Tr.cond_t Z Z<|Zt<|Zg<|Zs<|Zb<|Zs<|Zr<|Zv (Y.idxAddr Z Z Engine3_es135 WD WD)<|Zv (Y.load Z Engine3_ts134 (Kn.at 1 Z) Z)<|Za Z<|Ze<|Zg<|Zs<|Zr<|Zm Z<|Run.call0 (l := []) Z Z Z (lt Z) (Does.frame1 3 Z (disc2_q hkq hk1 hin))<|?_
   refine Zm Z<|Zv (Y.extract Z Z)<|Zv (Y.extract Z Z)<|?_
   refine Run.alloc Engine3_zo43 (lt rfl) (fun b24 => ?_)
   refine Run.store (s := [(b24,.cells ((Le.cells ((Eg.of q.may q.l q.addr).1)).toArray) 43 (0,0))]) Z Z Engine3_sz43 (i := 0) Z Z (le Z) Z Z ?_
   refine Za Z<|Ze<|Zg<|Zs<|Zs<|Zr<|Zm Z<|Zv (Y.not Z)<|Ze<|Zg<|?_
   rcases Zsplit ((Eg.of q.may q.l q.addr).2) with ⟨h25,g25⟩ | ⟨h25,g25⟩ <;> try simp only [kb] at g25
   ·refine Tr.cond_f Z (congrArg Bool.not h25)<|Zt<|Zg<|Zs<|Zr<|Zv (Y.load Z Engine3_ts88 hk1.of_nil Z)<|Zv (Y.loadAgg Z Engine3_ag43 (Kn.at 0 Z) Z)<|Run.call0 (l := [.tmp 35,.tmp 36]) Z Z Z (lt Z) ((time_q (l := (Eg.of q.may q.l q.addr).1) hkq).frame)<|Za Z<|Ze<|Zg<|Zs<|Zs<|Zr<|Zm Z<|Zv (Y.int Z Z Z)<|?_
    refine Ze<|Zg<|?_
    rcases Zsplit (decide ((q.tm ((Eg.of q.may q.l q.addr).1)) < 1)) with ⟨h26,g26⟩ | ⟨h26,g26⟩ <;> try simp only [kb] at g26
    ·refine Tr.cond_t Z h26<|Zs<|Zr<|Zv (Y.buildS (l := []) (r := [.bool false,.int .i64 0,.int .u32 0,.int .i64 0,.int .i64 0,.int .u32 0,.int .u32 0,.int .u32 0,.int .u32 0,.slice none 0 0,.slice none 0 0,.bool false,.int .u32 0,.int .i64 0,.string ⟨#[]⟩,.int .i64 0,.int .i64 0,.int .i64 0,.int .i64 0,.int .i64 0,.int .i64 0]) Engine3_zo45 Engine3_pl45 Z Z)<|Run.stAll (l2 := [.bool false,.int .i64 0,.int .u32 0,.int .i64 0,.int .i64 0,.int .u32 0,.int .u32 0,.int .u32 0,.int .u32 0,.slice none 0 0,.slice none 0 0,.bool false,.int .u32 0,.int .i64 0,.string ⟨#[]⟩,.int .i64 0,.int .i64 0,.int .i64 0,.int .i64 0,.int .i64 0,.int .i64 0]) (j := 3) Z Z Engine3_sz45 Z Z Z Z<|?_
     refine Run.heapTo (H' := [[(b24,.cells ((Le.cells ((Eg.of q.may q.l q.addr).1)).toArray) 43 (0,0))],[(b20,.cells ((Le.cells ((Eg.fst q.th q.l).1)).toArray) 43 (0,0))],[(b19,.cells #[.func (.func 93) #[] #[(pZ b1)],.func (.func 95) #[] #[(pZ b1)],.func (.func 97) #[] #[(pZ b1)]] 134 (0,0))],[(b2,.cells an0 45 (0,0))],s]) Z ?_
     refine Ze<|Zg<|Zu<|Zn<|Zk<|Zn<|Zn<|Zk<|Zn<|?_
     exact Ex.retCell [4] rfl rfl Engine3_ag45 (Kn.at 3 rfl) rfl ⟨hVle,rfl,.slice none 0 0,.slice none 0 0,by rw [(Eg.disc_2 (.inl W) h21 h25).trans (Eg.offer_no (of_decide_eq_true h26))]; rfl,by rw [(Eg.disc_2 (.inl W) h21 h25).trans (Eg.offer_no (of_decide_eq_true h26))]; exact Pc.zero_R _⟩
    ·refine Tr.cond_f Z h26<|Zt<|Zg<|Zs<|Zr<|Zv (Y.load Z Engine3_ts88 hk1.of_nil Z)<|Zv (Y.fieldAddr Z Engine3_fo43_0)<|Zv (Y.load Z Engine3_ts24 (Kn.at 0 Z) Z)<|Zm Z<|?_
     refine Run.call [] (l := [.tmp 41,.const (.int .i64 2),.tmp 43,.tmp 44]) rfl rfl rfl (lt rfl) (promise_q (q := q) (kind := 2) (a := (Eg.of q.may q.l q.addr).1.addr) (t := q.tm ((Eg.of q.may q.l q.addr).1)) hkq hok (Eg.of_la h25 hok.la) ⟨Eg.tm_nn _ _,Eg.tm_le _ _⟩) (fun v27 V27 H27 hle27 hR27 => ?_)
     obtain ⟨_,rfl,hv27,ov27,rfl,hRp27⟩ := hR27
     obtain ⟨W27,hVe⟩ : ∃ Vz : Vw,Vz = V27 := ⟨_,rfl⟩; subst hVe
     replace hkq := hkq.le hle27
     replace hok := hok.le hle27
     replace hk1 := hk1.le hle27
     replace hVle := Vw.le_trans hVle hle27
     obtain ⟨⟨pg27,cg27,rfl⟩,pk27,nk27,ck27,rfl⟩ := hRp27.forms
     generalize hP27 : Eg.prom q.x q.p 2 ((Eg.of q.may q.l q.addr).1.addr) (q.tm ((Eg.of q.may q.l q.addr).1)) = P27 at hRp27 ⊢
     refine Run.heapTo (H' := [[(b24,.cells ((Le.cells ((Eg.of q.may q.l q.addr).1)).toArray) 43 (0,0))],[(b20,.cells ((Le.cells ((Eg.fst q.th q.l).1)).toArray) 43 (0,0))],[(b19,.cells #[.func (.func 93) #[] #[(pZ b1)],.func (.func 95) #[] #[(pZ b1)],.func (.func 97) #[] #[(pZ b1)]] 134 (0,0))],[(b2,.cells an0 45 (0,0))],s]) Z ?_
     refine Zv (Y.buildS (l := [(0,.const (.bool true)),(1,.tmp 45)]) (r := [.bool true,.int .i64 P27.op,.int .u32 P27.xid,.int .i64 P27.secs,.int .i64 P27.flags,.int .u32 P27.ci,.int .u32 P27.yi,.int .u32 P27.si,.int .u32 P27.gi,.slice pg27 P27.hw.length cg27,.slice pk27 nk27 ck27,.bool false,.int .u32 0,.int .i64 0,.string ⟨#[]⟩,.int .i64 0,.int .i64 0,.int .i64 0,.int .i64 0,.int .i64 0,.int .i64 0]) Engine3_zo45 Engine3_pl45 Z Z) ?_
     refine Run.stAll (l2 := [.bool true,.int .i64 P27.op,.int .u32 P27.xid,.int .i64 P27.secs,.int .i64 P27.flags,.int .u32 P27.ci,.int .u32 P27.yi,.int .u32 P27.si,.int .u32 P27.gi,.slice pg27 P27.hw.length cg27,.slice pk27 nk27 ck27,.bool false,.int .u32 0,.int .i64 0,.string ⟨#[]⟩,.int .i64 0,.int .i64 0,.int .i64 0,.int .i64 0,.int .i64 0,.int .i64 0]) (j := 3) Z Z Engine3_sz45 Z Z Z Z ?_
     refine Run.heapTo (H' := [[(b24,.cells ((Le.cells ((Eg.of q.may q.l q.addr).1)).toArray) 43 (0,0))],[(b20,.cells ((Le.cells ((Eg.fst q.th q.l).1)).toArray) 43 (0,0))],[(b19,.cells #[.func (.func 93) #[] #[(pZ b1)],.func (.func 95) #[] #[(pZ b1)],.func (.func 97) #[] #[(pZ b1)]] 134 (0,0))],[(b2,.cells (An.cells ⟨true,P27,false,Le.dflt,0⟩ (.slice pg27 P27.hw.length cg27) (.slice pk27 nk27 ck27)) 45 (0,0))],s]) Z ?_
     refine Ze<|Zg<|Zu<|Zk<|Zn<|Zn<|Zk<|Zn<|?_
     exact Ex.retCell [4] rfl rfl Engine3_ag45 (Kn.at 3 rfl) rfl ⟨hVle,rfl,.slice pg27 P27.hw.length cg27,.slice pk27 nk27 ck27,by rw [(Eg.disc_2 (.inl W) h21 h25).trans (Eg.offer_is (of_decide_eq_false h26)),hP27]; rfl,by rw [(Eg.disc_2 (.inl W) h21 h25).trans (Eg.offer_is (of_decide_eq_false h26)),hP27]; exact hRp27⟩
   ·refine Tr.cond_t Z (congrArg Bool.not h25)<|Zx<|Zy<|Zi<|Zg<|Zr<|Zv (Y.int (r := .int .i64 2) Z Z Z)<|Zm Z<|Ze<|Ex.goU<|Zs<|Zr<|Zv (Y.int (r := .bool true) Z Z Z)<|Ze<|Zg<|Zs<|?_
    refine Tr.cond_t Z Z<|Zt<|Zg<|Zs<|Zb<|Zs<|Zr<|Zv (Y.idxAddr Z Z Engine3_es135 WD WD)<|Zv (Y.load Z Engine3_ts134 (Kn.at 2 Z) Z)<|Za Z<|Ze<|Zg<|Zs<|Zr<|Zm Z<|Run.call0 (l := []) Z Z Z (lt Z) (Does.frame1 4 Z (disc3_q hkq hk1 hin))<|?_
    refine Zm Z<|Zv (Y.extract Z Z)<|Zv (Y.extract Z Z)<|?_
    refine Run.alloc Engine3_zo43 (lt rfl) (fun b28 => ?_)
    refine Run.store (s := [(b28,.cells ((Le.cells ((Eg.fst q.may q.l).1)).toArray) 43 (0,0))]) Z Z Engine3_sz43 (i := 0) Z Z (le Z) Z Z<|Za Z<|?_
    refine Ze<|Zg<|Zs<|Zs<|Zr<|Zm Z<|Zv (Y.not Z)<|Ze<|Zg<|?_
    rcases Zsplit ((Eg.fst q.may q.l).2) with ⟨h29,g29⟩ | ⟨h29,g29⟩ <;> try simp only [kb] at g29
    ·refine Tr.cond_f Z (congrArg Bool.not h29)<|Zt<|Zg<|Zs<|Zr<|Zv (Y.load Z Engine3_ts88 hk1.of_nil Z)<|Zv (Y.loadAgg Z Engine3_ag43 (Kn.at 0 Z) Z)<|Run.call0 (l := [.tmp 35,.tmp 36]) Z Z Z (lt Z) ((time_q (l := (Eg.fst q.may q.l).1) hkq).frame)<|Za Z<|Ze<|Zg<|Zs<|Zs<|Zr<|Zm Z<|Zv (Y.int Z Z Z)<|?_
     refine Ze<|Zg<|?_
     rcases Zsplit (decide ((q.tm ((Eg.fst q.may q.l).1)) < 1)) with ⟨h30,g30⟩ | ⟨h30,g30⟩ <;> try simp only [kb] at g30
     ·refine Tr.cond_t Z h30<|Zs<|Zr<|Zv (Y.buildS (l := []) (r := [.bool false,.int .i64 0,.int .u32 0,.int .i64 0,.int .i64 0,.int .u32 0,.int .u32 0,.int .u32 0,.int .u32 0,.slice none 0 0,.slice none 0 0,.bool false,.int .u32 0,.int .i64 0,.string ⟨#[]⟩,.int .i64 0,.int .i64 0,.int .i64 0,.int .i64 0,.int .i64 0,.int .i64 0]) Engine3_zo45 Engine3_pl45 Z Z)<|Run.stAll (l2 := [.bool false,.int .i64 0,.int .u32 0,.int .i64 0,.int .i64 0,.int .u32 0,.int .u32 0,.int .u32 0,.int .u32 0,.slice none 0 0,.slice none 0 0,.bool false,.int .u32 0,.int .i64 0,.string ⟨#[]⟩,.int .i64 0,.int .i64 0,.int .i64 0,.int .i64 0,.int .i64 0,.int .i64 0]) (j := 4) Z Z Engine3_sz45 Z Z Z Z<|?_
      refine Run.heapTo (H' := [[(b28,.cells ((Le.cells ((Eg.fst q.may q.l).1)).toArray) 43 (0,0))],[(b24,.cells ((Le.cells ((Eg.of q.may q.l q.addr).1)).toArray) 43 (0,0))],[(b20,.cells ((Le.cells ((Eg.fst q.th q.l).1)).toArray) 43 (0,0))],[(b19,.cells #[.func (.func 93) #[] #[(pZ b1)],.func (.func 95) #[] #[(pZ b1)],.func (.func 97) #[] #[(pZ b1)]] 134 (0,0))],[(b2,.cells an0 45 (0,0))],s]) Z ?_
      refine Ze<|Zg<|Zu<|Zn<|Zk<|Zn<|Zn<|Zk<|Zn<|?_
      exact Ex.retCell [5] rfl rfl Engine3_ag45 (Kn.at 4 rfl) rfl ⟨hVle,rfl,.slice none 0 0,.slice none 0 0,by rw [((Eg.disc_3 (.inl W) h21 h25).trans (if_pos h29)).trans (Eg.offer_no (of_decide_eq_true h30))]; rfl,by rw [((Eg.disc_3 (.inl W) h21 h25).trans (if_pos h29)).trans (Eg.offer_no (of_decide_eq_true h30))]; exact Pc.zero_R _⟩
     ·refine Tr.cond_f Z h30<|Zt<|Zg<|Zs<|Zr<|Zv (Y.load Z Engine3_ts88 hk1.of_nil Z)<|Zv (Y.fieldAddr Z Engine3_fo43_0)<|Zv (Y.load Z Engine3_ts24 (Kn.at 0 Z) Z)<|Zm Z<|?_
      refine Run.call [] (l := [.tmp 41,.const (.int .i64 2),.tmp 43,.tmp 44]) rfl rfl rfl (lt rfl) (promise_q (q := q) (kind := 2) (a := (Eg.fst q.may q.l).1.addr) (t := q.tm ((Eg.fst q.may q.l).1)) hkq hok (Eg.fst_la h29 hok.la) ⟨Eg.tm_nn _ _,Eg.tm_le _ _⟩) (fun v31 V31 H31 hle31 hR31 => ?_)
      obtain ⟨_,rfl,hv31,ov31,rfl,hRp31⟩ := hR31
      obtain ⟨W31,hVe⟩ : ∃ Vz : Vw,Vz = V31 := ⟨_,rfl⟩; subst hVe
      replace hkq := hkq.le hle31
      replace hok := hok.le hle31
      replace hk1 := hk1.le hle31
      replace hVle := Vw.le_trans hVle hle31
      obtain ⟨⟨pg31,cg31,rfl⟩,pk31,nk31,ck31,rfl⟩ := hRp31.forms
      generalize hP31 : Eg.prom q.x q.p 2 ((Eg.fst q.may q.l).1.addr) (q.tm ((Eg.fst q.may q.l).1)) = P31 at hRp31 ⊢
      refine Run.heapTo (H' := [[(b28,.cells ((Le.cells ((Eg.fst q.may q.l).1)).toArray) 43 (0,0))],[(b24,.cells ((Le.cells ((Eg.of q.may q.l q.addr).1)).toArray) 43 (0,0))],[(b20,.cells ((Le.cells ((Eg.fst q.th q.l).1)).toArray) 43 (0,0))],[(b19,.cells #[.func (.func 93) #[] #[(pZ b1)],.func (.func 95) #[] #[(pZ b1)],.func (.func 97) #[] #[(pZ b1)]] 134 (0,0))],[(b2,.cells an0 45 (0,0))],s]) Z ?_
      refine Zv (Y.buildS (l := [(0,.const (.bool true)),(1,.tmp 45)]) (r := [.bool true,.int .i64 P31.op,.int .u32 P31.xid,.int .i64 P31.secs,.int .i64 P31.flags,.int .u32 P31.ci,.int .u32 P31.yi,.int .u32 P31.si,.int .u32 P31.gi,.slice pg31 P31.hw.length cg31,.slice pk31 nk31 ck31,.bool false,.int .u32 0,.int .i64 0,.string ⟨#[]⟩,.int .i64 0,.int .i64 0,.int .i64 0,.int .i64 0,.int .i64 0,.int .i64 0]) Engine3_zo45 Engine3_pl45 Z Z) ?_
      refine Run.stAll (l2 := [.bool true,.int .i64 P31.op,.int .u32 P31.xid,.int .i64 P31.secs,.int .i64 P31.flags,.int .u32 P31.ci,.int .u32 P31.yi,.int .u32 P31.si,.int .u32 P31.gi,.slice pg31 P31.hw.length cg31,.slice pk31 nk31 ck31,.bool false,.int .u32 0,.int .i64 0,.string ⟨#[]⟩,.int .i64 0,.int .i64 0,.int .i64 0,.int .i64 0,.int .i64 0,.int .i64 0]) (j := 4) Z Z Engine3_sz45 Z Z Z Z ?_
      refine Run.heapTo (H' := [[(b28,.cells ((Le.cells ((Eg.fst q.may q.l).1)).toArray) 43 (0,0))],[(b24,.cells ((Le.cells ((Eg.of q.may q.l q.addr).1)).toArray) 43 (0,0))],[(b20,.cells ((Le.cells ((Eg.fst q.th q.l).1)).toArray) 43 (0,0))],[(b19,.cells #[.func (.func 93) #[] #[(pZ b1)],.func (.func 95) #[] #[(pZ b1)],.func (.func 97) #[] #[(pZ b1)]] 134 (0,0))],[(b2,.cells (An.cells ⟨true,P31,false,Le.dflt,0⟩ (.slice pg31 P31.hw.length cg31) (.slice pk31 nk31 ck31)) 45 (0,0))],s]) Z ?_
      refine Ze<|Zg<|Zu<|Zk<|Zn<|Zn<|Zk<|Zn<|?_
      exact Ex.retCell [5] rfl rfl Engine3_ag45 (Kn.at 4 rfl) rfl ⟨hVle,rfl,.slice pg31 P31.hw.length cg31,.slice pk31 nk31 ck31,by rw [((Eg.disc_3 (.inl W) h21 h25).trans (if_pos h29)).trans (Eg.offer_is (of_decide_eq_false h30)),hP31]; rfl,by rw [((Eg.disc_3 (.inl W) h21 h25).trans (if_pos h29)).trans (Eg.offer_is (of_decide_eq_false h30)),hP31]; exact hRp31⟩
    ·refine Tr.cond_t Z (congrArg Bool.not h29)<|Zx<|Zy<|Zi<|Zg<|Zr<|Zv (Y.int (r := .int .i64 3) Z Z Z)<|Zm Z<|Ze<|Ex.goU<|Zs<|Zr<|Zv (Y.int (r := .bool false) Z Z Z)<|Ze<|Zg<|Zs<|?_
     refine Tr.cond_f Z Z<|Zx<|Zy<|Zy<|Zi<|Zg<|Zs<|Zr<|Zv (Y.buildS (l := []) (r := [.bool false,.int .i64 0,.int .u32 0,.int .i64 0,.int .i64 0,.int .u32 0,.int .u32 0,.int .u32 0,.int .u32 0,.slice none 0 0,.slice none 0 0,.bool false,.int .u32 0,.int .i64 0,.string ⟨#[]⟩,.int .i64 0,.int .i64 0,.int .i64 0,.int .i64 0,.int .i64 0,.int .i64 0]) Engine3_zo45 Engine3_pl45 Z Z)<|Run.stAll (l2 := [.bool false,.int .i64 0,.int .u32 0,.int .i64 0,.int .i64 0,.int .u32 0,.int .u32 0,.int .u32 0,.int .u32 0,.slice none 0 0,.slice none 0 0,.bool false,.int .u32 0,.int .i64 0,.string ⟨#[]⟩,.int .i64 0,.int .i64 0,.int .i64 0,.int .i64 0,.int .i64 0,.int .i64 0]) (j := 4) Z Z Engine3_sz45 Z Z Z Z<|?_
     refine Run.heapTo (H' := [[(b28,.cells ((Le.cells ((Eg.fst q.may q.l).1)).toArray) 43 (0,0))],[(b24,.cells ((Le.cells ((Eg.of q.may q.l q.addr).1)).toArray) 43 (0,0))],[(b20,.cells ((Le.cells ((Eg.fst q.th q.l).1)).toArray) 43 (0,0))],[(b19,.cells #[.func (.func 93) #[] #[(pZ b1)],.func (.func 95) #[] #[(pZ b1)],.func (.func 97) #[] #[(pZ b1)]] 134 (0,0))],[(b2,.cells an0 45 (0,0))],s]) Z ?_
     refine Ze<|Zg<|Zu<|?_
     exact Ex.retCell [5] rfl rfl Engine3_ag45 (Kn.at 4 rfl) rfl ⟨hVle,rfl,.slice none 0 0,.slice none 0 0,by rw [(Eg.disc_3 (.inl W) h21 h25).trans (if_neg (by rw [h29]; decide))]; rfl,by rw [(Eg.disc_3 (.inl W) h21 h25).trans (if_neg (by rw [h29]; decide))]; exact Pc.zero_R _⟩
set_option maxHeartbeats 2000000 in
theorem request_q {V : Vw} {bq tx : Nat} {q : Eg.Qy} {pv hv ov : Value} (hkq : Kn V [] bq (.cells (q.cells pv tx hv ov) 90 (0,0))) (hok : Eg.Qok V q hv ov) {s : Sg} (hin : Le.In 99 q.l tx s)  : Does Tryz.prog 41 [(pZ bq)] V [s] (fun u V' H' => V.le V' ∧ H' = [s] ∧ ∃ hv' ov',u = .agg ((q.request).cells hv' ov') ∧ Pc.R V' (q.request).reply hv' ov') := by
 refine Does.intro Tryz.func41 rfl rfl (le rfl) (fun B => ?_)
 refine Zs<|Zr<|?_
 refine Run.box rfl (lt rfl) (fun b1 => ?_)
 refine Run.alloc Engine3_zo45 (lt rfl) (fun b2 => ?_)
 refine Ze<|Zg<|Zs<|Zr<|Run.keepTo (H' := [(cL 88 b1 bq),[(b2,.cells an0 45 (0,0))],s]) [1,0,0] Z<|?_
 refine Run.show (fun U3 hle3 hsh3 => ?_)
 replace hkq := hkq.le hle3
 replace hok := hok.le hle3
 have hVle := hle3
 have hk1 := Kn.shown hsh3
 refine Zv (Y.load Z Engine3_ts88 hk1.of_nil Z) ?_
 refine Run.call [] (l := [.tmp 13]) rfl rfl rfl (lt rfl) (chosen_h hkq hok.os hok.few) (fun v4 V2 H2 _ hR => ?_)
 obtain ⟨hV,rfl,sv4,rfl,hsv⟩ := hR; replace hV := hV.symm; subst hV
 refine Run.heapTo (H' := [[(b2,.cells an0 45 (0,0))],s]) Z<|Run.heapTo (H' := [[(b2,.cells an0 45 (0,0))],s]) Z<|?_
 refine Zm Z<|Zv (Y.extract Z Z)<|Zv (Y.extract Z Z)<|Za Z<|Za Z<|Ze<|Zg<|?_
 refine Tr.cutx (X := Nat) (fun y5 => U3) (fun y5 => [[(y5,.cells ((Le.cells ((Eg.of (fun l => q.th l || q.may l) q.l q.addr).1)).toArray) 43 (0,0))],[(b2,.cells an0 45 (0,0))],s]) (fun y5 => [(0,(pZ bq)),(1,(pZ b1)),(2,(pZ b2)),(3,.int .u32 sv4),(4,.bool q.told),(5,(pZ y5)),(6,.bool ((Eg.of (fun l => q.th l || q.may l) q.l q.addr).2))]) (fun y5 => True) ?_ ?_
 ·refine Tr.anyD [(bq,.cells (q.cells pv tx hv ov) 90 (0,0)),(b1,.cells #[(pZ bq)] 88 (0,0))] Engine3_mo<|RunD.take (i := 0) 1 rfl rfl WK WK WK (fun _ _ _ h => h) (lt rfl) (KnAll.cons hkq.of_nil (KnAll.cons hk1.of_nil KnAll.nil)) (fun _ => (Y.load rfl Engine3_ts88 Kn.vk1 rfl))<|RunD.take (i := 1) 1 rfl rfl WK WK WK (fun _ _ _ h => h) (lt rfl) (KnAll.cons hkq.of_nil (KnAll.cons hk1.of_nil KnAll.nil)) (fun _ => (Y.load rfl Engine3_ts88 Kn.vk1 rfl))<|?_
  refine RunD.pure (i := 2) rfl WK WK WK (fun _ _ _ h => h) (lt rfl) (KnAll.cons hkq.of_nil (KnAll.cons hk1.of_nil KnAll.nil)) (fun _ => (Y.nilCheck rfl))<|RunD.pure (i := 3) rfl WK WK WK (fun _ _ _ h => h) (lt rfl) (KnAll.cons hkq.of_nil (KnAll.cons hk1.of_nil KnAll.nil)) (fun _ => (Y.fieldAddr rfl Engine3_fo90_8))<|RunD.take (i := 4) 0 rfl rfl WK WK WK (fun _ _ _ h => h) (lt rfl) (KnAll.cons hkq.of_nil (KnAll.cons hk1.of_nil KnAll.nil)) (fun _ => (Y.load rfl Engine3_ts24 Kn.vk1 rfl))<|?_
  refine RunD.pure (i := 5) rfl WK WK WK (fun _ _ _ h => h) (lt rfl) (KnAll.cons hkq.of_nil (KnAll.cons hk1.of_nil KnAll.nil)) (fun _ => (Y.makeFunc (l := []) (l' := [.tmp 1]) rfl rfl)) ?_
  refine RunD.two (i := 6) (j := 10) WK rfl rfl  ?_ ?_
  ·refine Run.call0 (l := [.tmp 18,.tmp 22,.tmp 23]) rfl rfl rfl (lt rfl) (Does.frame1 1 rfl (of_q (a := q.addr) (fi := 101) (bl := []) (fl := [(pZ b1)]) (f := fun l => q.th l || q.may l) hkq hin fun l => req1_q hkq hk1))<|Ze<|Ex.anyD (KnAll.cons hkq.of_nil (KnAll.cons hk1.of_nil KnAll.nil))<|RunD.pure (i := 7) rfl WK WK WK (fun _ _ _ h => h) (lt rfl) (KnAll.cons hkq.of_nil (KnAll.cons hk1.of_nil KnAll.nil)) (fun _ => (Y.move rfl))<|?_
   refine RunD.pure (i := 8) rfl WK WK WK (fun _ _ _ h => h) (lt rfl) (KnAll.cons hkq.of_nil (KnAll.cons hk1.of_nil KnAll.nil)) (fun _ => (Y.extract rfl rfl))<|RunD.pure (i := 9) rfl WK WK WK (fun _ _ _ h => h) (lt rfl) (KnAll.cons hkq.of_nil (KnAll.cons hk1.of_nil KnAll.nil)) (fun _ => (Y.extract rfl rfl))<|?_
   refine RunD.one (i := 10) WK rfl  ?_
   refine Run.alloc Engine3_zo43 (lt rfl) (fun b5 => ?_)
   refine Ze<|Ex.anyD (KnAll.cons hkq.of_nil (KnAll.cons hk1.of_nil KnAll.nil))<|?_
   refine RunD.one (i := 11) WK rfl  ?_
   refine Run.store (s := [(b5,.cells ((Le.cells ((Eg.of (fun l => q.th l || q.may l) q.l q.addr).1)).toArray) 43 (0,0))]) rfl rfl Engine3_sz43 (i := 0) rfl rfl (le rfl) rfl rfl ?_
   refine Ze<|Ex.anyD (KnAll.cons hkq.of_nil (KnAll.cons hk1.of_nil KnAll.nil))<|RunD.pure (i := 12) rfl WK WK WK (fun _ _ _ h => h) (lt rfl) (KnAll.cons hkq.of_nil (KnAll.cons hk1.of_nil KnAll.nil)) (fun _ => (Y.assign rfl))<|RunD.done WK<|Ex.keep [0,0,0]<|?_
   exact ZX b5 trivial
  ·refine Run.alloc Engine3_zo43 (lt rfl) (fun b6 => ?_)
   refine Ze<|Ex.anyD (KnAll.cons hkq.of_nil (KnAll.cons hk1.of_nil KnAll.nil))<|?_
   refine RunD.one (i := 6) WK rfl  ?_
   refine Run.call0 (l := [.tmp 18,.tmp 22,.tmp 23]) rfl rfl rfl (lt rfl) (Does.frame1 2 rfl (of_q (a := q.addr) (fi := 101) (bl := []) (fl := [(pZ b1)]) (f := fun l => q.th l || q.may l) hkq hin fun l => req1_q hkq hk1))<|Ze<|Ex.anyD (KnAll.cons hkq.of_nil (KnAll.cons hk1.of_nil KnAll.nil))<|RunD.pure (i := 7) rfl WK WK WK (fun _ _ _ h => h) (lt rfl) (KnAll.cons hkq.of_nil (KnAll.cons hk1.of_nil KnAll.nil)) (fun _ => (Y.move rfl))<|?_
   refine RunD.pure (i := 8) rfl WK WK WK (fun _ _ _ h => h) (lt rfl) (KnAll.cons hkq.of_nil (KnAll.cons hk1.of_nil KnAll.nil)) (fun _ => (Y.extract rfl rfl))<|RunD.pure (i := 9) rfl WK WK WK (fun _ _ _ h => h) (lt rfl) (KnAll.cons hkq.of_nil (KnAll.cons hk1.of_nil KnAll.nil)) (fun _ => (Y.extract rfl rfl))<|?_
   refine RunD.one (i := 11) WK rfl  ?_
   refine Run.store (s := [(b6,.cells ((Le.cells ((Eg.of (fun l => q.th l || q.may l) q.l q.addr).1)).toArray) 43 (0,0))]) rfl rfl Engine3_sz43 (i := 0) rfl rfl (le rfl) rfl rfl ?_
   refine Ze<|Ex.anyD (KnAll.cons hkq.of_nil (KnAll.cons hk1.of_nil KnAll.nil))<|RunD.pure (i := 12) rfl WK WK WK (fun _ _ _ h => h) (lt rfl) (KnAll.cons hkq.of_nil (KnAll.cons hk1.of_nil KnAll.nil)) (fun _ => (Y.assign rfl))<|RunD.done WK<|Ex.keep [0,0,0]<|?_
   exact ZX b6 trivial
 ·rintro y5 _
  refine Tr.cut U3 [[(y5,.cells ((Le.cells ((Eg.of (fun l => q.th l || q.may l) q.l q.addr).1)).toArray) 43 (0,0))],[(b2,.cells an0 45 (0,0))],s] [(0,(pZ bq)),(1,(pZ b1)),(2,(pZ b2)),(3,.int .u32 sv4),(4,.bool q.told),(5,(pZ y5)),(6,.bool ((Eg.of (fun l => q.th l || q.may l) q.l q.addr).2)),(8,.int .i64 ((Le.getE q.l q.addr).2))] ?_ ?_
  ·refine Tr.anyD [(bq,.cells (q.cells pv tx hv ov) 90 (0,0)),(b1,.cells #[(pZ bq)] 88 (0,0))] Engine3_mo<|RunD.take (i := 0) 1 rfl rfl WK WK WK (fun _ _ _ h => h) (lt rfl) (KnAll.cons hkq.of_nil (KnAll.cons hk1.of_nil KnAll.nil)) (fun _ => (Y.load rfl Engine3_ts88 Kn.vk1 rfl))<|RunD.pure (i := 1) rfl WK WK WK (fun _ _ _ h => h) (lt rfl) (KnAll.cons hkq.of_nil (KnAll.cons hk1.of_nil KnAll.nil)) (fun _ => (Y.nilCheck rfl))<|?_
   refine RunD.pure (i := 2) rfl WK WK WK (fun _ _ _ h => h) (lt rfl) (KnAll.cons hkq.of_nil (KnAll.cons hk1.of_nil KnAll.nil)) (fun _ => (Y.fieldAddr rfl Engine3_fo90_2))<|RunD.take (i := 3) 0 rfl rfl WK WK WK (fun _ _ _ h => h) (lt rfl) (KnAll.cons hkq.of_nil (KnAll.cons hk1.of_nil KnAll.nil)) (fun _ => (Y.load rfl Engine3_ts38 Kn.vk1 rfl))<|?_
   refine RunD.take (i := 4) 1 rfl rfl WK WK WK (fun _ _ _ h => h) (lt rfl) (KnAll.cons hkq.of_nil (KnAll.cons hk1.of_nil KnAll.nil)) (fun _ => (Y.load rfl Engine3_ts88 Kn.vk1 rfl))<|RunD.pure (i := 5) rfl WK WK WK (fun _ _ _ h => h) (lt rfl) (KnAll.cons hkq.of_nil (KnAll.cons hk1.of_nil KnAll.nil)) (fun _ => (Y.nilCheck rfl))<|RunD.pure (i := 6) rfl WK WK WK (fun _ _ _ h => h) (lt rfl) (KnAll.cons hkq.of_nil (KnAll.cons hk1.of_nil KnAll.nil)) (fun _ => (Y.fieldAddr rfl Engine3_fo90_8))<|?_
   refine RunD.take (i := 7) 0 rfl rfl WK WK WK (fun _ _ _ h => h) (lt rfl) (KnAll.cons hkq.of_nil (KnAll.cons hk1.of_nil KnAll.nil)) (fun _ => (Y.load rfl Engine3_ts24 Kn.vk1 rfl)) ?_
   refine RunD.two (i := 8) (j := 12) WK rfl rfl  ?_ ?_
   ·refine Run.call0 (l := [.tmp 31,.tmp 35]) Z Z Z (lt Z) (Does.frame1 2 Z (get_o (a := q.addr) hin))<|Ze<|Ex.anyD (KnAll.cons hkq.of_nil (KnAll.cons hk1.of_nil KnAll.nil))<|RunD.pure (i := 9) rfl WK WK WK (fun _ _ _ h => h) (lt rfl) (KnAll.cons hkq.of_nil (KnAll.cons hk1.of_nil KnAll.nil)) (fun _ => (Y.move rfl))<|RunD.pure (i := 10) rfl WK WK WK (fun _ _ _ h => h) (lt rfl) (KnAll.cons hkq.of_nil (KnAll.cons hk1.of_nil KnAll.nil)) (fun _ => (Y.extract rfl rfl))<|?_
    refine RunD.pure (i := 11) rfl WK WK WK (fun _ _ _ h => h) (lt rfl) (KnAll.cons hkq.of_nil (KnAll.cons hk1.of_nil KnAll.nil)) (fun _ => (Y.extract rfl rfl)) ?_
    refine RunD.one (i := 12) WK rfl  ?_
    refine Run.alloc Engine3_zo43 (lt rfl) (fun b7 => ?_)
    refine Ze<|Ex.anyD (KnAll.cons hkq.of_nil (KnAll.cons hk1.of_nil KnAll.nil))<|?_
    refine RunD.one (i := 13) WK rfl  ?_
    refine Run.store (s := [(b7,.cells ((Le.cells ((Le.getE q.l q.addr).1)).toArray) 43 (0,0))]) Z Z Engine3_sz43 (i := 0) Z Z (le Z) Z Z ?_
    refine Ze<|Ex.anyD (KnAll.cons hkq.of_nil (KnAll.cons hk1.of_nil KnAll.nil))<|RunD.pure (i := 14) rfl WK WK WK (fun _ _ _ h => h) (lt rfl) (KnAll.cons hkq.of_nil (KnAll.cons hk1.of_nil KnAll.nil)) (fun _ => (Y.assign rfl))<|RunD.done WK<|Ex.keep [1,1,1]<|?_
    exact Ex.cut rfl ZS
   ·refine Run.alloc Engine3_zo43 (lt rfl) (fun b8 => ?_)
    refine Ze<|Ex.anyD (KnAll.cons hkq.of_nil (KnAll.cons hk1.of_nil KnAll.nil))<|?_
    refine RunD.one (i := 8) WK rfl  ?_
    refine Run.call0 (l := [.tmp 31,.tmp 35]) Z Z Z (lt Z) (Does.frame1 3 Z (get_o (a := q.addr) hin))<|Ze<|Ex.anyD (KnAll.cons hkq.of_nil (KnAll.cons hk1.of_nil KnAll.nil))<|RunD.pure (i := 9) rfl WK WK WK (fun _ _ _ h => h) (lt rfl) (KnAll.cons hkq.of_nil (KnAll.cons hk1.of_nil KnAll.nil)) (fun _ => (Y.move rfl))<|RunD.pure (i := 10) rfl WK WK WK (fun _ _ _ h => h) (lt rfl) (KnAll.cons hkq.of_nil (KnAll.cons hk1.of_nil KnAll.nil)) (fun _ => (Y.extract rfl rfl))<|?_
    refine RunD.pure (i := 11) rfl WK WK WK (fun _ _ _ h => h) (lt rfl) (KnAll.cons hkq.of_nil (KnAll.cons hk1.of_nil KnAll.nil)) (fun _ => (Y.extract rfl rfl)) ?_
    refine RunD.one (i := 13) WK rfl  ?_
    refine Run.store (s := [(b8,.cells ((Le.cells ((Le.getE q.l q.addr).1)).toArray) 43 (0,0))]) Z Z Engine3_sz43 (i := 0) Z Z (le Z) Z Z ?_
    refine Ze<|Ex.anyD (KnAll.cons hkq.of_nil (KnAll.cons hk1.of_nil KnAll.nil))<|RunD.pure (i := 14) rfl WK WK WK (fun _ _ _ h => h) (lt rfl) (KnAll.cons hkq.of_nil (KnAll.cons hk1.of_nil KnAll.nil)) (fun _ => (Y.assign rfl))<|RunD.done WK<|Ex.keep [1,1,1]<|?_
    exact Ex.cut rfl ZS
  ·refine Zs<|Zr<|Zv (Y.load Z Engine3_ts88 hk1.of_nil Z)<|Zv (Y.loadAgg Z Engine3_ag43 (Kn.at 0 Z) Z)<|Run.call0 (l := [.tmp 39,.tmp 40]) rfl rfl rfl (lt rfl) ((time_q (l := (Eg.of (fun l => q.th l || q.may l) q.l q.addr).1) hkq).frame)<|Za Z<|Ze<|Zg<|?_
   refine Tr.cut U3 [[(y5,.cells ((Le.cells ((Eg.of (fun l => q.th l || q.may l) q.l q.addr).1)).toArray) 43 (0,0))],[(b2,.cells an0 45 (0,0))],s] [(0,(pZ bq)),(1,(pZ b1)),(2,(pZ b2)),(3,.int .u32 sv4),(4,.bool q.told),(5,(pZ y5)),(6,.bool ((Eg.of (fun l => q.th l || q.may l) q.l q.addr).2)),(9,.int .i64 (q.tm ((Eg.of (fun l => q.th l || q.may l) q.l q.addr).1))),(10,.bool q.idle)] ?_ ?_
   ·refine Zr<|Zm Z<|Zv (Y.int Z Z Z)<|Zm Z<|?_
    rcases Zsplit (((Le.getE q.l q.addr).2) == 0) with ⟨h9,g9⟩ | ⟨h9,g9⟩ <;> try simp only [kb] at g9
    ·refine Zp h9<|Zv (Y.fieldAddr Z Engine3_fo43_1)<|Zp h9<|Zv (Y.load Z Engine3_ts3 (Kn.at 0 Z) Z)<|Zp h9<|Zv (Y.int Z Z Z)<|Zp h9<|Zm Z<|?_
     rcases Zsplit (((Eg.of (fun l => q.th l || q.may l) q.l q.addr).1.bind) == 0) with ⟨h10,g10⟩ | ⟨h10,g10⟩ <;> try simp only [kb] at g10
     ·refine Zo h10 Z<|Zo h10 Z<|Zo h10 Z<|Zp h9<|Zv (Y.pick_t Z h10 Z)<|Zv (Y.pick_t Z h9 Z)<|Za Z<|Ze<|?_
      have hidl : (true) = q.idle := by show _ = ((Le.getE q.l q.addr).2 == 0 && ((Le.getE q.l q.addr).1.bind == 0 || (Le.getE q.l q.addr).1.bind == 1)); have e1 : (Eg.of (fun l => q.th l || q.may l) q.l q.addr).1 = (Le.getE q.l q.addr).1 := rfl; simp only [e1] at *; simp_all
      exact Ex.cut rfl (by repeat (first | exact subB_nil _ | refine subB_cons (by first | rfl | exact congrArg (fun z => some (Value.int _ z)) W | exact congrArg (fun z => some (Value.bool z)) hidl) ?_))
     ·refine Zp h10<|Zv (Y.fieldAddr Z Engine3_fo43_1)<|Zp h10<|Zv (Y.load Z Engine3_ts3 (Kn.at 0 Z) Z)<|Zp h10<|Zv (Y.int Z Z Z)<|Zp h9<|Zv (Y.pick_f Z h10 Z)<|Zv (Y.pick_t Z h9 Z)<|Za Z<|Ze<|?_
      have hidl : (((Eg.of (fun l => q.th l || q.may l) q.l q.addr).1.bind) == 1) = q.idle := by show _ = ((Le.getE q.l q.addr).2 == 0 && ((Le.getE q.l q.addr).1.bind == 0 || (Le.getE q.l q.addr).1.bind == 1)); have e1 : (Eg.of (fun l => q.th l || q.may l) q.l q.addr).1 = (Le.getE q.l q.addr).1 := rfl; simp only [e1] at *; simp_all
      exact Ex.cut rfl (by repeat (first | exact subB_nil _ | refine subB_cons (by first | rfl | exact congrArg (fun z => some (Value.int _ z)) W | exact congrArg (fun z => some (Value.bool z)) hidl) ?_))
    ·refine Zo h9 Z<|Zo h9 Z<|Zo h9 Z<|Zo h9 Z<|Run.off_u Z Z Z Z (lt Z)<|Run.off_u Z Z Z Z (lt Z)<|Run.off_u Z Z Z Z (lt Z)<|Zo h9 Z<|Zv (Y.pick_f Z h9 Z)<|Za Z<|Ze<|?_
     have hidl : (false) = q.idle := by show _ = ((Le.getE q.l q.addr).2 == 0 && ((Le.getE q.l q.addr).1.bind == 0 || (Le.getE q.l q.addr).1.bind == 1)); have e1 : (Eg.of (fun l => q.th l || q.may l) q.l q.addr).1 = (Le.getE q.l q.addr).1 := rfl; simp only [e1] at *; simp_all
     exact Ex.cut rfl (by repeat (first | exact subB_nil _ | refine subB_cons (by first | rfl | exact congrArg (fun z => some (Value.int _ z)) W | exact congrArg (fun z => some (Value.bool z)) hidl) ?_))
   ·refine Zs<|Zb<|Zs<|Zr<|Zm Z<|Zm Z<|?_
    rcases Zsplit (q.told) with ⟨h11,g11⟩ | ⟨h11,g11⟩ <;> try simp only [kb] at g11
    ·refine Zp h11<|Zm Z<|Zp h11<|Zv (Y.load Z Engine3_ts88 hk1.of_nil Z)<|Zp h11<|Zv (Y.nilCheck Z)<|Zp h11<|Zv (Y.fieldAddr Z Engine3_fo90_0)<|Zp h11<|Zv (Y.fieldAddr Z Engine3_fo35_3)<|Zp h11<|Zv (Y.load Z Engine3_ts24 hkq.of_nil Z)<|Zp h11<|Zv (Y.int Z Z Z)<|Zv (Y.pick_t Z h11 Z)<|Za Z<|?_
     refine Ze<|Zg<|?_
     rcases Zsplit (sv4 != q.x.server) with ⟨h12,g12⟩ | ⟨h12,g12⟩ <;> try simp only [kb] at g12
     ·refine Tr.cond_t Z h12<|Zs<|Zr<|Zv (Y.buildS (l := []) (r := [.bool false,.int .i64 0,.int .u32 0,.int .i64 0,.int .i64 0,.int .u32 0,.int .u32 0,.int .u32 0,.int .u32 0,.slice none 0 0,.slice none 0 0,.bool false,.int .u32 0,.int .i64 0,.string ⟨#[]⟩,.int .i64 0,.int .i64 0,.int .i64 0,.int .i64 0,.int .i64 0,.int .i64 0]) Engine3_zo45 Engine3_pl45 Z Z)<|Run.stAll (l2 := [.bool false,.int .i64 0,.int .u32 0,.int .i64 0,.int .i64 0,.int .u32 0,.int .u32 0,.int .u32 0,.int .u32 0,.slice none 0 0,.slice none 0 0,.bool false,.int .u32 0,.int .i64 0,.string ⟨#[]⟩,.int .i64 0,.int .i64 0,.int .i64 0,.int .i64 0,.int .i64 0,.int .i64 0]) (j := 1) Z Z Engine3_sz45 Z Z Z Z<|?_
      refine Run.heapTo (H' := [[(y5,.cells ((Le.cells ((Eg.of (fun l => q.th l || q.may l) q.l q.addr).1)).toArray) 43 (0,0))],[(b2,.cells an0 45 (0,0))],s]) rfl ?_
      refine Ze<|Zg<|Zu<|Zk<|Zn<|?_
      exact Ex.retCell [2] rfl rfl Engine3_ag45 (Kn.at 1 rfl) rfl ⟨hVle,rfl,.slice none 0 0,.slice none 0 0,by rw [Eg.req_other h11 (by have := hsv h11; omega)]; rfl,by rw [Eg.req_other h11 (by have := hsv h11; omega)]; exact Pc.zero_R _⟩
     ·refine Tr.cond_f Z h12<|Zs<|Zr<|Zm Z<|Zm Z<|?_
      rcases Zsplit ((Eg.of (fun l => q.th l || q.may l) q.l q.addr).2) with ⟨h13,g13⟩ | ⟨h13,g13⟩ <;> try simp only [kb] at g13
      ·refine Zp h13<|Zm Z<|Zp h13<|Zv (Y.int Z Z Z)<|Zv (Y.pick_t Z h13 Z)<|Za Z<|Ze<|Zg<|?_
       rcases Zsplit (decide ((q.tm ((Eg.of (fun l => q.th l || q.may l) q.l q.addr).1)) > 0)) with ⟨h14,g14⟩ | ⟨h14,g14⟩ <;> try simp only [kb] at g14
       ·refine Tr.cond_t Z h14<|Zt<|Zc<|Zg<|?_
        refine Tr.cutx (X := Nat) (fun y11 => U3) (fun y11 => [[(y11,.cells ((Le.cells q.nl).toArray) 43 (0,0))],[(y5,.cells ((Le.cells ((Eg.of (fun l => q.th l || q.may l) q.l q.addr).1)).toArray) 43 (0,0))],[(b2,.cells an0 45 (0,0))],s]) (fun y11 => [(0,(pZ bq)),(1,(pZ b1)),(2,(pZ b2)),(5,(pZ y5)),(9,.int .i64 (q.tm ((Eg.of (fun l => q.th l || q.may l) q.l q.addr).1))),(11,(pZ y11))]) (fun y11 => True) ?_ ?_
        ·refine Tr.anyD [(y5,.cells ((Le.cells ((Eg.of (fun l => q.th l || q.may l) q.l q.addr).1)).toArray) 43 (0,0)),(bq,.cells (q.cells pv tx hv ov) 90 (0,0)),(b1,.cells #[(pZ bq)] 88 (0,0))] Engine3_mo ?_
         refine RunD.take (i := 0) 2 rfl rfl WK WK WK (fun _ _ _ h => h) (lt rfl) (KnAll.cons (Kn.at 0 rfl) (KnAll.cons hkq.of_nil (KnAll.cons hk1.of_nil KnAll.nil))) (fun _ => (Y.load rfl Engine3_ts88 Kn.vk1 rfl))<|RunD.pure (i := 1) rfl WK WK WK (fun _ _ _ h => h) (lt rfl) (KnAll.cons (Kn.at 0 rfl) (KnAll.cons hkq.of_nil (KnAll.cons hk1.of_nil KnAll.nil))) (fun _ => (Y.nilCheck rfl))<|?_
         refine RunD.pure (i := 2) rfl WK WK WK (fun _ _ _ h => h) (lt rfl) (KnAll.cons (Kn.at 0 rfl) (KnAll.cons hkq.of_nil (KnAll.cons hk1.of_nil KnAll.nil))) (fun _ => (Y.fieldAddr rfl Engine3_fo90_1))<|RunD.take (i := 3) 1 rfl rfl WK WK WK (fun _ _ _ h => h) (lt rfl) (KnAll.cons (Kn.at 0 rfl) (KnAll.cons hkq.of_nil (KnAll.cons hk1.of_nil KnAll.nil))) (fun _ => (Y.loadAgg rfl Engine3_ag58 Kn.vk1 rfl))<|?_
         refine RunD.take (i := 4) 0 rfl rfl WK WK WK (fun _ _ _ h => h) (lt rfl) (KnAll.cons (Kn.at 0 rfl) (KnAll.cons hkq.of_nil (KnAll.cons hk1.of_nil KnAll.nil))) (fun _ => (Y.loadAgg rfl Engine3_ag43 Kn.vk1 rfl))<|RunD.take (i := 5) 2 rfl rfl WK WK WK (fun _ _ _ h => h) (lt rfl) (KnAll.cons (Kn.at 0 rfl) (KnAll.cons hkq.of_nil (KnAll.cons hk1.of_nil KnAll.nil))) (fun _ => (Y.load rfl Engine3_ts88 Kn.vk1 rfl))<|?_
         refine RunD.pure (i := 6) rfl WK WK WK (fun _ _ _ h => h) (lt rfl) (KnAll.cons (Kn.at 0 rfl) (KnAll.cons hkq.of_nil (KnAll.cons hk1.of_nil KnAll.nil))) (fun _ => (Y.nilCheck rfl))<|RunD.pure (i := 7) rfl WK WK WK (fun _ _ _ h => h) (lt rfl) (KnAll.cons (Kn.at 0 rfl) (KnAll.cons hkq.of_nil (KnAll.cons hk1.of_nil KnAll.nil))) (fun _ => (Y.fieldAddr rfl Engine3_fo90_7))<|?_
         refine RunD.take (i := 8) 1 rfl rfl WK WK WK (fun _ _ _ h => h) (lt rfl) (KnAll.cons (Kn.at 0 rfl) (KnAll.cons hkq.of_nil (KnAll.cons hk1.of_nil KnAll.nil))) (fun _ => (Y.load rfl Engine3_ts9 Kn.vk1 rfl))<|RunD.take (i := 9) 2 rfl rfl WK WK WK (fun _ _ _ h => h) (lt rfl) (KnAll.cons (Kn.at 0 rfl) (KnAll.cons hkq.of_nil (KnAll.cons hk1.of_nil KnAll.nil))) (fun _ => (Y.load rfl Engine3_ts88 Kn.vk1 rfl))<|?_
         refine RunD.pure (i := 10) rfl WK WK WK (fun _ _ _ h => h) (lt rfl) (KnAll.cons (Kn.at 0 rfl) (KnAll.cons hkq.of_nil (KnAll.cons hk1.of_nil KnAll.nil))) (fun _ => (Y.nilCheck rfl))<|RunD.pure (i := 11) rfl WK WK WK (fun _ _ _ h => h) (lt rfl) (KnAll.cons (Kn.at 0 rfl) (KnAll.cons hkq.of_nil (KnAll.cons hk1.of_nil KnAll.nil))) (fun _ => (Y.fieldAddr rfl Engine3_fo90_4))<|?_
         refine RunD.take (i := 12) 1 rfl rfl WK WK WK (fun _ _ _ h => h) (lt rfl) (KnAll.cons (Kn.at 0 rfl) (KnAll.cons hkq.of_nil (KnAll.cons hk1.of_nil KnAll.nil))) (fun _ => (Y.load rfl Engine3_ts3 Kn.vk1 rfl))<|RunD.take (i := 13) 2 rfl rfl WK WK WK (fun _ _ _ h => h) (lt rfl) (KnAll.cons (Kn.at 0 rfl) (KnAll.cons hkq.of_nil (KnAll.cons hk1.of_nil KnAll.nil))) (fun _ => (Y.load rfl Engine3_ts88 Kn.vk1 rfl))<|?_
         refine RunD.pure (i := 14) rfl WK WK WK (fun _ _ _ h => h) (lt rfl) (KnAll.cons (Kn.at 0 rfl) (KnAll.cons hkq.of_nil (KnAll.cons hk1.of_nil KnAll.nil))) (fun _ => (Y.nilCheck rfl))<|RunD.pure (i := 15) rfl WK WK WK (fun _ _ _ h => h) (lt rfl) (KnAll.cons (Kn.at 0 rfl) (KnAll.cons hkq.of_nil (KnAll.cons hk1.of_nil KnAll.nil))) (fun _ => (Y.fieldAddr rfl Engine3_fo90_9))<|?_
         refine RunD.take (i := 16) 1 rfl rfl WK WK WK (fun _ _ _ h => h) (lt rfl) (KnAll.cons (Kn.at 0 rfl) (KnAll.cons hkq.of_nil (KnAll.cons hk1.of_nil KnAll.nil))) (fun _ => (Y.load rfl Engine3_ts3 Kn.vk1 rfl)) ?_
         refine RunD.two (i := 17) (j := 18) WK rfl rfl  ?_ ?_
         ·refine Run.call0 (l := [.tmp 85,.tmp 86,.tmp 90,.tmp 94,.tmp 98]) Z Z Z (lt Z) ((glease_c (r := q.x.rules) (l := q.g.1) (client := q.client) (now := q.now) (want := q.want)).frame)<|Ze<|Ex.anyD (KnAll.cons (Kn.at 0 Z) (KnAll.cons hkq.of_nil (KnAll.cons hk1.of_nil KnAll.nil)))<|?_
          refine RunD.one (i := 18) WK rfl  ?_
          refine Run.alloc Engine3_zo43 (lt rfl) (fun b15 => ?_)
          refine Ze<|Ex.anyD (KnAll.cons (Kn.at 1 Z) (KnAll.cons hkq.of_nil (KnAll.cons hk1.of_nil KnAll.nil)))<|?_
          refine RunD.one (i := 19) WK rfl  ?_
          refine Run.store (s := [(b15,.cells ((Le.cells q.nl).toArray) 43 (0,0))]) Z Z Engine3_sz43 (i := 0) Z Z (le Z) Z Z<|Ze<|Ex.anyD (KnAll.cons (Kn.at 1 Z) (KnAll.cons hkq.of_nil (KnAll.cons hk1.of_nil KnAll.nil)))<|RunD.done WK<|Ex.keep [0,0,0,0]<|?_
          exact ZX b15 trivial
         ·refine Run.alloc Engine3_zo43 (lt rfl) (fun b16 => ?_)
          refine Ze<|Ex.anyD (KnAll.cons (Kn.at 1 Z) (KnAll.cons hkq.of_nil (KnAll.cons hk1.of_nil KnAll.nil)))<|?_
          refine RunD.one (i := 17) WK rfl  ?_
          refine Run.call0 (l := [.tmp 85,.tmp 86,.tmp 90,.tmp 94,.tmp 98]) Z Z Z (lt Z) ((glease_c (r := q.x.rules) (l := q.g.1) (client := q.client) (now := q.now) (want := q.want)).frame)<|Ze<|Ex.anyD (KnAll.cons (Kn.at 1 Z) (KnAll.cons hkq.of_nil (KnAll.cons hk1.of_nil KnAll.nil)))<|?_
          refine RunD.one (i := 19) WK rfl  ?_
          refine Run.store (s := [(b16,.cells ((Le.cells q.nl).toArray) 43 (0,0))]) Z Z Engine3_sz43 (i := 0) Z Z (le Z) Z Z<|Ze<|Ex.anyD (KnAll.cons (Kn.at 1 Z) (KnAll.cons hkq.of_nil (KnAll.cons hk1.of_nil KnAll.nil)))<|RunD.done WK<|Ex.keep [0,0,0,0]<|?_
          exact ZX b16 trivial
        ·rintro y11 _
         refine Zs<|Tr.anyL [(y11,.cells ((Le.cells q.nl).toArray) 43 (0,0)),(bq,.cells (q.cells pv tx hv ov) 90 (0,0)),(b1,.cells #[(pZ bq)] 88 (0,0))] 23 Engine3_mo<|RunL.take (i := 0) 2 rfl rfl WK WK WK WK (fun _ _ _ h => h) (lt rfl) (KnAll.cons (Kn.at 0 rfl) (KnAll.cons hkq.of_nil (KnAll.cons hk1.of_nil KnAll.nil))) (fun _ => (Y.load rfl Engine3_ts88 Kn.vk1 rfl))<|?_
         refine RunL.take (i := 1) 2 rfl rfl WK WK WK WK (fun _ _ _ h => h) (lt rfl) (KnAll.cons (Kn.at 0 rfl) (KnAll.cons hkq.of_nil (KnAll.cons hk1.of_nil KnAll.nil))) (fun _ => (Y.load rfl Engine3_ts88 Kn.vk1 rfl))<|RunL.pure (i := 2) rfl WK WK WK WK (fun _ _ _ h => h) (lt rfl) (KnAll.cons (Kn.at 0 rfl) (KnAll.cons hkq.of_nil (KnAll.cons hk1.of_nil KnAll.nil))) (fun _ => (Y.nilCheck rfl))<|?_
         refine RunL.pure (i := 3) rfl WK WK WK WK (fun _ _ _ h => h) (lt rfl) (KnAll.cons (Kn.at 0 rfl) (KnAll.cons hkq.of_nil (KnAll.cons hk1.of_nil KnAll.nil))) (fun _ => (Y.fieldAddr rfl Engine3_fo90_8))<|RunL.take (i := 4) 1 rfl rfl WK WK WK WK (fun _ _ _ h => h) (lt rfl) (KnAll.cons (Kn.at 0 rfl) (KnAll.cons hkq.of_nil (KnAll.cons hk1.of_nil KnAll.nil))) (fun _ => (Y.load rfl Engine3_ts24 Kn.vk1 rfl))<|?_
         refine RunL.pure (i := 5) rfl WK WK WK WK (fun _ _ _ h => h) (lt rfl) (KnAll.cons (Kn.at 0 rfl) (KnAll.cons hkq.of_nil (KnAll.cons hk1.of_nil KnAll.nil))) (fun _ => (Y.move rfl))<|RunL.take (i := 7) 0 rfl rfl WK WK WK WK (fun _ _ _ h => h) (lt rfl) (KnAll.cons (Kn.at 0 rfl) (KnAll.cons hkq.of_nil (KnAll.cons hk1.of_nil KnAll.nil))) (fun _ => (Y.loadAgg rfl Engine3_ag43 Kn.vk1 rfl))<|?_
         refine RunL.take (i := 8) 2 rfl rfl WK WK WK WK (fun _ _ _ h => h) (lt rfl) (KnAll.cons (Kn.at 0 rfl) (KnAll.cons hkq.of_nil (KnAll.cons hk1.of_nil KnAll.nil))) (fun _ => (Y.load rfl Engine3_ts88 Kn.vk1 rfl))<|RunL.pure (i := 9) rfl WK WK WK WK (fun _ _ _ h => h) (lt rfl) (KnAll.cons (Kn.at 0 rfl) (KnAll.cons hkq.of_nil (KnAll.cons hk1.of_nil KnAll.nil))) (fun _ => (Y.nilCheck rfl))<|?_
         refine RunL.pure (i := 10) rfl WK WK WK WK (fun _ _ _ h => h) (lt rfl) (KnAll.cons (Kn.at 0 rfl) (KnAll.cons hkq.of_nil (KnAll.cons hk1.of_nil KnAll.nil))) (fun _ => (Y.fieldAddr rfl Engine3_fo90_1))<|RunL.take (i := 11) 1 rfl rfl WK WK WK WK (fun _ _ _ h => h) (lt rfl) (KnAll.cons (Kn.at 0 rfl) (KnAll.cons hkq.of_nil (KnAll.cons hk1.of_nil KnAll.nil))) (fun _ => (Y.loadAgg rfl Engine3_ag58 Kn.vk1 rfl))<|?_
         refine RunL.take (i := 12) 0 rfl rfl WK WK WK WK (fun _ _ _ h => h) (lt rfl) (KnAll.cons (Kn.at 0 rfl) (KnAll.cons hkq.of_nil (KnAll.cons hk1.of_nil KnAll.nil))) (fun _ => (Y.loadAgg rfl Engine3_ag43 Kn.vk1 rfl))<|RunL.take (i := 13) 2 rfl rfl WK WK WK WK (fun _ _ _ h => h) (lt rfl) (KnAll.cons (Kn.at 0 rfl) (KnAll.cons hkq.of_nil (KnAll.cons hk1.of_nil KnAll.nil))) (fun _ => (Y.load rfl Engine3_ts88 Kn.vk1 rfl))<|?_
         refine RunL.pure (i := 14) rfl WK WK WK WK (fun _ _ _ h => h) (lt rfl) (KnAll.cons (Kn.at 0 rfl) (KnAll.cons hkq.of_nil (KnAll.cons hk1.of_nil KnAll.nil))) (fun _ => (Y.nilCheck rfl))<|RunL.pure (i := 15) rfl WK WK WK WK (fun _ _ _ h => h) (lt rfl) (KnAll.cons (Kn.at 0 rfl) (KnAll.cons hkq.of_nil (KnAll.cons hk1.of_nil KnAll.nil))) (fun _ => (Y.fieldAddr rfl Engine3_fo90_4))<|?_
         refine RunL.take (i := 16) 1 rfl rfl WK WK WK WK (fun _ _ _ h => h) (lt rfl) (KnAll.cons (Kn.at 0 rfl) (KnAll.cons hkq.of_nil (KnAll.cons hk1.of_nil KnAll.nil))) (fun _ => (Y.load rfl Engine3_ts3 Kn.vk1 rfl))<|RunL.take (i := 17) 2 rfl rfl WK WK WK WK (fun _ _ _ h => h) (lt rfl) (KnAll.cons (Kn.at 0 rfl) (KnAll.cons hkq.of_nil (KnAll.cons hk1.of_nil KnAll.nil))) (fun _ => (Y.load rfl Engine3_ts88 Kn.vk1 rfl))<|?_
         refine RunL.pure (i := 18) rfl WK WK WK WK (fun _ _ _ h => h) (lt rfl) (KnAll.cons (Kn.at 0 rfl) (KnAll.cons hkq.of_nil (KnAll.cons hk1.of_nil KnAll.nil))) (fun _ => (Y.nilCheck rfl))<|RunL.pure (i := 19) rfl WK WK WK WK (fun _ _ _ h => h) (lt rfl) (KnAll.cons (Kn.at 0 rfl) (KnAll.cons hkq.of_nil (KnAll.cons hk1.of_nil KnAll.nil))) (fun _ => (Y.fieldAddr rfl Engine3_fo90_9))<|?_
         refine RunL.take (i := 20) 1 rfl rfl WK WK WK WK (fun _ _ _ h => h) (lt rfl) (KnAll.cons (Kn.at 0 rfl) (KnAll.cons hkq.of_nil (KnAll.cons hk1.of_nil KnAll.nil))) (fun _ => (Y.load rfl Engine3_ts3 Kn.vk1 rfl)) ?_
         refine RunL.one (i := 6) WK rfl  ?_
         refine Run.call [] (l := [.tmp 100,.const (.int .i64 5),.tmp 104,.tmp 105]) rfl rfl rfl (lt rfl) (promise_q (q := q) (kind := 5) (a := q.addr) (t := q.tm ((Eg.of (fun l => q.th l || q.may l) q.l q.addr).1)) hkq hok hok.ad ⟨Eg.tm_nn _ _,Eg.tm_le _ _⟩) (fun v17 V17 H17 hle17 hR17 => ?_)
         obtain ⟨_,rfl,hv17,ov17,rfl,hRp17⟩ := hR17
         obtain ⟨W17,hVe⟩ : ∃ Vz : Vw,Vz = V17 := ⟨_,rfl⟩; subst hVe
         replace hkq := hkq.le hle17
         replace hok := hok.le hle17
         replace hk1 := hk1.le hle17
         replace hVle := Vw.le_trans hVle hle17
         obtain ⟨⟨pg17,cg17,rfl⟩,pk17,nk17,ck17,rfl⟩ := hRp17.forms
         generalize hP17 : Eg.prom q.x q.p 5 q.addr (q.tm ((Eg.of (fun l => q.th l || q.may l) q.l q.addr).1)) = P17 at hRp17 ⊢
         refine Run.heapTo (H' := [[(y11,.cells ((Le.cells q.nl).toArray) 43 (0,0))],[(y5,.cells ((Le.cells ((Eg.of (fun l => q.th l || q.may l) q.l q.addr).1)).toArray) 43 (0,0))],[(b2,.cells an0 45 (0,0))],s]) rfl ?_
         refine Ze<|Ex.anyL (KnAll.cons (Kn.at 0 Z) (KnAll.cons hkq.of_nil (KnAll.cons hk1.of_nil KnAll.nil)))<|?_
         refine RunL.one (i := 21) WK rfl  ?_
         refine Run.call0 (l := [.tmp 111,.tmp 112,.tmp 116,.tmp 120]) Z Z Z (lt Z) ((pot_c (r := q.x.rules) (l := q.nl) (now := q.now) (want := q.want)).frame)<|Ze<|Ex.anyL (KnAll.cons (Kn.at 0 Z) (KnAll.cons hkq.of_nil (KnAll.cons hk1.of_nil KnAll.nil)))<|RunL.pure (i := 22) rfl WK WK WK WK (fun _ _ _ h => h) (lt rfl) (KnAll.cons (Kn.at 0 rfl) (KnAll.cons hkq.of_nil (KnAll.cons hk1.of_nil KnAll.nil))) (fun _ => (Y.buildS (l := [(0,.const (.bool true)),(1,.tmp 106),(2,.const (.bool true)),(3,.tmp 107),(4,.tmp 121)]) (r := [.bool true,.int .i64 P17.op,.int .u32 P17.xid,.int .i64 P17.secs,.int .i64 P17.flags,.int .u32 P17.ci,.int .u32 P17.yi,.int .u32 P17.si,.int .u32 P17.gi,.slice pg17 P17.hw.length cg17,.slice pk17 nk17 ck17,.bool true,.int .u32 q.nl.addr,.int .i64 q.nl.bind,.string q.nl.client,.int .i64 q.nl.till,.int .i64 q.nl.acked,.int .i64 q.nl.told,.int .i64 q.nl.at_,.int .i64 q.nl.ver,.int .i64 (Rul.potential q.nl q.now q.want)]) Engine3_zo45 Engine3_pl45 rfl WK))<|?_
         refine RunL.one (i := 23) WK rfl  ?_
         refine Run.stAll (l2 := [.bool true,.int .i64 P17.op,.int .u32 P17.xid,.int .i64 P17.secs,.int .i64 P17.flags,.int .u32 P17.ci,.int .u32 P17.yi,.int .u32 P17.si,.int .u32 P17.gi,.slice pg17 P17.hw.length cg17,.slice pk17 nk17 ck17,.bool true,.int .u32 q.nl.addr,.int .i64 q.nl.bind,.string q.nl.client,.int .i64 q.nl.till,.int .i64 q.nl.acked,.int .i64 q.nl.told,.int .i64 q.nl.at_,.int .i64 q.nl.ver,.int .i64 (Rul.potential q.nl q.now q.want)]) (j := 2) Z Z Engine3_sz45 Z Z Z Z ?_
         refine Run.heapTo (H' := [[(y11,.cells ((Le.cells q.nl).toArray) 43 (0,0))],[(y5,.cells ((Le.cells ((Eg.of (fun l => q.th l || q.may l) q.l q.addr).1)).toArray) 43 (0,0))],[(b2,.cells (An.cells ⟨true,P17,true,q.nl,Rul.potential q.nl q.now q.want⟩ (.slice pg17 P17.hw.length cg17) (.slice pk17 nk17 ck17)) 45 (0,0))],s]) rfl ?_
         refine Ze<|Ex.anyLz Z<|RunL.done WK<|Zg<|Zu<|?_
         exact Ex.retCell [3] rfl rfl Engine3_ag45 (Kn.at 2 rfl) rfl ⟨hVle,rfl,.slice pg17 P17.hw.length cg17,.slice pk17 nk17 ck17,by rw [Eg.req_gives (.inr (by have := hsv h11; omega)) (Eg.gives_is h13 (of_decide_eq_true h14)),show q.tm q.g.1 = q.tm (Eg.of (fun l => q.th l || q.may l) q.l q.addr).1 from rfl,hP17]; rfl,by rw [Eg.req_gives (.inr (by have := hsv h11; omega)) (Eg.gives_is h13 (of_decide_eq_true h14)),show q.tm q.g.1 = q.tm (Eg.of (fun l => q.th l || q.may l) q.l q.addr).1 from rfl,hP17]; exact hRp17⟩
       ·refine Tr.cond_f Z h14<|Zs<|Zr<|Zm Z<|Zv (Y.not Z)<|Zm Z<|Zo (congrArg Bool.not h11) Z<|Zv (Y.pick_f Z (congrArg Bool.not h11) Z)<|Za Z<|Ze<|Zg<|Tr.cond_f Z Z<|Zs<|Zr<|Zv (Y.load Z Engine3_ts88 hk1.of_nil Z)<|?_
        refine Run.call [] (l := [.tmp 54,.const (.int .i64 6)]) rfl rfl rfl (lt rfl) (reply_q (q := q) (kind := 6) hkq hok) (fun v18 V18 H18 hle18 hR18 => ?_)
        obtain ⟨_,hv18,L18,po18,k18,so18,rfl,rfl,ho18,hr18,hm18,hh18⟩ := hR18
        obtain ⟨W18,hVe⟩ : ∃ Vz : Vw,Vz = V18 := ⟨_,rfl⟩; subst hVe
        replace hkq := hkq.le hle18
        replace hok := hok.le hle18
        replace hk1 := hk1.le hle18
        replace hVle := Vw.le_trans hVle hle18
        obtain ⟨ph18,ch18,rfl,_⟩ := hh18.form
        refine Run.heapTo (H' := [[(y5,.cells ((Le.cells ((Eg.of (fun l => q.th l || q.may l) q.l q.addr).1)).toArray) 43 (0,0))],[(b2,.cells an0 45 (0,0))],s,so18]) rfl ?_
        refine Zv (Y.buildS (l := [(0,.const (.bool true)),(1,.tmp 55)]) (r := [.bool true,.int .i64 ((Eg.rep q.x q.p 6).op),.int .u32 ((Eg.rep q.x q.p 6).xid),.int .i64 ((Eg.rep q.x q.p 6).secs),.int .i64 ((Eg.rep q.x q.p 6).flags),.int .u32 ((Eg.rep q.x q.p 6).ci),.int .u32 ((Eg.rep q.x q.p 6).yi),.int .u32 ((Eg.rep q.x q.p 6).si),.int .u32 ((Eg.rep q.x q.p 6).gi),.slice ph18 q.p.hw.length ch18,.slice po18 L18.length k18,.bool false,.int .u32 0,.int .i64 0,.string ⟨#[]⟩,.int .i64 0,.int .i64 0,.int .i64 0,.int .i64 0,.int .i64 0,.int .i64 0]) Engine3_zo45 Engine3_pl45 Z Z) ?_
        refine Run.stAll (l2 := [.bool true,.int .i64 ((Eg.rep q.x q.p 6).op),.int .u32 ((Eg.rep q.x q.p 6).xid),.int .i64 ((Eg.rep q.x q.p 6).secs),.int .i64 ((Eg.rep q.x q.p 6).flags),.int .u32 ((Eg.rep q.x q.p 6).ci),.int .u32 ((Eg.rep q.x q.p 6).yi),.int .u32 ((Eg.rep q.x q.p 6).si),.int .u32 ((Eg.rep q.x q.p 6).gi),.slice ph18 q.p.hw.length ch18,.slice po18 L18.length k18,.bool false,.int .u32 0,.int .i64 0,.string ⟨#[]⟩,.int .i64 0,.int .i64 0,.int .i64 0,.int .i64 0,.int .i64 0,.int .i64 0]) (j := 1) Z Z Engine3_sz45 Z Z Z Z ?_
        refine Run.heapTo (H' := [[(y5,.cells ((Le.cells ((Eg.of (fun l => q.th l || q.may l) q.l q.addr).1)).toArray) 43 (0,0))],[(b2,.cells (An.cells ⟨true,(Eg.rep q.x q.p 6),false,Le.dflt,0⟩ (.slice ph18 q.p.hw.length ch18) (.slice po18 L18.length k18)) 45 (0,0))],s,so18]) rfl ?_
        refine Ze<|Zg<|Zu<|Zk<|Zn<|Ex.keepTo (H' := [so18,[(y5,.cells ((Le.cells ((Eg.of (fun l => q.th l || q.may l) q.l q.addr).1)).toArray) 43 (0,0))],[(b2,.cells (An.cells ⟨true,(Eg.rep q.x q.p 6),false,Le.dflt,0⟩ (.slice ph18 q.p.hw.length ch18) (.slice po18 L18.length k18)) 45 (0,0))],s]) [3,0,0,0] rfl<|?_
        refine Ex.show (fun V19 hleV19 hshV19 => ?_)
        have hso := ho18.shows _ hshV19
        replace hkq := hkq.le hleV19
        replace hok := hok.le hleV19
        replace hk1 := hk1.le hleV19
        replace hr18 := hr18.le hleV19
        replace hh18 := hh18.le hleV19
        replace hVle := Vw.le_trans hVle hleV19
        exact Ex.retCell [2] rfl rfl Engine3_ag45 (Kn.at 1 rfl) rfl ⟨hVle,rfl,.slice ph18 q.p.hw.length ch18,.slice po18 L18.length k18,by rw [Eg.req_nak (.inr (by have := hsv h11; omega)) (Eg.gives_no (.inr (of_decide_eq_false h14))) (.inl h11)]; rfl,by rw [Eg.req_nak (.inr (by have := hsv h11; omega)) (Eg.gives_no (.inr (of_decide_eq_false h14))) (.inl h11)]; exact ⟨hh18,Pc.rs_of hso hr18 hm18,hok.xid,⟨Int.le_refl 0,(by decide : (0 : Int) ≤ 4294967295)⟩,hok.sv⟩⟩
      ·refine Zo h13 Z<|Zo h13 Z<|Zv (Y.pick_f Z h13 Z)<|Za Z<|Ze<|Zg<|Tr.cond_f Z Z<|Zs<|Zr<|Zm Z<|Zv (Y.not Z)<|Zm Z<|Zo (congrArg Bool.not h11) Z<|Zv (Y.pick_f Z (congrArg Bool.not h11) Z)<|Za Z<|Ze<|?_
       refine Zg<|Tr.cond_f Z Z<|Zs<|Zr<|Zv (Y.load Z Engine3_ts88 hk1.of_nil Z)<|?_
       refine Run.call [] (l := [.tmp 54,.const (.int .i64 6)]) rfl rfl rfl (lt rfl) (reply_q (q := q) (kind := 6) hkq hok) (fun v20 V20 H20 hle20 hR20 => ?_)
       obtain ⟨_,hv20,L20,po20,k20,so20,rfl,rfl,ho20,hr20,hm20,hh20⟩ := hR20
       obtain ⟨W20,hVe⟩ : ∃ Vz : Vw,Vz = V20 := ⟨_,rfl⟩; subst hVe
       replace hkq := hkq.le hle20
       replace hok := hok.le hle20
       replace hk1 := hk1.le hle20
       replace hVle := Vw.le_trans hVle hle20
       obtain ⟨ph20,ch20,rfl,_⟩ := hh20.form
       refine Run.heapTo (H' := [[(y5,.cells ((Le.cells ((Eg.of (fun l => q.th l || q.may l) q.l q.addr).1)).toArray) 43 (0,0))],[(b2,.cells an0 45 (0,0))],s,so20]) rfl ?_
       refine Zv (Y.buildS (l := [(0,.const (.bool true)),(1,.tmp 55)]) (r := [.bool true,.int .i64 ((Eg.rep q.x q.p 6).op),.int .u32 ((Eg.rep q.x q.p 6).xid),.int .i64 ((Eg.rep q.x q.p 6).secs),.int .i64 ((Eg.rep q.x q.p 6).flags),.int .u32 ((Eg.rep q.x q.p 6).ci),.int .u32 ((Eg.rep q.x q.p 6).yi),.int .u32 ((Eg.rep q.x q.p 6).si),.int .u32 ((Eg.rep q.x q.p 6).gi),.slice ph20 q.p.hw.length ch20,.slice po20 L20.length k20,.bool false,.int .u32 0,.int .i64 0,.string ⟨#[]⟩,.int .i64 0,.int .i64 0,.int .i64 0,.int .i64 0,.int .i64 0,.int .i64 0]) Engine3_zo45 Engine3_pl45 Z Z) ?_
       refine Run.stAll (l2 := [.bool true,.int .i64 ((Eg.rep q.x q.p 6).op),.int .u32 ((Eg.rep q.x q.p 6).xid),.int .i64 ((Eg.rep q.x q.p 6).secs),.int .i64 ((Eg.rep q.x q.p 6).flags),.int .u32 ((Eg.rep q.x q.p 6).ci),.int .u32 ((Eg.rep q.x q.p 6).yi),.int .u32 ((Eg.rep q.x q.p 6).si),.int .u32 ((Eg.rep q.x q.p 6).gi),.slice ph20 q.p.hw.length ch20,.slice po20 L20.length k20,.bool false,.int .u32 0,.int .i64 0,.string ⟨#[]⟩,.int .i64 0,.int .i64 0,.int .i64 0,.int .i64 0,.int .i64 0,.int .i64 0]) (j := 1) Z Z Engine3_sz45 Z Z Z Z ?_
       refine Run.heapTo (H' := [[(y5,.cells ((Le.cells ((Eg.of (fun l => q.th l || q.may l) q.l q.addr).1)).toArray) 43 (0,0))],[(b2,.cells (An.cells ⟨true,(Eg.rep q.x q.p 6),false,Le.dflt,0⟩ (.slice ph20 q.p.hw.length ch20) (.slice po20 L20.length k20)) 45 (0,0))],s,so20]) rfl ?_
       refine Ze<|Zg<|Zu<|Zk<|Zn<|Ex.keepTo (H' := [so20,[(y5,.cells ((Le.cells ((Eg.of (fun l => q.th l || q.may l) q.l q.addr).1)).toArray) 43 (0,0))],[(b2,.cells (An.cells ⟨true,(Eg.rep q.x q.p 6),false,Le.dflt,0⟩ (.slice ph20 q.p.hw.length ch20) (.slice po20 L20.length k20)) 45 (0,0))],s]) [3,0,0,0] rfl<|?_
       refine Ex.show (fun V21 hleV21 hshV21 => ?_)
       have hso := ho20.shows _ hshV21
       replace hkq := hkq.le hleV21
       replace hok := hok.le hleV21
       replace hk1 := hk1.le hleV21
       replace hr20 := hr20.le hleV21
       replace hh20 := hh20.le hleV21
       replace hVle := Vw.le_trans hVle hleV21
       exact Ex.retCell [2] rfl rfl Engine3_ag45 (Kn.at 1 rfl) rfl ⟨hVle,rfl,.slice ph20 q.p.hw.length ch20,.slice po20 L20.length k20,by rw [Eg.req_nak (.inr (by have := hsv h11; omega)) (Eg.gives_no (.inl h13)) (.inl h11)]; rfl,by rw [Eg.req_nak (.inr (by have := hsv h11; omega)) (Eg.gives_no (.inl h13)) (.inl h11)]; exact ⟨hh20,Pc.rs_of hso hr20 hm20,hok.xid,⟨Int.le_refl 0,(by decide : (0 : Int) ≤ 4294967295)⟩,hok.sv⟩⟩
    ·refine Zo h11 Z<|Zo h11 Z<|Zo h11 Z<|Zo h11 Z<|Zo h11 Z<|Zo h11 Z<|Zo h11 Z<|Zv (Y.pick_f Z h11 Z)<|Za Z<|Ze<|Zg<|Tr.cond_f Z Z<|Zs<|Zr<|Zm Z<|Zm Z<|?_
     rcases Zsplit ((Eg.of (fun l => q.th l || q.may l) q.l q.addr).2) with ⟨h22,g22⟩ | ⟨h22,g22⟩ <;> try simp only [kb] at g22
     ·refine Zp h22<|Zm Z<|Zp h22<|Zv (Y.int Z Z Z)<|Zv (Y.pick_t Z h22 Z)<|Za Z<|Ze<|Zg<|?_
      rcases Zsplit (decide ((q.tm ((Eg.of (fun l => q.th l || q.may l) q.l q.addr).1)) > 0)) with ⟨h23,g23⟩ | ⟨h23,g23⟩ <;> try simp only [kb] at g23
      ·refine Tr.cond_t Z h23<|Zt<|Zc<|Zg<|?_
       refine Tr.cutx (X := Nat) (fun y11 => U3) (fun y11 => [[(y11,.cells ((Le.cells q.nl).toArray) 43 (0,0))],[(y5,.cells ((Le.cells ((Eg.of (fun l => q.th l || q.may l) q.l q.addr).1)).toArray) 43 (0,0))],[(b2,.cells an0 45 (0,0))],s]) (fun y11 => [(0,(pZ bq)),(1,(pZ b1)),(2,(pZ b2)),(5,(pZ y5)),(9,.int .i64 (q.tm ((Eg.of (fun l => q.th l || q.may l) q.l q.addr).1))),(11,(pZ y11))]) (fun y11 => True) ?_ ?_
       ·refine Tr.anyD [(y5,.cells ((Le.cells ((Eg.of (fun l => q.th l || q.may l) q.l q.addr).1)).toArray) 43 (0,0)),(bq,.cells (q.cells pv tx hv ov) 90 (0,0)),(b1,.cells #[(pZ bq)] 88 (0,0))] Engine3_mo ?_
        refine RunD.take (i := 0) 2 rfl rfl WK WK WK (fun _ _ _ h => h) (lt rfl) (KnAll.cons (Kn.at 0 rfl) (KnAll.cons hkq.of_nil (KnAll.cons hk1.of_nil KnAll.nil))) (fun _ => (Y.load rfl Engine3_ts88 Kn.vk1 rfl))<|RunD.pure (i := 1) rfl WK WK WK (fun _ _ _ h => h) (lt rfl) (KnAll.cons (Kn.at 0 rfl) (KnAll.cons hkq.of_nil (KnAll.cons hk1.of_nil KnAll.nil))) (fun _ => (Y.nilCheck rfl))<|?_
        refine RunD.pure (i := 2) rfl WK WK WK (fun _ _ _ h => h) (lt rfl) (KnAll.cons (Kn.at 0 rfl) (KnAll.cons hkq.of_nil (KnAll.cons hk1.of_nil KnAll.nil))) (fun _ => (Y.fieldAddr rfl Engine3_fo90_1))<|RunD.take (i := 3) 1 rfl rfl WK WK WK (fun _ _ _ h => h) (lt rfl) (KnAll.cons (Kn.at 0 rfl) (KnAll.cons hkq.of_nil (KnAll.cons hk1.of_nil KnAll.nil))) (fun _ => (Y.loadAgg rfl Engine3_ag58 Kn.vk1 rfl))<|?_
        refine RunD.take (i := 4) 0 rfl rfl WK WK WK (fun _ _ _ h => h) (lt rfl) (KnAll.cons (Kn.at 0 rfl) (KnAll.cons hkq.of_nil (KnAll.cons hk1.of_nil KnAll.nil))) (fun _ => (Y.loadAgg rfl Engine3_ag43 Kn.vk1 rfl))<|RunD.take (i := 5) 2 rfl rfl WK WK WK (fun _ _ _ h => h) (lt rfl) (KnAll.cons (Kn.at 0 rfl) (KnAll.cons hkq.of_nil (KnAll.cons hk1.of_nil KnAll.nil))) (fun _ => (Y.load rfl Engine3_ts88 Kn.vk1 rfl))<|?_
        refine RunD.pure (i := 6) rfl WK WK WK (fun _ _ _ h => h) (lt rfl) (KnAll.cons (Kn.at 0 rfl) (KnAll.cons hkq.of_nil (KnAll.cons hk1.of_nil KnAll.nil))) (fun _ => (Y.nilCheck rfl))<|RunD.pure (i := 7) rfl WK WK WK (fun _ _ _ h => h) (lt rfl) (KnAll.cons (Kn.at 0 rfl) (KnAll.cons hkq.of_nil (KnAll.cons hk1.of_nil KnAll.nil))) (fun _ => (Y.fieldAddr rfl Engine3_fo90_7))<|?_
        refine RunD.take (i := 8) 1 rfl rfl WK WK WK (fun _ _ _ h => h) (lt rfl) (KnAll.cons (Kn.at 0 rfl) (KnAll.cons hkq.of_nil (KnAll.cons hk1.of_nil KnAll.nil))) (fun _ => (Y.load rfl Engine3_ts9 Kn.vk1 rfl))<|RunD.take (i := 9) 2 rfl rfl WK WK WK (fun _ _ _ h => h) (lt rfl) (KnAll.cons (Kn.at 0 rfl) (KnAll.cons hkq.of_nil (KnAll.cons hk1.of_nil KnAll.nil))) (fun _ => (Y.load rfl Engine3_ts88 Kn.vk1 rfl))<|?_
        refine RunD.pure (i := 10) rfl WK WK WK (fun _ _ _ h => h) (lt rfl) (KnAll.cons (Kn.at 0 rfl) (KnAll.cons hkq.of_nil (KnAll.cons hk1.of_nil KnAll.nil))) (fun _ => (Y.nilCheck rfl))<|RunD.pure (i := 11) rfl WK WK WK (fun _ _ _ h => h) (lt rfl) (KnAll.cons (Kn.at 0 rfl) (KnAll.cons hkq.of_nil (KnAll.cons hk1.of_nil KnAll.nil))) (fun _ => (Y.fieldAddr rfl Engine3_fo90_4))<|?_
        refine RunD.take (i := 12) 1 rfl rfl WK WK WK (fun _ _ _ h => h) (lt rfl) (KnAll.cons (Kn.at 0 rfl) (KnAll.cons hkq.of_nil (KnAll.cons hk1.of_nil KnAll.nil))) (fun _ => (Y.load rfl Engine3_ts3 Kn.vk1 rfl))<|RunD.take (i := 13) 2 rfl rfl WK WK WK (fun _ _ _ h => h) (lt rfl) (KnAll.cons (Kn.at 0 rfl) (KnAll.cons hkq.of_nil (KnAll.cons hk1.of_nil KnAll.nil))) (fun _ => (Y.load rfl Engine3_ts88 Kn.vk1 rfl))<|?_
        refine RunD.pure (i := 14) rfl WK WK WK (fun _ _ _ h => h) (lt rfl) (KnAll.cons (Kn.at 0 rfl) (KnAll.cons hkq.of_nil (KnAll.cons hk1.of_nil KnAll.nil))) (fun _ => (Y.nilCheck rfl))<|RunD.pure (i := 15) rfl WK WK WK (fun _ _ _ h => h) (lt rfl) (KnAll.cons (Kn.at 0 rfl) (KnAll.cons hkq.of_nil (KnAll.cons hk1.of_nil KnAll.nil))) (fun _ => (Y.fieldAddr rfl Engine3_fo90_9))<|?_
        refine RunD.take (i := 16) 1 rfl rfl WK WK WK (fun _ _ _ h => h) (lt rfl) (KnAll.cons (Kn.at 0 rfl) (KnAll.cons hkq.of_nil (KnAll.cons hk1.of_nil KnAll.nil))) (fun _ => (Y.load rfl Engine3_ts3 Kn.vk1 rfl)) ?_
        refine RunD.two (i := 17) (j := 18) WK rfl rfl  ?_ ?_
        ·refine Run.call0 (l := [.tmp 85,.tmp 86,.tmp 90,.tmp 94,.tmp 98]) Z Z Z (lt Z) ((glease_c (r := q.x.rules) (l := q.g.1) (client := q.client) (now := q.now) (want := q.want)).frame)<|Ze<|Ex.anyD (KnAll.cons (Kn.at 0 Z) (KnAll.cons hkq.of_nil (KnAll.cons hk1.of_nil KnAll.nil)))<|?_
         refine RunD.one (i := 18) WK rfl  ?_
         refine Run.alloc Engine3_zo43 (lt rfl) (fun b24 => ?_)
         refine Ze<|Ex.anyD (KnAll.cons (Kn.at 1 Z) (KnAll.cons hkq.of_nil (KnAll.cons hk1.of_nil KnAll.nil)))<|?_
         refine RunD.one (i := 19) WK rfl  ?_
         refine Run.store (s := [(b24,.cells ((Le.cells q.nl).toArray) 43 (0,0))]) Z Z Engine3_sz43 (i := 0) Z Z (le Z) Z Z<|Ze<|Ex.anyD (KnAll.cons (Kn.at 1 Z) (KnAll.cons hkq.of_nil (KnAll.cons hk1.of_nil KnAll.nil)))<|RunD.done WK<|Ex.keep [0,0,0,0]<|?_
         exact ZX b24 trivial
        ·refine Run.alloc Engine3_zo43 (lt rfl) (fun b25 => ?_)
         refine Ze<|Ex.anyD (KnAll.cons (Kn.at 1 Z) (KnAll.cons hkq.of_nil (KnAll.cons hk1.of_nil KnAll.nil)))<|?_
         refine RunD.one (i := 17) WK rfl  ?_
         refine Run.call0 (l := [.tmp 85,.tmp 86,.tmp 90,.tmp 94,.tmp 98]) Z Z Z (lt Z) ((glease_c (r := q.x.rules) (l := q.g.1) (client := q.client) (now := q.now) (want := q.want)).frame)<|Ze<|Ex.anyD (KnAll.cons (Kn.at 1 Z) (KnAll.cons hkq.of_nil (KnAll.cons hk1.of_nil KnAll.nil)))<|?_
         refine RunD.one (i := 19) WK rfl  ?_
         refine Run.store (s := [(b25,.cells ((Le.cells q.nl).toArray) 43 (0,0))]) Z Z Engine3_sz43 (i := 0) Z Z (le Z) Z Z<|Ze<|Ex.anyD (KnAll.cons (Kn.at 1 Z) (KnAll.cons hkq.of_nil (KnAll.cons hk1.of_nil KnAll.nil)))<|RunD.done WK<|Ex.keep [0,0,0,0]<|?_
         exact ZX b25 trivial
       ·rintro y11 _
        refine Zs<|Tr.anyL [(y11,.cells ((Le.cells q.nl).toArray) 43 (0,0)),(bq,.cells (q.cells pv tx hv ov) 90 (0,0)),(b1,.cells #[(pZ bq)] 88 (0,0))] 23 Engine3_mo<|RunL.take (i := 0) 2 rfl rfl WK WK WK WK (fun _ _ _ h => h) (lt rfl) (KnAll.cons (Kn.at 0 rfl) (KnAll.cons hkq.of_nil (KnAll.cons hk1.of_nil KnAll.nil))) (fun _ => (Y.load rfl Engine3_ts88 Kn.vk1 rfl))<|?_
        refine RunL.take (i := 1) 2 rfl rfl WK WK WK WK (fun _ _ _ h => h) (lt rfl) (KnAll.cons (Kn.at 0 rfl) (KnAll.cons hkq.of_nil (KnAll.cons hk1.of_nil KnAll.nil))) (fun _ => (Y.load rfl Engine3_ts88 Kn.vk1 rfl))<|RunL.pure (i := 2) rfl WK WK WK WK (fun _ _ _ h => h) (lt rfl) (KnAll.cons (Kn.at 0 rfl) (KnAll.cons hkq.of_nil (KnAll.cons hk1.of_nil KnAll.nil))) (fun _ => (Y.nilCheck rfl))<|?_
        refine RunL.pure (i := 3) rfl WK WK WK WK (fun _ _ _ h => h) (lt rfl) (KnAll.cons (Kn.at 0 rfl) (KnAll.cons hkq.of_nil (KnAll.cons hk1.of_nil KnAll.nil))) (fun _ => (Y.fieldAddr rfl Engine3_fo90_8))<|RunL.take (i := 4) 1 rfl rfl WK WK WK WK (fun _ _ _ h => h) (lt rfl) (KnAll.cons (Kn.at 0 rfl) (KnAll.cons hkq.of_nil (KnAll.cons hk1.of_nil KnAll.nil))) (fun _ => (Y.load rfl Engine3_ts24 Kn.vk1 rfl))<|?_
        refine RunL.pure (i := 5) rfl WK WK WK WK (fun _ _ _ h => h) (lt rfl) (KnAll.cons (Kn.at 0 rfl) (KnAll.cons hkq.of_nil (KnAll.cons hk1.of_nil KnAll.nil))) (fun _ => (Y.move rfl))<|RunL.take (i := 7) 0 rfl rfl WK WK WK WK (fun _ _ _ h => h) (lt rfl) (KnAll.cons (Kn.at 0 rfl) (KnAll.cons hkq.of_nil (KnAll.cons hk1.of_nil KnAll.nil))) (fun _ => (Y.loadAgg rfl Engine3_ag43 Kn.vk1 rfl))<|?_
        refine RunL.take (i := 8) 2 rfl rfl WK WK WK WK (fun _ _ _ h => h) (lt rfl) (KnAll.cons (Kn.at 0 rfl) (KnAll.cons hkq.of_nil (KnAll.cons hk1.of_nil KnAll.nil))) (fun _ => (Y.load rfl Engine3_ts88 Kn.vk1 rfl))<|RunL.pure (i := 9) rfl WK WK WK WK (fun _ _ _ h => h) (lt rfl) (KnAll.cons (Kn.at 0 rfl) (KnAll.cons hkq.of_nil (KnAll.cons hk1.of_nil KnAll.nil))) (fun _ => (Y.nilCheck rfl))<|?_
        refine RunL.pure (i := 10) rfl WK WK WK WK (fun _ _ _ h => h) (lt rfl) (KnAll.cons (Kn.at 0 rfl) (KnAll.cons hkq.of_nil (KnAll.cons hk1.of_nil KnAll.nil))) (fun _ => (Y.fieldAddr rfl Engine3_fo90_1))<|RunL.take (i := 11) 1 rfl rfl WK WK WK WK (fun _ _ _ h => h) (lt rfl) (KnAll.cons (Kn.at 0 rfl) (KnAll.cons hkq.of_nil (KnAll.cons hk1.of_nil KnAll.nil))) (fun _ => (Y.loadAgg rfl Engine3_ag58 Kn.vk1 rfl))<|?_
        refine RunL.take (i := 12) 0 rfl rfl WK WK WK WK (fun _ _ _ h => h) (lt rfl) (KnAll.cons (Kn.at 0 rfl) (KnAll.cons hkq.of_nil (KnAll.cons hk1.of_nil KnAll.nil))) (fun _ => (Y.loadAgg rfl Engine3_ag43 Kn.vk1 rfl))<|RunL.take (i := 13) 2 rfl rfl WK WK WK WK (fun _ _ _ h => h) (lt rfl) (KnAll.cons (Kn.at 0 rfl) (KnAll.cons hkq.of_nil (KnAll.cons hk1.of_nil KnAll.nil))) (fun _ => (Y.load rfl Engine3_ts88 Kn.vk1 rfl))<|?_
        refine RunL.pure (i := 14) rfl WK WK WK WK (fun _ _ _ h => h) (lt rfl) (KnAll.cons (Kn.at 0 rfl) (KnAll.cons hkq.of_nil (KnAll.cons hk1.of_nil KnAll.nil))) (fun _ => (Y.nilCheck rfl))<|RunL.pure (i := 15) rfl WK WK WK WK (fun _ _ _ h => h) (lt rfl) (KnAll.cons (Kn.at 0 rfl) (KnAll.cons hkq.of_nil (KnAll.cons hk1.of_nil KnAll.nil))) (fun _ => (Y.fieldAddr rfl Engine3_fo90_4))<|?_
        refine RunL.take (i := 16) 1 rfl rfl WK WK WK WK (fun _ _ _ h => h) (lt rfl) (KnAll.cons (Kn.at 0 rfl) (KnAll.cons hkq.of_nil (KnAll.cons hk1.of_nil KnAll.nil))) (fun _ => (Y.load rfl Engine3_ts3 Kn.vk1 rfl))<|RunL.take (i := 17) 2 rfl rfl WK WK WK WK (fun _ _ _ h => h) (lt rfl) (KnAll.cons (Kn.at 0 rfl) (KnAll.cons hkq.of_nil (KnAll.cons hk1.of_nil KnAll.nil))) (fun _ => (Y.load rfl Engine3_ts88 Kn.vk1 rfl))<|?_
        refine RunL.pure (i := 18) rfl WK WK WK WK (fun _ _ _ h => h) (lt rfl) (KnAll.cons (Kn.at 0 rfl) (KnAll.cons hkq.of_nil (KnAll.cons hk1.of_nil KnAll.nil))) (fun _ => (Y.nilCheck rfl))<|RunL.pure (i := 19) rfl WK WK WK WK (fun _ _ _ h => h) (lt rfl) (KnAll.cons (Kn.at 0 rfl) (KnAll.cons hkq.of_nil (KnAll.cons hk1.of_nil KnAll.nil))) (fun _ => (Y.fieldAddr rfl Engine3_fo90_9))<|?_
        refine RunL.take (i := 20) 1 rfl rfl WK WK WK WK (fun _ _ _ h => h) (lt rfl) (KnAll.cons (Kn.at 0 rfl) (KnAll.cons hkq.of_nil (KnAll.cons hk1.of_nil KnAll.nil))) (fun _ => (Y.load rfl Engine3_ts3 Kn.vk1 rfl)) ?_
        refine RunL.one (i := 6) WK rfl  ?_
        refine Run.call [] (l := [.tmp 100,.const (.int .i64 5),.tmp 104,.tmp 105]) rfl rfl rfl (lt rfl) (promise_q (q := q) (kind := 5) (a := q.addr) (t := q.tm ((Eg.of (fun l => q.th l || q.may l) q.l q.addr).1)) hkq hok hok.ad ⟨Eg.tm_nn _ _,Eg.tm_le _ _⟩) (fun v26 V26 H26 hle26 hR26 => ?_)
        obtain ⟨_,rfl,hv26,ov26,rfl,hRp26⟩ := hR26
        obtain ⟨W26,hVe⟩ : ∃ Vz : Vw,Vz = V26 := ⟨_,rfl⟩; subst hVe
        replace hkq := hkq.le hle26
        replace hok := hok.le hle26
        replace hk1 := hk1.le hle26
        replace hVle := Vw.le_trans hVle hle26
        obtain ⟨⟨pg26,cg26,rfl⟩,pk26,nk26,ck26,rfl⟩ := hRp26.forms
        generalize hP26 : Eg.prom q.x q.p 5 q.addr (q.tm ((Eg.of (fun l => q.th l || q.may l) q.l q.addr).1)) = P26 at hRp26 ⊢
        refine Run.heapTo (H' := [[(y11,.cells ((Le.cells q.nl).toArray) 43 (0,0))],[(y5,.cells ((Le.cells ((Eg.of (fun l => q.th l || q.may l) q.l q.addr).1)).toArray) 43 (0,0))],[(b2,.cells an0 45 (0,0))],s]) rfl ?_
        refine Ze<|Ex.anyL (KnAll.cons (Kn.at 0 Z) (KnAll.cons hkq.of_nil (KnAll.cons hk1.of_nil KnAll.nil)))<|?_
        refine RunL.one (i := 21) WK rfl  ?_
        refine Run.call0 (l := [.tmp 111,.tmp 112,.tmp 116,.tmp 120]) Z Z Z (lt Z) ((pot_c (r := q.x.rules) (l := q.nl) (now := q.now) (want := q.want)).frame)<|Ze<|Ex.anyL (KnAll.cons (Kn.at 0 Z) (KnAll.cons hkq.of_nil (KnAll.cons hk1.of_nil KnAll.nil)))<|RunL.pure (i := 22) rfl WK WK WK WK (fun _ _ _ h => h) (lt rfl) (KnAll.cons (Kn.at 0 rfl) (KnAll.cons hkq.of_nil (KnAll.cons hk1.of_nil KnAll.nil))) (fun _ => (Y.buildS (l := [(0,.const (.bool true)),(1,.tmp 106),(2,.const (.bool true)),(3,.tmp 107),(4,.tmp 121)]) (r := [.bool true,.int .i64 P26.op,.int .u32 P26.xid,.int .i64 P26.secs,.int .i64 P26.flags,.int .u32 P26.ci,.int .u32 P26.yi,.int .u32 P26.si,.int .u32 P26.gi,.slice pg26 P26.hw.length cg26,.slice pk26 nk26 ck26,.bool true,.int .u32 q.nl.addr,.int .i64 q.nl.bind,.string q.nl.client,.int .i64 q.nl.till,.int .i64 q.nl.acked,.int .i64 q.nl.told,.int .i64 q.nl.at_,.int .i64 q.nl.ver,.int .i64 (Rul.potential q.nl q.now q.want)]) Engine3_zo45 Engine3_pl45 rfl WK))<|?_
        refine RunL.one (i := 23) WK rfl  ?_
        refine Run.stAll (l2 := [.bool true,.int .i64 P26.op,.int .u32 P26.xid,.int .i64 P26.secs,.int .i64 P26.flags,.int .u32 P26.ci,.int .u32 P26.yi,.int .u32 P26.si,.int .u32 P26.gi,.slice pg26 P26.hw.length cg26,.slice pk26 nk26 ck26,.bool true,.int .u32 q.nl.addr,.int .i64 q.nl.bind,.string q.nl.client,.int .i64 q.nl.till,.int .i64 q.nl.acked,.int .i64 q.nl.told,.int .i64 q.nl.at_,.int .i64 q.nl.ver,.int .i64 (Rul.potential q.nl q.now q.want)]) (j := 2) Z Z Engine3_sz45 Z Z Z Z ?_
        refine Run.heapTo (H' := [[(y11,.cells ((Le.cells q.nl).toArray) 43 (0,0))],[(y5,.cells ((Le.cells ((Eg.of (fun l => q.th l || q.may l) q.l q.addr).1)).toArray) 43 (0,0))],[(b2,.cells (An.cells ⟨true,P26,true,q.nl,Rul.potential q.nl q.now q.want⟩ (.slice pg26 P26.hw.length cg26) (.slice pk26 nk26 ck26)) 45 (0,0))],s]) rfl ?_
        refine Ze<|Ex.anyLz Z<|RunL.done WK<|Zg<|Zu<|?_
        exact Ex.retCell [3] rfl rfl Engine3_ag45 (Kn.at 2 rfl) rfl ⟨hVle,rfl,.slice pg26 P26.hw.length cg26,.slice pk26 nk26 ck26,by rw [Eg.req_gives (.inl h11) (Eg.gives_is h22 (of_decide_eq_true h23)),show q.tm q.g.1 = q.tm (Eg.of (fun l => q.th l || q.may l) q.l q.addr).1 from rfl,hP26]; rfl,by rw [Eg.req_gives (.inl h11) (Eg.gives_is h22 (of_decide_eq_true h23)),show q.tm q.g.1 = q.tm (Eg.of (fun l => q.th l || q.may l) q.l q.addr).1 from rfl,hP26]; exact hRp26⟩
      ·refine Tr.cond_f Z h23<|Zs<|Zr<|Zm Z<|Zv (Y.not Z)<|Zm Z<|Zp (congrArg Bool.not h11)<|Zm Z<|Zv (Y.pick_t Z (congrArg Bool.not h11) Z)<|Za Z<|Ze<|Zg<|?_
       rcases Zsplit (q.idle) with ⟨h27,g27⟩ | ⟨h27,g27⟩ <;> try simp only [kb] at g27
       ·refine Tr.cond_t Z h27<|Zs<|Zr<|Zv (Y.buildS (l := []) (r := [.bool false,.int .i64 0,.int .u32 0,.int .i64 0,.int .i64 0,.int .u32 0,.int .u32 0,.int .u32 0,.int .u32 0,.slice none 0 0,.slice none 0 0,.bool false,.int .u32 0,.int .i64 0,.string ⟨#[]⟩,.int .i64 0,.int .i64 0,.int .i64 0,.int .i64 0,.int .i64 0,.int .i64 0]) Engine3_zo45 Engine3_pl45 Z Z)<|Run.stAll (l2 := [.bool false,.int .i64 0,.int .u32 0,.int .i64 0,.int .i64 0,.int .u32 0,.int .u32 0,.int .u32 0,.int .u32 0,.slice none 0 0,.slice none 0 0,.bool false,.int .u32 0,.int .i64 0,.string ⟨#[]⟩,.int .i64 0,.int .i64 0,.int .i64 0,.int .i64 0,.int .i64 0,.int .i64 0]) (j := 1) Z Z Engine3_sz45 Z Z Z Z<|?_
        refine Run.heapTo (H' := [[(y5,.cells ((Le.cells ((Eg.of (fun l => q.th l || q.may l) q.l q.addr).1)).toArray) 43 (0,0))],[(b2,.cells an0 45 (0,0))],s]) rfl ?_
        refine Ze<|Zg<|Zu<|Zk<|Zn<|?_
        exact Ex.retCell [2] rfl rfl Engine3_ag45 (Kn.at 1 rfl) rfl ⟨hVle,rfl,.slice none 0 0,.slice none 0 0,by rw [Eg.req_idle h11 (Eg.gives_no (.inr (of_decide_eq_false h23))) h27]; rfl,by rw [Eg.req_idle h11 (Eg.gives_no (.inr (of_decide_eq_false h23))) h27]; exact Pc.zero_R _⟩
       ·refine Tr.cond_f Z h27<|Zs<|Zr<|Zv (Y.load Z Engine3_ts88 hk1.of_nil Z)<|?_
        refine Run.call [] (l := [.tmp 54,.const (.int .i64 6)]) rfl rfl rfl (lt rfl) (reply_q (q := q) (kind := 6) hkq hok) (fun v28 V28 H28 hle28 hR28 => ?_)
        obtain ⟨_,hv28,L28,po28,k28,so28,rfl,rfl,ho28,hr28,hm28,hh28⟩ := hR28
        obtain ⟨W28,hVe⟩ : ∃ Vz : Vw,Vz = V28 := ⟨_,rfl⟩; subst hVe
        replace hkq := hkq.le hle28
        replace hok := hok.le hle28
        replace hk1 := hk1.le hle28
        replace hVle := Vw.le_trans hVle hle28
        obtain ⟨ph28,ch28,rfl,_⟩ := hh28.form
        refine Run.heapTo (H' := [[(y5,.cells ((Le.cells ((Eg.of (fun l => q.th l || q.may l) q.l q.addr).1)).toArray) 43 (0,0))],[(b2,.cells an0 45 (0,0))],s,so28]) rfl ?_
        refine Zv (Y.buildS (l := [(0,.const (.bool true)),(1,.tmp 55)]) (r := [.bool true,.int .i64 ((Eg.rep q.x q.p 6).op),.int .u32 ((Eg.rep q.x q.p 6).xid),.int .i64 ((Eg.rep q.x q.p 6).secs),.int .i64 ((Eg.rep q.x q.p 6).flags),.int .u32 ((Eg.rep q.x q.p 6).ci),.int .u32 ((Eg.rep q.x q.p 6).yi),.int .u32 ((Eg.rep q.x q.p 6).si),.int .u32 ((Eg.rep q.x q.p 6).gi),.slice ph28 q.p.hw.length ch28,.slice po28 L28.length k28,.bool false,.int .u32 0,.int .i64 0,.string ⟨#[]⟩,.int .i64 0,.int .i64 0,.int .i64 0,.int .i64 0,.int .i64 0,.int .i64 0]) Engine3_zo45 Engine3_pl45 Z Z) ?_
        refine Run.stAll (l2 := [.bool true,.int .i64 ((Eg.rep q.x q.p 6).op),.int .u32 ((Eg.rep q.x q.p 6).xid),.int .i64 ((Eg.rep q.x q.p 6).secs),.int .i64 ((Eg.rep q.x q.p 6).flags),.int .u32 ((Eg.rep q.x q.p 6).ci),.int .u32 ((Eg.rep q.x q.p 6).yi),.int .u32 ((Eg.rep q.x q.p 6).si),.int .u32 ((Eg.rep q.x q.p 6).gi),.slice ph28 q.p.hw.length ch28,.slice po28 L28.length k28,.bool false,.int .u32 0,.int .i64 0,.string ⟨#[]⟩,.int .i64 0,.int .i64 0,.int .i64 0,.int .i64 0,.int .i64 0,.int .i64 0]) (j := 1) Z Z Engine3_sz45 Z Z Z Z ?_
        refine Run.heapTo (H' := [[(y5,.cells ((Le.cells ((Eg.of (fun l => q.th l || q.may l) q.l q.addr).1)).toArray) 43 (0,0))],[(b2,.cells (An.cells ⟨true,(Eg.rep q.x q.p 6),false,Le.dflt,0⟩ (.slice ph28 q.p.hw.length ch28) (.slice po28 L28.length k28)) 45 (0,0))],s,so28]) rfl ?_
        refine Ze<|Zg<|Zu<|Zk<|Zn<|Ex.keepTo (H' := [so28,[(y5,.cells ((Le.cells ((Eg.of (fun l => q.th l || q.may l) q.l q.addr).1)).toArray) 43 (0,0))],[(b2,.cells (An.cells ⟨true,(Eg.rep q.x q.p 6),false,Le.dflt,0⟩ (.slice ph28 q.p.hw.length ch28) (.slice po28 L28.length k28)) 45 (0,0))],s]) [3,0,0,0] rfl<|?_
        refine Ex.show (fun V29 hleV29 hshV29 => ?_)
        have hso := ho28.shows _ hshV29
        replace hkq := hkq.le hleV29
        replace hok := hok.le hleV29
        replace hk1 := hk1.le hleV29
        replace hr28 := hr28.le hleV29
        replace hh28 := hh28.le hleV29
        replace hVle := Vw.le_trans hVle hleV29
        exact Ex.retCell [2] rfl rfl Engine3_ag45 (Kn.at 1 rfl) rfl ⟨hVle,rfl,.slice ph28 q.p.hw.length ch28,.slice po28 L28.length k28,by rw [Eg.req_nak (.inl h11) (Eg.gives_no (.inr (of_decide_eq_false h23))) (.inr h27)]; rfl,by rw [Eg.req_nak (.inl h11) (Eg.gives_no (.inr (of_decide_eq_false h23))) (.inr h27)]; exact ⟨hh28,Pc.rs_of hso hr28 hm28,hok.xid,⟨Int.le_refl 0,(by decide : (0 : Int) ≤ 4294967295)⟩,hok.sv⟩⟩
     ·refine Zo h22 Z<|Zo h22 Z<|Zv (Y.pick_f Z h22 Z)<|Za Z<|Ze<|Zg<|Tr.cond_f Z Z<|Zs<|Zr<|Zm Z<|Zv (Y.not Z)<|Zm Z<|Zp (congrArg Bool.not h11)<|Zm Z<|Zv (Y.pick_t Z (congrArg Bool.not h11) Z)<|Za Z<|?_
      refine Ze<|Zg<|?_
      rcases Zsplit (q.idle) with ⟨h30,g30⟩ | ⟨h30,g30⟩ <;> try simp only [kb] at g30
      ·refine Tr.cond_t Z h30<|Zs<|Zr<|Zv (Y.buildS (l := []) (r := [.bool false,.int .i64 0,.int .u32 0,.int .i64 0,.int .i64 0,.int .u32 0,.int .u32 0,.int .u32 0,.int .u32 0,.slice none 0 0,.slice none 0 0,.bool false,.int .u32 0,.int .i64 0,.string ⟨#[]⟩,.int .i64 0,.int .i64 0,.int .i64 0,.int .i64 0,.int .i64 0,.int .i64 0]) Engine3_zo45 Engine3_pl45 Z Z)<|Run.stAll (l2 := [.bool false,.int .i64 0,.int .u32 0,.int .i64 0,.int .i64 0,.int .u32 0,.int .u32 0,.int .u32 0,.int .u32 0,.slice none 0 0,.slice none 0 0,.bool false,.int .u32 0,.int .i64 0,.string ⟨#[]⟩,.int .i64 0,.int .i64 0,.int .i64 0,.int .i64 0,.int .i64 0,.int .i64 0]) (j := 1) Z Z Engine3_sz45 Z Z Z Z<|?_
       refine Run.heapTo (H' := [[(y5,.cells ((Le.cells ((Eg.of (fun l => q.th l || q.may l) q.l q.addr).1)).toArray) 43 (0,0))],[(b2,.cells an0 45 (0,0))],s]) rfl ?_
       refine Ze<|Zg<|Zu<|Zk<|Zn<|?_
       exact Ex.retCell [2] rfl rfl Engine3_ag45 (Kn.at 1 rfl) rfl ⟨hVle,rfl,.slice none 0 0,.slice none 0 0,by rw [Eg.req_idle h11 (Eg.gives_no (.inl h22)) h30]; rfl,by rw [Eg.req_idle h11 (Eg.gives_no (.inl h22)) h30]; exact Pc.zero_R _⟩
      ·refine Tr.cond_f Z h30<|Zs<|Zr<|Zv (Y.load Z Engine3_ts88 hk1.of_nil Z)<|?_
       refine Run.call [] (l := [.tmp 54,.const (.int .i64 6)]) rfl rfl rfl (lt rfl) (reply_q (q := q) (kind := 6) hkq hok) (fun v31 V31 H31 hle31 hR31 => ?_)
       obtain ⟨_,hv31,L31,po31,k31,so31,rfl,rfl,ho31,hr31,hm31,hh31⟩ := hR31
       obtain ⟨W31,hVe⟩ : ∃ Vz : Vw,Vz = V31 := ⟨_,rfl⟩; subst hVe
       replace hkq := hkq.le hle31
       replace hok := hok.le hle31
       replace hk1 := hk1.le hle31
       replace hVle := Vw.le_trans hVle hle31
       obtain ⟨ph31,ch31,rfl,_⟩ := hh31.form
       refine Run.heapTo (H' := [[(y5,.cells ((Le.cells ((Eg.of (fun l => q.th l || q.may l) q.l q.addr).1)).toArray) 43 (0,0))],[(b2,.cells an0 45 (0,0))],s,so31]) rfl ?_
       refine Zv (Y.buildS (l := [(0,.const (.bool true)),(1,.tmp 55)]) (r := [.bool true,.int .i64 ((Eg.rep q.x q.p 6).op),.int .u32 ((Eg.rep q.x q.p 6).xid),.int .i64 ((Eg.rep q.x q.p 6).secs),.int .i64 ((Eg.rep q.x q.p 6).flags),.int .u32 ((Eg.rep q.x q.p 6).ci),.int .u32 ((Eg.rep q.x q.p 6).yi),.int .u32 ((Eg.rep q.x q.p 6).si),.int .u32 ((Eg.rep q.x q.p 6).gi),.slice ph31 q.p.hw.length ch31,.slice po31 L31.length k31,.bool false,.int .u32 0,.int .i64 0,.string ⟨#[]⟩,.int .i64 0,.int .i64 0,.int .i64 0,.int .i64 0,.int .i64 0,.int .i64 0]) Engine3_zo45 Engine3_pl45 Z Z) ?_
       refine Run.stAll (l2 := [.bool true,.int .i64 ((Eg.rep q.x q.p 6).op),.int .u32 ((Eg.rep q.x q.p 6).xid),.int .i64 ((Eg.rep q.x q.p 6).secs),.int .i64 ((Eg.rep q.x q.p 6).flags),.int .u32 ((Eg.rep q.x q.p 6).ci),.int .u32 ((Eg.rep q.x q.p 6).yi),.int .u32 ((Eg.rep q.x q.p 6).si),.int .u32 ((Eg.rep q.x q.p 6).gi),.slice ph31 q.p.hw.length ch31,.slice po31 L31.length k31,.bool false,.int .u32 0,.int .i64 0,.string ⟨#[]⟩,.int .i64 0,.int .i64 0,.int .i64 0,.int .i64 0,.int .i64 0,.int .i64 0]) (j := 1) Z Z Engine3_sz45 Z Z Z Z ?_
       refine Run.heapTo (H' := [[(y5,.cells ((Le.cells ((Eg.of (fun l => q.th l || q.may l) q.l q.addr).1)).toArray) 43 (0,0))],[(b2,.cells (An.cells ⟨true,(Eg.rep q.x q.p 6),false,Le.dflt,0⟩ (.slice ph31 q.p.hw.length ch31) (.slice po31 L31.length k31)) 45 (0,0))],s,so31]) rfl ?_
       refine Ze<|Zg<|Zu<|Zk<|Zn<|Ex.keepTo (H' := [so31,[(y5,.cells ((Le.cells ((Eg.of (fun l => q.th l || q.may l) q.l q.addr).1)).toArray) 43 (0,0))],[(b2,.cells (An.cells ⟨true,(Eg.rep q.x q.p 6),false,Le.dflt,0⟩ (.slice ph31 q.p.hw.length ch31) (.slice po31 L31.length k31)) 45 (0,0))],s]) [3,0,0,0] rfl<|?_
       refine Ex.show (fun V32 hleV32 hshV32 => ?_)
       have hso := ho31.shows _ hshV32
       replace hkq := hkq.le hleV32
       replace hok := hok.le hleV32
       replace hk1 := hk1.le hleV32
       replace hr31 := hr31.le hleV32
       replace hh31 := hh31.le hleV32
       replace hVle := Vw.le_trans hVle hleV32
       exact Ex.retCell [2] rfl rfl Engine3_ag45 (Kn.at 1 rfl) rfl ⟨hVle,rfl,.slice ph31 q.p.hw.length ch31,.slice po31 L31.length k31,by rw [Eg.req_nak (.inl h11) (Eg.gives_no (.inl h22)) (.inr h30)]; rfl,by rw [Eg.req_nak (.inl h11) (Eg.gives_no (.inl h22)) (.inr h30)]; exact ⟨hh31,Pc.rs_of hso hr31 hm31,hok.xid,⟨Int.le_refl 0,(by decide : (0 : Int) ≤ 4294967295)⟩,hok.sv⟩⟩
end Go.Proofs.YtfgblingojgafaaGreat
