/- The reference's table, walked.
Conditions: as each theorem names them. -/
import Derived.Test.YtinkencbkcciiaaGreatProg
import Derived.Test.YtinkencbkcciiaaGreatTable1
import Derived.Test.YtinkencbkcciiaaGreatTC
import Derived.Test.YtinkencbkcciiaaGreatAddr4
import Derived.Test.YtinkencbkcciiaaGreatKC
import Derived.Test.YtinkencbkcciiaaGreatKF
import Derived.Test.YtinkencbkcciiaaGreatKG
import Derived.Test.YtinkencbkcciiaaGreatLA
import Derived.Test.YtinkencbkcciiaaGreatZG
set_option linter.unusedSimpArgs false
set_option linter.unusedVariables false
set_option maxRecDepth 4000
namespace Go.Proofs.YtinkencbkcciiaaGreat
open Go Go.K
attribute [local irreducible] Code.wp wpList Calls wpQuiet
theorem Table4_fo135_0 : fieldOff Tryz.prog 135 0 = some 0 := by kernel_rfl
theorem Table4_ts59 : scal Tryz.prog 59 = true := by kernel_rfl
theorem Table4_es59 : elemS Tryz.prog 59 = some (49,8) := by kernel_rfl
theorem Table4_fo49_0 : fieldOff Tryz.prog 49 0 = some 0 := by kernel_rfl
theorem Table4_ts47 : scal Tryz.prog 47 = true := by kernel_rfl
theorem Table4_zo49 : zeroOf Tryz.prog 49 = some (.agg #[.int .u32 0,.int .i64 0,.string ⟨#[]⟩,.int .i64 0,.int .i64 0,.int .i64 0,.int .i64 0,.int .i64 0]) := by kernel_rfl
theorem Table4_pl49 : placesS Tryz.prog 49 = some [(0,1),(1,1),(2,1),(3,1),(4,1),(5,1),(6,1),(7,1)] := by kernel_rfl
theorem Table4_sz49 : sizeT Tryz.prog 49 = some 8 := by kernel_rfl
theorem Table4_ag49 : aggsz Tryz.prog 49 = some 8 := by kernel_rfl
theorem Table4_mo : Tryz.prog.follows .mixedOrders = true := by kernel_rfl
theorem Table4_zo135 : zeroOf Tryz.prog 135 = some (.agg #[.slice none 0 0]) := by kernel_rfl
theorem Table4_pl135 : placesS Tryz.prog 135 = some [(0,1)] := by kernel_rfl
theorem Table4_zi49 : zeroInfo Tryz.prog 49 = some (8,72,.agg #[.int .u32 0,.int .i64 0,.string ⟨#[]⟩,.int .i64 0,.int .i64 0,.int .i64 0,.int .i64 0,.int .i64 0]) := by kernel_rfl
theorem Table4_sz59 : sizeT Tryz.prog 59 = some 1 := by kernel_rfl
theorem rfind_c {V : Vw} {l : List Le} {rx : Nat} {pl : Option Addr} {cl : Nat} {ql : Sg} (hl : Ow 49 8 (.slice pl l.length cl) l.length (l.flatMap Le.cells) ql) (hlm : l.length ≤ 256) {a : Int}  : Does Tryz.prog 167 [.pointer (some ⟨rx,0,none⟩),.int .u32 a] V [[(rx,.cells #[.slice pl l.length cl] 135 (0,0))],ql] (fun v V' H' => V' = V ∧ H' = [[(rx,.cells #[.slice pl l.length cl] 135 (0,0))],ql] ∧ ∃ k : Int,v = .int .i64 k ∧ (k = -1 ∧ Le.get l a = none ∨ ∃ i : Nat,k = (i : Int) ∧ i < l.length ∧ (l.getD i Le.dflt).addr = a ∧ Le.get l a = some (l.getD i Le.dflt))) := by
 have hcl := hl.cap
 refine Does.intro Tryz.func167 rfl rfl (le rfl) (fun B => ?_)
 refine Zs<|Zr<|Za Z<|Ze<|Zg<|Zs<|Zs<|Zr<|Za Z<|Ze<|Zg<|Zb<|?_
 refine ZL (X := Nat) (fun z0 => V) (fun z0 => [[(rx,.cells #[.slice pl l.length cl] 135 (0,0))],ql]) (fun z0 => [(0,.pointer (some ⟨rx,0,none⟩)),(1,.int .u32 a),(5,.int .i64 (z0 : Int))]) (fun z0 => z0 ≤ l.length ∧ ∀ j,j < z0 → (l.getD j Le.dflt).addr ≠ a) (fun z0 => l.length - z0) (0 : Nat) ⟨Nat.zero_le _,fun j hj => absurd hj (Nat.not_lt_zero j)⟩ ?_
 rintro i1 ⟨hi,hno⟩
 refine Zs<|Zs<|Zr<|Zm Z<|Zm Z<|Zv (Y.nilCheck Z)<|Zv (Y.fieldAddr Z Table4_fo135_0)<|Zv (Y.load Z Table4_ts59 (Kn.at 0 Z) Z)<|Zv (Y.lenSl Z Table4_es59)<|Zv (Y.int Z Z Z)<|Ze<|Zg<|?_
 rcases Zsplit (decide ((i1 : Int) < ((l.length : Nat) : Int))) with ⟨h1,g1⟩ | ⟨h1,g1⟩ <;> try simp only [kb] at g1
 ·refine Tr.cond_t Z h1<|Zt<|Zg<|Zs<|Zb<|Zs<|Zr<|Zm Z<|Zv (Y.nilCheck Z)<|Zv (Y.fieldAddr Z Table4_fo135_0)<|Zv (Y.load Z Table4_ts59 (Kn.at 0 Z) Z)<|Zm Z<|Zv (Y.idxR i1 Z Z Table4_es59 (hl.rd 1 rfl) W W)<|Zv (Y.fieldR Z Table4_fo49_0 (hl.rd 1 rfl) W)<|Zv (Y.ldR Z Table4_ts47 (hl.rd 1 rfl) (flatm_at Le.len W Le.dflt WD rfl))<|Zm Z<|?_
  refine Zv (Y.int Z Z Z)<|Ze<|Zg<|?_
  rcases Zsplit (((l.getD i1 Le.dflt).addr) == a) with ⟨h2,g2⟩ | ⟨h2,g2⟩ <;> try simp only [kb] at g2
  ·refine Tr.cond_t Z h2<|Zs<|Zr<|Zm Z<|Za Z<|Ze<|Zg<|Zu<|Zk<|Zn<|Zn<|Zk<|Zn<|Ex.keep [0,0]<|?_
   exact Ex.ret1 rfl rfl  ⟨rfl,rfl,_,rfl,.inr ⟨i1,rfl,by omega,by omega,Le.get_at hno W W⟩⟩
  ·refine Tr.cond_f Z h2<|Zt<|Zc<|Zg<|Zr<|Zm Z<|Zv (Y.add Z Z W)<|Za Z<|Ze<|Ex.keep [0,0]<|?_
   exact ZR (i1 + 1 : Nat) ⟨by omega,upto_succ hno W⟩ W
 ·refine Tr.cond_f Z h1<|Zx<|Zy<|Zy<|Zi<|Zg<|Zs<|Zr<|Za Z<|Ze<|Zg<|Zu<|Ex.keep [0,0]<|?_
  exact Ex.ret1 rfl rfl  ⟨rfl,rfl,_,rfl,.inl ⟨rfl,Le.get_no fun j hj => hno j W⟩⟩
theorem rget_c {V : Vw} {l : List Le} {rx : Nat} {pl : Option Addr} {cl : Nat} {ql : Sg} (hl : Ow 49 8 (.slice pl l.length cl) l.length (l.flatMap Le.cells) ql) (hlm : l.length ≤ 256) {a : Int}  : Does Tryz.prog 120 [.pointer (some ⟨rx,0,none⟩),.int .u32 a] V [[(rx,.cells #[.slice pl l.length cl] 135 (0,0))],ql] (Pv (.tuple #[.agg (Le.getE l a).1.cells.toArray,.int .i64 (Le.getE l a).2]) V [[(rx,.cells #[.slice pl l.length cl] 135 (0,0))],ql]) := by
 have hcl := hl.cap
 refine Does.intro Tryz.func120 rfl rfl (le rfl) (fun B => ?_)
 refine Zs<|Zr<|?_
 refine Run.alloc Table4_zo49 (lt rfl) (fun b1 => ?_)
 refine Za Z<|Ze<|Zg<|Zs<|Zr<|Zm Z<|Zm Z<|?_
 refine Run.call [1,1] (l := [.tmp 7,.tmp 8]) rfl rfl rfl (lt rfl) (rfind_c (a := a) hl hlm) (fun v9 V9 H9 hle9 hR => ?_)
 obtain ⟨hV,rfl,k,rfl,hk⟩ := hR; replace hV := hV.symm; subst hV
 refine Run.heapTo (H' := [[(b1,.cells #[.int .u32 0,.int .i64 0,.string ⟨#[]⟩,.int .i64 0,.int .i64 0,.int .i64 0,.int .i64 0,.int .i64 0] 49 (0,0))],[(rx,.cells #[.slice pl l.length cl] 135 (0,0))],ql]) Z<|Run.heapTo (H' := [[(b1,.cells #[.int .u32 0,.int .i64 0,.string ⟨#[]⟩,.int .i64 0,.int .i64 0,.int .i64 0,.int .i64 0,.int .i64 0] 49 (0,0))],[(rx,.cells #[.slice pl l.length cl] 135 (0,0))],ql]) Z<|?_
 refine Za Z<|Ze<|Zg<|Zs<|Zs<|Zr<|?_
 rcases hk with ⟨rfl,hg⟩ | ⟨i1,rfl,hi1,ha,hg⟩
 ·refine Zm Z<|Zv (Y.int (r := .bool true) Z Z Z)<|Ze<|Zg<|Tr.cond_t Z Z<|Zs<|Zr<|Zv (Y.buildS (l := []) Table4_zo49 Table4_pl49 Z Z)<|Run.store (s := [(b1,.cells #[.int .u32 0,.int .i64 0,.string ⟨#[]⟩,.int .i64 0,.int .i64 0,.int .i64 0,.int .i64 0,.int .i64 0] 49 (0,0))]) Z Z Table4_sz49 (i := 0) Z Z (le Z) Z Z<|Za Z<|Ze<|Zg<|Zu<|Zn<|?_
  exact Ex.retCell2 [1,1] rfl rfl rfl Table4_ag49 (Kn.at 0 rfl) rfl ⟨by unfold Le.getE; rw [hg]; rfl,rfl,rfl⟩
 ·refine Zm Z<|Zv (Y.int Z Z Z)<|Ze<|Zg<|Tr.cond_f rfl (decide_eq_false W)<|Zt<|Zg<|Zs<|Zr<|Zm Z<|Zv (Y.nilCheck Z)<|Zv (Y.fieldAddr Z Table4_fo135_0)<|Zv (Y.load Z Table4_ts59 (Kn.at 1 Z) Z)<|Zm Z<|Zv (Y.idxR i1 Z Z Table4_es59 (hl.rd 2 rfl) W W)<|Zv (Y.ldRA (vs := [.int .u32 ((l.getD i1 Le.dflt).addr),.int .i64 ((l.getD i1 Le.dflt).bind),.string ((l.getD i1 Le.dflt).client),.int .i64 ((l.getD i1 Le.dflt).till),.int .i64 ((l.getD i1 Le.dflt).acked),.int .i64 ((l.getD i1 Le.dflt).told),.int .i64 ((l.getD i1 Le.dflt).at_),.int .i64 ((l.getD i1 Le.dflt).ver)]) rfl Table4_ag49 (hl.rd 2 rfl) rfl WD (fun o ho => flatm_atA Le.len W Le.dflt o ho))<|?_
  refine Run.store (s := [(b1,.cells #[.int .u32 ((l.getD i1 Le.dflt).addr),.int .i64 ((l.getD i1 Le.dflt).bind),.string ((l.getD i1 Le.dflt).client),.int .i64 ((l.getD i1 Le.dflt).till),.int .i64 ((l.getD i1 Le.dflt).acked),.int .i64 ((l.getD i1 Le.dflt).told),.int .i64 ((l.getD i1 Le.dflt).at_),.int .i64 ((l.getD i1 Le.dflt).ver)] 49 (0,0))]) Z Z Table4_sz49 (i := 0) Z Z (le Z) Z Z<|Za Z<|Ze<|Zg<|Zu<|?_
  exact Ex.retCell2 [1,1] rfl rfl rfl Table4_ag49 (Kn.at 0 rfl) rfl ⟨by unfold Le.getE; rw [hg]; rfl,rfl,rfl⟩
theorem rset_c {V : Vw} {l : List Le} {rx : Nat} {pl : Option Addr} {cl : Nat} {ql : Sg} (hl : Ow 49 8 (.slice pl l.length cl) l.length (l.flatMap Le.cells) ql) (hlm : l.length ≤ 256) (hr : Le.Ris l) {q : Le} (hs : q.client.size ≤ 9223372036854775807)  : Does Tryz.prog 94 [.pointer (some ⟨rx,0,none⟩),.agg #[.int .u32 q.addr,.int .i64 q.bind,.string q.client,.int .i64 q.till,.int .i64 q.acked,.int .i64 q.told,.int .i64 q.at_,.int .i64 q.ver]] V [[(rx,.cells #[.slice pl l.length cl] 135 (0,0))],ql] (fun v V' H' => V' = V ∧ v = .int .i64 (Le.setE l q).1 ∧ ∃ q2,Ow 49 8 (.slice pl (Le.setE l q).2.length cl) (Le.setE l q).2.length ((Le.setE l q).2.flatMap Le.cells) q2 ∧ H' = [[(rx,.cells #[.slice pl (Le.setE l q).2.length cl] 135 (0,0))],q2]) := by
 have hcl := hl.cap
 refine Does.intro Tryz.func94 rfl rfl (le rfl) (fun B => ?_)
 refine Zs<|Zr<|?_
 refine Run.box rfl (lt rfl) (fun b1 => ?_)
 refine Za Z<|Ze<|Zg<|Zs<|Zr<|Zv (Y.loadAgg Z Table4_ag49 (Kn.at 0 Z) Z)<|Run.call0 (l := [.tmp 7]) Z Z Z (lt Z) (rright11_h (q := q) hs)<|Za Z<|Ze<|Zg<|Zs<|Zs<|Zr<|Zm Z<|Zv (Y.not Z)<|Ze<|?_
 refine Zg ?_
 rcases Zsplit (Le.right q) with ⟨h2,g2⟩ | ⟨h2,g2⟩ <;> try simp only [kb] at g2
 ·refine Tr.cond_f Z (congrArg Bool.not h2)<|Zt<|Zg<|Zs<|Zr<|Zm Z<|Zv (Y.fieldAddr Z Table4_fo49_0)<|Zv (Y.load Z Table4_ts47 (Kn.at 0 Z) Z)<|?_
  refine Run.call [1,1] (l := [.tmp 11,.tmp 13]) rfl rfl rfl (lt rfl) (rfind_c (a := q.addr) hl hlm) (fun v9 V9 H9 hle9 hR => ?_)
  obtain ⟨hV,rfl,k,rfl,hk⟩ := hR; replace hV := hV.symm; subst hV
  refine Run.heapTo (H' := [[(b1,.cells #[.int .u32 q.addr,.int .i64 q.bind,.string q.client,.int .i64 q.till,.int .i64 q.acked,.int .i64 q.told,.int .i64 q.at_,.int .i64 q.ver] 49 (0,0))],[(rx,.cells #[.slice pl l.length cl] 135 (0,0))],ql]) Z<|Run.heapTo (H' := [[(b1,.cells #[.int .u32 q.addr,.int .i64 q.bind,.string q.client,.int .i64 q.till,.int .i64 q.acked,.int .i64 q.told,.int .i64 q.at_,.int .i64 q.ver] 49 (0,0))],[(rx,.cells #[.slice pl l.length cl] 135 (0,0))],ql]) Z<|?_
  refine Za Z<|Ze<|Zg<|Zs<|Zs<|Zr<|?_
  rcases hk with ⟨rfl,hg⟩ | ⟨i1,rfl,hi1,ha,hg⟩
  ·refine Zm Z<|Zv (Y.int (r := .bool true) Z Z Z)<|Ze<|Zg<|Tr.cond_t Z Z<|Zs<|Zr<|Za Z<|Ze<|Zg<|Zu<|Zn<|Ex.keepTo (H' := [[(rx,.cells #[.slice pl l.length cl] 135 (0,0))],ql]) [1,1] Z<|?_
   exact Ex.ret1 rfl rfl  ⟨rfl,by rw [Le.setE_none h2 hg],_,by rw [Le.setE_none h2 hg]; exact hl,by rw [Le.setE_none h2 hg]⟩
  ·refine Zm Z<|Zv (Y.int Z Z Z)<|Ze<|Zg<|Tr.cond_f rfl (decide_eq_false W)<|Zt<|Zg<|Zs<|Tr.anyL [(rx,.cells #[.slice pl l.length cl] 135 (0,0)),(b1,.cells #[.int .u32 q.addr,.int .i64 q.bind,.string q.client,.int .i64 q.till,.int .i64 q.acked,.int .i64 q.told,.int .i64 q.at_,.int .i64 q.ver] 49 (0,0))] 7 Table4_mo<|RunL.pure (i := 0) rfl WK WK WK WK (fun _ _ _ h => h) (lt rfl) (KnAll.cons (Kn.at 1 rfl) (ZK 0 Z)) (fun _ => (Y.move rfl))<|?_
   refine RunL.pure (i := 1) rfl WK WK WK WK (fun _ _ _ h => h) (lt rfl) (KnAll.cons (Kn.at 1 rfl) (ZK 0 Z)) (fun _ => (Y.nilCheck rfl))<|RunL.pure (i := 2) rfl WK WK WK WK (fun _ _ _ h => h) (lt rfl) (KnAll.cons (Kn.at 1 rfl) (ZK 0 Z)) (fun _ => (Y.fieldAddr rfl Table4_fo135_0))<|RunL.take (i := 3) 0 rfl rfl WK WK WK WK (fun _ _ _ h => h) (lt rfl) (KnAll.cons (Kn.at 1 rfl) (ZK 0 Z)) (fun _ => (Y.load rfl Table4_ts59 Kn.vk1 rfl))<|?_
   refine RunL.pure (i := 4) rfl WK WK WK WK (fun _ _ _ h => h) (lt rfl) (KnAll.cons (Kn.at 1 rfl) (ZK 0 Z)) (fun _ => (Y.move rfl))<|RunL.take (i := 5) 1 rfl rfl WK WK WK WK (fun _ _ _ h => h) (lt rfl) (KnAll.cons (Kn.at 1 rfl) (ZK 0 Z)) (fun _ => (Y.loadAgg rfl Table4_ag49 Kn.vk1 rfl))<|RunL.pure (i := 6) rfl WK WK WK WK (fun _ _ _ h => h) (lt rfl) (KnAll.cons (Kn.at 1 rfl) (ZK 0 Z)) (fun _ => (Y.idxO i1 rfl rfl Table4_es59 hl W W))<|?_
   refine RunL.one (i := 7) WK rfl  ?_
   refine Run.stOA (u := q) (i := i1) (j := 2) Le.enc1 WD rfl rfl Table4_sz49 hl rfl W rfl (fun s3 ho4 => ?_)
   refine Run.heapTo (H' := [[(b1,.cells #[.int .u32 q.addr,.int .i64 q.bind,.string q.client,.int .i64 q.till,.int .i64 q.acked,.int .i64 q.told,.int .i64 q.at_,.int .i64 q.ver] 49 (0,0))],[(rx,.cells #[.slice pl l.length cl] 135 (0,0))],s3]) Z<|Ze<|Ex.anyLz Z<|RunL.done WK<|Zg<|Zs<|Zr<|Za Z<|Ze<|Zg<|Zu<|Ex.keepTo (H' := [[(rx,.cells #[.slice pl l.length cl] 135 (0,0))],s3]) [1,1] Z<|?_
   have e9 : (Le.setE l q).2 = l.set i1 q := by rw [Le.setE_ok h2 hg]; exact (Le.put_at hr hi1 ha).symm
   have n9 : (Le.setE l q).2.length = l.length := Le.setE_len l q
   exact Ex.ret1 rfl rfl  ⟨rfl,by rw [Le.setE_ok h2 hg],_,by rw [n9,e9]; exact ho4,by rw [n9]⟩
 ·refine Tr.cond_t Z (congrArg Bool.not h2)<|Zs<|Zr<|Za Z<|Ze<|Zg<|Zu<|Zn<|Ex.keepTo (H' := [[(rx,.cells #[.slice pl l.length cl] 135 (0,0))],ql]) [1,1] Z<|?_
  exact Ex.ret1 rfl rfl  ⟨rfl,by rw [Le.setE_wrong h2],_,by rw [Le.setE_wrong h2]; exact hl,by rw [Le.setE_wrong h2]⟩
theorem rnew12_c {V : Vw} {rs : List Rg} {p : Option Addr} {c : Nat} (hv : Rd V [] 2 (.slice p rs.length c) rs.length (rs.flatMap Rg.cells)) (hlm : rs.length ≤ 1000) (hok : Rg.Oks rs)  : Does Tryz.prog 71 [.slice p rs.length c] V [] (fun v V' H' => V.le V' ∧ ((Rg.pool rs).2 ≠ 0 ∧ v = .tuple #[.pointer none,.int .i64 (Rg.pool rs).2] ∧ H' = [] ∨ (Rg.pool rs).2 = 0 ∧ ∃ rx pl cl ql,v = .tuple #[.pointer (some ⟨rx,0,none⟩),.int .i64 0] ∧ Ow 49 8 (.slice pl (Le.new (Rg.adr (Rg.pool rs).1)).length cl) (Le.new (Rg.adr (Rg.pool rs).1)).length ((Le.new (Rg.adr (Rg.pool rs).1)).flatMap Le.cells) ql ∧ H' = [[(rx,.cells #[.slice pl (Le.new (Rg.adr (Rg.pool rs).1)).length cl] 135 (0,0))],ql])) := by
 refine Does.intro Tryz.func71 rfl rfl (le rfl) (fun B => ?_)
 refine Zs<|Zr<|Za Z<|Za Z<|Ze<|Zg<|Zs<|Zr<|Zm Z<|?_
 refine Run.call [] (l := [.tmp 11]) rfl rfl rfl (lt rfl) (rpool_h hv hlm hok) (fun v3 V3 H3 hle3 hR => ?_)
 obtain ⟨hle3b,rfl,w3,rfl,hp3⟩ := hR
 obtain ⟨pp,pc,rfl,_⟩ := hp3.form
 have hpl := Rg.pool_len rs
 have hpo := Rg.pool_oks hok
 refine Run.heapTo (H' := []) Z<|Run.heapTo (H' := []) Z<|Zm Z<|Zv (Y.extract Z Z)<|Zv (Y.extract Z Z)<|Za Z<|Za Z<|Ze<|Zg<|Zs<|Zs<|Zr<|Zm Z<|Zv (Y.int Z Z Z)<|Ze<|Zg<|?_
 rcases Zsplit (((Rg.pool rs).2) != 0) with ⟨h1,g1⟩ | ⟨h1,g1⟩ <;> try simp only [kb] at g1
 ·refine Tr.cond_t Z h1<|Zs<|Zr<|Zm Z<|Za Z<|Za Z<|Ze<|Zg<|Zu<|Zn<|Ex.keep []<|?_
  exact Ex.ret2 rfl rfl rfl  ⟨hle3b,.inl ⟨by omega,rfl,rfl⟩⟩
 ·refine Tr.cond_f Z h1<|Zt<|Zg<|Zs<|Zr<|?_
  have hp0 : (Rg.pool rs).2 = 0 := by omega
  obtain ⟨hcan,hcnt⟩ := Rg.pool_can hp0
  have hup := Rg.adr_up hcan
  have hce := Rg.cnt_adr hcan.1
  have hc256 : (Rg.adr (Rg.pool rs).1).length ≤ 256 := by omega
  refine Run.nilseg<|Zv (Y.buildS (l := []) Table4_zo135 Table4_pl135 Z Z)<|?_
  refine Run.box rfl (lt rfl) (fun b2 => ?_)
  refine Za Z<|Ze<|Zg<|Zs<|Zs<|Zr<|Run.keepTo (H' := [[(b2,.cells #[.slice none 0 0] 135 (0,0))],[]]) [0,0] Z<|Za Z<|Ze<|Zg<|Zb<|?_
  refine ZL (X := Nat × Option Addr × Nat × Nat × Sg) (fun z0 => V3) (fun z0 => [[(b2,.cells #[.slice z0.2.1 z0.2.2.1 z0.2.2.2.1] 135 (0,0))],z0.2.2.2.2]) (fun z0 => [(4,.slice pp (Rg.pool rs).1.length pc),(6,.pointer (some ⟨b2,0,none⟩)),(7,.int .i64 (z0.1 : Int))]) (fun z0 => Ow 49 8 (.slice z0.2.1 z0.2.2.1 z0.2.2.2.1) z0.2.2.1 ((Le.new ((Rg.adr (Rg.pool rs).1).take z0.1)).flatMap Le.cells) z0.2.2.2.2 ∧ z0.2.2.1 = (Le.new ((Rg.adr (Rg.pool rs).1).take z0.1)).length ∧ z0.1 ≤ (Rg.adr (Rg.pool rs).1).length) (fun z0 => (Rg.adr (Rg.pool rs).1).length - z0.1) (⟨0,none,0,0,[]⟩ : Nat × Option Addr × Nat × Nat × Sg) ⟨Ow.nil _ _,rfl,Nat.zero_le _⟩ ?_
  rintro ⟨i1,p1,n1,k1,q1⟩ ⟨how,hn,hi⟩
  try dsimp only at how hn hi ⊢
  have hnl : (Le.new ((Rg.adr (Rg.pool rs).1).take i1)).length = i1 := by rw [Le.new_len,List.length_take]; omega
  have hcp := how.cap
  refine Zs<|Zs<|Zr<|Zm Z<|Zm Z<|Run.call0 (l := [.tmp 21]) rfl rfl rfl (lt rfl) (rcount_h hp3.of_nil W hpo)<|Zv (Y.int Z Z Z)<|Ze<|Zg<|?_
  rcases Zsplit (decide ((i1 : Int) < (Rg.cnt (Rg.pool rs).1))) with ⟨h3,g3⟩ | ⟨h3,g3⟩ <;> try simp only [kb] at g3
  ·refine Tr.cond_t Z h3<|Zt<|Zg<|Zs<|Zb<|Zs<|Zr<|Zm Z<|Zm Z<|Run.call0 (l := [.tmp 27,.tmp 28]) rfl rfl rfl (lt rfl) (rat_h (n := (i1 : Int)) W hcan.1 hp3.of_nil W hpo)<|Zm Z<|Zv (Y.extract Z Z)<|Zv (Y.extract Z Z)<|Za Z<|?_
   have hat := Rg.at_in2 (i := i1) (show i1 < (Rg.adr (Rg.pool rs).1).length by omega)
   rw [hat]
   refine Za Z<|Ze<|Zg<|Tr.anyL [(b2,.cells #[.slice p1 n1 k1] 135 (0,0))] 11 Table4_mo<|RunL.pure (i := 0) rfl WK WK WK WK (fun _ _ _ h => h) (lt rfl) (ZK 0 Z) (fun _ => (Y.move rfl))<|RunL.pure (i := 1) rfl WK WK WK WK (fun _ _ _ h => h) (lt rfl) (ZK 0 Z) (fun _ => (Y.move rfl))<|RunL.pure (i := 2) rfl WK WK WK WK (fun _ _ _ h => h) (lt rfl) (ZK 0 Z) (fun _ => (Y.nilCheck rfl))<|?_
   refine RunL.pure (i := 3) rfl WK WK WK WK (fun _ _ _ h => h) (lt rfl) (ZK 0 Z) (fun _ => (Y.fieldAddr rfl Table4_fo135_0))<|RunL.take (i := 4) 0 rfl rfl WK WK WK WK (fun _ _ _ h => h) (lt rfl) (ZK 0 Z) (fun _ => (Y.load rfl Table4_ts59 Kn.vk1 rfl))<|RunL.pure (i := 5) rfl WK WK WK WK (fun _ _ _ h => h) (lt rfl) (ZK 0 Z) (fun _ => (Y.move rfl))<|?_
   refine RunL.one (i := 6) WK rfl  ?_
   refine Run.call0 (l := [.tmp 37,.const (.int .i64 0),.const (.int .i64 0)]) Z Z Z (lt Z) rbare_c_h<|Ze<|Ex.anyL (ZK 0 Z)<|?_
   refine RunL.one (i := 7) WK rfl  ?_
   refine Run.buildSlice (l := [(0,.tmp 38)]) (r := [.int .u32 ((Rg.adr (Rg.pool rs).1).getD i1 0),.int .i64 0,.string ⟨#[]⟩,.int .i64 0,.int .i64 0,.int .i64 0,.int .i64 0,.int .i64 0]) Table4_es59 Table4_zo49 rfl WD rfl rfl WD (lt rfl) (fun b4 => ?_)
   refine Ze<|Ex.anyL (ZK 1 Z)<|?_
   refine RunL.one (i := 8) WK rfl  ?_
   refine Run.append (n := n1) (m := 1) (xs := (Le.new ((Rg.adr (Rg.pool rs).1).take i1)).flatMap Le.cells) (ys := [.int .u32 ((Rg.adr (Rg.pool rs).1).getD i1 0),.int .i64 0,.string ⟨#[]⟩,.int .i64 0,.int .i64 0,.int .i64 0,.int .i64 0,.int .i64 0]) rfl rfl Table4_es59 Table4_zi49 WD (j := 2) rfl how (Src.of_rd Table4_es59 (Rd.one (Kn.at 0 rfl) rfl)) W W rfl (lt rfl) (fun v5 s6 ho7 hf => ?_)
   obtain ⟨p5,c5,rfl⟩ := hf
   replace ho7 := Ow.app1 (f := Le.cells) (l := Le.new ((Rg.adr (Rg.pool rs).1).take i1)) (x := (⟨(Rg.adr (Rg.pool rs).1).getD i1 0,0,⟨#[]⟩,0,0,0,0,0⟩ : Le)) ho7
   refine Ze<|Ex.anyL (ZK 1 Z)<|?_
   refine RunL.one (i := 9) WK rfl  ?_
   refine Zv (Y.nilCheck Z)<|Ze<|Ex.anyL (ZK 1 Z)<|RunL.pure (i := 10) rfl WK WK WK WK (fun _ _ _ h => h) (lt rfl) (ZK 1 Z) (fun _ => (Y.fieldAddr rfl Table4_fo135_0))<|?_
   refine RunL.one (i := 11) WK rfl  ?_
   refine Run.store (s := [(b2,.cells #[.slice p5 (n1 + 1) c5] 135 (0,0))]) Z Z Table4_sz59 (i := 1) Z Z (le Z) Z Z<|Ze<|Ex.anyLz Z<|RunL.done WK<|Zc<|Zg<|Zr<|Zm Z<|Zv (Y.add Z Z W)<|Za Z<|Ze<|Ex.keep [1,1]<|?_
   exact ZR (⟨i1 + 1,p5,(n1 + 1),c5,s6⟩ : Nat × Option Addr × Nat × Nat × Sg) ⟨by rw [Le.new_take W]; exact ho7,by rw [Le.new_take W,List.length_append,List.length_singleton]; (try dsimp only); omega,by omega⟩ (by dsimp only; omega)
  ·refine Tr.cond_f Z h3<|Zx<|Zy<|Zy<|Zi<|Zg<|Zs<|Zr<|Zm Z<|Za Z<|Za Z<|Ze<|Zg<|Zu<|?_
   obtain rfl : i1 = (Rg.adr (Rg.pool rs).1).length := by omega
   rw [List.take_length] at how hn
   refine Ex.keepTo (H' := [[(b2,.cells #[.slice p1 n1 k1] 135 (0,0))],q1]) [0,0] Z ?_
   exact Ex.ret2 rfl rfl rfl  ⟨hle3b,.inr ⟨hp0,b2,_,_,q1,rfl,by rw [← hn]; exact how,by rw [← hn]⟩⟩
end Go.Proofs.YtinkencbkcciiaaGreat
