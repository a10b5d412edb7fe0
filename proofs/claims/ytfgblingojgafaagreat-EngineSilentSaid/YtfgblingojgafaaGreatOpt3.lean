/- A table: what it tells, what is set, walked.
Conditions: as each theorem names them. -/
import Derived.Test.YtfgblingojgafaaGreatProg
import Derived.Test.YtfgblingojgafaaGreatAddr2
import Derived.Test.YtfgblingojgafaaGreatEB
import Derived.Test.YtfgblingojgafaaGreatKD
import Derived.Test.YtfgblingojgafaaGreatSortnum
import Derived.Test.YtfgblingojgafaaGreatSA
set_option linter.unusedSimpArgs false
set_option linter.unusedVariables false
set_option maxRecDepth 4000
namespace Go.Proofs.YtfgblingojgafaaGreat
open Go Go.K
attribute [local irreducible] Code.wp wpList Calls wpQuiet
theorem Table3_ag43 : aggsz Tryz.prog 43 = some 8 := by kernel_rfl
theorem Table3_mo : Tryz.prog.follows .mixedOrders = true := by kernel_rfl
theorem Table3_fo99_0 : fieldOff Tryz.prog 99 0 = some 0 := by kernel_rfl
theorem Table3_ts97 : scal Tryz.prog 97 = true := by kernel_rfl
theorem Table3_fo43_0 : fieldOff Tryz.prog 43 0 = some 0 := by kernel_rfl
theorem Table3_ts24 : scal Tryz.prog 24 = true := by kernel_rfl
theorem Table3_mt97 : mapT Tryz.prog 97 = some (.u32,24,43) := by kernel_rfl
theorem Table3_zo43 : zeroOf Tryz.prog 43 = some (.agg #[.int .u32 0,.int .i64 0,.string ⟨#[]⟩,.int .i64 0,.int .i64 0,.int .i64 0,.int .i64 0,.int .i64 0]) := by kernel_rfl
theorem Table3_sz43 : sizeT Tryz.prog 43 = some 8 := by kernel_rfl
theorem Table3_pl43 : placesS Tryz.prog 43 = some [(0,1),(1,1),(2,1),(3,1),(4,1),(5,1),(6,1),(7,1)] := by kernel_rfl
theorem Table3_zo99 : zeroOf Tryz.prog 99 = some (.agg #[.map none]) := by kernel_rfl
theorem Table3_pl99 : placesS Tryz.prog 99 = some [(0,1)] := by kernel_rfl
open Go.Sort
theorem tall1_c {q : Le} {V : Vw} : Does Tryz.prog 173 [.agg #[.int .u32 q.addr,.int .i64 q.bind,.string q.client,.int .i64 q.till,.int .i64 q.acked,.int .i64 q.told,.int .i64 q.at_,.int .i64 q.ver]] V [] (Pv (.bool true) V []) := by
 refine Does.intro Tryz.func173 rfl rfl (le rfl) (fun B => ?_)
 refine Zs<|Zr<|?_
 refine Run.box rfl (lt rfl) (fun b1 => ?_)
 refine Za Z<|Ze<|Zg<|Zs<|Zr<|Za Z<|Ze<|Zg<|Zu<|Ex.keep []<|?_
 exact Ex.ret1 rfl rfl  ⟨rfl,rfl,rfl⟩
theorem alike_c {q : Le} {V : Vw} : Does Tryz.prog 174 [.agg #[.int .u32 q.addr,.int .i64 q.bind,.string q.client,.int .i64 q.till,.int .i64 q.acked,.int .i64 q.told,.int .i64 q.at_,.int .i64 q.ver]] V [] (Pv (.int .i64 0) V []) := by
 refine Does.intro Tryz.func174 rfl rfl (le rfl) (fun B => ?_)
 refine Zs<|Zr<|?_
 refine Run.box rfl (lt rfl) (fun b1 => ?_)
 refine Za Z<|Ze<|Zg<|Zs<|Zr<|Za Z<|Ze<|Zg<|Zu<|Ex.keep []<|?_
 exact Ex.ret1 rfl rfl  ⟨rfl,rfl,rfl⟩
theorem tall_c {V : Vw} {l : List Le} {tx bm clock : Nat} {es : Array MapEntry} (hmi : MapIs .u32 (Le.mt l) es clock) (hr : Le.Ris l) (hlm : l.length ≤ 256)  : Does Tryz.prog 146 [(pZ tx)] V [[(tx,.cells #[.map (some bm)] 99 (0,0))],[(bm,.map es clock)]] (fun v V' H' => V.le V' ∧ ∃ q,Ow 43 8 v (l).length ((l).flatMap Le.cells) q ∧ H' = q :: [[(tx,.cells #[.map (some bm)] 99 (0,0))],[(bm,.map es clock)]]) := by
 refine Does.intro Tryz.func146 rfl rfl (le rfl) (fun B => ?_)
 refine Zs<|Zr<|Za Z<|Ze<|Zg<|Zs<|Zr<|Zm Z<|?_
 refine Run.call [] (l := [.tmp 3,.func 173]) rfl rfl rfl (lt rfl) (those_top (tx := tx) (fi := 173) (ci := [])) (fun v3 V2 H2 hle hR => ?_)
 obtain ⟨hV,c1,c2,rfl,rfl⟩ := hR; replace hV := hV.symm; subst hV
 refine Run.heapTo (H' := [[(tx,.cells #[.map (some bm)] 99 (0,0))],[(bm,.map es clock)],(cL 38 c1 tx),[(c2,.cells #[.func (.func 173) #[] #[]] 94 (0,0))]]) Z ?_
 refine Run.call [2,2,0,0] (l := [.tmp 4,.func 174]) rfl rfl rfl (lt rfl) (tsorted_c (gf := 187) (caps := [(pZ c1),(pZ c2)]) (fun V' hV' => those_it (fi := 173) (ci := []) (f := (fun _ => true)) hmi (fun x => tall1_c (q := x))) W (fun xs hp => by have h8 := hp.length_eq; have h9 := Le.fil_le (fun _ => true) l; omega) (gb := 174) (cb := []) (k := (fun _ => 0)) (fun V' hV' x => alike_c (q := x))) (fun v4 V4 H4 hle4 hR => ?_)
 obtain ⟨hle4b,xs4,ys4,q4,hS4,hp4,hs4,ho4,rfl⟩ := hR
 rw [Le.sorted_eq (k := (fun _ => 0)) (f := (fun _ => true)) (z := l) hr hS4 hp4 hs4 (Le.all_perm l) (Le.ris_alike hr)] at ho4
 obtain ⟨p4,k4,rfl⟩ := ho4.form
 refine Run.heapTo (H' := [q4,(cL 38 c1 tx),[(c2,.cells #[.func (.func 173) #[] #[]] 94 (0,0))],[(tx,.cells #[.map (some bm)] 99 (0,0))],[(bm,.map es clock)]]) Z<|Za Z<|Ze<|Zg<|Zu<|Ex.keepTo (H' := [q4,[(tx,.cells #[.map (some bm)] 99 (0,0))],[(bm,.map es clock)]]) [0,2,2] Z<|?_
 exact Ex.ret1 rfl rfl  ⟨hle4b,q4,ho4,rfl⟩
theorem set_t {V : Vw} {l : List Le} {tx : Nat} {vm : Value} {sm : Sg} (hm : Om .u32 vm (Le.mt l) sm) (hr : Le.Ris l) {q : Le} (hs : q.client.size ≤ 9223372036854775807)  : Does Tryz.prog 30 [(pZ tx),.agg #[.int .u32 q.addr,.int .i64 q.bind,.string q.client,.int .i64 q.till,.int .i64 q.acked,.int .i64 q.told,.int .i64 q.at_,.int .i64 q.ver]] V [[(tx,.cells #[vm] 99 (0,0))],sm] (fun v V' H' => V' = V ∧ v = .int .i64 (Le.setE l q).1 ∧ ∃ s2,Om .u32 vm (Le.mt (Le.setE l q).2) s2 ∧ H' = [[(tx,.cells #[vm] 99 (0,0))],s2]) := by
 refine Does.intro Tryz.func30 rfl rfl (le rfl) (fun B => ?_)
 refine Zs<|Zr<|?_
 refine Run.box rfl (lt rfl) (fun b1 => ?_)
 refine Za Z<|Ze<|Zg<|Zs<|Zs<|Zr<|?_
 rcases hg : Le.get l q.addr with _ | y
 ·refine Zv (Y.loadAgg Z Table3_ag43 (Kn.at 0 Z) Z)<|Run.call0 (l := [.tmp 7]) Z Z Z (lt Z) (right_h (q := q) hs)<|Zv (Y.not Z)<|Ze<|Zg<|?_
  rcases Zsplit (Le.right q) with ⟨h2,g2⟩ | ⟨h2,g2⟩ <;> try simp only [kb] at g2
  ·refine Tr.cond_f Z (congrArg Bool.not h2)<|Zt<|Zg<|Zs<|Zs<|Tr.anyD [(b1,.cells #[.int .u32 q.addr,.int .i64 q.bind,.string q.client,.int .i64 q.till,.int .i64 q.acked,.int .i64 q.told,.int .i64 q.at_,.int .i64 q.ver] 43 (0,0)),(tx,.cells #[vm] 99 (0,0))] Table3_mo<|RunD.pure (i := 0) rfl WK WK WK (fun _ _ _ h => h) (lt rfl) (KnAll.cons (Kn.at 0 rfl) (ZK 1 Z)) (fun _ => (Y.move rfl))<|?_
   refine RunD.pure (i := 1) rfl WK WK WK (fun _ _ _ h => h) (lt rfl) (KnAll.cons (Kn.at 0 rfl) (ZK 1 Z)) (fun _ => (Y.nilCheck rfl))<|RunD.pure (i := 2) rfl WK WK WK (fun _ _ _ h => h) (lt rfl) (KnAll.cons (Kn.at 0 rfl) (ZK 1 Z)) (fun _ => (Y.fieldAddr rfl Table3_fo99_0))<|RunD.take (i := 3) 1 rfl rfl WK WK WK (fun _ _ _ h => h) (lt rfl) (KnAll.cons (Kn.at 0 rfl) (ZK 1 Z)) (fun _ => (Y.load rfl Table3_ts97 Kn.vk1 rfl))<|?_
   refine RunD.pure (i := 4) rfl WK WK WK (fun _ _ _ h => h) (lt rfl) (KnAll.cons (Kn.at 0 rfl) (ZK 1 Z)) (fun _ => (Y.fieldAddr rfl Table3_fo43_0))<|RunD.take (i := 5) 0 rfl rfl WK WK WK (fun _ _ _ h => h) (lt rfl) (KnAll.cons (Kn.at 0 rfl) (ZK 1 Z)) (fun _ => (Y.load rfl Table3_ts24 Kn.vk1 rfl))<|?_
   refine RunD.two (i := 6) (j := 10) WK rfl rfl  ?_ ?_
   ·refine Zv (Y.lookup (r := .tuple #[.agg #[.int .u32 0,.int .i64 0,.string ⟨#[]⟩,.int .i64 0,.int .i64 0,.int .i64 0,.int .i64 0,.int .i64 0],.bool false]) Z Z Table3_mt97 Table3_zo43 hm (j := 2) rfl (by rw [Le.mt_get,hg]; rfl))<|Ze<|Ex.anyD (KnAll.cons (Kn.at 0 Z) (ZK 1 Z))<|RunD.pure (i := 7) rfl WK WK WK (fun _ _ _ h => h) (lt rfl) (KnAll.cons (Kn.at 0 rfl) (ZK 1 Z)) (fun _ => (Y.move rfl))<|?_
    refine RunD.pure (i := 8) rfl WK WK WK (fun _ _ _ h => h) (lt rfl) (KnAll.cons (Kn.at 0 rfl) (ZK 1 Z)) (fun _ => (Y.extract rfl rfl))<|RunD.pure (i := 9) rfl WK WK WK (fun _ _ _ h => h) (lt rfl) (KnAll.cons (Kn.at 0 rfl) (ZK 1 Z)) (fun _ => (Y.extract rfl rfl))<|?_
    refine RunD.one (i := 10) WK rfl  ?_
    refine Run.alloc Table3_zo43 (lt rfl) (fun b3 => ?_)
    refine Ze<|Ex.anyD (KnAll.cons (Kn.at 1 Z) (ZK 2 Z))<|?_
    refine RunD.one (i := 11) WK rfl  ?_
    refine Run.store (s := [(b3,.cells #[.int .u32 0,.int .i64 0,.string ⟨#[]⟩,.int .i64 0,.int .i64 0,.int .i64 0,.int .i64 0,.int .i64 0] 43 (0,0))]) Z Z Table3_sz43 (i := 0) Z Z (le Z) Z Z<|Ze<|Ex.anyD (KnAll.cons (Kn.at 1 Z) (ZK 2 Z))<|RunD.pure (i := 12) rfl WK WK WK (fun _ _ _ h => h) (lt rfl) (KnAll.cons (Kn.at 1 rfl) (ZK 2 Z)) (fun _ => (Y.assign rfl))<|RunD.done WK<|?_
    refine Zg<|Zs<|Zr<|Zm Z<|Zv (Y.not Z)<|Ze<|Zg<|Tr.cond_t Z Z<|Zs<|Zr<|Za Z<|Ze<|Zg<|Zu<|Zn<|Ex.keepTo (H' := [[(tx,.cells #[vm] 99 (0,0))],sm]) [2,2] Z<|?_
    exact Ex.ret1 rfl rfl  ⟨rfl,by rw [Le.setE_none h2 hg],_,by rw [Le.setE_none h2 hg]; exact hm,rfl⟩
   ·refine Run.alloc Table3_zo43 (lt rfl) (fun b4 => ?_)
    refine Ze<|Ex.anyD (KnAll.cons (Kn.at 1 Z) (ZK 2 Z))<|?_
    refine RunD.one (i := 6) WK rfl  ?_
    refine Zv (Y.lookup (r := .tuple #[.agg #[.int .u32 0,.int .i64 0,.string ⟨#[]⟩,.int .i64 0,.int .i64 0,.int .i64 0,.int .i64 0,.int .i64 0],.bool false]) Z Z Table3_mt97 Table3_zo43 hm (j := 3) rfl (by rw [Le.mt_get,hg]; rfl))<|Ze<|Ex.anyD (KnAll.cons (Kn.at 1 Z) (ZK 2 Z))<|RunD.pure (i := 7) rfl WK WK WK (fun _ _ _ h => h) (lt rfl) (KnAll.cons (Kn.at 1 rfl) (ZK 2 Z)) (fun _ => (Y.move rfl))<|?_
    refine RunD.pure (i := 8) rfl WK WK WK (fun _ _ _ h => h) (lt rfl) (KnAll.cons (Kn.at 1 rfl) (ZK 2 Z)) (fun _ => (Y.extract rfl rfl))<|RunD.pure (i := 9) rfl WK WK WK (fun _ _ _ h => h) (lt rfl) (KnAll.cons (Kn.at 1 rfl) (ZK 2 Z)) (fun _ => (Y.extract rfl rfl))<|?_
    refine RunD.one (i := 11) WK rfl  ?_
    refine Run.store (s := [(b4,.cells #[.int .u32 0,.int .i64 0,.string ⟨#[]⟩,.int .i64 0,.int .i64 0,.int .i64 0,.int .i64 0,.int .i64 0] 43 (0,0))]) Z Z Table3_sz43 (i := 0) Z Z (le Z) Z Z<|Ze<|Ex.anyD (KnAll.cons (Kn.at 1 Z) (ZK 2 Z))<|RunD.pure (i := 12) rfl WK WK WK (fun _ _ _ h => h) (lt rfl) (KnAll.cons (Kn.at 1 rfl) (ZK 2 Z)) (fun _ => (Y.assign rfl))<|RunD.done WK<|?_
    refine Zg<|Zs<|Zr<|Zm Z<|Zv (Y.not Z)<|Ze<|Zg<|Tr.cond_t Z Z<|Zs<|Zr<|Za Z<|Ze<|Zg<|Zu<|Zn<|Ex.keepTo (H' := [[(tx,.cells #[vm] 99 (0,0))],sm]) [2,2] Z<|?_
    exact Ex.ret1 rfl rfl  ⟨rfl,by rw [Le.setE_none h2 hg],_,by rw [Le.setE_none h2 hg]; exact hm,rfl⟩
  ·refine Tr.cond_t Z (congrArg Bool.not h2)<|Zs<|Zr<|Za Z<|Ze<|Zg<|Zu<|Zn<|Ex.keepTo (H' := [[(tx,.cells #[vm] 99 (0,0))],sm]) [1,1] Z<|?_
   exact Ex.ret1 rfl rfl  ⟨rfl,by rw [Le.setE_wrong h2],_,by rw [Le.setE_wrong h2]; exact hm,rfl⟩
 ·refine Zv (Y.loadAgg Z Table3_ag43 (Kn.at 0 Z) Z)<|Run.call0 (l := [.tmp 7]) Z Z Z (lt Z) (right_h (q := q) hs)<|Zv (Y.not Z)<|Ze<|Zg<|?_
  rcases Zsplit (Le.right q) with ⟨h5,g5⟩ | ⟨h5,g5⟩ <;> try simp only [kb] at g5
  ·refine Tr.cond_f Z (congrArg Bool.not h5)<|Zt<|Zg<|Zs<|Zs<|Tr.anyD [(b1,.cells #[.int .u32 q.addr,.int .i64 q.bind,.string q.client,.int .i64 q.till,.int .i64 q.acked,.int .i64 q.told,.int .i64 q.at_,.int .i64 q.ver] 43 (0,0)),(tx,.cells #[vm] 99 (0,0))] Table3_mo<|RunD.pure (i := 0) rfl WK WK WK (fun _ _ _ h => h) (lt rfl) (KnAll.cons (Kn.at 0 rfl) (ZK 1 Z)) (fun _ => (Y.move rfl))<|?_
   refine RunD.pure (i := 1) rfl WK WK WK (fun _ _ _ h => h) (lt rfl) (KnAll.cons (Kn.at 0 rfl) (ZK 1 Z)) (fun _ => (Y.nilCheck rfl))<|RunD.pure (i := 2) rfl WK WK WK (fun _ _ _ h => h) (lt rfl) (KnAll.cons (Kn.at 0 rfl) (ZK 1 Z)) (fun _ => (Y.fieldAddr rfl Table3_fo99_0))<|RunD.take (i := 3) 1 rfl rfl WK WK WK (fun _ _ _ h => h) (lt rfl) (KnAll.cons (Kn.at 0 rfl) (ZK 1 Z)) (fun _ => (Y.load rfl Table3_ts97 Kn.vk1 rfl))<|?_
   refine RunD.pure (i := 4) rfl WK WK WK (fun _ _ _ h => h) (lt rfl) (KnAll.cons (Kn.at 0 rfl) (ZK 1 Z)) (fun _ => (Y.fieldAddr rfl Table3_fo43_0))<|RunD.take (i := 5) 0 rfl rfl WK WK WK (fun _ _ _ h => h) (lt rfl) (KnAll.cons (Kn.at 0 rfl) (ZK 1 Z)) (fun _ => (Y.load rfl Table3_ts24 Kn.vk1 rfl))<|?_
   refine RunD.two (i := 6) (j := 10) WK rfl rfl  ?_ ?_
   ·refine Zv (Y.lookup (r := .tuple #[.agg #[.int .u32 y.addr,.int .i64 y.bind,.string y.client,.int .i64 y.till,.int .i64 y.acked,.int .i64 y.told,.int .i64 y.at_,.int .i64 y.ver],.bool true]) Z Z Table3_mt97 Table3_zo43 hm (j := 2) rfl (by rw [Le.mt_get,hg]; rfl))<|Ze<|Ex.anyD (KnAll.cons (Kn.at 0 Z) (ZK 1 Z))<|RunD.pure (i := 7) rfl WK WK WK (fun _ _ _ h => h) (lt rfl) (KnAll.cons (Kn.at 0 rfl) (ZK 1 Z)) (fun _ => (Y.move rfl))<|?_
    refine RunD.pure (i := 8) rfl WK WK WK (fun _ _ _ h => h) (lt rfl) (KnAll.cons (Kn.at 0 rfl) (ZK 1 Z)) (fun _ => (Y.extract rfl rfl))<|RunD.pure (i := 9) rfl WK WK WK (fun _ _ _ h => h) (lt rfl) (KnAll.cons (Kn.at 0 rfl) (ZK 1 Z)) (fun _ => (Y.extract rfl rfl))<|?_
    refine RunD.one (i := 10) WK rfl  ?_
    refine Run.alloc Table3_zo43 (lt rfl) (fun b6 => ?_)
    refine Ze<|Ex.anyD (KnAll.cons (Kn.at 1 Z) (ZK 2 Z))<|?_
    refine RunD.one (i := 11) WK rfl  ?_
    refine Run.store (s := [(b6,.cells #[.int .u32 y.addr,.int .i64 y.bind,.string y.client,.int .i64 y.till,.int .i64 y.acked,.int .i64 y.told,.int .i64 y.at_,.int .i64 y.ver] 43 (0,0))]) Z Z Table3_sz43 (i := 0) Z Z (le Z) Z Z<|Ze<|Ex.anyD (KnAll.cons (Kn.at 1 Z) (ZK 2 Z))<|RunD.pure (i := 12) rfl WK WK WK (fun _ _ _ h => h) (lt rfl) (KnAll.cons (Kn.at 1 rfl) (ZK 2 Z)) (fun _ => (Y.assign rfl))<|?_
    refine RunD.done WK<|Zg<|Zs<|Zr<|Zm Z<|Zv (Y.not Z)<|Ze<|Zg<|Tr.cond_f Z Z<|Zt<|Zg<|Zs<|Tr.tail 7 Table3_mo WK<|ZM Z<|ZV (Y.nilCheck Z)<|ZV (Y.fieldAddr Z Table3_fo99_0)<|?_
    refine ZV (Y.load Z Table3_ts97 (Kn.at 2 Z) Z)<|ZV (Y.fieldAddr Z Table3_fo43_0)<|ZV (Y.load Z Table3_ts24 (Kn.at 1 Z) Z)<|ZV (Y.loadAgg Z Table3_ag43 (Kn.at 1 Z) Z)<|RunQ.nil_run<|?_
    refine Run.mapUpdate 3 rfl rfl rfl Table3_mt97 hm rfl (fun s7 hm8 => ?_)
    refine Run.heapTo (H' := [[(b6,.cells #[.int .u32 y.addr,.int .i64 y.bind,.string y.client,.int .i64 y.till,.int .i64 y.acked,.int .i64 y.told,.int .i64 y.at_,.int .i64 y.ver] 43 (0,0))],[(b1,.cells #[.int .u32 q.addr,.int .i64 q.bind,.string q.client,.int .i64 q.till,.int .i64 q.acked,.int .i64 q.told,.int .i64 q.at_,.int .i64 q.ver] 43 (0,0))],[(tx,.cells #[vm] 99 (0,0))],s7]) Z<|Ze<|?_
    refine Zg<|Zs<|Zr<|Za Z<|Ze<|Zg<|Zu<|Ex.keepTo (H' := [[(tx,.cells #[vm] 99 (0,0))],s7]) [2,2] Z<|?_
    have h9 : Om .u32 vm (mset (Le.mt l) q.addr (Le.agg q)) s7 := hm8
    rw [Le.mt_put hr (by rw [hg]; simp)] at h9
    exact Ex.ret1 rfl rfl  ⟨rfl,by rw [Le.setE_ok h5 hg],_,by rw [Le.setE_ok h5 hg]; exact h9,rfl⟩
   ·refine Run.alloc Table3_zo43 (lt rfl) (fun b9 => ?_)
    refine Ze<|Ex.anyD (KnAll.cons (Kn.at 1 Z) (ZK 2 Z))<|?_
    refine RunD.one (i := 6) WK rfl  ?_
    refine Zv (Y.lookup (r := .tuple #[.agg #[.int .u32 y.addr,.int .i64 y.bind,.string y.client,.int .i64 y.till,.int .i64 y.acked,.int .i64 y.told,.int .i64 y.at_,.int .i64 y.ver],.bool true]) Z Z Table3_mt97 Table3_zo43 hm (j := 3) rfl (by rw [Le.mt_get,hg]; rfl))<|Ze<|Ex.anyD (KnAll.cons (Kn.at 1 Z) (ZK 2 Z))<|RunD.pure (i := 7) rfl WK WK WK (fun _ _ _ h => h) (lt rfl) (KnAll.cons (Kn.at 1 rfl) (ZK 2 Z)) (fun _ => (Y.move rfl))<|?_
    refine RunD.pure (i := 8) rfl WK WK WK (fun _ _ _ h => h) (lt rfl) (KnAll.cons (Kn.at 1 rfl) (ZK 2 Z)) (fun _ => (Y.extract rfl rfl))<|RunD.pure (i := 9) rfl WK WK WK (fun _ _ _ h => h) (lt rfl) (KnAll.cons (Kn.at 1 rfl) (ZK 2 Z)) (fun _ => (Y.extract rfl rfl))<|?_
    refine RunD.one (i := 11) WK rfl  ?_
    refine Run.store (s := [(b9,.cells #[.int .u32 y.addr,.int .i64 y.bind,.string y.client,.int .i64 y.till,.int .i64 y.acked,.int .i64 y.told,.int .i64 y.at_,.int .i64 y.ver] 43 (0,0))]) Z Z Table3_sz43 (i := 0) Z Z (le Z) Z Z<|Ze<|Ex.anyD (KnAll.cons (Kn.at 1 Z) (ZK 2 Z))<|RunD.pure (i := 12) rfl WK WK WK (fun _ _ _ h => h) (lt rfl) (KnAll.cons (Kn.at 1 rfl) (ZK 2 Z)) (fun _ => (Y.assign rfl))<|?_
    refine RunD.done WK<|Zg<|Zs<|Zr<|Zm Z<|Zv (Y.not Z)<|Ze<|Zg<|Tr.cond_f Z Z<|Zt<|Zg<|Zs<|Tr.tail 7 Table3_mo WK<|ZM Z<|ZV (Y.nilCheck Z)<|ZV (Y.fieldAddr Z Table3_fo99_0)<|?_
    refine ZV (Y.load Z Table3_ts97 (Kn.at 2 Z) Z)<|ZV (Y.fieldAddr Z Table3_fo43_0)<|ZV (Y.load Z Table3_ts24 (Kn.at 1 Z) Z)<|ZV (Y.loadAgg Z Table3_ag43 (Kn.at 1 Z) Z)<|RunQ.nil_run<|?_
    refine Run.mapUpdate 3 rfl rfl rfl Table3_mt97 hm rfl (fun s10 hm11 => ?_)
    refine Run.heapTo (H' := [[(b9,.cells #[.int .u32 y.addr,.int .i64 y.bind,.string y.client,.int .i64 y.till,.int .i64 y.acked,.int .i64 y.told,.int .i64 y.at_,.int .i64 y.ver] 43 (0,0))],[(b1,.cells #[.int .u32 q.addr,.int .i64 q.bind,.string q.client,.int .i64 q.till,.int .i64 q.acked,.int .i64 q.told,.int .i64 q.at_,.int .i64 q.ver] 43 (0,0))],[(tx,.cells #[vm] 99 (0,0))],s10]) Z ?_
    refine Ze<|Zg<|Zs<|Zr<|Za Z<|Ze<|Zg<|Zu<|Ex.keepTo (H' := [[(tx,.cells #[vm] 99 (0,0))],s10]) [2,2] Z<|?_
    have h9 : Om .u32 vm (mset (Le.mt l) q.addr (Le.agg q)) s10 := hm11
    rw [Le.mt_put hr (by rw [hg]; simp)] at h9
    exact Ex.ret1 rfl rfl  ⟨rfl,by rw [Le.setE_ok h5 hg],_,by rw [Le.setE_ok h5 hg]; exact h9,rfl⟩
  ·refine Tr.cond_t Z (congrArg Bool.not h5)<|Zs<|Zr<|Za Z<|Ze<|Zg<|Zu<|Zn<|Ex.keepTo (H' := [[(tx,.cells #[vm] 99 (0,0))],sm]) [1,1] Z<|?_
   exact Ex.ret1 rfl rfl  ⟨rfl,by rw [Le.setE_wrong h5],_,by rw [Le.setE_wrong h5]; exact hm,rfl⟩
theorem get_t {V : Vw} {l : List Le} {tx : Nat} {vm : Value} {sm : Sg} (hm : Om .u32 vm (Le.mt l) sm) {a : Int}  : Does Tryz.prog 18 [(pZ tx),.int .u32 a] V [[(tx,.cells #[vm] 99 (0,0))],sm] (Pv (.tuple #[.agg (Le.getE l a).1.cells.toArray,.int .i64 (Le.getE l a).2]) V [[(tx,.cells #[vm] 99 (0,0))],sm]) := by
 refine Does.intro Tryz.func18 rfl rfl (le rfl) (fun B => ?_)
 refine Zs<|Zr<|?_
 refine Run.alloc Table3_zo43 (lt rfl) (fun b1 => ?_)
 refine Za Z<|Ze<|Zg<|Zs<|Zr<|?_
 rcases hg : Le.get l a with _ | y
 ·refine Zm Z<|Zv (Y.nilCheck Z)<|Zv (Y.fieldAddr Z Table3_fo99_0)<|Zv (Y.load Z Table3_ts97 (Kn.at 1 Z) Z)<|Zm Z<|Zv (Y.lookup (r := .tuple #[.agg #[.int .u32 0,.int .i64 0,.string ⟨#[]⟩,.int .i64 0,.int .i64 0,.int .i64 0,.int .i64 0,.int .i64 0],.bool false]) Z Z Table3_mt97 Table3_zo43 hm (j := 2) rfl (by rw [Le.mt_get,hg]; rfl))<|Zm Z<|Zv (Y.extract Z Z)<|Zv (Y.extract Z Z)<|?_
  refine Run.alloc Table3_zo43 (lt rfl) (fun b2 => ?_)
  refine Run.store (s := [(b2,.cells #[.int .u32 0,.int .i64 0,.string ⟨#[]⟩,.int .i64 0,.int .i64 0,.int .i64 0,.int .i64 0,.int .i64 0] 43 (0,0))]) Z Z Table3_sz43 (i := 0) Z Z (le Z) Z Z<|Za Z<|Ze<|Zg<|Zs<|Zs<|Zr<|Zm Z<|Zv (Y.not Z)<|Ze<|Zg<|Tr.cond_t Z Z<|Zs<|Zr<|Zv (Y.buildS (l := []) Table3_zo43 Table3_pl43 Z Z)<|Run.store (s := [(b1,.cells #[.int .u32 0,.int .i64 0,.string ⟨#[]⟩,.int .i64 0,.int .i64 0,.int .i64 0,.int .i64 0,.int .i64 0] 43 (0,0))]) Z Z Table3_sz43 (i := 1) Z Z (le Z) Z Z<|?_
  refine Za Z<|Ze<|Zg<|Zu<|Zn<|?_
  exact Ex.retCell2 [2,2] rfl rfl rfl Table3_ag43 (Kn.at 1 rfl) rfl ⟨by unfold Le.getE; rw [hg]; rfl,rfl,rfl⟩
 ·refine Zm Z<|Zv (Y.nilCheck Z)<|Zv (Y.fieldAddr Z Table3_fo99_0)<|Zv (Y.load Z Table3_ts97 (Kn.at 1 Z) Z)<|Zm Z<|Zv (Y.lookup (r := .tuple #[.agg #[.int .u32 y.addr,.int .i64 y.bind,.string y.client,.int .i64 y.till,.int .i64 y.acked,.int .i64 y.told,.int .i64 y.at_,.int .i64 y.ver],.bool true]) Z Z Table3_mt97 Table3_zo43 hm (j := 2) rfl (by rw [Le.mt_get,hg]; rfl))<|Zm Z<|Zv (Y.extract Z Z)<|Zv (Y.extract Z Z)<|?_
  refine Run.alloc Table3_zo43 (lt rfl) (fun b3 => ?_)
  refine Run.store (s := [(b3,.cells #[.int .u32 y.addr,.int .i64 y.bind,.string y.client,.int .i64 y.till,.int .i64 y.acked,.int .i64 y.told,.int .i64 y.at_,.int .i64 y.ver] 43 (0,0))]) Z Z Table3_sz43 (i := 0) Z Z (le Z) Z Z<|Za Z<|Ze<|Zg<|Zs<|Zs<|Zr<|Zm Z<|Zv (Y.not Z)<|Ze<|Zg<|Tr.cond_f Z Z<|Zt<|Zg<|Zs<|Zr<|?_
  refine Zv (Y.loadAgg Z Table3_ag43 (Kn.at 0 Z) Z)<|Run.store (s := [(b1,.cells #[.int .u32 y.addr,.int .i64 y.bind,.string y.client,.int .i64 y.till,.int .i64 y.acked,.int .i64 y.told,.int .i64 y.at_,.int .i64 y.ver] 43 (0,0))]) Z Z Table3_sz43 (i := 1) Z Z (le Z) Z Z<|Za Z<|Ze<|Zg<|Zu<|?_
  exact Ex.retCell2 [2,2] rfl rfl rfl Table3_ag43 (Kn.at 1 rfl) rfl ⟨by unfold Le.getE; rw [hg]; rfl,rfl,rfl⟩
theorem new_t {V : Vw} {rs : List Rg} {p : Option Addr} {c : Nat} (hv : Rd V [] 2 (.slice p rs.length c) rs.length (rs.flatMap Rg.cells)) (hlm : rs.length ≤ 1000) (hok : Rg.Oks rs)  : Does Tryz.prog 28 [.slice p rs.length c] V [] (fun v V' H' => V.le V' ∧ ((Rg.pool rs).2 ≠ 0 ∧ v = .tuple #[.pointer none,.int .i64 (Rg.pool rs).2] ∧ H' = [] ∨ (Rg.pool rs).2 = 0 ∧ ∃ tx s,v = .tuple #[(pZ tx),.int .i64 0] ∧ Le.In 99 (Le.new (Rg.adr (Rg.pool rs).1)) tx s ∧ H' = [s])) := by
 refine Does.intro Tryz.func28 rfl rfl (le rfl) (fun B => ?_)
 refine Zs<|Zr<|Za Z<|Za Z<|Ze<|Zg<|Zs<|Zr<|Zm Z<|?_
 refine Run.call [] (l := [.tmp 11]) rfl rfl rfl (lt rfl) (pool_h hv hlm hok) (fun v3 V3 H3 hle3 hR => ?_)
 obtain ⟨hle3b,rfl,w3,rfl,hp3⟩ := hR
 obtain ⟨pp,pc,rfl,_⟩ := hp3.form
 have hpl := Rg.pool_len rs
 have hpo := Rg.pool_oks hok
 refine Run.heapTo (H' := []) Z<|Run.heapTo (H' := []) Z<|Zm Z<|Zv (Y.extract Z Z)<|Zv (Y.extract Z Z)<|Za Z<|Za Z<|Ze<|Zg<|Zs<|Zs<|Zr<|Zm Z<|Zv (Y.int Z Z Z)<|Ze<|Zg<|?_
 rcases Zsplit (((Rg.pool rs).2) != 0) with ⟨h1,g1⟩ | ⟨h1,g1⟩ <;> try simp only [kb] at g1
 ·refine Tr.cond_t Z h1<|Zs<|Zr<|Zm Z<|Za Z<|Za Z<|Ze<|Zg<|Zu<|Zn<|Ex.keep []<|?_
  exact Ex.ret2 rfl rfl rfl  ⟨hle3b,.inl ⟨by omega,rfl,rfl⟩⟩
 ·refine Tr.cond_f Z h1<|Zt<|Zg<|Zs<|Zr<|?_
  refine Run.makeMap .u32 (lt rfl) (fun v2 s3 hm4 => ?_)
  obtain ⟨b5,rfl⟩ := hm4.form
  refine Zv (Y.buildS (l := [(0,.tmp 18)]) Table3_zo99 Table3_pl99 Z Z) ?_
  refine Run.box rfl (lt rfl) (fun b6 => ?_)
  refine Za Z<|Ze<|Zg<|Zs<|Zs<|Zr<|Run.keepTo (H' := [[(b6,.cells #[.map (some b5)] 99 (0,0))],s3]) [0,0] Z<|Zm Z<|?_
  have hp0 : (Rg.pool rs).2 = 0 := by omega
  obtain ⟨hcan,hcnt⟩ := Rg.pool_can hp0
  have hup := Rg.adr_up hcan
  have hce := Rg.cnt_adr hcan.1
  have hc256 : (Rg.adr (Rg.pool rs).1).length ≤ 256 := by omega
  refine Run.call0 (l := [.tmp 21]) rfl rfl rfl (lt rfl) (count_h hp3.of_nil W hpo)<|Run.heapTo (H' := [[(b6,.cells #[.map (some b5)] 99 (0,0))],s3]) Z<|Zm Z<|Ze<|Zg<|Zb<|?_
  refine ZL (X := Nat × Sg) (fun z0 => V3) (fun z0 => [[(b6,.cells #[.map (some b5)] 99 (0,0))],z0.2]) (fun z0 => [(4,.slice pp (Rg.pool rs).1.length pc),(6,(pZ b6)),(22,.int .i64 (Rg.cnt (Rg.pool rs).1)),(23,.int .i64 (z0.1 : Int))]) (fun z0 => Om .u32 (.map (some b5)) (Le.mt (Le.new ((Rg.adr (Rg.pool rs).1).take z0.1))) z0.2 ∧ z0.1 ≤ (Rg.adr (Rg.pool rs).1).length) (fun z0 => (Rg.adr (Rg.pool rs).1).length - z0.1) (⟨0,s3⟩ : Nat × Sg) ⟨hm4,Nat.zero_le _⟩ ?_
  rintro ⟨i1,s1⟩ ⟨hm1,hi⟩
  try dsimp only at hm1 hi ⊢
  refine Zs<|Zr<|Zv (Y.int Z Z Z)<|Ze<|Zg<|Zs<|?_
  rcases Zsplit (decide ((i1 : Int) < (Rg.cnt (Rg.pool rs).1))) with ⟨h7,g7⟩ | ⟨h7,g7⟩ <;> try simp only [kb] at g7
  ·refine Tr.cond_t Z h7<|Zt<|Zg<|Zs<|Zb<|Zs<|Zr<|Zm Z<|Za Z<|Ze<|Zg<|Zs<|Zr<|Zm Z<|Zm Z<|Run.call0 (l := [.tmp 27,.tmp 28]) rfl rfl rfl (lt rfl) (at_h (n := (i1 : Int)) hp3 W hpo)<|?_
   refine Zm Z<|Zv (Y.extract Z Z)<|Zv (Y.extract Z Z)<|Za Z<|Za Z<|Ze<|Zg<|Tr.tail 7 Table3_mo WK<|?_
   have hat := Rg.at_in2 (i := i1) (show i1 < (Rg.adr (Rg.pool rs).1).length by omega)
   rw [hat]
   refine ZM Z<|ZV (Y.nilCheck Z)<|ZV (Y.fieldAddr Z Table3_fo99_0)<|ZV (Y.load Z Table3_ts97 (Kn.at 0 Z) Z)<|ZM Z<|ZM Z<|RunQ.call0 (l := [.tmp 37,.const (.int .i64 0),.const (.int .i64 0)]) Z Z Z (lt Z) bare_c_h<|RunQ.nil_run<|?_
   refine Run.mapUpdate 1 rfl rfl rfl Table3_mt97 hm1 rfl (fun s8 hm9 => ?_)
   refine Run.heapTo (H' := [[(b6,.cells #[.map (some b5)] 99 (0,0))],s8]) Z<|Ze<|Zc<|Zg<|Zr<|Zv (Y.add Z Z W)<|Zm Z<|Ze<|?_
   have h9 : Om .u32 (.map (some b5)) (mset (Le.mt (Le.new ((Rg.adr (Rg.pool rs).1).take i1))) ((Rg.adr (Rg.pool rs).1).getD i1 0) (Le.agg (Le.bare ((Rg.adr (Rg.pool rs).1).getD i1 0) 0 0))) s8 := hm9
   rw [Le.new_set hup W] at h9
   refine Ex.keep [0,0] ?_
   exact ZR (⟨i1 + 1,s8⟩ : Nat × Sg) ⟨h9,by omega⟩ (by dsimp only; omega)
  ·refine Tr.cond_f Z h7<|Zx<|Zy<|Zy<|Zi<|Zg<|Zs<|Zr<|Zm Z<|Za Z<|Za Z<|Ze<|Zg<|Zu<|?_
   obtain rfl : i1 = (Rg.adr (Rg.pool rs).1).length := by omega
   rw [List.take_length] at hm1
   refine Ex.keepTo (H' := [[(b6,.cells #[.map (some b5)] 99 (0,0))],s1]) [0,0] Z<|Ex.recut (H' := [([[(b6,.cells #[.map (some b5)] 99 (0,0))],s1] : Hp).flatten]) (one_piece _)<|?_
   exact Ex.ret2 rfl rfl rfl  ⟨hle3b,.inr ⟨hp0,b6,_,rfl,⟨Le.new_ris hup,by rw [Le.new_len]; exact hc256,_,_,hm1,rfl⟩,rfl⟩⟩
end Go.Proofs.YtfgblingojgafaaGreat
namespace Go.Proofs.YtfgblingojgafaaGreat
open Go Go.K
attribute [local irreducible] Code.wp wpList Calls wpQuiet
theorem set_o {V : Vw} {l : List Le} {tx : Nat} {s : Sg} (hin : Le.In 99 l tx s) {q : Le} (hs : q.client.size ≤ 9223372036854775807) : Does Tryz.prog 30 [(pZ tx),.agg q.cells.toArray] V [s] (fun v V' H' => V' = V ∧ v = .int .i64 (Le.setE l q).1 ∧ ∃ s2,Le.In 99 (Le.setE l q).2 tx s2 ∧ H' = [s2]) := by
  obtain ⟨hr,hlm,vm,sm,hm,rfl⟩ := hin
  exact (set_t hm hr hs).one.outcut fun v V' H' ⟨hV,hv,s2,h2,hH⟩ => ⟨[H'.flatten],one_piece H',hV,hv,_,⟨Le.setE_ris hr q,by rw [Le.setE_len]; exact hlm,_,s2,h2,by rw [hH]⟩,rfl⟩
theorem get_o {V : Vw} {l : List Le} {tx : Nat} {s : Sg} (hin : Le.In 99 l tx s) {a : Int} : Does Tryz.prog 18 [(pZ tx),.int .u32 a] V [s] (Pv (.tuple #[.agg (Le.getE l a).1.cells.toArray,.int .i64 (Le.getE l a).2]) V [s]) := by
  obtain ⟨hr,hlm,vm,sm,hm,rfl⟩ := hin
  exact (get_t hm).one.outcut fun v V' H' ⟨hv,hV,hH⟩ => ⟨_,by rw [hH]; exact one_piece _,hv,hV,rfl⟩
theorem all_o {V : Vw} {l : List Le} {tx : Nat} {s : Sg} (hin : Le.In 99 l tx s) : Does Tryz.prog 146 [(pZ tx)] V [s] (fun v V' H' => V' = V ∧ ∃ q,Ow 43 8 v (l).length ((l).flatMap Le.cells) q ∧ H' = [q,s]) := by
  obtain ⟨hr,hlm,vm,sm,hm,rfl⟩ := hin
  obtain ⟨bm,es,clock,rfl,rfl,hmi⟩ := hm
  exact ((tall_c hmi hr hlm).one.outcut (R' := fun v V' H' => ∃ q,_ ∧ H' = [q,_]) fun v V' H' ⟨hV,q,hO,hH⟩ => ⟨[q,_],by rw [hH]; exact two_piece q _,q,hO,rfl⟩).forget fun v V' H' _ h => ⟨rfl,h⟩
end Go.Proofs.YtfgblingojgafaaGreat
namespace Go.Proofs.YtfgblingojgafaaGreat
open Go Go.K
attribute [local irreducible] Code.wp wpList Calls wpQuiet
theorem Opt_sl25 : sliceT Tryz.prog 25 = true := by kernel_rfl
theorem Opt_es25 : elemS Tryz.prog 25 = some (5,1) := by kernel_rfl
theorem Opt_zi5 : zeroInfo Tryz.prog 5 = some (1,1,.int .u8 0) := by kernel_rfl
theorem Opt_fo81_0 : fieldOff Tryz.prog 81 0 = some 0 := by kernel_rfl
theorem Opt_ts3 : scal Tryz.prog 3 = true := by kernel_rfl
theorem Opt_fo81_1 : fieldOff Tryz.prog 81 1 = some 1 := by kernel_rfl
theorem Opt_ts25 : scal Tryz.prog 25 = true := by kernel_rfl
theorem Opt_es26 : elemS Tryz.prog 26 = some (81,2) := by kernel_rfl
theorem Opt_ag81 : aggsz Tryz.prog 81 = some 2 := by kernel_rfl
theorem Opt_zo81 : zeroOf Tryz.prog 81 = some (.agg #[.int .i64 0,.slice none 0 0]) := by kernel_rfl
theorem Opt_sz81 : sizeT Tryz.prog 81 = some 2 := by kernel_rfl
theorem Opt_mo : Tryz.prog.follows .mixedOrders = true := by kernel_rfl
theorem Opt_it3_5 : intT Tryz.prog 3 5 = some .u8 := by kernel_rfl
theorem Opt_zo5 : zeroOf Tryz.prog 5 = some (.int .u8 0) := by kernel_rfl
theorem Opt_fo28_9 : fieldOff Tryz.prog 28 9 = some 9 := by kernel_rfl
theorem Opt_ts26 : scal Tryz.prog 26 = true := by kernel_rfl
theorem Opt_fo28_0 : fieldOff Tryz.prog 28 0 = some 0 := by kernel_rfl
theorem Opt_fo28_8 : fieldOff Tryz.prog 28 8 = some 8 := by kernel_rfl
theorem Opt_fo28_2 : fieldOff Tryz.prog 28 2 = some 2 := by kernel_rfl
theorem Opt_fo28_3 : fieldOff Tryz.prog 28 3 = some 3 := by kernel_rfl
theorem clone_c {V : Vw} {bs : List UInt8} {pb : Option Addr} {cb : Nat} (hvb : Rd V [] 1 (.slice pb bs.length cb) bs.length (bs.map byteV)) (hl : bs.length ≤ 1000000)  : Does Tryz.prog 70 [.slice pb bs.length cb] V [] (fun u V' H' => V' = V ∧ ∃ s',H' = [s'] ∧ Ow 5 1 u bs.length (bs.map byteV) s') := by
 refine Does.intro Tryz.func70 rfl rfl (le rfl) (fun B => ?_)
 refine Zs<|Zr<|Za Z<|Ze<|Zg<|Zs<|Zs<|Zr<|Zm Z<|Zv (Y.eqNilS Z Z Opt_sl25)<|Ze<|Zg<|?_
 rcases Zsplit (Option.isNone pb) with ⟨h1,g1⟩ | ⟨h1,g1⟩ <;> try simp only [kb] at g1
 ·refine Tr.cond_t Z h1<|Zs<|Zr<|Run.nilseg<|Za Z<|Ze<|Zg<|Zu<|Zn<|?_
  obtain rfl : pb = none := by simpa using h1
  obtain rfl : bs = [] := List.eq_nil_of_length_eq_zero hvb.none
  exact Ex.ret1 rfl rfl  ⟨rfl,[],rfl,Ow.nil _ _⟩
 ·refine Tr.cond_f Z h1<|Zt<|Zg<|Zs<|Zr<|?_
  refine Run.buildSlice0 Opt_es25 (lt rfl) (fun b2 => ?_)
  refine Zm Z ?_
  refine Run.append (n := 0) (m := bs.length) (xs := []) (ys := bs.map byteV) rfl rfl Opt_es25 Opt_zi5 WD (j := 0) rfl (Ow.lit (cur := #[]) rfl WD) (Src.of_rd Opt_es25 hvb.of_nil) W W (all_one_bytes _) (lt rfl) (fun v3 s4 ho5 hf => ?_)
  obtain ⟨p3,c3,rfl⟩ := hf
  refine Za Z<|Ze<|Zg<|Zu<|?_
  exact Ex.ret1 rfl rfl  ⟨rfl,_,rfl,by have h := ho5; simpa using h⟩
theorem clone_h {V : Vw} {v : Value} {bs : List UInt8} (hv : Rd V [] 1 v bs.length (bs.map byteV)) (hl : bs.length ≤ 1000000) : Does Tryz.prog 70 [v] V [] (fun u V' H' => V' = V ∧ ∃ s',H' = [s'] ∧ Ow 5 1 u bs.length (bs.map byteV) s') := by
  obtain ⟨p,c,rfl,_⟩ := hv.form
  exact clone_c hv hl
theorem oodd_c {V : Vw} {code : Int} {d : List UInt8} {pd : Option Addr} {cd : Nat} (hvd : Rd V [] 1 (.slice pd d.length cd) d.length (d.map byteV))  : Does Tryz.prog 116 [.agg #[.int .i64 code,.slice pd d.length cd]] V [] (Pv (.bool (Oc.odd ⟨code,d⟩)) V []) := by
 refine Does.intro Tryz.func116 rfl rfl (le rfl) (fun B => ?_)
 refine Zs<|Zr<|?_
 refine Run.box rfl (lt rfl) (fun b1 => ?_)
 refine Za Z<|Ze<|Zg<|Zs<|Zr<|Zv (Y.fieldAddr Z Opt_fo81_0)<|Zv (Y.load Z Opt_ts3 (Kn.at 0 Z) Z)<|Zv (Y.int Z Z Z)<|Zm Z<|?_
 rcases Zsplit (decide (code ≤ 0)) with ⟨h2,g2⟩ | ⟨h2,g2⟩ <;> try simp only [kb] at g2
 ·refine Zo h2 Z<|Zo h2 Z<|Zo h2 Z<|Zv (Y.pick_t Z h2 Z)<|Zm Z<|Zo Z Z<|Zo Z Z<|Zo Z Z<|Zo Z Z<|Zv (Y.pick_t Z Z Z)<|Za Z<|Ze<|Zg<|Zu<|Ex.keep []<|?_
  exact Ex.ret1 rfl rfl  ⟨by unfold Oc.odd; simp only [h2,Bool.false_or,Bool.true_or],rfl,rfl⟩
 ·refine Zp h2<|Zv (Y.fieldAddr Z Opt_fo81_0)<|Zp h2<|Zv (Y.load Z Opt_ts3 (Kn.at 0 Z) Z)<|Zp h2<|Zv (Y.int Z Z Z)<|Zv (Y.pick_f Z h2 Z)<|Zm Z<|?_
  rcases Zsplit (decide (code ≥ 255)) with ⟨h3,g3⟩ | ⟨h3,g3⟩ <;> try simp only [kb] at g3
  ·refine Zo h3 Z<|Zo h3 Z<|Zo h3 Z<|Zo h3 Z<|Zv (Y.pick_t Z h3 Z)<|Za Z<|Ze<|Zg<|Zu<|Ex.keep []<|?_
   exact Ex.ret1 rfl rfl  ⟨by unfold Oc.odd; simp only [h2,h3,Bool.false_or,Bool.true_or],rfl,rfl⟩
  ·refine Zp h3<|Zv (Y.fieldAddr Z Opt_fo81_1)<|Zp h3<|Zv (Y.load Z Opt_ts25 (Kn.at 0 Z) Z)<|Zp h3<|Zv (Y.lenSl Z Opt_es25)<|Zp h3<|Zv (Y.int Z Z Z)<|Zv (Y.pick_f Z h3 Z)<|Za Z<|Ze<|Zg<|Zu<|Ex.keep []<|?_
   exact Ex.ret1 rfl rfl  ⟨by unfold Oc.odd; simp only [h2,h3,Bool.false_or,Bool.true_or],rfl,rfl⟩
theorem odd_h {V : Vw} {H : Hp} {v : Value} {code : Int} {d : List UInt8} (hv : Rd V [] 1 v d.length (d.map byteV)) : Does Tryz.prog 116 [.agg #[.int .i64 code,v]] V H (Pv (.bool (Oc.odd ⟨code,d⟩)) V H) := by
  obtain ⟨p,c,rfl,_⟩ := hv.form
  exact (oodd_c hv).frame
theorem ois_c {V : Vw} {H : Hp} {bc : Nat} {code k : Int} {v : Value} (hk : Kn V H bc (.cells #[.int .i64 code] 3 (0,0))) {d : List UInt8} : Does Tryz.prog 150 [.agg #[.int .i64 k,v],(pZ bc)] V H (Pv (.bool (Oc.is code ⟨k,d⟩)) V H) := by
 refine Does.intro Tryz.func150 rfl rfl (le rfl) (fun B => ?_)
 refine Zs<|Zr<|?_
 refine Run.box rfl (lt rfl) (fun b1 => ?_)
 refine Za Z<|Ze<|Zg<|Zs<|Zr<|Zv (Y.fieldAddr Z Opt_fo81_0)<|Zv (Y.load Z Opt_ts3 (Kn.at 0 Z) Z)<|Zv (Y.load Z Opt_ts3 hk.cons Z)<|Zv (Y.int Z Z Z)<|Za Z<|Ze<|Zg<|Zu<|Ex.drop<|?_
 exact Ex.ret1 rfl rfl  ⟨rfl,rfl,rfl⟩
theorem ixodd_c {V : Vw} {L : List Opn} {po : Option Addr} {co : Nat} (ho : Rd V [] 2 (.slice po L.length co) L.length (L.map Opn.cells).flatten) (hr : Opn.Rds V L) (hL : L.length ≤ 1000000)  : Does Tryz.prog 106 [.slice po L.length co,.func (.func 116) #[] #[]] V [] (Pv (.int .i64 (Oc.ix Oc.odd (L.map Opn.c))) V []) := by
 refine Does.intro Tryz.func106 rfl rfl (le rfl) (fun B => ?_)
 refine Zs<|Zr<|Za Z<|Ze<|Zg<|Zs<|Zs<|Zr<|Zm Z<|Zv (Y.lenSl Z Opt_es26)<|Zm Z<|Ze<|Zg<|Zb<|?_
 refine ZL (X := Nat) (fun i => V) (fun i => []) (fun i => [(0,.slice po L.length co),(1,.func (.func 116) #[] #[]),(7,.int .i64 ((L.length : Nat) : Int)),(8,.int .i64 (i : Int))]) (fun i => i ≤ L.length ∧ ∀ j,j < i → Oc.odd (L.getD j Opn.dflt).c = false) (fun i => L.length - i) 0 ⟨Nat.zero_le _,fun j hj => absurd hj (Nat.not_lt_zero j)⟩ ?_
 rintro i ⟨hi,hin⟩
 refine Zs<|Zr<|Zv (Y.int Z Z Z)<|Ze<|Zg<|Zs<|?_
 rcases Zsplit (decide ((i : Int) < ((L.length : Nat) : Int))) with ⟨h1,g1⟩ | ⟨h1,g1⟩ <;> try simp only [kb] at g1
 ·obtain ⟨b,off,c2,cs,e,fz,hw,hc,hko,hcs⟩ := ho.opened W
  obtain ⟨rfl,rfl⟩ : po = some ⟨b,off,none⟩ ∧ co = c2 := by cases hw; exact ⟨rfl,rfl⟩
  clear hw
  have hrow := row_at (f := Opn.cells) Opn.len hcs (i := i) W (Nat.le_refl _) Opn.dflt
  have hmem := getD_mem (l := L) (j := i) W Opn.dflt
  generalize hoe : L.getD i Opn.dflt = o at *
  have hro := hr o hmem
  obtain ⟨pd,cd,hov,_⟩ := hro.form
  rw [hov] at hro
  have hrow2 : ∀ j,j < 2 → cs[off + ((i : Nat) : Int).toNat * 2 + j]? = ([.int .i64 o.code,.slice pd o.d.length cd] : List Value)[j]? := fun j hj => by rw [hrow j hj]; simp only [Opn.cells,hov]
  refine Tr.cond_t Z h1<|Zt<|Zg<|Zs<|Zb<|Zs<|Zr<|Zm Z<|Za Z<|Ze<|Zg<|Zs<|Zr<|Zm Z<|Zm Z<|Zm Z<|?_
  refine Zv (Y.idxAddr Z Z Opt_es26 W W)<|Zv (Y.loadAgg Z Opt_ag81 hko.of_nil (cellsAt_of [.int .i64 o.code,.slice pd o.d.length cd] _ hrow2))<|Run.call0 (l := [.tmp 15]) Z Z Z (lt Z) (odd_h hro)<|Ze<|Zg<|?_
  rcases Zsplit (Oc.odd ⟨o.code,o.d⟩) with ⟨h2,g2⟩ | ⟨h2,g2⟩ <;> try simp only [kb] at g2
  ·refine Tr.cond_t Z h2<|Zs<|Zr<|Zm Z<|Za Z<|Ze<|Zg<|Zu<|Zk<|Zn<|Zn<|Zk<|Zn<|?_
   exact Ex.ret1 rfl rfl  ⟨by rw [Oc.ixL_at (q := Oc.odd) hin W (by rw [hoe]; exact h2)],rfl,rfl⟩
  ·refine Tr.cond_f Z h2<|Zt<|Zc<|Zg<|Zr<|Zv (Y.add Z Z W)<|Zm Z<|Ze<|?_
   exact ZR (i + 1) ⟨by omega,upto hin (by rw [hoe]; exact h2)⟩ W
 ·refine Tr.cond_f Z h1<|Zx<|Zy<|Zy<|Zi<|Zg<|Zs<|Zr<|Za Z<|Ze<|Zg<|Zu<|?_
  exact Ex.ret1 rfl rfl  ⟨by rw [Oc.ixL_none (q := Oc.odd) (fun j hj => hin j W)],rfl,rfl⟩
theorem ixodd_h {V : Vw} {H : Hp} {v : Value} {L : List Opn} (hv : Rd V [] 2 v L.length (L.map Opn.cells).flatten) (hr : Opn.Rds V L) (hL : L.length ≤ 1000000) : Does Tryz.prog 106 [v,.func (.func 116) #[] #[]] V H (Pv (.int .i64 (Oc.ix Oc.odd (L.map Opn.c))) V H) := by
  obtain ⟨p,c,rfl,_⟩ := hv.form
  exact (ixodd_c hv hr hL).frame
theorem ixis_c {V : Vw} {L : List Opn} {po : Option Addr} {co : Nat} (ho : Rd V [] 2 (.slice po L.length co) L.length (L.map Opn.cells).flatten) (hr : Opn.Rds V L) (hL : L.length ≤ 1000000) {H : Hp} {bc : Nat} {code : Int} (hk : Kn V H bc (.cells #[.int .i64 code] 3 (0,0)))  : Does Tryz.prog 106 [.slice po L.length co,.func (.func 150) #[] #[(pZ bc)]] V H (Pv (.int .i64 (Oc.ix (Oc.is code) (L.map Opn.c))) V H) := by
 refine Does.intro Tryz.func106 rfl rfl (le rfl) (fun B => ?_)
 refine Zs<|Zr<|Za Z<|Ze<|Zg<|Zs<|Zs<|Zr<|Zm Z<|Zv (Y.lenSl Z Opt_es26)<|Zm Z<|Ze<|Zg<|Zb<|?_
 refine ZL (X := Nat) (fun i => V) (fun i => H) (fun i => [(0,.slice po L.length co),(1,.func (.func 150) #[] #[(pZ bc)]),(7,.int .i64 ((L.length : Nat) : Int)),(8,.int .i64 (i : Int))]) (fun i => i ≤ L.length ∧ ∀ j,j < i → (Oc.is code) (L.getD j Opn.dflt).c = false) (fun i => L.length - i) 0 ⟨Nat.zero_le _,fun j hj => absurd hj (Nat.not_lt_zero j)⟩ ?_
 rintro i ⟨hi,hin⟩
 refine Zs<|Zr<|Zv (Y.int Z Z Z)<|Ze<|Zg<|Zs<|?_
 rcases Zsplit (decide ((i : Int) < ((L.length : Nat) : Int))) with ⟨h1,g1⟩ | ⟨h1,g1⟩ <;> try simp only [kb] at g1
 ·obtain ⟨b,off,c2,cs,e,fz,hw,hc,hko,hcs⟩ := ho.opened W
  obtain ⟨rfl,rfl⟩ : po = some ⟨b,off,none⟩ ∧ co = c2 := by cases hw; exact ⟨rfl,rfl⟩
  clear hw
  have hrow := row_at (f := Opn.cells) Opn.len hcs (i := i) W (Nat.le_refl _) Opn.dflt
  have hmem := getD_mem (l := L) (j := i) W Opn.dflt
  generalize hoe : L.getD i Opn.dflt = o at *
  have hro := hr o hmem
  obtain ⟨pd,cd,hov,_⟩ := hro.form
  rw [hov] at hro
  have hrow2 : ∀ j,j < 2 → cs[off + ((i : Nat) : Int).toNat * 2 + j]? = ([.int .i64 o.code,.slice pd o.d.length cd] : List Value)[j]? := fun j hj => by rw [hrow j hj]; simp only [Opn.cells,hov]
  refine Tr.cond_t Z h1<|Zt<|Zg<|Zs<|Zb<|Zs<|Zr<|Zm Z<|Za Z<|Ze<|Zg<|Zs<|Zr<|Zm Z<|Zm Z<|Zm Z<|?_
  refine Zv (Y.idxAddr Z Z Opt_es26 W W)<|Zv (Y.loadAgg Z Opt_ag81 hko.of_nil (cellsAt_of [.int .i64 o.code,.slice pd o.d.length cd] _ hrow2))<|Run.call0 (l := [.tmp 15]) Z Z Z (lt Z) (ois_c (d := o.d) hk)<|Ze<|Zg<|?_
  rcases Zsplit (Oc.is code ⟨o.code,o.d⟩) with ⟨h2,g2⟩ | ⟨h2,g2⟩ <;> try simp only [kb] at g2
  ·refine Tr.cond_t Z h2<|Zs<|Zr<|Zm Z<|Za Z<|Ze<|Zg<|Zu<|Zk<|Zn<|Zn<|Zk<|Zn<|?_
   exact Ex.ret1 rfl rfl  ⟨by rw [Oc.ixL_at (q := (Oc.is code)) hin W (by rw [hoe]; exact h2)],rfl,rfl⟩
  ·refine Tr.cond_f Z h2<|Zt<|Zc<|Zg<|Zr<|Zv (Y.add Z Z W)<|Zm Z<|Ze<|?_
   exact ZR (i + 1) ⟨by omega,upto hin (by rw [hoe]; exact h2)⟩ W
 ·refine Tr.cond_f Z h1<|Zx<|Zy<|Zy<|Zi<|Zg<|Zs<|Zr<|Za Z<|Ze<|Zg<|Zu<|?_
  exact Ex.ret1 rfl rfl  ⟨by rw [Oc.ixL_none (q := (Oc.is code)) (fun j hj => hin j W)],rfl,rfl⟩
theorem cnodd_c {V : Vw} {L : List Opn} {po : Option Addr} {co : Nat} (ho : Rd V [] 2 (.slice po L.length co) L.length (L.map Opn.cells).flatten) (hr : Opn.Rds V L) (hL : L.length ≤ 1000000)  : Does Tryz.prog 117 [.slice po L.length co,.func (.func 116) #[] #[]] V [] (Pv (.bool ((L.map Opn.c).any Oc.odd)) V []) := by
 refine Does.intro Tryz.func117 rfl rfl (le rfl) (fun B => ?_)
 refine Zs<|Zr<|Za Z<|Ze<|Zg<|Zs<|Zr<|Zm Z<|Zm Z<|Run.call0 (l := [.tmp 5,.tmp 6]) Z Z Z (lt Z) (ixodd_h ho hr hL)<|Zv (Y.int Z Z Z)<|Za Z<|Ze<|Zg<|Zu<|?_
 exact Ex.ret1 rfl rfl  ⟨by rw [Oc.ix_any],rfl,rfl⟩
theorem enc_c {V : Vw} {L : List Opn} {po : Option Addr} {co : Nat} (ho : Rd V [] 2 (.slice po L.length co) L.length (L.map Opn.cells).flatten) (hr : Opn.Rds V L) (hL : L.length ≤ 1000000) (hf : Oc.few (L.map Opn.c) = true)  : Does Tryz.prog 53 [.slice po L.length co] V [] (fun u V' H' => V' = V ∧ H' = [] ∧ ∃ v,u = .tuple #[v,.int .i64 (Oc.encE (L.map Opn.c))]) := by
 refine Does.intro Tryz.func53 rfl rfl (le rfl) (fun B => ?_)
 refine Zs<|Zr<|Za Z<|Za Z<|Ze<|Zg<|Zs<|Zr<|Za Z<|Ze<|Zg<|Zs<|Zs<|Zr<|Zm Z<|Zm Z<|?_
 refine Run.call0 (l := [.tmp 8,.tmp 9]) Z Z Z (lt Z) ((cnodd_c ho hr hL).frame)<|Ze<|Zg<|?_
 rcases Zsplit ((L.map Opn.c).any Oc.odd) with ⟨h1,g1⟩ | ⟨h1,g1⟩ <;> try simp only [kb] at g1
 ·refine Tr.cond_t Z h1<|Zs<|Zr<|Za Z<|Za Z<|Ze<|Zg<|Zu<|Zn<|Ex.keep []<|?_
  exact Ex.ret2 rfl rfl rfl  ⟨rfl,rfl,.slice none 0 0,by rw [Oc.encE_odd h1]⟩
 ·refine Tr.cond_f Z h1<|Zt<|Zg<|Zs<|Zr<|Za Z<|Ze<|Zg<|Zs<|Zs<|Zr<|Run.nilseg<|Zm Z<|Zv (Y.lenSl Z Opt_es26)<|Zm Z<|Ze<|?_
  refine Zg<|Zb<|?_
  refine ZL (X := Gr) (fun x => V) (fun x => [x.q]) (fun x => [(11,.slice po L.length co),(12,.int .i64 ((L.length : Nat) : Int)),(5,.slice x.p x.n x.k),(13,.int .i64 (x.i : Int))]) (fun x => Ow 5 1 (.slice x.p x.n x.k) x.n x.xs x.q ∧ x.i ≤ L.length ∧ x.n = Oc.tot ((L.map Opn.c).take x.i)) (fun x => L.length - x.i) ⟨none,0,0,[],[],0⟩ ⟨Ow.nil _ _,Nat.zero_le _,rfl⟩ ?_
  rintro ⟨p,n,k,q,xs,i⟩ ⟨how,hi,hn⟩
  dsimp only at how hi hn ⊢
  refine Zs<|Zr<|Zv (Y.int Z Z Z)<|Ze<|Zg<|Zs<|?_
  rcases Zsplit (decide ((i : Int) < ((L.length : Nat) : Int))) with ⟨h2,g2⟩ | ⟨h2,g2⟩ <;> try simp only [kb] at g2
  ·have hd := Oc.few_data hf (i := i) W
   have ht := Oc.tot_take (L := L) (i := i) W
   have hft := Oc.few_tot hf i
   obtain ⟨b,off,c2,cs,e,fz,hw,hc,hko,hcs⟩ := ho.opened W
   obtain ⟨rfl,rfl⟩ : po = some ⟨b,off,none⟩ ∧ co = c2 := by cases hw; exact ⟨rfl,rfl⟩
   clear hw
   have hrow := row_at (f := Opn.cells) Opn.len hcs (i := i) W (Nat.le_refl _) Opn.dflt
   have hmem := getD_mem (l := L) (j := i) W Opn.dflt
   generalize hoe : L.getD i Opn.dflt = o at *
   have hro := hr o hmem
   obtain ⟨pd,cd,hov,_⟩ := hro.form
   rw [hov] at hro
   have hrow2 : ∀ j,j < 2 → cs[off + ((i : Nat) : Int).toNat * 2 + j]? = ([.int .i64 o.code,.slice pd o.d.length cd] : List Value)[j]? := fun j hj => by rw [hrow j hj]; simp only [Opn.cells,hov]
   refine Tr.cond_t Z h2<|Zt<|Zg<|Zs<|Zb<|Zs<|Zr<|Zv (Y.idxAddr Z Z Opt_es26 W W)<|Zv (Y.loadAgg Z Opt_ag81 hko.of_nil (cellsAt_of [.int .i64 o.code,.slice pd o.d.length cd] _ hrow2))<|?_
   refine Run.alloc Opt_zo81 (lt rfl) (fun b3 => ?_)
   refine Run.store (s := [(b3,.cells #[.int .i64 o.code,.slice pd o.d.length cd] 81 (0,0))]) Z Z Opt_sz81 (i := 0) Z Z (le Z) Z Z<|Ze<|Zg<|Tr.anyD [(b3,.cells #[.int .i64 o.code,.slice pd o.d.length cd] 81 (0,0))] Opt_mo<|RunD.pure (i := 0) rfl WK WK WK (fun _ _ _ h => h) (lt rfl) (ZK 0 Z) (fun _ => (Y.move rfl))<|RunD.pure (i := 1) rfl WK WK WK (fun _ _ _ h => h) (lt rfl) (ZK 0 Z) (fun _ => (Y.fieldAddr rfl Opt_fo81_0))<|?_
   refine RunD.take (i := 2) 0 rfl rfl WK WK WK (fun _ _ _ h => h) (lt rfl) (ZK 0 Z) (fun _ => (Y.load rfl Opt_ts3 Kn.vk1 rfl))<|RunD.pure (i := 3) rfl WK WK WK (fun _ _ _ h => h) (lt rfl) (ZK 0 Z) (fun _ => (Y.conv (o.code % 256) rfl Opt_it3_5 (wrap_u8m _)))<|RunD.pure (i := 4) rfl WK WK WK (fun _ _ _ h => h) (lt rfl) (ZK 0 Z) (fun _ => (Y.fieldAddr rfl Opt_fo81_1))<|?_
   refine RunD.take (i := 5) 0 rfl rfl WK WK WK (fun _ _ _ h => h) (lt rfl) (ZK 0 Z) (fun _ => (Y.load rfl Opt_ts25 Kn.vk1 rfl))<|RunD.pure (i := 6) rfl WK WK WK (fun _ _ _ h => h) (lt rfl) (ZK 0 Z) (fun _ => (Y.lenSl rfl Opt_es25))<|RunD.pure (i := 7) rfl WK WK WK (fun _ _ _ h => h) (lt rfl) (ZK 0 Z) (fun _ => (Y.conv (((o.d.length : Nat) : Int) % 256) rfl Opt_it3_5 (wrap_u8m _)))<|?_
   refine RunD.pure (i := 10) rfl WK WK WK (fun _ _ _ h => h) (lt rfl) (ZK 0 Z) (fun _ => (Y.fieldAddr rfl Opt_fo81_1))<|RunD.take (i := 11) 0 rfl rfl WK WK WK (fun _ _ _ h => h) (lt rfl) (ZK 0 Z) (fun _ => (Y.load rfl Opt_ts25 Kn.vk1 rfl))<|?_
   refine RunD.one (i := 8) WK rfl  ?_
   refine Run.buildSlice (l := [(0,.tmp 20),(1,.tmp 24)]) Opt_es25 Opt_zo5 rfl WD rfl rfl WD (lt rfl) (fun b4 => ?_)
   refine Ze<|Ex.anyD (ZK 1 Z)<|?_
   refine RunD.one (i := 9) WK rfl  ?_
   refine Run.append (n := n) (m := 2) (xs := xs) (ys := [.int .u8 (o.code % 256),.int .u8 (((o.d.length : Nat) : Int) % 256)]) rfl rfl Opt_es25 Opt_zi5 WD (j := 2) rfl how (Src.of_rd Opt_es25 (Rd.one (Kn.at 0 rfl) rfl)) W W rfl (lt rfl) (fun v5 s6 ho7 hf => ?_)
   obtain ⟨p5,c5,rfl⟩ := hf
   refine Ze<|Ex.anyD (ZK 1 Z)<|?_
   refine RunD.one (i := 12) WK rfl  ?_
   refine Run.append (n := n + 2) (m := o.d.length) (xs := xs ++ [.int .u8 (o.code % 256),.int .u8 (((o.d.length : Nat) : Int) % 256)]) (ys := o.d.map byteV) rfl rfl Opt_es25 Opt_zi5 WD (j := 2) rfl ho7 (Src.of_rd Opt_es25 hro.of_nil) W W (all_one_bytes _) (lt rfl) (fun v8 s9 ho10 hf => ?_)
   obtain ⟨p8,c8,rfl⟩ := hf
   refine Ze<|Ex.anyD (ZK 1 Z)<|RunD.pure (i := 13) rfl WK WK WK (fun _ _ _ h => h) (lt rfl) (ZK 1 Z) (fun _ => (Y.assign rfl))<|RunD.done WK<|Zc<|Zg<|Zr<|Zv (Y.add Z Z W)<|Zm Z<|Ze<|Ex.keep [2]<|?_
   exact ZR (⟨p8,(n + 2 + o.d.length),c8,s9,(xs ++ [.int .u8 (o.code % 256),.int .u8 (((o.d.length : Nat) : Int) % 256)]) ++ (o.d.map byteV),i + 1⟩ : Gr) ⟨ho10,by show i + 1 ≤ L.length; omega,by show (n + 2 + o.d.length) = Oc.tot ((L.map Opn.c).take (i + 1)); omega⟩ (by show L.length - (i + 1) < L.length - i; omega)
  ·have hall : n = Oc.tot (L.map Opn.c) := by rw [hn,List.take_of_length_le (by rw [List.length_map]; omega)]
   have hft := Oc.few_tot hf i
   refine Tr.cond_f Z h2<|Zx<|Zy<|Zy<|Zi<|Zg<|Zs<|Zs<|Zr<|Zm Z<|?_
   refine Run.buildSlice (l := [(0,.const (.int .u8 255))]) Opt_es25 Opt_zo5 rfl WD rfl rfl WD (lt rfl) (fun b11 => ?_)
   refine Run.append (n := n) (m := 1) (xs := xs) (ys := [.int .u8 255]) rfl rfl Opt_es25 Opt_zi5 WD (j := 1) rfl how (Src.of_rd Opt_es25 (Rd.one (Kn.at 0 rfl) rfl)) W W rfl (lt rfl) (fun v12 s13 ho14 hf => ?_)
   obtain ⟨p12,c12,rfl⟩ := hf
   refine Za Z<|Ze<|Zg<|Zs<|Zr<|Zm Z<|Zv (Y.lenSl Z Opt_es25)<|Zv (Y.int Z Z Z)<|Ze<|Zg<|?_
   rcases Zsplit (decide ((((n + 1) : Nat) : Int) > 1024)) with ⟨h15,g15⟩ | ⟨h15,g15⟩ <;> try simp only [kb] at g15
   ·refine Tr.cond_t Z h15<|Zs<|Zr<|Za Z<|Za Z<|Ze<|Zg<|Zu<|Zn<|Ex.keep []<|?_
    exact Ex.ret2 rfl rfl rfl  ⟨rfl,rfl,.slice none 0 0,by rw [Oc.encE_big h1 W]⟩
   ·refine Tr.cond_f Z h15<|Zt<|Zg<|Zs<|Zr<|Zm Z<|Za Z<|Za Z<|Ze<|Zg<|Zu<|Ex.keep []<|?_
    exact Ex.ret2 rfl rfl rfl  ⟨rfl,rfl,.slice p12 (n + 1) c12,by rw [Oc.encE_ok h1 W]⟩
theorem pright_c {V : Vw} {L : List Opn} {po : Option Addr} {co : Nat} (ho : Rd V [] 2 (.slice po L.length co) L.length (L.map Opn.cells).flatten) (hr : Opn.Rds V L) (hL : L.length ≤ 1000000) {p : Pc} {ph : Option Addr} {ch : Nat} (hh : Rd V [] 1 (.slice ph p.hw.length ch) p.hw.length (p.hw.map byteV)) (hLp : L.map Opn.c = p.os) (hf : Oc.few (L.map Opn.c) = true)  : Does Tryz.prog 21 [.agg #[.int .i64 p.op,.int .u32 p.xid,.int .i64 p.secs,.int .i64 p.flags,.int .u32 p.ci,.int .u32 p.yi,.int .u32 p.si,.int .u32 p.gi,.slice ph p.hw.length ch,.slice po L.length co]] V [] (Pv (.bool (Pc.right p)) V []) := by
 refine Does.intro Tryz.func21 rfl rfl (le rfl) (fun B => ?_)
 refine Zs<|Zr<|?_
 refine Run.box rfl (lt rfl) (fun b1 => ?_)
 refine Za Z<|Ze<|Zg<|Zs<|Zr<|Zv (Y.fieldAddr Z Opt_fo28_9)<|Zv (Y.load Z Opt_ts26 (Kn.at 0 Z) Z)<|?_
 refine Run.call [] (l := [.tmp 7]) rfl rfl rfl (lt rfl) (enc_c ho hr hL hf) (fun v2 V2 H2 _ hR => ?_)
 obtain ⟨hV,rfl,z3,rfl⟩ := hR; replace hV := hV.symm; subst hV
 refine Zm Z<|Zv (Y.extract Z Z)<|Zv (Y.extract Z Z)<|Za Z<|Za Z<|Ze<|Zg<|Zs<|Zb<|Zs<|Zs<|Zr<|Zv (Y.fieldAddr Z Opt_fo28_0)<|Zv (Y.load Z Opt_ts3 (Kn.at 0 Z) Z)<|Zv (Y.int Z Z Z)<|Zm Z<|?_
 rcases Zsplit (p.op != 1) with ⟨h4,g4⟩ | ⟨h4,g4⟩ <;> try simp only [kb] at g4
 ·refine Zp h4<|Zv (Y.fieldAddr Z Opt_fo28_0)<|Zp h4<|Zv (Y.load Z Opt_ts3 (Kn.at 0 Z) Z)<|Zp h4<|Zv (Y.int Z Z Z)<|Zv (Y.pick_t Z h4 Z)<|Za Z<|Ze<|Zg<|?_
  rcases Zsplit (p.op != 2) with ⟨h5,g5⟩ | ⟨h5,g5⟩ <;> try simp only [kb] at g5
  ·refine Tr.cond_t Z h5<|Zt<|Zg<|Tr.cond_t Z h5<|Zs<|Zr<|Za Z<|Ze<|Zg<|Zu<|Zk<|Zn<|Ex.keep []<|?_
   exact Ex.ret1 rfl rfl  ⟨congrArg Value.bool (by rw [Bool.eq_iff_iff]; unfold Pc.right; rw [← hLp]; simp only [Bool.and_eq_true,Bool.or_eq_true,decide_eq_true_eq,beq_iff_eq,Bool.false_eq_true]; exact ⟨fun h => by first | exact h.elim | omega,fun h => by omega⟩),rfl,rfl⟩
  ·refine Tr.cond_f Z h5<|Zr<|Zv (Y.fieldAddr Z Opt_fo28_8)<|Zv (Y.load Z Opt_ts25 (Kn.at 0 Z) Z)<|Zv (Y.lenSl Z Opt_es25)<|Zv (Y.int Z Z Z)<|Zm Z<|?_
   rcases Zsplit (decide (((p.hw.length : Nat) : Int) < 1)) with ⟨h6,g6⟩ | ⟨h6,g6⟩ <;> try simp only [kb] at g6
   ·refine Zo h6 Z<|Zo h6 Z<|Zo h6 Z<|Zo h6 Z<|Zv (Y.pick_t Z h6 Z)<|Za Z<|Ze<|Zg<|Tr.cond_t Z Z<|Zs<|Zr<|Za Z<|Ze<|Zg<|Zu<|Zk<|?_
    refine Zn<|Ex.keep []<|?_
    exact Ex.ret1 rfl rfl  ⟨congrArg Value.bool (by rw [Bool.eq_iff_iff]; unfold Pc.right; rw [← hLp]; simp only [Bool.and_eq_true,Bool.or_eq_true,decide_eq_true_eq,beq_iff_eq,Bool.false_eq_true]; exact ⟨fun h => by first | exact h.elim | omega,fun h => by omega⟩),rfl,rfl⟩
   ·refine Zp h6<|Zv (Y.fieldAddr Z Opt_fo28_8)<|Zp h6<|Zv (Y.load Z Opt_ts25 (Kn.at 0 Z) Z)<|Zp h6<|Zv (Y.lenSl Z Opt_es25)<|Zp h6<|Zv (Y.int Z Z Z)<|Zv (Y.pick_f Z h6 Z)<|Za Z<|Ze<|Zg<|?_
    rcases Zsplit (decide (((p.hw.length : Nat) : Int) > 16)) with ⟨h7,g7⟩ | ⟨h7,g7⟩ <;> try simp only [kb] at g7
    ·refine Tr.cond_t Z h7<|Zs<|Zr<|Za Z<|Ze<|Zg<|Zu<|Zk<|Zn<|Ex.keep []<|?_
     exact Ex.ret1 rfl rfl  ⟨congrArg Value.bool (by rw [Bool.eq_iff_iff]; unfold Pc.right; rw [← hLp]; simp only [Bool.and_eq_true,Bool.or_eq_true,decide_eq_true_eq,beq_iff_eq,Bool.false_eq_true]; exact ⟨fun h => by first | exact h.elim | omega,fun h => by omega⟩),rfl,rfl⟩
    ·refine Tr.cond_f Z h7<|Zt<|Zc<|Zg<|Zs<|Zr<|Zv (Y.fieldAddr Z Opt_fo28_2)<|Zv (Y.load Z Opt_ts3 (Kn.at 0 Z) Z)<|Zv (Y.int Z Z Z)<|Zm Z<|?_
     rcases Zsplit (decide (p.secs ≥ 0)) with ⟨h8,g8⟩ | ⟨h8,g8⟩ <;> try simp only [kb] at g8
     ·refine Zp h8<|Zv (Y.fieldAddr Z Opt_fo28_2)<|Zp h8<|Zv (Y.load Z Opt_ts3 (Kn.at 0 Z) Z)<|Zp h8<|Zv (Y.int Z Z Z)<|Zv (Y.pick_t Z h8 Z)<|Zm Z<|?_
      rcases Zsplit (decide (p.secs ≤ 65535)) with ⟨h9,g9⟩ | ⟨h9,g9⟩ <;> try simp only [kb] at g9
      ·refine Zp h9<|Zv (Y.fieldAddr Z Opt_fo28_3)<|Zp h9<|Zv (Y.load Z Opt_ts3 (Kn.at 0 Z) Z)<|Zp h9<|Zv (Y.int Z Z Z)<|Zv (Y.pick_t Z h9 Z)<|Zm Z<|?_
       rcases Zsplit (decide (p.flags ≥ 0)) with ⟨h10,g10⟩ | ⟨h10,g10⟩ <;> try simp only [kb] at g10
       ·refine Zp h10<|Zv (Y.fieldAddr Z Opt_fo28_3)<|Zp h10<|Zv (Y.load Z Opt_ts3 (Kn.at 0 Z) Z)<|Zp h10<|Zv (Y.int Z Z Z)<|Zv (Y.pick_t Z h10 Z)<|Zm Z<|?_
        rcases Zsplit (decide (p.flags ≤ 65535)) with ⟨h11,g11⟩ | ⟨h11,g11⟩ <;> try simp only [kb] at g11
        ·refine Zp h11<|Zm Z<|Zp h11<|Zv (Y.int Z Z Z)<|Zv (Y.pick_t Z h11 Z)<|Za Z<|Ze<|Zg<|Zu<|Ex.keep []<|?_
         exact Ex.ret1 rfl rfl  ⟨congrArg Value.bool (by rw [Bool.eq_iff_iff]; unfold Pc.right; rw [← hLp]; simp only [Bool.and_eq_true,Bool.or_eq_true,decide_eq_true_eq,beq_iff_eq,Bool.false_eq_true]; exact ⟨fun h => by first | exact h.elim | omega,fun h => by omega⟩),rfl,rfl⟩
        ·refine Zo h11 Z<|Zo h11 Z<|Zv (Y.pick_f Z h11 Z)<|Za Z<|Ze<|Zg<|Zu<|Ex.keep []<|?_
         exact Ex.ret1 rfl rfl  ⟨congrArg Value.bool (by rw [Bool.eq_iff_iff]; unfold Pc.right; rw [← hLp]; simp only [Bool.and_eq_true,Bool.or_eq_true,decide_eq_true_eq,beq_iff_eq,Bool.false_eq_true]; exact ⟨fun h => by first | exact h.elim | omega,fun h => by omega⟩),rfl,rfl⟩
       ·refine Zo h10 Z<|Zo h10 Z<|Zo h10 Z<|Zv (Y.pick_f Z h10 Z)<|Zm Z<|Zo Z Z<|Zo Z Z<|Zv (Y.pick_f Z Z Z)<|Za Z<|Ze<|Zg<|Zu<|Ex.keep []<|?_
        exact Ex.ret1 rfl rfl  ⟨congrArg Value.bool (by rw [Bool.eq_iff_iff]; unfold Pc.right; rw [← hLp]; simp only [Bool.and_eq_true,Bool.or_eq_true,decide_eq_true_eq,beq_iff_eq,Bool.false_eq_true]; exact ⟨fun h => by first | exact h.elim | omega,fun h => by omega⟩),rfl,rfl⟩
      ·refine Zo h9 Z<|Zo h9 Z<|Zo h9 Z<|Zv (Y.pick_f Z h9 Z)<|Zm Z<|Zo Z Z<|Zo Z Z<|Zo Z Z<|Zv (Y.pick_f Z Z Z)<|Zm Z<|Zo Z Z<|Zo Z Z<|Zv (Y.pick_f Z Z Z)<|Za Z<|Ze<|Zg<|?_
       refine Zu<|Ex.keep []<|?_
       exact Ex.ret1 rfl rfl  ⟨congrArg Value.bool (by rw [Bool.eq_iff_iff]; unfold Pc.right; rw [← hLp]; simp only [Bool.and_eq_true,Bool.or_eq_true,decide_eq_true_eq,beq_iff_eq,Bool.false_eq_true]; exact ⟨fun h => by first | exact h.elim | omega,fun h => by omega⟩),rfl,rfl⟩
     ·refine Zo h8 Z<|Zo h8 Z<|Zo h8 Z<|Zv (Y.pick_f Z h8 Z)<|Zm Z<|Zo Z Z<|Zo Z Z<|Zo Z Z<|Zv (Y.pick_f Z Z Z)<|Zm Z<|Zo Z Z<|Zo Z Z<|Zo Z Z<|Zv (Y.pick_f Z Z Z)<|Zm Z<|Zo Z Z<|?_
      refine Zo Z Z<|Zv (Y.pick_f Z Z Z)<|Za Z<|Ze<|Zg<|Zu<|Ex.keep []<|?_
      exact Ex.ret1 rfl rfl  ⟨congrArg Value.bool (by rw [Bool.eq_iff_iff]; unfold Pc.right; rw [← hLp]; simp only [Bool.and_eq_true,Bool.or_eq_true,decide_eq_true_eq,beq_iff_eq,Bool.false_eq_true]; exact ⟨fun h => by first | exact h.elim | omega,fun h => by omega⟩),rfl,rfl⟩
 ·refine Zo h4 Z<|Zo h4 Z<|Zo h4 Z<|Zv (Y.pick_f Z h4 Z)<|Za Z<|Ze<|Zg<|Tr.cond_f Z Z<|Zr<|Zv (Y.fieldAddr Z Opt_fo28_8)<|Zv (Y.load Z Opt_ts25 (Kn.at 0 Z) Z)<|Zv (Y.lenSl Z Opt_es25)<|Zv (Y.int Z Z Z)<|Zm Z<|?_
  rcases Zsplit (decide (((p.hw.length : Nat) : Int) < 1)) with ⟨h12,g12⟩ | ⟨h12,g12⟩ <;> try simp only [kb] at g12
  ·refine Zo h12 Z<|Zo h12 Z<|Zo h12 Z<|Zo h12 Z<|Zv (Y.pick_t Z h12 Z)<|Za Z<|Ze<|Zg<|Tr.cond_t Z Z<|Zs<|Zr<|Za Z<|Ze<|Zg<|Zu<|Zk<|?_
   refine Zn<|Ex.keep []<|?_
   exact Ex.ret1 rfl rfl  ⟨congrArg Value.bool (by rw [Bool.eq_iff_iff]; unfold Pc.right; rw [← hLp]; simp only [Bool.and_eq_true,Bool.or_eq_true,decide_eq_true_eq,beq_iff_eq,Bool.false_eq_true]; exact ⟨fun h => by first | exact h.elim | omega,fun h => by omega⟩),rfl,rfl⟩
  ·refine Zp h12<|Zv (Y.fieldAddr Z Opt_fo28_8)<|Zp h12<|Zv (Y.load Z Opt_ts25 (Kn.at 0 Z) Z)<|Zp h12<|Zv (Y.lenSl Z Opt_es25)<|Zp h12<|Zv (Y.int Z Z Z)<|Zv (Y.pick_f Z h12 Z)<|Za Z<|Ze<|Zg<|?_
   rcases Zsplit (decide (((p.hw.length : Nat) : Int) > 16)) with ⟨h13,g13⟩ | ⟨h13,g13⟩ <;> try simp only [kb] at g13
   ·refine Tr.cond_t Z h13<|Zs<|Zr<|Za Z<|Ze<|Zg<|Zu<|Zk<|Zn<|Ex.keep []<|?_
    exact Ex.ret1 rfl rfl  ⟨congrArg Value.bool (by rw [Bool.eq_iff_iff]; unfold Pc.right; rw [← hLp]; simp only [Bool.and_eq_true,Bool.or_eq_true,decide_eq_true_eq,beq_iff_eq,Bool.false_eq_true]; exact ⟨fun h => by first | exact h.elim | omega,fun h => by omega⟩),rfl,rfl⟩
   ·refine Tr.cond_f Z h13<|Zt<|Zc<|Zg<|Zs<|Zr<|Zv (Y.fieldAddr Z Opt_fo28_2)<|Zv (Y.load Z Opt_ts3 (Kn.at 0 Z) Z)<|Zv (Y.int Z Z Z)<|Zm Z<|?_
    rcases Zsplit (decide (p.secs ≥ 0)) with ⟨h14,g14⟩ | ⟨h14,g14⟩ <;> try simp only [kb] at g14
    ·refine Zp h14<|Zv (Y.fieldAddr Z Opt_fo28_2)<|Zp h14<|Zv (Y.load Z Opt_ts3 (Kn.at 0 Z) Z)<|Zp h14<|Zv (Y.int Z Z Z)<|Zv (Y.pick_t Z h14 Z)<|Zm Z<|?_
     rcases Zsplit (decide (p.secs ≤ 65535)) with ⟨h15,g15⟩ | ⟨h15,g15⟩ <;> try simp only [kb] at g15
     ·refine Zp h15<|Zv (Y.fieldAddr Z Opt_fo28_3)<|Zp h15<|Zv (Y.load Z Opt_ts3 (Kn.at 0 Z) Z)<|Zp h15<|Zv (Y.int Z Z Z)<|Zv (Y.pick_t Z h15 Z)<|Zm Z<|?_
      rcases Zsplit (decide (p.flags ≥ 0)) with ⟨h16,g16⟩ | ⟨h16,g16⟩ <;> try simp only [kb] at g16
      ·refine Zp h16<|Zv (Y.fieldAddr Z Opt_fo28_3)<|Zp h16<|Zv (Y.load Z Opt_ts3 (Kn.at 0 Z) Z)<|Zp h16<|Zv (Y.int Z Z Z)<|Zv (Y.pick_t Z h16 Z)<|Zm Z<|?_
       rcases Zsplit (decide (p.flags ≤ 65535)) with ⟨h17,g17⟩ | ⟨h17,g17⟩ <;> try simp only [kb] at g17
       ·refine Zp h17<|Zm Z<|Zp h17<|Zv (Y.int Z Z Z)<|Zv (Y.pick_t Z h17 Z)<|Za Z<|Ze<|Zg<|Zu<|Ex.keep []<|?_
        exact Ex.ret1 rfl rfl  ⟨congrArg Value.bool (by rw [Bool.eq_iff_iff]; unfold Pc.right; rw [← hLp]; simp only [Bool.and_eq_true,Bool.or_eq_true,decide_eq_true_eq,beq_iff_eq,Bool.false_eq_true]; exact ⟨fun h => by first | exact h.elim | omega,fun h => by omega⟩),rfl,rfl⟩
       ·refine Zo h17 Z<|Zo h17 Z<|Zv (Y.pick_f Z h17 Z)<|Za Z<|Ze<|Zg<|Zu<|Ex.keep []<|?_
        exact Ex.ret1 rfl rfl  ⟨congrArg Value.bool (by rw [Bool.eq_iff_iff]; unfold Pc.right; rw [← hLp]; simp only [Bool.and_eq_true,Bool.or_eq_true,decide_eq_true_eq,beq_iff_eq,Bool.false_eq_true]; exact ⟨fun h => by first | exact h.elim | omega,fun h => by omega⟩),rfl,rfl⟩
      ·refine Zo h16 Z<|Zo h16 Z<|Zo h16 Z<|Zv (Y.pick_f Z h16 Z)<|Zm Z<|Zo Z Z<|Zo Z Z<|Zv (Y.pick_f Z Z Z)<|Za Z<|Ze<|Zg<|Zu<|Ex.keep []<|?_
       exact Ex.ret1 rfl rfl  ⟨congrArg Value.bool (by rw [Bool.eq_iff_iff]; unfold Pc.right; rw [← hLp]; simp only [Bool.and_eq_true,Bool.or_eq_true,decide_eq_true_eq,beq_iff_eq,Bool.false_eq_true]; exact ⟨fun h => by first | exact h.elim | omega,fun h => by omega⟩),rfl,rfl⟩
     ·refine Zo h15 Z<|Zo h15 Z<|Zo h15 Z<|Zv (Y.pick_f Z h15 Z)<|Zm Z<|Zo Z Z<|Zo Z Z<|Zo Z Z<|Zv (Y.pick_f Z Z Z)<|Zm Z<|Zo Z Z<|Zo Z Z<|Zv (Y.pick_f Z Z Z)<|Za Z<|Ze<|Zg<|?_
      refine Zu<|Ex.keep []<|?_
      exact Ex.ret1 rfl rfl  ⟨congrArg Value.bool (by rw [Bool.eq_iff_iff]; unfold Pc.right; rw [← hLp]; simp only [Bool.and_eq_true,Bool.or_eq_true,decide_eq_true_eq,beq_iff_eq,Bool.false_eq_true]; exact ⟨fun h => by first | exact h.elim | omega,fun h => by omega⟩),rfl,rfl⟩
    ·refine Zo h14 Z<|Zo h14 Z<|Zo h14 Z<|Zv (Y.pick_f Z h14 Z)<|Zm Z<|Zo Z Z<|Zo Z Z<|Zo Z Z<|Zv (Y.pick_f Z Z Z)<|Zm Z<|Zo Z Z<|Zo Z Z<|Zo Z Z<|Zv (Y.pick_f Z Z Z)<|Zm Z<|Zo Z Z<|?_
     refine Zo Z Z<|Zv (Y.pick_f Z Z Z)<|Za Z<|Ze<|Zg<|Zu<|Ex.keep []<|?_
     exact Ex.ret1 rfl rfl  ⟨congrArg Value.bool (by rw [Bool.eq_iff_iff]; unfold Pc.right; rw [← hLp]; simp only [Bool.and_eq_true,Bool.or_eq_true,decide_eq_true_eq,beq_iff_eq,Bool.false_eq_true]; exact ⟨fun h => by first | exact h.elim | omega,fun h => by omega⟩),rfl,rfl⟩
theorem pright_h {V : Vw} {H : Hp} {p : Pc} {hv ov : Value} (hp : Pc.R V p hv ov) (hf : Pc.few p = true) : Does Tryz.prog 21 [.agg (p.cells hv ov)] V H (Pv (.bool (Pc.right p)) V H) := by
  obtain ⟨ph,ch,rfl,_⟩ := hp.hw.form
  obtain ⟨L,hLp,ho,hr⟩ := hp.os
  obtain ⟨po,co,rfl,_⟩ := ho.form
  have hf' : Oc.few (L.map Opn.c) = true := by rw [hLp]; simp only [Pc.few,Bool.and_eq_true] at hf; exact hf.1
  have hL : L.length ≤ 1000000 := by have := (Oc.few_iff.1 hf').1; rw [List.length_map] at this; omega
  exact (pright_c ho hr hL hp.hw hLp hf').frame
theorem oof_c {V : Vw} {code : Int}  : Does Tryz.prog 107 [.int .i64 code] V [] (fun u V' H' => V' = V ∧ ∃ b,u = .func (.func 150) #[] #[(pZ b)] ∧ H' = [[(b,.cells #[.int .i64 code] 3 (0,0))]]) := by
 refine Does.intro Tryz.func107 rfl rfl (le rfl) (fun B => ?_)
 refine Zs<|Zr<|?_
 refine Run.box rfl (lt rfl) (fun b1 => ?_)
 refine Za Z<|Ze<|Zg<|Zs<|Zr<|Zv (Y.makeFunc (l := []) (l' := [.tmp 1]) Z Z)<|Za Z<|Ze<|Zg<|Zu<|?_
 exact Ex.ret1 rfl rfl  ⟨rfl,_,rfl,rfl⟩
theorem find_c {V : Vw} {L : List Opn} {po : Option Addr} {co : Nat} (ho : Rd V [] 2 (.slice po L.length co) L.length (L.map Opn.cells).flatten) (hr : Opn.Rds V L) (hL : L.length ≤ 1000000) {code : Int} (hf : Oc.few (L.map Opn.c) = true)  : Does Tryz.prog 46 [.slice po L.length co,.int .i64 code] V [] (fun u V' H' => V' = V ∧ ∃ v s',u = .tuple #[v,.bool (Oc.has code (L.map Opn.c))] ∧ H' = [s'] ∧ Ow 5 1 v (Oc.fd code (L.map Opn.c)).length ((Oc.fd code (L.map Opn.c)).map byteV) s') := by
 refine Does.intro Tryz.func46 rfl rfl (le rfl) (fun B => ?_)
 refine Zs<|Zr<|Za Z<|Za Z<|Ze<|Zg<|Zs<|Zr<|Zm Z<|Zm Z<|?_
 refine Run.call [] (l := [.tmp 8]) rfl rfl rfl (lt rfl) (oof_c (code := code)) (fun v1 V2 H2 _ hR => ?_)
 obtain ⟨hV,b2,rfl,rfl⟩ := hR; replace hV := hV.symm; subst hV
 refine Run.call0 (l := [.tmp 7,.tmp 9]) Z Z Z (lt Z) (ixis_c ho hr hL (Kn.at 0 Z))<|Za Z<|Ze<|Zg<|Zs<|Zs<|Zr<|Zm Z<|Zv (Y.int Z Z Z)<|Ze<|Zg<|?_
 rcases Zsplit (decide ((Oc.ix (Oc.is code) (L.map Opn.c)) < 0)) with ⟨h3,g3⟩ | ⟨h3,g3⟩ <;> try simp only [kb] at g3
 ·obtain ⟨hfd,hhas⟩ : Oc.fd code (L.map Opn.c) = [] ∧ Oc.has code (L.map Opn.c) = false := by rcases Oc.ixL_cases code L with h | ⟨i,h1,_⟩; exact h.2; omega
  refine Tr.cond_t Z h3<|Zs<|Zr<|Run.nilseg<|Za Z<|Za Z<|Ze<|Zg<|Zu<|Zn<|Ex.keep [0]<|?_
  exact Ex.ret2 rfl rfl rfl  ⟨rfl,_,[],by rw [hhas],rfl,by rw [hfd]; exact Ow.nil _ _⟩
 ·refine Tr.cond_f Z h3<|Zt<|Zg<|Zs<|Zr<|?_
  obtain ⟨i,hix,hi,hfd,hhas⟩ : ∃ i : Nat,Oc.ix (Oc.is code) (L.map Opn.c) = i ∧ i < L.length ∧ Oc.fd code (L.map Opn.c) = (L.getD i Opn.dflt).d ∧ Oc.has code (L.map Opn.c) = true := by rcases Oc.ixL_cases code L with h | h; omega; exact h
  rw [hix]
  have hd := Oc.few_data hf (i := i) W
  obtain ⟨b,off,c2,cs,e,fz,hw,hc,hko,hcs⟩ := ho.opened W
  obtain ⟨rfl,rfl⟩ : po = some ⟨b,off,none⟩ ∧ co = c2 := by cases hw; exact ⟨rfl,rfl⟩
  clear hw
  have hrow := row_at (f := Opn.cells) Opn.len hcs (i := i) W (Nat.le_refl _) Opn.dflt
  have hmem := getD_mem (l := L) (j := i) W Opn.dflt
  generalize hoe : L.getD i Opn.dflt = o at *
  have hro := hr o hmem
  obtain ⟨pd,cd,hov,_⟩ := hro.form
  rw [hov] at hro
  have hrow2 : ∀ j,j < 2 → cs[off + ((i : Nat) : Int).toNat * 2 + j]? = ([.int .i64 o.code,.slice pd o.d.length cd] : List Value)[j]? := fun j hj => by rw [hrow j hj]; simp only [Opn.cells,hov]
  refine Zm Z<|Zm Z<|Zv (Y.idxAddr Z Z Opt_es26 W W)<|Zv (Y.fieldAddr Z Opt_fo81_1)<|Zv (Y.load Z Opt_ts25 hko.of_nil (hrow2 1 WD))<|?_
  refine Run.call [] (l := [.tmp 17]) rfl rfl rfl (lt rfl) (clone_h hro W) (fun v4 V2 H2 _ hR => ?_)
  obtain ⟨hV,s5,rfl,ho6⟩ := hR; replace hV := hV.symm; subst hV; obtain ⟨p7,c8,rfl⟩ := ho6.form
  refine Za Z<|Za Z<|Ze<|Zg<|Zu<|Ex.keep [1]<|?_
  exact Ex.ret2 rfl rfl rfl  ⟨rfl,_,s5,by rw [hhas],rfl,by rw [hfd]; exact ho6⟩
theorem orfind_c {V : Vw} {L : List Opn} {po : Option Addr} {co : Nat} (ho : Rd V [] 2 (.slice po L.length co) L.length (L.map Opn.cells).flatten) (hr : Opn.Rds V L) (hL : L.length ≤ 1000000) {code : Int}  : Does Tryz.prog 15 [.slice po L.length co,.int .i64 code] V [] (fun u V' H' => V' = V ∧ H' = [] ∧ ∃ v,u = .tuple #[v,.bool (Oc.has code (L.map Opn.c))] ∧ Rd V [] 1 v (Oc.fd code (L.map Opn.c)).length ((Oc.fd code (L.map Opn.c)).map byteV)) := by
 refine Does.intro Tryz.func15 rfl rfl (le rfl) (fun B => ?_)
 refine Zs<|Zr<|Za Z<|Za Z<|Ze<|Zg<|Zs<|Zs<|Zr<|Za Z<|Ze<|Zg<|Zb<|?_
 refine ZL (X := Nat) (fun i => V) (fun i => []) (fun i => [(0,.slice po L.length co),(1,.int .i64 code),(6,.int .i64 (i : Int))]) (fun i => i ≤ L.length ∧ ∀ j,j < i → ((L.getD j Opn.dflt).code == code) = false) (fun i => L.length - i) 0 ⟨Nat.zero_le _,fun j hj => absurd hj (Nat.not_lt_zero j)⟩ ?_
 rintro i ⟨hi,hin⟩
 refine Zs<|Zs<|Zr<|Zm Z<|Zm Z<|Zv (Y.lenSl Z Opt_es26)<|Zv (Y.int Z Z Z)<|Ze<|Zg<|?_
 rcases Zsplit (decide ((i : Int) < ((L.length : Nat) : Int))) with ⟨h1,g1⟩ | ⟨h1,g1⟩ <;> try simp only [kb] at g1
 ·obtain ⟨b,off,c2,cs,e,fz,hw,hc,hko,hcs⟩ := ho.opened W
  obtain ⟨rfl,rfl⟩ : po = some ⟨b,off,none⟩ ∧ co = c2 := by cases hw; exact ⟨rfl,rfl⟩
  clear hw
  have hrow := row_at (f := Opn.cells) Opn.len hcs (i := i) W (Nat.le_refl _) Opn.dflt
  have hmem := getD_mem (l := L) (j := i) W Opn.dflt
  generalize hoe : L.getD i Opn.dflt = o at *
  have hro := hr o hmem
  obtain ⟨pd,cd,hov,_⟩ := hro.form
  rw [hov] at hro
  have hrow2 : ∀ j,j < 2 → cs[off + ((i : Nat) : Int).toNat * 2 + j]? = ([.int .i64 o.code,.slice pd o.d.length cd] : List Value)[j]? := fun j hj => by rw [hrow j hj]; simp only [Opn.cells,hov]
  refine Tr.cond_t Z h1<|Zt<|Zg<|Zs<|Zb<|Zs<|Zr<|Zm Z<|Zm Z<|Zv (Y.idxAddr Z Z Opt_es26 W W)<|Zv (Y.fieldAddr Z Opt_fo81_0)<|Zv (Y.load Z Opt_ts3 hko.of_nil (hrow 0 WD))<|Zm Z<|Zv (Y.int Z Z Z)<|Ze<|Zg<|?_
  rcases Zsplit (o.code == code) with ⟨h2,g2⟩ | ⟨h2,g2⟩ <;> try simp only [kb] at g2
  ·refine Tr.cond_t Z h2<|Zs<|Zr<|Zm Z<|Zm Z<|Zv (Y.idxAddr Z Z Opt_es26 W W)<|Zv (Y.fieldAddr Z Opt_fo81_1)<|Zv (Y.load Z Opt_ts25 hko.of_nil (hrow2 1 WD))<|Za Z<|Za Z<|Ze<|Zg<|Zu<|Zk<|Zn<|Zn<|?_
   refine Zk<|Zn<|?_
   exact Ex.ret2 rfl rfl rfl  ⟨rfl,rfl,_,by rw [(Oc.fdL_at (c := code) hin W (by rw [hoe]; exact h2)).2],by rw [(Oc.fdL_at (c := code) hin W (by rw [hoe]; exact h2)).1,hoe]; exact hro⟩
  ·refine Tr.cond_f Z h2<|Zt<|Zc<|Zg<|Zr<|Zm Z<|Zv (Y.add Z Z W)<|Za Z<|Ze<|?_
   exact ZR (i + 1) ⟨by omega,upto hin (by rw [hoe]; exact h2)⟩ W
 ·refine Tr.cond_f Z h1<|Zx<|Zy<|Zy<|Zi<|Zg<|Zs<|Zr<|Za Z<|Za Z<|Ze<|Zg<|Zu<|?_
  exact Ex.ret2 rfl rfl rfl  ⟨rfl,rfl,_,by rw [(Oc.fdL_none (c := code) (fun j hj => hin j W)).2],by rw [(Oc.fdL_none (c := code) (fun j hj => hin j W)).1]; exact Rd.nil _ _ _⟩
end Go.Proofs.YtfgblingojgafaaGreat
namespace Go.Proofs.YtfgblingojgafaaGreat
open Go Go.K
attribute [local irreducible] Code.wp wpList Calls wpQuiet
theorem Opt2_es25 : elemS Tryz.prog 25 = some (5,1) := by kernel_rfl
theorem Opt2_ts5 : scal Tryz.prog 5 = true := by kernel_rfl
theorem Opt2_it5_3 : intT Tryz.prog 5 3 = some .i64 := by kernel_rfl
theorem Opt2_fo28_9 : fieldOff Tryz.prog 28 9 = some 9 := by kernel_rfl
theorem Opt2_ts26 : scal Tryz.prog 26 = true := by kernel_rfl
theorem number_c {V : Vw} {H : Hp} {bs : List UInt8} {pb : Option Addr} {cb : Nat} (hvb : Rd V H 1 (.slice pb bs.length cb) bs.length (bs.map byteV)) (h4 : bs.length = 4)  : Does Tryz.prog 139 [.slice pb bs.length cb] V H (Pv (.tuple #[.int .i64 (val bs),.int .i64 0]) V H) := by
 refine Does.intro Tryz.func139 rfl rfl (le rfl) (fun B => ?_)
 refine Zs<|Zr<|Za Z<|Za Z<|Ze<|Zg<|Zs<|Zs<|Zr<|Zm Z<|Zv (Y.lenSl Z Opt2_es25)<|Ze<|Zg<|Zb<|Zs<|Zs<|?_
 refine Zr<|Zv (Y.int Z Z Z)<|Za Z<|Ze<|Zg<|Tr.cond_f rfl (by rw [h4]; rfl)<|Zs<|Zr<|Zv (Y.int Z Z Z)<|Za Z<|Ze<|Zg<|Tr.cond_f rfl (by rw [h4]; rfl)<|Zr<|Zv (Y.int Z Z Z)<|Za Z<|?_
 refine Ze<|Zg<|Tr.cond_t rfl (by rw [h4]; rfl)<|Zt<|Zc<|Zg<|Zs<|Zr<|Za Z<|Ze<|Zg<|Zs<|Zs<|Zr<|Zm Z<|Zv (Y.lenSl Z Opt2_es25)<|?_
 refine Zm Z<|Ze<|Zg<|Zb<|?_
 refine ZL (X := Nat) (fun i => V) (fun i => H) (fun i => [(13,.slice pb bs.length cb),(14,.int .i64 ((bs.length : Nat) : Int)),(4,.int .i64 (val (bs.take i))),(15,.int .i64 (i : Int))]) (fun i => i ≤ bs.length) (fun i => bs.length - i) 0 (Nat.zero_le _) ?_ (by repeat (first | exact subB_nil _ | refine subB_cons (by first | rfl | exact congrArg (fun z => some (Value.int _ z)) W | exact congrArg (fun z => some (Value.int _ z)) (val_take W).symm) ?_))
 rintro i hi
 refine Zs<|Zr<|Zv (Y.int Z Z Z)<|Ze<|Zg<|Zs<|?_
 rcases Zsplit (decide ((i : Int) < ((bs.length : Nat) : Int))) with ⟨h1,g1⟩ | ⟨h1,g1⟩ <;> try simp only [kb] at g1
 ·obtain ⟨b,off,c2,cs,e,fz,hw,hc,hkb,hcs⟩ := hvb.opened W
  obtain ⟨rfl,rfl⟩ : pb = some ⟨b,off,none⟩ ∧ cb = c2 := by cases hw; exact ⟨rfl,rfl⟩
  clear hw
  have hs := val_small (l := bs.take i) (by simp; omega)
  have hb := u8_lt (bs.getD i 0)
  refine Tr.cond_t Z h1<|Zt<|Zg<|Zs<|Zb<|Zs<|Zr<|Zv (Y.idxAddr Z Z Opt2_es25 W W)<|Zv (Y.load Z Opt2_ts5 hkb (at1 hcs W (map_at byteV 0 W)))<|Za Z<|Ze<|Zg<|Zr<|Zm Z<|Zv (Y.shl (val (bs.take i) * 256) rfl rfl WD (shl_byte hs.1 hs.2))<|Zm Z<|?_
  refine Zv (Y.conv (((bs.getD i 0).toNat : Int)) rfl Opt2_it5_3 (wrap_i64 W))<|Zv (Y.int (r := .int .i64 (val (bs.take i) * 256 + ((bs.getD i 0).toNat : Int))) rfl rfl (by simp only [intRes]; rw [or_byte hs.1 hs.2 W W]))<|Za Z<|Ze<|Zc<|Zg<|Zr<|Zv (Y.add Z Z W)<|Zm Z<|Ze<|?_
  exact ZR (i + 1) (by show i + 1 ≤ bs.length; omega) W (by repeat (first | exact subB_nil _ | refine subB_cons (by first | rfl | exact congrArg (fun z => some (Value.int _ z)) W | exact congrArg (fun z => some (Value.int _ z)) (val_take W).symm) ?_))
 ·refine Tr.cond_f Z h1<|Zx<|Zy<|Zy<|Zi<|Zg<|Zs<|Zr<|Zm Z<|Za Z<|Za Z<|Ze<|Zg<|Zu<|?_
  exact Ex.ret2 rfl rfl rfl  ⟨by rw [List.take_of_length_le W],rfl,rfl⟩
theorem rnumber_c {V : Vw} {H : Hp} {bs : List UInt8} {pb : Option Addr} {cb : Nat} (hvb : Rd V H 1 (.slice pb bs.length cb) bs.length (bs.map byteV)) (h4 : bs.length = 4)  : Does Tryz.prog 16 [.slice pb bs.length cb] V H (Pv (.tuple #[.int .i64 (val bs),.int .i64 0]) V H) := by
 refine Does.intro Tryz.func16 rfl rfl (le rfl) (fun B => ?_)
 refine Zs<|Zr<|Za Z<|Za Z<|Ze<|Zg<|Zs<|Zs<|Zr<|Zm Z<|Zv (Y.lenSl Z Opt2_es25)<|Zv (Y.int Z Z Z)<|Zm Z<|Run.on rfl rfl rfl (by rw [h4]; rfl)<|Zm Z<|Run.on rfl rfl rfl (by rw [h4]; rfl)<|?_
 refine Zv (Y.lenSl Z Opt2_es25)<|Run.on rfl rfl rfl (by rw [h4]; rfl)<|Zv (Y.int Z Z Z)<|Zv (Y.pick_t Z (by rw [h4]; rfl) rfl)<|Zm Z<|Run.on rfl rfl rfl (by rw [h4]; rfl)<|Zm Z<|Run.on rfl rfl rfl (by rw [h4]; rfl)<|Zv (Y.lenSl Z Opt2_es25)<|Run.on rfl rfl rfl (by rw [h4]; rfl)<|Zv (Y.int Z Z Z)<|Zv (Y.pick_t Z (by rw [h4]; rfl) rfl)<|Ze<|Zg<|Tr.cond_f rfl (by rw [h4]; rfl)<|Zt<|?_
 refine Zg<|Zs<|Zr<|Za Z<|Ze<|Zg<|Zs<|Zs<|Zr<|Za Z<|Ze<|Zg<|Zb<|?_
 refine ZL (X := Nat) (fun i => V) (fun i => H) (fun i => [(0,.slice pb bs.length cb),(4,.int .i64 (val (bs.take i))),(5,.int .i64 (i : Int))]) (fun i => i ≤ bs.length) (fun i => bs.length - i) 0 (Nat.zero_le _) ?_ (by repeat (first | exact subB_nil _ | refine subB_cons (by first | rfl | exact congrArg (fun z => some (Value.int _ z)) W | exact congrArg (fun z => some (Value.int _ z)) (val_take W).symm) ?_))
 rintro i hi
 refine Zs<|Zs<|Zr<|Zm Z<|Zm Z<|Zv (Y.lenSl Z Opt2_es25)<|Zv (Y.int Z Z Z)<|Ze<|Zg<|?_
 rcases Zsplit (decide ((i : Int) < ((bs.length : Nat) : Int))) with ⟨h1,g1⟩ | ⟨h1,g1⟩ <;> try simp only [kb] at g1
 ·obtain ⟨b,off,c2,cs,e,fz,hw,hc,hkb,hcs⟩ := hvb.opened W
  obtain ⟨rfl,rfl⟩ : pb = some ⟨b,off,none⟩ ∧ cb = c2 := by cases hw; exact ⟨rfl,rfl⟩
  clear hw
  have hs := val_small (l := bs.take i) (by simp; omega)
  have hb := u8_lt (bs.getD i 0)
  refine Tr.cond_t Z h1<|Zt<|Zg<|Zs<|Zb<|Zr<|Zm Z<|Zv (Y.mul Z Z W)<|Zm Z<|Zm Z<|Zv (Y.idxAddr Z Z Opt2_es25 W W)<|Zv (Y.load Z Opt2_ts5 hkb (at1 hcs W (map_at byteV 0 W)))<|Zv (Y.conv (((bs.getD i 0).toNat : Int)) rfl Opt2_it5_3 (wrap_i64 W))<|Zv (Y.add Z Z W)<|Za Z<|Ze<|?_
  refine Zc<|Zg<|Zr<|Zm Z<|Zv (Y.add Z Z W)<|Za Z<|Ze<|?_
  exact ZR (i + 1) (by show i + 1 ≤ bs.length; omega) W (by repeat (first | exact subB_nil _ | refine subB_cons (by first | rfl | exact congrArg (fun z => some (Value.int _ z)) W | exact congrArg (fun z => some (Value.int _ z)) (val_take W).symm) ?_))
 ·refine Tr.cond_f Z h1<|Zx<|Zy<|Zy<|Zi<|Zg<|Zs<|Zr<|Zm Z<|Za Z<|Za Z<|Ze<|Zg<|Zu<|?_
  exact Ex.ret2 rfl rfl rfl  ⟨by rw [List.take_of_length_le W],rfl,rfl⟩
theorem rnumber_o {V : Vw} {H : Hp} {bs : List UInt8} {pb : Option Addr} {cb : Nat} (hvb : Rd V H 1 (.slice pb bs.length cb) bs.length (bs.map byteV)) (h4 : ¬ bs.length = 4)  : Does Tryz.prog 16 [.slice pb bs.length cb] V H (fun u V' H' => V' = V ∧ H' = H ∧ ∃ n e,u = .tuple #[.int .i64 n,.int .i64 e]) := by
 refine Does.intro Tryz.func16 rfl rfl (le rfl) (fun B => ?_)
 refine Zs<|Zr<|Za Z<|Za Z<|Ze<|Zg<|Zs<|Zs<|Zr<|Zm Z<|Zv (Y.lenSl Z Opt2_es25)<|Zv (Y.int Z Z Z)<|Zm Z<|?_
 rcases Zsplit (((bs.length : Nat) : Int) != 1) with ⟨h1,g1⟩ | ⟨h1,g1⟩ <;> try simp only [kb] at g1
 ·refine Zp h1<|Zm Z<|Zp h1<|Zv (Y.lenSl Z Opt2_es25)<|Zp h1<|Zv (Y.int Z Z Z)<|Zv (Y.pick_t Z h1 Z)<|Zm Z<|?_
  rcases Zsplit (((bs.length : Nat) : Int) != 2) with ⟨h2,g2⟩ | ⟨h2,g2⟩ <;> try simp only [kb] at g2
  ·refine Zp h2<|Zm Z<|Zp h2<|Zv (Y.lenSl Z Opt2_es25)<|Zp h2<|Zv (Y.int Z Z Z)<|Zv (Y.pick_t Z h2 Z)<|Ze<|Zg<|Tr.cond_t rfl (bne_iff_ne.2 W)<|Zs<|Zr<|Za Z<|Za Z<|Ze<|Zg<|?_
   refine Zu<|Zn<|?_
   exact Ex.ret2 rfl rfl rfl  ⟨rfl,rfl,_,_,rfl⟩
  ·refine Zo h2 Z<|Zo h2 Z<|Zo h2 Z<|Zv (Y.pick_f Z h2 Z)<|Ze<|Zg<|Tr.cond_f Z Z<|Zt<|Zg<|Zs<|Zr<|Za Z<|Ze<|Zg<|Zs<|Zs<|?_
   refine Zr<|Za Z<|Ze<|Zg<|Zb<|?_
   refine ZL (X := Nat) (fun i => V) (fun i => H) (fun i => [(0,.slice pb bs.length cb),(4,.int .i64 (val (bs.take i))),(5,.int .i64 (i : Int))]) (fun i => i ≤ bs.length) (fun i => bs.length - i) 0 (Nat.zero_le _) ?_ (by repeat (first | exact subB_nil _ | refine subB_cons (by first | rfl | exact congrArg (fun z => some (Value.int _ z)) W | exact congrArg (fun z => some (Value.int _ z)) (val_take W).symm) ?_))
   rintro i hi
   refine Zs<|Zs<|Zr<|Zm Z<|Zm Z<|Zv (Y.lenSl Z Opt2_es25)<|Zv (Y.int Z Z Z)<|Ze<|Zg<|?_
   rcases Zsplit (decide ((i : Int) < ((bs.length : Nat) : Int))) with ⟨h3,g3⟩ | ⟨h3,g3⟩ <;> try simp only [kb] at g3
   ·obtain ⟨b,off,c2,cs,e,fz,hw,hc,hkb,hcs⟩ := hvb.opened W
    obtain ⟨rfl,rfl⟩ : pb = some ⟨b,off,none⟩ ∧ cb = c2 := by cases hw; exact ⟨rfl,rfl⟩
    clear hw
    have hs := val_small (l := bs.take i) (by simp; omega)
    have hb := u8_lt (bs.getD i 0)
    refine Tr.cond_t Z h3<|Zt<|Zg<|Zs<|Zb<|Zr<|Zm Z<|Zv (Y.mul Z Z W)<|Zm Z<|Zm Z<|Zv (Y.idxAddr Z Z Opt2_es25 W W)<|Zv (Y.load Z Opt2_ts5 hkb (at1 hcs W (map_at byteV 0 W)))<|Zv (Y.conv (((bs.getD i 0).toNat : Int)) rfl Opt2_it5_3 (wrap_i64 W))<|Zv (Y.add Z Z W)<|Za Z<|Ze<|?_
    refine Zc<|Zg<|Zr<|Zm Z<|Zv (Y.add Z Z W)<|Za Z<|Ze<|?_
    exact ZR (i + 1) (by show i + 1 ≤ bs.length; omega) W (by repeat (first | exact subB_nil _ | refine subB_cons (by first | rfl | exact congrArg (fun z => some (Value.int _ z)) W | exact congrArg (fun z => some (Value.int _ z)) (val_take W).symm) ?_))
   ·refine Tr.cond_f Z h3<|Zx<|Zy<|Zy<|Zi<|Zg<|Zs<|Zr<|Zm Z<|Za Z<|Za Z<|Ze<|Zg<|Zu<|?_
    exact Ex.ret2 rfl rfl rfl  ⟨rfl,rfl,_,_,rfl⟩
 ·refine Zo h1 Z<|Zo h1 Z<|Zo h1 Z<|Zv (Y.pick_f Z h1 Z)<|Zm Z<|Zo Z Z<|Zo Z Z<|Zo Z Z<|Zv (Y.pick_f Z Z Z)<|Ze<|Zg<|Tr.cond_f Z Z<|Zt<|Zg<|Zs<|Zr<|?_
  refine Za Z<|Ze<|Zg<|Zs<|Zs<|Zr<|Za Z<|Ze<|Zg<|Zb<|?_
  refine ZL (X := Nat) (fun i => V) (fun i => H) (fun i => [(0,.slice pb bs.length cb),(4,.int .i64 (val (bs.take i))),(5,.int .i64 (i : Int))]) (fun i => i ≤ bs.length) (fun i => bs.length - i) 0 (Nat.zero_le _) ?_ (by repeat (first | exact subB_nil _ | refine subB_cons (by first | rfl | exact congrArg (fun z => some (Value.int _ z)) W | exact congrArg (fun z => some (Value.int _ z)) (val_take W).symm) ?_))
  rintro i hi
  refine Zs<|Zs<|Zr<|Zm Z<|Zm Z<|Zv (Y.lenSl Z Opt2_es25)<|Zv (Y.int Z Z Z)<|Ze<|Zg<|?_
  rcases Zsplit (decide ((i : Int) < ((bs.length : Nat) : Int))) with ⟨h4,g4⟩ | ⟨h4,g4⟩ <;> try simp only [kb] at g4
  ·obtain ⟨b,off,c2,cs,e,fz,hw,hc,hkb,hcs⟩ := hvb.opened W
   obtain ⟨rfl,rfl⟩ : pb = some ⟨b,off,none⟩ ∧ cb = c2 := by cases hw; exact ⟨rfl,rfl⟩
   clear hw
   have hs := val_small (l := bs.take i) (by simp; omega)
   have hb := u8_lt (bs.getD i 0)
   refine Tr.cond_t Z h4<|Zt<|Zg<|Zs<|Zb<|Zr<|Zm Z<|Zv (Y.mul Z Z W)<|Zm Z<|Zm Z<|Zv (Y.idxAddr Z Z Opt2_es25 W W)<|Zv (Y.load Z Opt2_ts5 hkb (at1 hcs W (map_at byteV 0 W)))<|Zv (Y.conv (((bs.getD i 0).toNat : Int)) rfl Opt2_it5_3 (wrap_i64 W))<|Zv (Y.add Z Z W)<|Za Z<|Ze<|?_
   refine Zc<|Zg<|Zr<|Zm Z<|Zv (Y.add Z Z W)<|Za Z<|Ze<|?_
   exact ZR (i + 1) (by show i + 1 ≤ bs.length; omega) W (by repeat (first | exact subB_nil _ | refine subB_cons (by first | rfl | exact congrArg (fun z => some (Value.int _ z)) W | exact congrArg (fun z => some (Value.int _ z)) (val_take W).symm) ?_))
  ·refine Tr.cond_f Z h4<|Zx<|Zy<|Zy<|Zi<|Zg<|Zs<|Zr<|Zm Z<|Za Z<|Za Z<|Ze<|Zg<|Zu<|?_
   exact Ex.ret2 rfl rfl rfl  ⟨rfl,rfl,_,_,rfl⟩
theorem number_h {V : Vw} {H : Hp} {v : Value} {bs : List UInt8} (hv : Rd V H 1 v bs.length (bs.map byteV)) (h4 : bs.length = 4) : Does Tryz.prog 139 [v] V H (Pv (.tuple #[.int .i64 (val bs),.int .i64 0]) V H) := by
  obtain ⟨p,c,rfl,_⟩ := hv.form
  exact number_c hv h4
theorem rnumber_h {V : Vw} {H : Hp} {v : Value} {bs : List UInt8} (hv : Rd V H 1 v bs.length (bs.map byteV)) (h4 : bs.length = 4) : Does Tryz.prog 16 [v] V H (Pv (.tuple #[.int .i64 (val bs),.int .i64 0]) V H) := by
  obtain ⟨p,c,rfl,_⟩ := hv.form
  exact rnumber_c hv h4
theorem rnumber_oh {V : Vw} {H : Hp} {v : Value} {bs : List UInt8} (hv : Rd V H 1 v bs.length (bs.map byteV)) (h4 : ¬ bs.length = 4) : Does Tryz.prog 16 [v] V H (fun u V' H' => V' = V ∧ H' = H ∧ ∃ n e,u = .tuple #[.int .i64 n,.int .i64 e]) := by
  obtain ⟨p,c,rfl,_⟩ := hv.form
  exact rnumber_o hv h4
theorem kind_c {V : Vw} {L : List Opn} {po : Option Addr} {co : Nat} (ho : Rd V [] 2 (.slice po L.length co) L.length (L.map Opn.cells).flatten) (hr : Opn.Rds V L) (hL : L.length ≤ 1000000) {p : Pc} {ph : Option Addr} {ch : Nat} (hh : Rd V [] 1 (.slice ph p.hw.length ch) p.hw.length (p.hw.map byteV)) (hLp : L.map Opn.c = p.os) (hf : Oc.few (L.map Opn.c) = true)  : Does Tryz.prog 14 [.agg #[.int .i64 p.op,.int .u32 p.xid,.int .i64 p.secs,.int .i64 p.flags,.int .u32 p.ci,.int .u32 p.yi,.int .u32 p.si,.int .u32 p.gi,.slice ph p.hw.length ch,.slice po L.length co]] V [] (Pv (.int .i64 (Pc.kind p)) V []) := by
 refine Does.intro Tryz.func14 rfl rfl (le rfl) (fun B => ?_)
 refine Zs<|Zr<|?_
 refine Run.box rfl (lt rfl) (fun b1 => ?_)
 refine Za Z<|Ze<|Zg<|Zs<|Zr<|Zv (Y.fieldAddr Z Opt2_fo28_9)<|Zv (Y.load Z Opt2_ts26 (Kn.at 0 Z) Z)<|?_
 refine Run.call [] (l := [.tmp 7,.const (.int .i64 53)]) rfl rfl rfl (lt rfl) (find_c (code := 53) ho hr hL hf) (fun v2 V2 H2 _ hR => ?_)
 obtain ⟨hV,z3,s4,rfl,rfl,ho5⟩ := hR; replace hV := hV.symm; subst hV; obtain ⟨p6,c7,rfl⟩ := ho5.form
 refine Zm Z<|Zv (Y.extract Z Z)<|Zv (Y.extract Z Z)<|Za Z<|Za Z<|Ze<|Zg<|Zs<|Zs<|Zr<|Zm Z<|Zv (Y.lenSl Z Opt2_es25)<|Zv (Y.int Z Z Z)<|Ze<|Zg<|?_
 rcases Zsplit ((((Oc.fd 53 (L.map Opn.c)).length : Nat) : Int) != 1) with ⟨h8,g8⟩ | ⟨h8,g8⟩ <;> try simp only [kb] at g8
 ·refine Tr.cond_t Z h8<|Zs<|Zr<|Za Z<|Ze<|Zg<|Zu<|Zn<|Ex.keep []<|?_
  exact Ex.ret1 rfl rfl  ⟨congrArg (Value.int _) (by unfold Pc.kind; rw [← hLp,if_neg W]),rfl,rfl⟩
 ·refine Tr.cond_f Z h8<|Zt<|Zg<|Zs<|Zr<|?_
  obtain ⟨b5,off5,c5,cs5,e5,fz5,hw5,_,hk5,hcs5⟩ := (show Rd V [[(b1,.cells #[.int .i64 p.op,.int .u32 p.xid,.int .i64 p.secs,.int .i64 p.flags,.int .u32 p.ci,.int .u32 p.yi,.int .u32 p.si,.int .u32 p.gi,.slice ph p.hw.length ch,.slice po L.length co] 28 (0,0))],s4] 1 (.slice p6 (Oc.fd 53 (L.map Opn.c)).length c7) (Oc.fd 53 (L.map Opn.c)).length ((Oc.fd 53 (L.map Opn.c)).map byteV) from (ho5.rd 1 rfl)).opened W
  obtain ⟨rfl,rfl⟩ : p6 = some ⟨b5,off5,none⟩ ∧ c7 = c5 := by cases hw5; exact ⟨rfl,rfl⟩
  have hb := u8_lt ((Oc.fd 53 (L.map Opn.c)).getD 0 0)
  refine Zm Z<|Zv (Y.idxAddr Z Z Opt2_es25 W W)<|Zv (Y.load Z Opt2_ts5 hk5 (at1 (i := 0) hcs5 W (map_at byteV 0 W)))<|Zv (Y.conv ((((Oc.fd 53 (L.map Opn.c)).getD 0 0).toNat : Int)) rfl Opt2_it5_3 (wrap_i64 W))<|Za Z<|Ze<|Zg<|Zu<|Ex.keep []<|?_
  exact Ex.ret1 rfl rfl  ⟨congrArg (Value.int _) (by unfold Pc.kind; rw [← hLp,if_pos W,val_of1 W]),rfl,rfl⟩
theorem kind_h {V : Vw} {H : Hp} {p : Pc} {hv ov : Value} (hp : Pc.R V p hv ov) (hf : Pc.few p = true) : Does Tryz.prog 14 [.agg (p.cells hv ov)] V H (Pv (.int .i64 (Pc.kind p)) V H) := by
  obtain ⟨ph,ch,rfl,_⟩ := hp.hw.form
  obtain ⟨L,hLp,ho,hr⟩ := hp.os
  obtain ⟨po,co,rfl,_⟩ := ho.form
  have hf' : Oc.few (L.map Opn.c) = true := by rw [hLp]; simp only [Pc.few,Bool.and_eq_true] at hf; exact hf.1
  have hL : L.length ≤ 1000000 := by have := (Oc.few_iff.1 hf').1; rw [List.length_map] at this; omega
  exact (kind_c ho hr hL hp.hw hLp hf').frame
end Go.Proofs.YtfgblingojgafaaGreat
namespace Go.Proofs.YtfgblingojgafaaGreat
open Go Go.K
attribute [local irreducible] Code.wp wpList Calls wpQuiet
theorem Opt3_es26 : elemS Tryz.prog 26 = some (81,2) := by kernel_rfl
theorem Opt3_fo81_0 : fieldOff Tryz.prog 81 0 = some 0 := by kernel_rfl
theorem Opt3_ts3 : scal Tryz.prog 3 = true := by kernel_rfl
theorem Opt3_fo81_1 : fieldOff Tryz.prog 81 1 = some 1 := by kernel_rfl
theorem Opt3_ts25 : scal Tryz.prog 25 = true := by kernel_rfl
theorem Opt3_es25 : elemS Tryz.prog 25 = some (5,1) := by kernel_rfl
theorem Opt3_mo : Tryz.prog.follows .mixedOrders = true := by kernel_rfl
theorem Opt3_it3_5 : intT Tryz.prog 3 5 = some .u8 := by kernel_rfl
theorem Opt3_zo5 : zeroOf Tryz.prog 5 = some (.int .u8 0) := by kernel_rfl
theorem Opt3_zi5 : zeroInfo Tryz.prog 5 = some (1,1,.int .u8 0) := by kernel_rfl
theorem Opt3_fo28_0 : fieldOff Tryz.prog 28 0 = some 0 := by kernel_rfl
theorem Opt3_fo28_2 : fieldOff Tryz.prog 28 2 = some 2 := by kernel_rfl
theorem Opt3_fo28_3 : fieldOff Tryz.prog 28 3 = some 3 := by kernel_rfl
theorem Opt3_fo28_8 : fieldOff Tryz.prog 28 8 = some 8 := by kernel_rfl
theorem Opt3_fo28_9 : fieldOff Tryz.prog 28 9 = some 9 := by kernel_rfl
theorem Opt3_ts26 : scal Tryz.prog 26 = true := by kernel_rfl
theorem Opt3_tg5 : tagOf Tryz.prog 5 = some (0,.u8) := by kernel_rfl
theorem Opt3_st9 : strT Tryz.prog 9 = true := by kernel_rfl
theorem Opt3_fo28_1 : fieldOff Tryz.prog 28 1 = some 1 := by kernel_rfl
theorem Opt3_ts23 : scal Tryz.prog 23 = true := by kernel_rfl
theorem Opt3_fo28_4 : fieldOff Tryz.prog 28 4 = some 4 := by kernel_rfl
theorem Opt3_ts24 : scal Tryz.prog 24 = true := by kernel_rfl
theorem Opt3_fo28_5 : fieldOff Tryz.prog 28 5 = some 5 := by kernel_rfl
theorem Opt3_fo28_6 : fieldOff Tryz.prog 28 6 = some 6 := by kernel_rfl
theorem Opt3_fo28_7 : fieldOff Tryz.prog 28 7 = some 7 := by kernel_rfl
theorem few2_c {V : Vw} {L : List Opn} {po : Option Addr} {co : Nat} (ho : Rd V [] 2 (.slice po L.length co) L.length (L.map Opn.cells).flatten) (hr : Opn.Rds V L)  : Does Tryz.prog 85 [.slice po L.length co] V [] (Pv (.bool (Oc.few (L.map Opn.c))) V []) := by
 refine Does.intro Tryz.func85 rfl rfl (le rfl) (fun B => ?_)
 refine Zs<|Zr<|Za Z<|Ze<|Zg<|Zs<|Zs<|Zr<|Zm Z<|Zv (Y.lenSl Z Opt3_es26)<|Zv (Y.int Z Z Z)<|Ze<|Zg<|?_
 rcases Zsplit (decide (((L.length : Nat) : Int) > 100)) with ⟨h1,g1⟩ | ⟨h1,g1⟩ <;> try simp only [kb] at g1
 ·refine Tr.cond_t Z h1<|Zs<|Zr<|Za Z<|Ze<|Zg<|Zu<|Zn<|?_
  exact Ex.ret1 rfl rfl  ⟨by rw [Oc.few_long W],rfl,rfl⟩
 ·refine Tr.cond_f Z h1<|Zt<|Zg<|Zs<|Zs<|Zr<|Za Z<|Ze<|Zg<|Zb<|?_
  refine ZL (X := Nat) (fun i => V) (fun i => []) (fun i => [(0,.slice po L.length co),(3,.int .i64 (i : Int))]) (fun i => i ≤ L.length ∧ ∀ j,j < i → (L.getD j Opn.dflt).d.length ≤ 1000) (fun i => L.length - i) 0 ⟨Nat.zero_le _,fun j hj => absurd hj (Nat.not_lt_zero j)⟩ ?_
  rintro i ⟨hi,hin⟩
  refine Zs<|Zs<|Zr<|Zm Z<|Zm Z<|Zv (Y.lenSl Z Opt3_es26)<|Zv (Y.int Z Z Z)<|Ze<|Zg<|?_
  rcases Zsplit (decide ((i : Int) < ((L.length : Nat) : Int))) with ⟨h2,g2⟩ | ⟨h2,g2⟩ <;> try simp only [kb] at g2
  ·obtain ⟨b,off,c2,cs,e,fz,hw,hc,hko,hcs⟩ := ho.opened W
   obtain ⟨rfl,rfl⟩ : po = some ⟨b,off,none⟩ ∧ co = c2 := by cases hw; exact ⟨rfl,rfl⟩
   clear hw
   have hrow := row_at (f := Opn.cells) Opn.len hcs (i := i) W (Nat.le_refl _) Opn.dflt
   have hmem := getD_mem (l := L) (j := i) W Opn.dflt
   generalize hoe : L.getD i Opn.dflt = o at *
   have hro := hr o hmem
   obtain ⟨pd,cd,hov,_⟩ := hro.form
   rw [hov] at hro
   have hrow2 : ∀ j,j < 2 → cs[off + ((i : Nat) : Int).toNat * 2 + j]? = ([.int .i64 o.code,.slice pd o.d.length cd] : List Value)[j]? := fun j hj => by rw [hrow j hj]; simp only [Opn.cells,hov]
   refine Tr.cond_t Z h2<|Zt<|Zg<|Zs<|Zb<|Zs<|Zr<|Zm Z<|Zm Z<|Zv (Y.idxAddr Z Z Opt3_es26 W W)<|Zv (Y.fieldAddr Z Opt3_fo81_1)<|Zv (Y.load Z Opt3_ts25 hko.of_nil (hrow2 1 WD))<|Zv (Y.lenSl Z Opt3_es25)<|Zv (Y.int Z Z Z)<|Ze<|Zg<|?_
   rcases Zsplit (decide (((o.d.length : Nat) : Int) > 1000)) with ⟨h3,g3⟩ | ⟨h3,g3⟩ <;> try simp only [kb] at g3
   ·refine Tr.cond_t Z h3<|Zs<|Zr<|Za Z<|Ze<|Zg<|Zu<|Zk<|Zn<|Zn<|Zk<|Zn<|?_
    exact Ex.ret1 rfl rfl  ⟨by rw [Oc.few_no (i := i) W (by rw [hoe]; omega)],rfl,rfl⟩
   ·refine Tr.cond_f Z h3<|Zt<|Zc<|Zg<|Zr<|Zm Z<|Zv (Y.add Z Z W)<|Za Z<|Ze<|?_
    exact ZR (i + 1) ⟨by omega,upto hin (by rw [hoe]; omega)⟩ W
  ·refine Tr.cond_f Z h2<|Zx<|Zy<|Zy<|Zi<|Zg<|Zs<|Zr<|Za Z<|Ze<|Zg<|Zu<|?_
   exact Ex.ret1 rfl rfl  ⟨by rw [Oc.few_yes W (fun j hj => hin j W)],rfl,rfl⟩
theorem few3_c {V : Vw} {L : List Opn} {po : Option Addr} {co : Nat} (ho : Rd V [] 2 (.slice po L.length co) L.length (L.map Opn.cells).flatten) (hr : Opn.Rds V L) {p : Pc} {ph : Option Addr} {ch : Nat} (hh : Rd V [] 1 (.slice ph p.hw.length ch) p.hw.length (p.hw.map byteV)) (hLp : L.map Opn.c = p.os)  : Does Tryz.prog 34 [.agg #[.int .i64 p.op,.int .u32 p.xid,.int .i64 p.secs,.int .i64 p.flags,.int .u32 p.ci,.int .u32 p.yi,.int .u32 p.si,.int .u32 p.gi,.slice ph p.hw.length ch,.slice po L.length co]] V [] (Pv (.bool (Pc.few p)) V []) := by
 refine Does.intro Tryz.func34 rfl rfl (le rfl) (fun B => ?_)
 refine Zs<|Zr<|?_
 refine Run.box rfl (lt rfl) (fun b1 => ?_)
 refine Za Z<|Ze<|Zg<|Zs<|Zr<|Zv (Y.fieldAddr Z Opt3_fo28_9)<|Zv (Y.load Z Opt3_ts26 (Kn.at 0 Z) Z)<|Run.call0 (l := [.tmp 5]) Z Z Z (lt Z) ((few2_c ho hr).frame)<|Za Z<|Ze<|Zg<|Zs<|Zr<|Zm Z<|Zm Z<|?_
 rcases Zsplit (Oc.few (L.map Opn.c)) with ⟨h2,g2⟩ | ⟨h2,g2⟩ <;> try simp only [kb] at g2
 ·refine Zp h2<|Zv (Y.fieldAddr Z Opt3_fo28_8)<|Zp h2<|Zv (Y.load Z Opt3_ts25 (Kn.at 0 Z) Z)<|Zp h2<|Zv (Y.lenSl Z Opt3_es25)<|Zp h2<|Zv (Y.int Z Z Z)<|Zv (Y.pick_t Z h2 Z)<|Za Z<|Ze<|Zg<|Zu<|Ex.keep []<|?_
  exact Ex.ret1 rfl rfl  ⟨congrArg Value.bool (by unfold Pc.few; rw [← hLp,h2,Bool.true_and]),rfl,rfl⟩
 ·refine Zo h2 Z<|Zo h2 Z<|Zo h2 Z<|Zo h2 Z<|Zv (Y.pick_f Z h2 Z)<|Za Z<|Ze<|Zg<|Zu<|Ex.keep []<|?_
  exact Ex.ret1 rfl rfl  ⟨congrArg Value.bool (by unfold Pc.few; rw [← hLp,h2,Bool.false_and]),rfl,rfl⟩
theorem few_h {V : Vw} {H : Hp} {p : Pc} {hv ov : Value} (hh : Rd V [] 1 hv p.hw.length (p.hw.map byteV)) (hs : Pc.Rs V ov p.os) : Does Tryz.prog 34 [.agg (p.cells hv ov)] V H (Pv (.bool (Pc.few p)) V H) := by
  obtain ⟨ph,ch,rfl,_⟩ := hh.form
  obtain ⟨L,hLp,ho,hr⟩ := hs
  obtain ⟨po,co,rfl,_⟩ := ho.form
  exact (few3_c ho hr hh hLp).frame
theorem same2_c {V : Vw} {L : List Opn} {po : Option Addr} {co : Nat} (ho : Rd V [] 2 (.slice po L.length co) L.length (L.map Opn.cells).flatten) (hr : Opn.Rds V L) (hL : L.length ≤ 1000000) {M : List Opn} {qo : Option Addr} {do_ : Nat} (ho2 : Rd V [] 2 (.slice qo M.length do_) M.length (M.map Opn.cells).flatten) (hr2 : Opn.Rds V M) (hLM : L.map Opn.c = M.map Opn.c)  : Does Tryz.prog 54 [.slice po L.length co,.slice qo M.length do_] V [] (Pv (.bool true) V []) := by
 have hlen := Oc.same_len hLM
 refine Does.intro Tryz.func54 rfl rfl (le rfl) (fun B => ?_)
 refine Zs<|Zr<|Za Z<|Ze<|Zg<|Zs<|Zs<|Zr<|Zm Z<|Zv (Y.lenSl Z Opt3_es26)<|Zm Z<|Zv (Y.lenSl Z Opt3_es26)<|Zv (Y.int Z Z Z)<|Ze<|Zg<|Tr.cond_f rfl (bne_eq_false_iff_eq.2 W)<|?_
 refine Zt<|Zg<|Zs<|Zs<|Zr<|Za Z<|Ze<|Zg<|Zb<|?_
 refine ZL (X := Nat) (fun i => V) (fun i => []) (fun i => [(0,.slice po L.length co),(1,.slice qo M.length do_),(5,.int .i64 (i : Int))]) (fun i => i ≤ L.length) (fun i => L.length - i) 0 (Nat.zero_le _) ?_
 rintro i hi
 refine Zs<|Zs<|Zr<|Zm Z<|Zm Z<|Zv (Y.lenSl Z Opt3_es26)<|Zv (Y.int Z Z Z)<|Ze<|Zg<|?_
 rcases Zsplit (decide ((i : Int) < ((L.length : Nat) : Int))) with ⟨h1,g1⟩ | ⟨h1,g1⟩ <;> try simp only [kb] at g1
 ·have hse := Oc.same_at hLM i
  obtain ⟨b,off,c2,cs,e,fz,hw,hc,hko,hcs⟩ := ho.opened W
  obtain ⟨rfl,rfl⟩ : po = some ⟨b,off,none⟩ ∧ co = c2 := by cases hw; exact ⟨rfl,rfl⟩
  clear hw
  have hrow := row_at (f := Opn.cells) Opn.len hcs (i := i) W (Nat.le_refl _) Opn.dflt
  have hmem := getD_mem (l := L) (j := i) W Opn.dflt
  generalize hoe : L.getD i Opn.dflt = o at *
  have hro := hr o hmem
  obtain ⟨pd,cd,hov,_⟩ := hro.form
  rw [hov] at hro
  have hrow2 : ∀ j,j < 2 → cs[off + ((i : Nat) : Int).toNat * 2 + j]? = ([.int .i64 o.code,.slice pd o.d.length cd] : List Value)[j]? := fun j hj => by rw [hrow j hj]; simp only [Opn.cells,hov]
  obtain ⟨b2,off2,c3,cs2,e2,fz2,hw2,hc2,hko2,hcs2⟩ := ho2.opened W
  obtain ⟨rfl,rfl⟩ : qo = some ⟨b2,off2,none⟩ ∧ do_ = c3 := by cases hw2; exact ⟨rfl,rfl⟩
  clear hw2
  have hrowb := row_at (f := Opn.cells) Opn.len hcs2 (i := i) W (Nat.le_refl _) Opn.dflt
  have hmem2 := getD_mem (l := M) (j := i) W Opn.dflt
  generalize hoe2 : M.getD i Opn.dflt = o2 at *
  have hro2 := hr2 o2 hmem2
  obtain ⟨pd2,cd2,hov2,_⟩ := hro2.form
  rw [hov2] at hro2
  have hrowb2 : ∀ j,j < 2 → cs2[off2 + ((i : Nat) : Int).toNat * 2 + j]? = ([.int .i64 o2.code,.slice pd2 o2.d.length cd2] : List Value)[j]? := fun j hj => by rw [hrowb j hj]; simp only [Opn.cells,hov2]
  refine Tr.cond_t Z h1<|Zt<|Zg<|Zs<|Zb<|Zs<|Tr.quiet Opt3_mo WK<|ZM Z<|ZM Z<|ZV (Y.idxAddr Z Z Opt3_es26 W W)<|ZV (Y.fieldAddr Z Opt3_fo81_0)<|ZV (Y.load Z Opt3_ts3 hko.of_nil (hrow 0 WD))<|ZM Z<|ZM Z<|ZV (Y.idxAddr Z Z Opt3_es26 W W)<|ZV (Y.fieldAddr Z Opt3_fo81_0)<|?_
  refine ZV (Y.load Z Opt3_ts3 hko2.of_nil (hrowb2 0 WD))<|ZV (Y.int Z Z Z)<|ZM Z<|ZP (bne_eq_false_iff_eq.2 hse.1)<|ZM Z<|ZP (bne_eq_false_iff_eq.2 hse.1)<|ZM Z<|ZP (bne_eq_false_iff_eq.2 hse.1)<|ZV (Y.idxAddr Z Z Opt3_es26 W W)<|ZP (bne_eq_false_iff_eq.2 hse.1)<|ZV (Y.fieldAddr Z Opt3_fo81_1)<|ZP (bne_eq_false_iff_eq.2 hse.1)<|ZV (Y.load Z Opt3_ts25 hko.of_nil (hrow2 1 WD))<|ZP (bne_eq_false_iff_eq.2 hse.1)<|?_
  refine ZV (Y.bytesStr (bs := o.d) Z Opt3_es25 Opt3_tg5 Opt3_st9 hro.of_nil)<|ZP (bne_eq_false_iff_eq.2 hse.1)<|ZM Z<|ZP (bne_eq_false_iff_eq.2 hse.1)<|ZM Z<|ZP (bne_eq_false_iff_eq.2 hse.1)<|ZV (Y.idxAddr Z Z Opt3_es26 W W)<|ZP (bne_eq_false_iff_eq.2 hse.1)<|ZV (Y.fieldAddr Z Opt3_fo81_1)<|ZP (bne_eq_false_iff_eq.2 hse.1)<|ZV (Y.load Z Opt3_ts25 hko2.of_nil (hrowb2 1 WD))<|ZP (bne_eq_false_iff_eq.2 hse.1)<|?_
  refine ZV (Y.bytesStr (bs := o2.d) Z Opt3_es25 Opt3_tg5 Opt3_st9 hro2.of_nil)<|ZP (bne_eq_false_iff_eq.2 hse.1)<|ZV (Y.neStr Z Z)<|ZV (Y.pick_f Z (bne_eq_false_iff_eq.2 hse.1) Z)<|ZE<|Zg<|Tr.cond_f rfl (by rw [hse.2]; simp)<|Zt<|Zc<|Zg<|Zr<|Zm Z<|Zv (Y.add Z Z W)<|Za Z<|Ze<|?_
  exact ZR (i + 1) (by show i + 1 ≤ L.length; omega) W
 ·refine Tr.cond_f Z h1<|Zx<|Zy<|Zy<|Zi<|Zg<|Zs<|Zr<|Za Z<|Ze<|Zg<|Zu<|?_
  exact Ex.ret1 rfl rfl  ⟨rfl,rfl,rfl⟩
theorem same3_c {V : Vw} {L : List Opn} {po : Option Addr} {co : Nat} (ho : Rd V [] 2 (.slice po L.length co) L.length (L.map Opn.cells).flatten) (hr : Opn.Rds V L) (hL : L.length ≤ 1000000) {M : List Opn} {qo : Option Addr} {do_ : Nat} (ho2 : Rd V [] 2 (.slice qo M.length do_) M.length (M.map Opn.cells).flatten) (hr2 : Opn.Rds V M) {p : Pc} {ph qh : Option Addr} {ch dh : Nat} (hh : Rd V [] 1 (.slice ph p.hw.length ch) p.hw.length (p.hw.map byteV)) (hh2 : Rd V [] 1 (.slice qh p.hw.length dh) p.hw.length (p.hw.map byteV)) (hLp : L.map Opn.c = p.os) (hMp : M.map Opn.c = p.os)  : Does Tryz.prog 22 [.agg #[.int .i64 p.op,.int .u32 p.xid,.int .i64 p.secs,.int .i64 p.flags,.int .u32 p.ci,.int .u32 p.yi,.int .u32 p.si,.int .u32 p.gi,.slice ph p.hw.length ch,.slice po L.length co],.agg #[.int .i64 p.op,.int .u32 p.xid,.int .i64 p.secs,.int .i64 p.flags,.int .u32 p.ci,.int .u32 p.yi,.int .u32 p.si,.int .u32 p.gi,.slice qh p.hw.length dh,.slice qo M.length do_]] V [] (Pv (.bool true) V []) := by
 refine Does.intro Tryz.func22 rfl rfl (le rfl) (fun B => ?_)
 refine Zs<|Zr<|?_
 refine Run.box rfl (lt rfl) (fun b1 => ?_)
 refine Run.box rfl (lt rfl) (fun b2 => ?_)
 refine Za Z<|Ze<|Zg<|Zs<|Zr<|Zv (Y.fieldAddr Z Opt3_fo28_9)<|Zv (Y.load Z Opt3_ts26 (Kn.at 1 Z) Z)<|Zv (Y.fieldAddr Z Opt3_fo28_9)<|Zv (Y.load Z Opt3_ts26 (Kn.at 0 Z) Z)<|Run.call0 (l := [.tmp 7,.tmp 9]) Z Z Z (lt Z) ((same2_c ho hr hL ho2 hr2 (hLp.trans hMp.symm)).frame)<|Za Z<|Ze<|Zg<|Zs<|Zr<|Zm Z<|?_
 refine Zm Z<|Zp Z<|Zv (Y.fieldAddr Z Opt3_fo28_0)<|Zp Z<|Zv (Y.load Z Opt3_ts3 (Kn.at 1 Z) Z)<|Zp Z<|Zv (Y.fieldAddr Z Opt3_fo28_0)<|Zp Z<|Zv (Y.load Z Opt3_ts3 (Kn.at 0 Z) Z)<|Zp Z<|Zv (Y.eqI_t Z Z)<|Zv (Y.pick_t Z Z Z)<|Zm Z<|Zp Z<|Zv (Y.fieldAddr Z Opt3_fo28_1)<|Zp Z<|?_
 refine Zv (Y.load Z Opt3_ts23 (Kn.at 1 Z) Z)<|Zp Z<|Zv (Y.fieldAddr Z Opt3_fo28_1)<|Zp Z<|Zv (Y.load Z Opt3_ts23 (Kn.at 0 Z) Z)<|Zp Z<|Zv (Y.eqI_t Z Z)<|Zv (Y.pick_t Z Z Z)<|Zm Z<|Zp Z<|Zv (Y.fieldAddr Z Opt3_fo28_2)<|Zp Z<|Zv (Y.load Z Opt3_ts3 (Kn.at 1 Z) Z)<|Zp Z<|Zv (Y.fieldAddr Z Opt3_fo28_2)<|Zp Z<|?_
 refine Zv (Y.load Z Opt3_ts3 (Kn.at 0 Z) Z)<|Zp Z<|Zv (Y.eqI_t Z Z)<|Zv (Y.pick_t Z Z Z)<|Zm Z<|Zp Z<|Zv (Y.fieldAddr Z Opt3_fo28_3)<|Zp Z<|Zv (Y.load Z Opt3_ts3 (Kn.at 1 Z) Z)<|Zp Z<|Zv (Y.fieldAddr Z Opt3_fo28_3)<|Zp Z<|Zv (Y.load Z Opt3_ts3 (Kn.at 0 Z) Z)<|Zp Z<|Zv (Y.eqI_t Z Z)<|Zv (Y.pick_t Z Z Z)<|?_
 refine Zm Z<|Zp Z<|Zv (Y.fieldAddr Z Opt3_fo28_4)<|Zp Z<|Zv (Y.load Z Opt3_ts24 (Kn.at 1 Z) Z)<|Zp Z<|Zv (Y.fieldAddr Z Opt3_fo28_4)<|Zp Z<|Zv (Y.load Z Opt3_ts24 (Kn.at 0 Z) Z)<|Zp Z<|Zv (Y.eqI_t Z Z)<|Zv (Y.pick_t Z Z Z)<|Zm Z<|Zp Z<|Zv (Y.fieldAddr Z Opt3_fo28_5)<|Zp Z<|?_
 refine Zv (Y.load Z Opt3_ts24 (Kn.at 1 Z) Z)<|Zp Z<|Zv (Y.fieldAddr Z Opt3_fo28_5)<|Zp Z<|Zv (Y.load Z Opt3_ts24 (Kn.at 0 Z) Z)<|Zp Z<|Zv (Y.eqI_t Z Z)<|Zv (Y.pick_t Z Z Z)<|Zm Z<|Zp Z<|Zv (Y.fieldAddr Z Opt3_fo28_6)<|Zp Z<|Zv (Y.load Z Opt3_ts24 (Kn.at 1 Z) Z)<|Zp Z<|Zv (Y.fieldAddr Z Opt3_fo28_6)<|Zp Z<|?_
 refine Zv (Y.load Z Opt3_ts24 (Kn.at 0 Z) Z)<|Zp Z<|Zv (Y.eqI_t Z Z)<|Zv (Y.pick_t Z Z Z)<|Zm Z<|Zp Z<|Zv (Y.fieldAddr Z Opt3_fo28_7)<|Zp Z<|Zv (Y.load Z Opt3_ts24 (Kn.at 1 Z) Z)<|Zp Z<|Zv (Y.fieldAddr Z Opt3_fo28_7)<|Zp Z<|Zv (Y.load Z Opt3_ts24 (Kn.at 0 Z) Z)<|Zp Z<|Zv (Y.eqI_t Z Z)<|Zv (Y.pick_t Z Z Z)<|?_
 refine Zm Z<|Zp Z<|Zv (Y.fieldAddr Z Opt3_fo28_8)<|Zp Z<|Zv (Y.load Z Opt3_ts25 (Kn.at 1 Z) Z)<|Zp Z<|Zv (Y.bytesStr (bs := p.hw) Z Opt3_es25 Opt3_tg5 Opt3_st9 hh.of_nil)<|Zp Z<|Zv (Y.fieldAddr Z Opt3_fo28_8)<|Zp Z<|Zv (Y.load Z Opt3_ts25 (Kn.at 0 Z) Z)<|Zp Z<|Zv (Y.bytesStr (bs := p.hw) Z Opt3_es25 Opt3_tg5 Opt3_st9 hh2.of_nil)<|Zp Z<|Zv (Y.eqStr Z Z)<|Zv (Y.pick_t Z Z Z)<|?_
 refine Za Z<|Ze<|Zg<|Zu<|Ex.keep []<|?_
 exact Ex.ret1 rfl rfl  ⟨congrArg Value.bool (beq_self_eq_true _),rfl,rfl⟩
theorem same_h {V : Vw} {H : Hp} {p : Pc} {hv ov hv2 ov2 : Value} (hh : Rd V [] 1 hv p.hw.length (p.hw.map byteV)) (hs : Pc.Rs V ov p.os) (hh2 : Rd V [] 1 hv2 p.hw.length (p.hw.map byteV)) (hs2 : Pc.Rs V ov2 p.os) (hl : p.os.length ≤ 1000000) : Does Tryz.prog 22 [.agg (p.cells hv ov),.agg (p.cells hv2 ov2)] V H (Pv (.bool true) V H) := by
  obtain ⟨ph,ch,rfl,_⟩ := hh.form
  obtain ⟨qh,dh,rfl,_⟩ := hh2.form
  obtain ⟨L,hLp,ho,hr⟩ := hs
  obtain ⟨M,hMp,ho2,hr2⟩ := hs2
  obtain ⟨po,co,rfl,_⟩ := ho.form
  obtain ⟨qo,do_,rfl,_⟩ := ho2.form
  exact (same3_c ho hr (by have := congrArg List.length hLp; rw [List.length_map] at this; omega) ho2 hr2 hh hh2 hLp hMp).frame
theorem bytes_c {V : Vw} {n : Int} (hn : 0 ≤ n ∧ n ≤ 4294967295)  : Does Tryz.prog 136 [.int .i64 n,.int .i64 4] V [] (fun u V' H' => V' = V ∧ ∃ v s',u = .tuple #[v,.int .i64 0] ∧ H' = [s'] ∧ Ow 5 1 v 4 ((Msg.be 4 n).map byteV) s') := by
 refine Does.intro Tryz.func136 rfl rfl (le rfl) (fun B => ?_)
 refine Zs<|Zr<|Za Z<|Za Z<|Ze<|Zg<|Zs<|Zs<|Zr<|Zm Z<|Ze<|Zg<|Zb<|Zs<|Zs<|Zr<|?_
 refine Zv (Y.int (r := .bool false) Z Z Z)<|Za Z<|Ze<|Zg<|Tr.cond_f Z Z<|Zs<|Zr<|Zv (Y.int (r := .bool false) Z Z Z)<|Za Z<|Ze<|Zg<|Tr.cond_f Z Z<|Zr<|Zv (Y.int (r := .bool true) Z Z Z)<|Za Z<|Ze<|?_
 refine Zg<|Tr.cond_t Z Z<|Zt<|Zc<|Zg<|Zs<|Zs<|Zr<|Zm Z<|Zv (Y.int Z Z Z)<|Zm Z<|?_
 rcases Zsplit (decide (n < 0)) with ⟨h1,g1⟩ | ⟨h1,g1⟩ <;> try simp only [kb] at g1
 ·omega
 ·refine Zp h1<|Zm Z<|Zp h1<|Zm Z<|Zp h1<|Zv (Y.mul Z Z W)<|Zp h1<|Zv (Y.shl (4294967296) rfl rfl WD WD)<|Zp h1<|Zv (Y.int Z Z Z)<|Zv (Y.pick_f Z h1 Z)<|Ze<|Zg<|?_
  rcases Zsplit (decide (n ≥ 4294967296)) with ⟨h2,g2⟩ | ⟨h2,g2⟩ <;> try simp only [kb] at g2
  ·omega
  ·refine Tr.cond_f Z h2<|Zt<|Zg<|Zs<|Zr<|Za Z<|Ze<|Zg<|Zs<|Zs<|Zr<|Run.nilseg<|Zm Z<|Zv (Y.sub Z Z W)<|Za Z<|Ze<|?_
   refine Zg<|Zb<|?_
   refine ZL (X := Nat × Value × Sg) (fun x => V) (fun x => [x.2.2]) (fun x => [(0,.int .i64 n),(1,.int .i64 4),(6,x.2.1),(7,.int .i64 (3 - (x.1 : Int)))]) (fun x => x.1 ≤ 4 ∧ Ow 5 1 x.2.1 x.1 (((Msg.be 4 n).take x.1).map byteV) x.2.2) (fun x => 4 - x.1) (0,.slice none 0 0,[]) ⟨Nat.zero_le _,Ow.nil _ _⟩ ?_
   rintro x ⟨hj,hx⟩
   refine Zs<|Zs<|Zr<|Zm Z<|Zv (Y.int Z Z Z)<|Ze<|Zg<|?_
   rcases Zsplit (decide ((3 - (x.1 : Int)) ≥ 0)) with ⟨h3,g3⟩ | ⟨h3,g3⟩ <;> try simp only [kb] at g3
   ·refine Tr.cond_t Z h3<|Zt<|Zg<|Zs<|Zb<|Zr<|Zm Z<|Zm Z<|Zm Z<|Zv (Y.mul Z Z W)<|Zv (Y.shr (n / 256 ^ (4 - 1 - x.1)) rfl rfl W (Msg.shr_be W W))<|Zv (Y.conv (n / 256 ^ (4 - 1 - x.1) % 256) Z Opt3_it3_5 (wrap_u8_mod _))<|?_
    refine Run.buildSlice (l := [(0,.tmp 33)]) Opt3_es25 Opt3_zo5 rfl WD rfl rfl WD (lt rfl) (fun b4 => ?_)
    refine Run.append (n := x.1) (m := 1) (xs := ((Msg.be 4 n).take x.1).map byteV) (ys := [.int .u8 (n / 256 ^ (4 - 1 - x.1) % 256)]) rfl rfl Opt3_es25 Opt3_zi5 WD (j := 1) rfl hx (Src.of_rd Opt3_es25 (Rd.one (Kn.at 0 rfl) rfl)) W W rfl (lt rfl) (fun v5 s6 ho7 hf => ?_)
    obtain ⟨p5,c5,rfl⟩ := hf
    refine Za Z<|Ze<|Zc<|Zg<|Zr<|Zm Z<|Zv (Y.sub Z Z W)<|Za Z<|Ze<|Ex.keep [1]<|?_
    exact ZR (x.1 + 1,(.slice p5 (x.1 + 1) c5),s6) ⟨by show x.1 + 1 ≤ 4; omega,by have h := ho7; show Ow _ 1 (.slice p5 (x.1 + 1) c5) (x.1 + 1) (((Msg.be 4 n).take (x.1 + 1)).map byteV) s6; rw [Msg.be_step W,List.map_append,List.map_cons,List.map_nil,byteV_of W]; exact h⟩ (by show 4 - (x.1 + 1) < 4 - x.1; omega)
   ·refine Tr.cond_f Z h3<|Zx<|Zy<|Zy<|Zi<|Zg<|Zs<|Zr<|Zm Z<|Za Z<|Za Z<|Ze<|Zg<|Zu<|?_
    exact Ex.ret2 rfl rfl rfl  ⟨rfl,_,_,rfl,rfl,by have h := hx; rw [show x.1 = 4 from by omega,List.take_of_length_le (by rw [Msg.be_length]; omega)] at h; exact h⟩
end Go.Proofs.YtfgblingojgafaaGreat
