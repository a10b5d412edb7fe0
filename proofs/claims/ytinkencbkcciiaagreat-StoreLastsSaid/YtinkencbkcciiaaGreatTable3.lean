/- A table: what it tells, what is set, walked.
Conditions: as each theorem names them. -/
import Derived.Test.YtinkencbkcciiaaGreatProg
import Derived.Test.YtinkencbkcciiaaGreatTable2
import Derived.Test.YtinkencbkcciiaaGreatTB
import Derived.Test.YtinkencbkcciiaaGreatAddr2
import Derived.Test.YtinkencbkcciiaaGreatRB
import Derived.Test.YtinkencbkcciiaaGreatZG
set_option linter.unusedSimpArgs false
set_option linter.unusedVariables false
set_option maxRecDepth 4000
namespace Go.Proofs.YtinkencbkcciiaaGreat
open Go Go.K
attribute [local irreducible] Code.wp wpList Calls wpQuiet
theorem Table3_ag49 : aggsz Tryz.prog 49 = some 8 := by kernel_rfl
theorem Table3_mo : Tryz.prog.follows .mixedOrders = true := by kernel_rfl
theorem Table3_fo149_0 : fieldOff Tryz.prog 149 0 = some 0 := by kernel_rfl
theorem Table3_ts147 : scal Tryz.prog 147 = true := by kernel_rfl
theorem Table3_fo49_0 : fieldOff Tryz.prog 49 0 = some 0 := by kernel_rfl
theorem Table3_ts47 : scal Tryz.prog 47 = true := by kernel_rfl
theorem Table3_mt147 : mapT Tryz.prog 147 = some (.u32,47,49) := by kernel_rfl
theorem Table3_zo49 : zeroOf Tryz.prog 49 = some (.agg #[.int .u32 0,.int .i64 0,.string ⟨#[]⟩,.int .i64 0,.int .i64 0,.int .i64 0,.int .i64 0,.int .i64 0]) := by kernel_rfl
theorem Table3_sz49 : sizeT Tryz.prog 49 = some 8 := by kernel_rfl
theorem Table3_pl49 : placesS Tryz.prog 49 = some [(0,1),(1,1),(2,1),(3,1),(4,1),(5,1),(6,1),(7,1)] := by kernel_rfl
theorem Table3_zo149 : zeroOf Tryz.prog 149 = some (.agg #[.map none]) := by kernel_rfl
theorem Table3_pl149 : placesS Tryz.prog 149 = some [(0,1)] := by kernel_rfl
open Go.Sort
theorem tall1_c {q : Le} {V : Vw} : Does Tryz.prog 85 [.agg #[.int .u32 q.addr,.int .i64 q.bind,.string q.client,.int .i64 q.till,.int .i64 q.acked,.int .i64 q.told,.int .i64 q.at_,.int .i64 q.ver]] V [] (Pv (.bool true) V []) := by
 refine Does.intro Tryz.func85 rfl rfl (le rfl) (fun B => ?_)
 refine Zs<|Zr<|?_
 refine Run.box rfl (lt rfl) (fun b1 => ?_)
 refine Za Z<|Ze<|Zg<|Zs<|Zr<|Za Z<|Ze<|Zg<|Zu<|Ex.keep []<|?_
 exact Ex.ret1 rfl rfl  ⟨rfl,rfl,rfl⟩
theorem alike_c {q : Le} {V : Vw} : Does Tryz.prog 86 [.agg #[.int .u32 q.addr,.int .i64 q.bind,.string q.client,.int .i64 q.till,.int .i64 q.acked,.int .i64 q.told,.int .i64 q.at_,.int .i64 q.ver]] V [] (Pv (.int .i64 0) V []) := by
 refine Does.intro Tryz.func86 rfl rfl (le rfl) (fun B => ?_)
 refine Zs<|Zr<|?_
 refine Run.box rfl (lt rfl) (fun b1 => ?_)
 refine Za Z<|Ze<|Zg<|Zs<|Zr<|Za Z<|Ze<|Zg<|Zu<|Ex.keep []<|?_
 exact Ex.ret1 rfl rfl  ⟨rfl,rfl,rfl⟩
theorem tall_c {V : Vw} {l : List Le} {tx bm clock : Nat} {es : Array MapEntry} (hmi : MapIs .u32 (Le.mt l) es clock) (hr : Le.Ris l) (hlm : l.length ≤ 256)  : Does Tryz.prog 28 [.pointer (some ⟨tx,0,none⟩)] V [[(tx,.cells #[.map (some bm)] 149 (0,0))],[(bm,.map es clock)]] (fun v V' H' => V.le V' ∧ ∃ q,Ow 49 8 v (l).length ((l).flatMap Le.cells) q ∧ H' = q :: [[(tx,.cells #[.map (some bm)] 149 (0,0))],[(bm,.map es clock)]]) := by
 refine Does.intro Tryz.func28 rfl rfl (le rfl) (fun B => ?_)
 refine Zs<|Zr<|Za Z<|Ze<|Zg<|Zs<|Zr<|Zm Z<|?_
 refine Run.call [] (l := [.tmp 3,.func 85]) rfl rfl rfl (lt rfl) (those_top (tx := tx) (fi := 85) (ci := [])) (fun v3 V2 H2 hle hR => ?_)
 obtain ⟨hV,c1,c2,rfl,rfl⟩ := hR; replace hV := hV.symm; subst hV
 refine Run.heapTo (H' := [[(tx,.cells #[.map (some bm)] 149 (0,0))],[(bm,.map es clock)],[(c1,.cells #[.pointer (some ⟨tx,0,none⟩)] 60 (0,0))],[(c2,.cells #[.func (.func 85) #[] #[]] 140 (0,0))]]) Z ?_
 refine Run.call [2,2,0,0] (l := [.tmp 4,.func 86]) rfl rfl rfl (lt rfl) (tsorted_c (gf := 163) (caps := [.pointer (some ⟨c1,0,none⟩),.pointer (some ⟨c2,0,none⟩)]) (fun V' hV' => those_it (fi := 85) (ci := []) (f := (fun _ => true)) hmi (fun x => tall1_c (q := x))) W (fun xs hp => by have h8 := hp.length_eq; have h9 := Le.fil_le (fun _ => true) l; omega) (gb := 86) (cb := []) (k := (fun _ => 0)) (fun V' hV' x => alike_c (q := x))) (fun v4 V4 H4 hle4 hR => ?_)
 obtain ⟨hle4b,xs4,ys4,q4,hS4,hp4,hs4,ho4,rfl⟩ := hR
 rw [Le.sorted_eq (k := (fun _ => 0)) (f := (fun _ => true)) (z := l) hr hS4 hp4 hs4 (Le.all_perm l) (Le.ris_alike hr)] at ho4
 obtain ⟨p4,k4,rfl⟩ := ho4.form
 refine Run.heapTo (H' := [q4,[(c1,.cells #[.pointer (some ⟨tx,0,none⟩)] 60 (0,0))],[(c2,.cells #[.func (.func 85) #[] #[]] 140 (0,0))],[(tx,.cells #[.map (some bm)] 149 (0,0))],[(bm,.map es clock)]]) Z<|Za Z<|Ze<|Zg<|Zu<|Ex.keepTo (H' := [q4,[(tx,.cells #[.map (some bm)] 149 (0,0))],[(bm,.map es clock)]]) [0,2,2] Z<|?_
 exact Ex.ret1 rfl rfl  ⟨hle4b,q4,ho4,rfl⟩
theorem set_t {V : Vw} {l : List Le} {tx : Nat} {vm : Value} {sm : Sg} (hm : Om .u32 vm (Le.mt l) sm) (hr : Le.Ris l) {q : Le} (hs : q.client.size ≤ 9223372036854775807)  : Does Tryz.prog 55 [.pointer (some ⟨tx,0,none⟩),.agg #[.int .u32 q.addr,.int .i64 q.bind,.string q.client,.int .i64 q.till,.int .i64 q.acked,.int .i64 q.told,.int .i64 q.at_,.int .i64 q.ver]] V [[(tx,.cells #[vm] 149 (0,0))],sm] (fun v V' H' => V' = V ∧ v = .int .i64 (Le.setE l q).1 ∧ ∃ s2,Om .u32 vm (Le.mt (Le.setE l q).2) s2 ∧ H' = [[(tx,.cells #[vm] 149 (0,0))],s2]) := by
 refine Does.intro Tryz.func55 rfl rfl (le rfl) (fun B => ?_)
 refine Zs<|Zr<|?_
 refine Run.box rfl (lt rfl) (fun b1 => ?_)
 refine Za Z<|Ze<|Zg<|Zs<|Zs<|Zr<|?_
 rcases hg : Le.get l q.addr with _ | y
 ·refine Zv (Y.loadAgg Z Table3_ag49 (Kn.at 0 Z) Z)<|Run.call0 (l := [.tmp 7]) Z Z Z (lt Z) (right_h (q := q) hs)<|Zv (Y.not Z)<|Ze<|Zg<|?_
  rcases Zsplit (Le.right q) with ⟨h2,g2⟩ | ⟨h2,g2⟩ <;> try simp only [kb] at g2
  ·refine Tr.cond_f Z (congrArg Bool.not h2)<|Zt<|Zg<|Zs<|Zs<|Tr.anyD [(b1,.cells #[.int .u32 q.addr,.int .i64 q.bind,.string q.client,.int .i64 q.till,.int .i64 q.acked,.int .i64 q.told,.int .i64 q.at_,.int .i64 q.ver] 49 (0,0)),(tx,.cells #[vm] 149 (0,0))] Table3_mo<|RunD.pure (i := 0) rfl WK WK WK (fun _ _ _ h => h) (lt rfl) (KnAll.cons (Kn.at 0 rfl) (ZK 1 Z)) (fun _ => (Y.move rfl))<|?_
   refine RunD.pure (i := 1) rfl WK WK WK (fun _ _ _ h => h) (lt rfl) (KnAll.cons (Kn.at 0 rfl) (ZK 1 Z)) (fun _ => (Y.nilCheck rfl))<|RunD.pure (i := 2) rfl WK WK WK (fun _ _ _ h => h) (lt rfl) (KnAll.cons (Kn.at 0 rfl) (ZK 1 Z)) (fun _ => (Y.fieldAddr rfl Table3_fo149_0))<|RunD.take (i := 3) 1 rfl rfl WK WK WK (fun _ _ _ h => h) (lt rfl) (KnAll.cons (Kn.at 0 rfl) (ZK 1 Z)) (fun _ => (Y.load rfl Table3_ts147 Kn.vk1 rfl))<|?_
   refine RunD.pure (i := 4) rfl WK WK WK (fun _ _ _ h => h) (lt rfl) (KnAll.cons (Kn.at 0 rfl) (ZK 1 Z)) (fun _ => (Y.fieldAddr rfl Table3_fo49_0))<|RunD.take (i := 5) 0 rfl rfl WK WK WK (fun _ _ _ h => h) (lt rfl) (KnAll.cons (Kn.at 0 rfl) (ZK 1 Z)) (fun _ => (Y.load rfl Table3_ts47 Kn.vk1 rfl))<|?_
   refine RunD.two (i := 6) (j := 10) WK rfl rfl  ?_ ?_
   ·refine Zv (Y.lookup (r := .tuple #[.agg #[.int .u32 0,.int .i64 0,.string ⟨#[]⟩,.int .i64 0,.int .i64 0,.int .i64 0,.int .i64 0,.int .i64 0],.bool false]) Z Z Table3_mt147 Table3_zo49 hm (j := 2) rfl (by rw [Le.mt_get,hg]; rfl))<|Ze<|Ex.anyD (KnAll.cons (Kn.at 0 Z) (ZK 1 Z))<|RunD.pure (i := 7) rfl WK WK WK (fun _ _ _ h => h) (lt rfl) (KnAll.cons (Kn.at 0 rfl) (ZK 1 Z)) (fun _ => (Y.move rfl))<|?_
    refine RunD.pure (i := 8) rfl WK WK WK (fun _ _ _ h => h) (lt rfl) (KnAll.cons (Kn.at 0 rfl) (ZK 1 Z)) (fun _ => (Y.extract rfl rfl))<|RunD.pure (i := 9) rfl WK WK WK (fun _ _ _ h => h) (lt rfl) (KnAll.cons (Kn.at 0 rfl) (ZK 1 Z)) (fun _ => (Y.extract rfl rfl))<|?_
    refine RunD.one (i := 10) WK rfl  ?_
    refine Run.alloc Table3_zo49 (lt rfl) (fun b3 => ?_)
    refine Ze<|Ex.anyD (KnAll.cons (Kn.at 1 Z) (ZK 2 Z))<|?_
    refine RunD.one (i := 11) WK rfl  ?_
    refine Run.store (s := [(b3,.cells #[.int .u32 0,.int .i64 0,.string ⟨#[]⟩,.int .i64 0,.int .i64 0,.int .i64 0,.int .i64 0,.int .i64 0] 49 (0,0))]) Z Z Table3_sz49 (i := 0) Z Z (le Z) Z Z<|Ze<|Ex.anyD (KnAll.cons (Kn.at 1 Z) (ZK 2 Z))<|RunD.pure (i := 12) rfl WK WK WK (fun _ _ _ h => h) (lt rfl) (KnAll.cons (Kn.at 1 rfl) (ZK 2 Z)) (fun _ => (Y.assign rfl))<|RunD.done WK<|?_
    refine Zg<|Zs<|Zr<|Zm Z<|Zv (Y.not Z)<|Ze<|Zg<|Tr.cond_t Z Z<|Zs<|Zr<|Za Z<|Ze<|Zg<|Zu<|Zn<|Ex.keepTo (H' := [[(tx,.cells #[vm] 149 (0,0))],sm]) [2,2] Z<|?_
    exact Ex.ret1 rfl rfl  ⟨rfl,by rw [Le.setE_none h2 hg],_,by rw [Le.setE_none h2 hg]; exact hm,rfl⟩
   ·refine Run.alloc Table3_zo49 (lt rfl) (fun b4 => ?_)
    refine Ze<|Ex.anyD (KnAll.cons (Kn.at 1 Z) (ZK 2 Z))<|?_
    refine RunD.one (i := 6) WK rfl  ?_
    refine Zv (Y.lookup (r := .tuple #[.agg #[.int .u32 0,.int .i64 0,.string ⟨#[]⟩,.int .i64 0,.int .i64 0,.int .i64 0,.int .i64 0,.int .i64 0],.bool false]) Z Z Table3_mt147 Table3_zo49 hm (j := 3) rfl (by rw [Le.mt_get,hg]; rfl))<|Ze<|Ex.anyD (KnAll.cons (Kn.at 1 Z) (ZK 2 Z))<|RunD.pure (i := 7) rfl WK WK WK (fun _ _ _ h => h) (lt rfl) (KnAll.cons (Kn.at 1 rfl) (ZK 2 Z)) (fun _ => (Y.move rfl))<|?_
    refine RunD.pure (i := 8) rfl WK WK WK (fun _ _ _ h => h) (lt rfl) (KnAll.cons (Kn.at 1 rfl) (ZK 2 Z)) (fun _ => (Y.extract rfl rfl))<|RunD.pure (i := 9) rfl WK WK WK (fun _ _ _ h => h) (lt rfl) (KnAll.cons (Kn.at 1 rfl) (ZK 2 Z)) (fun _ => (Y.extract rfl rfl))<|?_
    refine RunD.one (i := 11) WK rfl  ?_
    refine Run.store (s := [(b4,.cells #[.int .u32 0,.int .i64 0,.string ⟨#[]⟩,.int .i64 0,.int .i64 0,.int .i64 0,.int .i64 0,.int .i64 0] 49 (0,0))]) Z Z Table3_sz49 (i := 0) Z Z (le Z) Z Z<|Ze<|Ex.anyD (KnAll.cons (Kn.at 1 Z) (ZK 2 Z))<|RunD.pure (i := 12) rfl WK WK WK (fun _ _ _ h => h) (lt rfl) (KnAll.cons (Kn.at 1 rfl) (ZK 2 Z)) (fun _ => (Y.assign rfl))<|RunD.done WK<|?_
    refine Zg<|Zs<|Zr<|Zm Z<|Zv (Y.not Z)<|Ze<|Zg<|Tr.cond_t Z Z<|Zs<|Zr<|Za Z<|Ze<|Zg<|Zu<|Zn<|Ex.keepTo (H' := [[(tx,.cells #[vm] 149 (0,0))],sm]) [2,2] Z<|?_
    exact Ex.ret1 rfl rfl  ⟨rfl,by rw [Le.setE_none h2 hg],_,by rw [Le.setE_none h2 hg]; exact hm,rfl⟩
  ·refine Tr.cond_t Z (congrArg Bool.not h2)<|Zs<|Zr<|Za Z<|Ze<|Zg<|Zu<|Zn<|Ex.keepTo (H' := [[(tx,.cells #[vm] 149 (0,0))],sm]) [1,1] Z<|?_
   exact Ex.ret1 rfl rfl  ⟨rfl,by rw [Le.setE_wrong h2],_,by rw [Le.setE_wrong h2]; exact hm,rfl⟩
 ·refine Zv (Y.loadAgg Z Table3_ag49 (Kn.at 0 Z) Z)<|Run.call0 (l := [.tmp 7]) Z Z Z (lt Z) (right_h (q := q) hs)<|Zv (Y.not Z)<|Ze<|Zg<|?_
  rcases Zsplit (Le.right q) with ⟨h5,g5⟩ | ⟨h5,g5⟩ <;> try simp only [kb] at g5
  ·refine Tr.cond_f Z (congrArg Bool.not h5)<|Zt<|Zg<|Zs<|Zs<|Tr.anyD [(b1,.cells #[.int .u32 q.addr,.int .i64 q.bind,.string q.client,.int .i64 q.till,.int .i64 q.acked,.int .i64 q.told,.int .i64 q.at_,.int .i64 q.ver] 49 (0,0)),(tx,.cells #[vm] 149 (0,0))] Table3_mo<|RunD.pure (i := 0) rfl WK WK WK (fun _ _ _ h => h) (lt rfl) (KnAll.cons (Kn.at 0 rfl) (ZK 1 Z)) (fun _ => (Y.move rfl))<|?_
   refine RunD.pure (i := 1) rfl WK WK WK (fun _ _ _ h => h) (lt rfl) (KnAll.cons (Kn.at 0 rfl) (ZK 1 Z)) (fun _ => (Y.nilCheck rfl))<|RunD.pure (i := 2) rfl WK WK WK (fun _ _ _ h => h) (lt rfl) (KnAll.cons (Kn.at 0 rfl) (ZK 1 Z)) (fun _ => (Y.fieldAddr rfl Table3_fo149_0))<|RunD.take (i := 3) 1 rfl rfl WK WK WK (fun _ _ _ h => h) (lt rfl) (KnAll.cons (Kn.at 0 rfl) (ZK 1 Z)) (fun _ => (Y.load rfl Table3_ts147 Kn.vk1 rfl))<|?_
   refine RunD.pure (i := 4) rfl WK WK WK (fun _ _ _ h => h) (lt rfl) (KnAll.cons (Kn.at 0 rfl) (ZK 1 Z)) (fun _ => (Y.fieldAddr rfl Table3_fo49_0))<|RunD.take (i := 5) 0 rfl rfl WK WK WK (fun _ _ _ h => h) (lt rfl) (KnAll.cons (Kn.at 0 rfl) (ZK 1 Z)) (fun _ => (Y.load rfl Table3_ts47 Kn.vk1 rfl))<|?_
   refine RunD.two (i := 6) (j := 10) WK rfl rfl  ?_ ?_
   ·refine Zv (Y.lookup (r := .tuple #[.agg #[.int .u32 y.addr,.int .i64 y.bind,.string y.client,.int .i64 y.till,.int .i64 y.acked,.int .i64 y.told,.int .i64 y.at_,.int .i64 y.ver],.bool true]) Z Z Table3_mt147 Table3_zo49 hm (j := 2) rfl (by rw [Le.mt_get,hg]; rfl))<|Ze<|Ex.anyD (KnAll.cons (Kn.at 0 Z) (ZK 1 Z))<|RunD.pure (i := 7) rfl WK WK WK (fun _ _ _ h => h) (lt rfl) (KnAll.cons (Kn.at 0 rfl) (ZK 1 Z)) (fun _ => (Y.move rfl))<|?_
    refine RunD.pure (i := 8) rfl WK WK WK (fun _ _ _ h => h) (lt rfl) (KnAll.cons (Kn.at 0 rfl) (ZK 1 Z)) (fun _ => (Y.extract rfl rfl))<|RunD.pure (i := 9) rfl WK WK WK (fun _ _ _ h => h) (lt rfl) (KnAll.cons (Kn.at 0 rfl) (ZK 1 Z)) (fun _ => (Y.extract rfl rfl))<|?_
    refine RunD.one (i := 10) WK rfl  ?_
    refine Run.alloc Table3_zo49 (lt rfl) (fun b6 => ?_)
    refine Ze<|Ex.anyD (KnAll.cons (Kn.at 1 Z) (ZK 2 Z))<|?_
    refine RunD.one (i := 11) WK rfl  ?_
    refine Run.store (s := [(b6,.cells #[.int .u32 y.addr,.int .i64 y.bind,.string y.client,.int .i64 y.till,.int .i64 y.acked,.int .i64 y.told,.int .i64 y.at_,.int .i64 y.ver] 49 (0,0))]) Z Z Table3_sz49 (i := 0) Z Z (le Z) Z Z<|Ze<|Ex.anyD (KnAll.cons (Kn.at 1 Z) (ZK 2 Z))<|RunD.pure (i := 12) rfl WK WK WK (fun _ _ _ h => h) (lt rfl) (KnAll.cons (Kn.at 1 rfl) (ZK 2 Z)) (fun _ => (Y.assign rfl))<|?_
    refine RunD.done WK<|Zg<|Zs<|Zr<|Zm Z<|Zv (Y.not Z)<|Ze<|Zg<|Tr.cond_f Z Z<|Zt<|Zg<|Zs<|Tr.tail 7 Table3_mo WK<|ZM Z<|ZV (Y.nilCheck Z)<|ZV (Y.fieldAddr Z Table3_fo149_0)<|?_
    refine ZV (Y.load Z Table3_ts147 (Kn.at 2 Z) Z)<|ZV (Y.fieldAddr Z Table3_fo49_0)<|ZV (Y.load Z Table3_ts47 (Kn.at 1 Z) Z)<|ZV (Y.loadAgg Z Table3_ag49 (Kn.at 1 Z) Z)<|RunQ.nil_run<|?_
    refine Run.mapUpdate 3 rfl rfl rfl Table3_mt147 hm rfl (fun s7 hm8 => ?_)
    refine Run.heapTo (H' := [[(b6,.cells #[.int .u32 y.addr,.int .i64 y.bind,.string y.client,.int .i64 y.till,.int .i64 y.acked,.int .i64 y.told,.int .i64 y.at_,.int .i64 y.ver] 49 (0,0))],[(b1,.cells #[.int .u32 q.addr,.int .i64 q.bind,.string q.client,.int .i64 q.till,.int .i64 q.acked,.int .i64 q.told,.int .i64 q.at_,.int .i64 q.ver] 49 (0,0))],[(tx,.cells #[vm] 149 (0,0))],s7]) Z ?_
    refine Ze<|Zg<|Zs<|Zr<|Za Z<|Ze<|Zg<|Zu<|Ex.keepTo (H' := [[(tx,.cells #[vm] 149 (0,0))],s7]) [2,2] Z<|?_
    have h9 : Om .u32 vm (mset (Le.mt l) q.addr (Le.agg q)) s7 := hm8
    rw [Le.mt_put hr (by rw [hg]; simp)] at h9
    exact Ex.ret1 rfl rfl  ⟨rfl,by rw [Le.setE_ok h5 hg],_,by rw [Le.setE_ok h5 hg]; exact h9,rfl⟩
   ·refine Run.alloc Table3_zo49 (lt rfl) (fun b9 => ?_)
    refine Ze<|Ex.anyD (KnAll.cons (Kn.at 1 Z) (ZK 2 Z))<|?_
    refine RunD.one (i := 6) WK rfl  ?_
    refine Zv (Y.lookup (r := .tuple #[.agg #[.int .u32 y.addr,.int .i64 y.bind,.string y.client,.int .i64 y.till,.int .i64 y.acked,.int .i64 y.told,.int .i64 y.at_,.int .i64 y.ver],.bool true]) Z Z Table3_mt147 Table3_zo49 hm (j := 3) rfl (by rw [Le.mt_get,hg]; rfl))<|Ze<|Ex.anyD (KnAll.cons (Kn.at 1 Z) (ZK 2 Z))<|RunD.pure (i := 7) rfl WK WK WK (fun _ _ _ h => h) (lt rfl) (KnAll.cons (Kn.at 1 rfl) (ZK 2 Z)) (fun _ => (Y.move rfl))<|?_
    refine RunD.pure (i := 8) rfl WK WK WK (fun _ _ _ h => h) (lt rfl) (KnAll.cons (Kn.at 1 rfl) (ZK 2 Z)) (fun _ => (Y.extract rfl rfl))<|RunD.pure (i := 9) rfl WK WK WK (fun _ _ _ h => h) (lt rfl) (KnAll.cons (Kn.at 1 rfl) (ZK 2 Z)) (fun _ => (Y.extract rfl rfl))<|?_
    refine RunD.one (i := 11) WK rfl  ?_
    refine Run.store (s := [(b9,.cells #[.int .u32 y.addr,.int .i64 y.bind,.string y.client,.int .i64 y.till,.int .i64 y.acked,.int .i64 y.told,.int .i64 y.at_,.int .i64 y.ver] 49 (0,0))]) Z Z Table3_sz49 (i := 0) Z Z (le Z) Z Z<|Ze<|Ex.anyD (KnAll.cons (Kn.at 1 Z) (ZK 2 Z))<|RunD.pure (i := 12) rfl WK WK WK (fun _ _ _ h => h) (lt rfl) (KnAll.cons (Kn.at 1 rfl) (ZK 2 Z)) (fun _ => (Y.assign rfl))<|?_
    refine RunD.done WK<|Zg<|Zs<|Zr<|Zm Z<|Zv (Y.not Z)<|Ze<|Zg<|Tr.cond_f Z Z<|Zt<|Zg<|Zs<|Tr.tail 7 Table3_mo WK<|ZM Z<|ZV (Y.nilCheck Z)<|ZV (Y.fieldAddr Z Table3_fo149_0)<|?_
    refine ZV (Y.load Z Table3_ts147 (Kn.at 2 Z) Z)<|ZV (Y.fieldAddr Z Table3_fo49_0)<|ZV (Y.load Z Table3_ts47 (Kn.at 1 Z) Z)<|ZV (Y.loadAgg Z Table3_ag49 (Kn.at 1 Z) Z)<|RunQ.nil_run<|?_
    refine Run.mapUpdate 3 rfl rfl rfl Table3_mt147 hm rfl (fun s10 hm11 => ?_)
    refine Run.heapTo (H' := [[(b9,.cells #[.int .u32 y.addr,.int .i64 y.bind,.string y.client,.int .i64 y.till,.int .i64 y.acked,.int .i64 y.told,.int .i64 y.at_,.int .i64 y.ver] 49 (0,0))],[(b1,.cells #[.int .u32 q.addr,.int .i64 q.bind,.string q.client,.int .i64 q.till,.int .i64 q.acked,.int .i64 q.told,.int .i64 q.at_,.int .i64 q.ver] 49 (0,0))],[(tx,.cells #[vm] 149 (0,0))],s10]) Z ?_
    refine Ze<|Zg<|Zs<|Zr<|Za Z<|Ze<|Zg<|Zu<|Ex.keepTo (H' := [[(tx,.cells #[vm] 149 (0,0))],s10]) [2,2] Z<|?_
    have h9 : Om .u32 vm (mset (Le.mt l) q.addr (Le.agg q)) s10 := hm11
    rw [Le.mt_put hr (by rw [hg]; simp)] at h9
    exact Ex.ret1 rfl rfl  ⟨rfl,by rw [Le.setE_ok h5 hg],_,by rw [Le.setE_ok h5 hg]; exact h9,rfl⟩
  ·refine Tr.cond_t Z (congrArg Bool.not h5)<|Zs<|Zr<|Za Z<|Ze<|Zg<|Zu<|Zn<|Ex.keepTo (H' := [[(tx,.cells #[vm] 149 (0,0))],sm]) [1,1] Z<|?_
   exact Ex.ret1 rfl rfl  ⟨rfl,by rw [Le.setE_wrong h5],_,by rw [Le.setE_wrong h5]; exact hm,rfl⟩
theorem get_t {V : Vw} {l : List Le} {tx : Nat} {vm : Value} {sm : Sg} (hm : Om .u32 vm (Le.mt l) sm) {a : Int}  : Does Tryz.prog 34 [.pointer (some ⟨tx,0,none⟩),.int .u32 a] V [[(tx,.cells #[vm] 149 (0,0))],sm] (Pv (.tuple #[.agg (Le.getE l a).1.cells.toArray,.int .i64 (Le.getE l a).2]) V [[(tx,.cells #[vm] 149 (0,0))],sm]) := by
 refine Does.intro Tryz.func34 rfl rfl (le rfl) (fun B => ?_)
 refine Zs<|Zr<|?_
 refine Run.alloc Table3_zo49 (lt rfl) (fun b1 => ?_)
 refine Za Z<|Ze<|Zg<|Zs<|Zr<|?_
 rcases hg : Le.get l a with _ | y
 ·refine Zm Z<|Zv (Y.nilCheck Z)<|Zv (Y.fieldAddr Z Table3_fo149_0)<|Zv (Y.load Z Table3_ts147 (Kn.at 1 Z) Z)<|Zm Z<|Zv (Y.lookup (r := .tuple #[.agg #[.int .u32 0,.int .i64 0,.string ⟨#[]⟩,.int .i64 0,.int .i64 0,.int .i64 0,.int .i64 0,.int .i64 0],.bool false]) Z Z Table3_mt147 Table3_zo49 hm (j := 2) rfl (by rw [Le.mt_get,hg]; rfl))<|Zm Z<|Zv (Y.extract Z Z)<|Zv (Y.extract Z Z)<|?_
  refine Run.alloc Table3_zo49 (lt rfl) (fun b2 => ?_)
  refine Run.store (s := [(b2,.cells #[.int .u32 0,.int .i64 0,.string ⟨#[]⟩,.int .i64 0,.int .i64 0,.int .i64 0,.int .i64 0,.int .i64 0] 49 (0,0))]) Z Z Table3_sz49 (i := 0) Z Z (le Z) Z Z<|Za Z<|Ze<|Zg<|Zs<|Zs<|Zr<|Zm Z<|Zv (Y.not Z)<|Ze<|Zg<|Tr.cond_t Z Z<|Zs<|Zr<|Zv (Y.buildS (l := []) Table3_zo49 Table3_pl49 Z Z)<|Run.store (s := [(b1,.cells #[.int .u32 0,.int .i64 0,.string ⟨#[]⟩,.int .i64 0,.int .i64 0,.int .i64 0,.int .i64 0,.int .i64 0] 49 (0,0))]) Z Z Table3_sz49 (i := 1) Z Z (le Z) Z Z<|?_
  refine Za Z<|Ze<|Zg<|Zu<|Zn<|?_
  exact Ex.retCell2 [2,2] rfl rfl rfl Table3_ag49 (Kn.at 1 rfl) rfl ⟨by unfold Le.getE; rw [hg]; rfl,rfl,rfl⟩
 ·refine Zm Z<|Zv (Y.nilCheck Z)<|Zv (Y.fieldAddr Z Table3_fo149_0)<|Zv (Y.load Z Table3_ts147 (Kn.at 1 Z) Z)<|Zm Z<|Zv (Y.lookup (r := .tuple #[.agg #[.int .u32 y.addr,.int .i64 y.bind,.string y.client,.int .i64 y.till,.int .i64 y.acked,.int .i64 y.told,.int .i64 y.at_,.int .i64 y.ver],.bool true]) Z Z Table3_mt147 Table3_zo49 hm (j := 2) rfl (by rw [Le.mt_get,hg]; rfl))<|Zm Z<|Zv (Y.extract Z Z)<|Zv (Y.extract Z Z)<|?_
  refine Run.alloc Table3_zo49 (lt rfl) (fun b3 => ?_)
  refine Run.store (s := [(b3,.cells #[.int .u32 y.addr,.int .i64 y.bind,.string y.client,.int .i64 y.till,.int .i64 y.acked,.int .i64 y.told,.int .i64 y.at_,.int .i64 y.ver] 49 (0,0))]) Z Z Table3_sz49 (i := 0) Z Z (le Z) Z Z<|Za Z<|Ze<|Zg<|Zs<|Zs<|Zr<|Zm Z<|Zv (Y.not Z)<|Ze<|Zg<|Tr.cond_f Z Z<|Zt<|Zg<|Zs<|Zr<|?_
  refine Zv (Y.loadAgg Z Table3_ag49 (Kn.at 0 Z) Z)<|Run.store (s := [(b1,.cells #[.int .u32 y.addr,.int .i64 y.bind,.string y.client,.int .i64 y.till,.int .i64 y.acked,.int .i64 y.told,.int .i64 y.at_,.int .i64 y.ver] 49 (0,0))]) Z Z Table3_sz49 (i := 1) Z Z (le Z) Z Z<|Za Z<|Ze<|Zg<|Zu<|?_
  exact Ex.retCell2 [2,2] rfl rfl rfl Table3_ag49 (Kn.at 1 rfl) rfl ⟨by unfold Le.getE; rw [hg]; rfl,rfl,rfl⟩
theorem new_t {V : Vw} {rs : List Rg} {p : Option Addr} {c : Nat} (hv : Rd V [] 2 (.slice p rs.length c) rs.length (rs.flatMap Rg.cells)) (hlm : rs.length ≤ 1000) (hok : Rg.Oks rs)  : Does Tryz.prog 53 [.slice p rs.length c] V [] (fun v V' H' => V.le V' ∧ ((Rg.pool rs).2 ≠ 0 ∧ v = .tuple #[.pointer none,.int .i64 (Rg.pool rs).2] ∧ H' = [] ∨ (Rg.pool rs).2 = 0 ∧ ∃ tx s,v = .tuple #[.pointer (some ⟨tx,0,none⟩),.int .i64 0] ∧ Le.In 149 (Le.new (Rg.adr (Rg.pool rs).1)) tx s ∧ H' = [s])) := by
 refine Does.intro Tryz.func53 rfl rfl (le rfl) (fun B => ?_)
 refine Zs<|Zr<|Za Z<|Za Z<|Ze<|Zg<|Zs<|Zr<|Zm Z<|?_
 refine Run.call [] (l := [.tmp 11]) rfl rfl rfl (lt rfl) (pool_h hv hlm hok) (fun v3 V3 H3 hle3 hR => ?_)
 obtain ⟨hle3b,rfl,w3,rfl,hp3⟩ := hR
 obtain ⟨pp,pc,rfl,_⟩ := hp3.form
 have hpl := Rg.pool_len rs
 have hpo := Rg.pool_oks hok
 refine Run.heapTo (H' := []) Z<|Run.heapTo (H' := []) Z<|Zm Z<|Zv (Y.extract Z Z)<|Zv (Y.extract Z Z)<|Za Z<|Za Z<|Ze<|Zg<|Zs<|Zs<|Zr<|Zm Z<|Zv (Y.int Z Z Z)<|Ze<|Zg<|?_
 rcases Zsplit (((Rg.pool rs).2) != 0) with ⟨h1,g1⟩ | ⟨h1,g1⟩ <;> try simp only [kb] at g1
 ·refine Tr.cond_t Z h1<|Zs<|Zr<|Zm Z<|Za Z<|Za Z<|Ze<|Zg<|Zu<|Zn<|Ex.keep []<|?_
  exact Ex.ret2 rfl rfl rfl  ⟨hle3b,.inl ⟨by omega,rfl,rfl⟩⟩
 ·refine Tr.cond_f Z h1<|Zt<|Zg<|Zs<|Zr<|?_
  refine Run.makeMap .u32 (lt rfl) (fun v2 s3 hm4 => ?_)
  obtain ⟨b5,rfl⟩ := hm4.form
  refine Zv (Y.buildS (l := [(0,.tmp 18)]) Table3_zo149 Table3_pl149 Z Z) ?_
  refine Run.box rfl (lt rfl) (fun b6 => ?_)
  refine Za Z<|Ze<|Zg<|Zs<|Zs<|Zr<|Run.keepTo (H' := [[(b6,.cells #[.map (some b5)] 149 (0,0))],s3]) [0,0] Z<|Zm Z<|?_
  have hp0 : (Rg.pool rs).2 = 0 := by omega
  obtain ⟨hcan,hcnt⟩ := Rg.pool_can hp0
  have hup := Rg.adr_up hcan
  have hce := Rg.cnt_adr hcan.1
  have hc256 : (Rg.adr (Rg.pool rs).1).length ≤ 256 := by omega
  refine Run.call0 (l := [.tmp 21]) rfl rfl rfl (lt rfl) (count_h hp3.of_nil W hpo)<|Run.heapTo (H' := [[(b6,.cells #[.map (some b5)] 149 (0,0))],s3]) Z<|Zm Z<|Ze<|Zg<|Zb<|?_
  refine ZL (X := Nat × Sg) (fun z0 => V3) (fun z0 => [[(b6,.cells #[.map (some b5)] 149 (0,0))],z0.2]) (fun z0 => [(4,.slice pp (Rg.pool rs).1.length pc),(6,.pointer (some ⟨b6,0,none⟩)),(22,.int .i64 (Rg.cnt (Rg.pool rs).1)),(23,.int .i64 (z0.1 : Int))]) (fun z0 => Om .u32 (.map (some b5)) (Le.mt (Le.new ((Rg.adr (Rg.pool rs).1).take z0.1))) z0.2 ∧ z0.1 ≤ (Rg.adr (Rg.pool rs).1).length) (fun z0 => (Rg.adr (Rg.pool rs).1).length - z0.1) (⟨0,s3⟩ : Nat × Sg) ⟨hm4,Nat.zero_le _⟩ ?_
  rintro ⟨i1,s1⟩ ⟨hm1,hi⟩
  try dsimp only at hm1 hi ⊢
  refine Zs<|Zr<|Zv (Y.int Z Z Z)<|Ze<|Zg<|Zs<|?_
  rcases Zsplit (decide ((i1 : Int) < (Rg.cnt (Rg.pool rs).1))) with ⟨h7,g7⟩ | ⟨h7,g7⟩ <;> try simp only [kb] at g7
  ·refine Tr.cond_t Z h7<|Zt<|Zg<|Zs<|Zb<|Zs<|Zr<|Zm Z<|Za Z<|Ze<|Zg<|Zs<|Zr<|Zm Z<|Zm Z<|Run.call0 (l := [.tmp 27,.tmp 28]) rfl rfl rfl (lt rfl) (at_h (n := (i1 : Int)) hp3 W hpo)<|?_
   refine Zm Z<|Zv (Y.extract Z Z)<|Zv (Y.extract Z Z)<|Za Z<|Za Z<|Ze<|Zg<|Tr.tail 7 Table3_mo WK<|?_
   have hat := Rg.at_in2 (i := i1) (show i1 < (Rg.adr (Rg.pool rs).1).length by omega)
   rw [hat]
   refine ZM Z<|ZV (Y.nilCheck Z)<|ZV (Y.fieldAddr Z Table3_fo149_0)<|ZV (Y.load Z Table3_ts147 (Kn.at 0 Z) Z)<|ZM Z<|ZM Z<|RunQ.call0 (l := [.tmp 37,.const (.int .i64 0),.const (.int .i64 0)]) Z Z Z (lt Z) bare_c_h<|RunQ.nil_run<|?_
   refine Run.mapUpdate 1 rfl rfl rfl Table3_mt147 hm1 rfl (fun s8 hm9 => ?_)
   refine Run.heapTo (H' := [[(b6,.cells #[.map (some b5)] 149 (0,0))],s8]) Z<|Ze<|Zc<|Zg<|Zr<|Zv (Y.add Z Z W)<|Zm Z<|Ze<|?_
   have h9 : Om .u32 (.map (some b5)) (mset (Le.mt (Le.new ((Rg.adr (Rg.pool rs).1).take i1))) ((Rg.adr (Rg.pool rs).1).getD i1 0) (Le.agg (Le.bare ((Rg.adr (Rg.pool rs).1).getD i1 0) 0 0))) s8 := hm9
   rw [Le.new_set hup W] at h9
   refine Ex.keep [0,0] ?_
   exact ZR (⟨i1 + 1,s8⟩ : Nat × Sg) ⟨h9,by omega⟩ (by dsimp only; omega)
  ·refine Tr.cond_f Z h7<|Zx<|Zy<|Zy<|Zi<|Zg<|Zs<|Zr<|Zm Z<|Za Z<|Za Z<|Ze<|Zg<|Zu<|?_
   obtain rfl : i1 = (Rg.adr (Rg.pool rs).1).length := by omega
   rw [List.take_length] at hm1
   refine Ex.keepTo (H' := [[(b6,.cells #[.map (some b5)] 149 (0,0))],s1]) [0,0] Z<|Ex.recut (H' := [([[(b6,.cells #[.map (some b5)] 149 (0,0))],s1] : Hp).flatten]) (one_piece _)<|?_
   exact Ex.ret2 rfl rfl rfl  ⟨hle3b,.inr ⟨hp0,b6,_,rfl,⟨Le.new_ris hup,by rw [Le.new_len]; exact hc256,_,_,hm1,rfl⟩,rfl⟩⟩
end Go.Proofs.YtinkencbkcciiaaGreat
