/- What is known of a pool, walked.
Conditions: as each theorem names them. -/
import Derived.Test.YtinkencbkcciiaaGreatProg
import Derived.Test.YtinkencbkcciiaaGreatTable1
import Derived.Test.YtinkencbkcciiaaGreatSortl3
import Derived.Test.YtinkencbkcciiaaGreatKC
import Derived.Test.YtinkencbkcciiaaGreatLA
import Derived.Test.YtinkencbkcciiaaGreatZG
set_option linter.unusedSimpArgs false
set_option linter.unusedVariables false
set_option maxRecDepth 4000
namespace Go.Proofs.YtinkencbkcciiaaGreat
open Go Go.K
attribute [local irreducible] Code.wp wpList Calls wpQuiet
theorem Table2_zo49 : zeroOf Tryz.prog 49 = some (.agg #[.int .u32 0,.int .i64 0,.string ⟨#[]⟩,.int .i64 0,.int .i64 0,.int .i64 0,.int .i64 0,.int .i64 0]) := by kernel_rfl
theorem Table2_sz49 : sizeT Tryz.prog 49 = some 8 := by kernel_rfl
theorem Table2_ts59 : scal Tryz.prog 59 = true := by kernel_rfl
theorem Table2_ag49 : aggsz Tryz.prog 49 = some 8 := by kernel_rfl
theorem Table2_es59 : elemS Tryz.prog 59 = some (49,8) := by kernel_rfl
theorem Table2_zi49 : zeroInfo Tryz.prog 49 = some (8,72,.agg #[.int .u32 0,.int .i64 0,.string ⟨#[]⟩,.int .i64 0,.int .i64 0,.int .i64 0,.int .i64 0,.int .i64 0]) := by kernel_rfl
theorem Table2_sz59 : sizeT Tryz.prog 59 = some 1 := by kernel_rfl
theorem Table2_ts60 : scal Tryz.prog 60 = true := by kernel_rfl
theorem Table2_fo149_0 : fieldOff Tryz.prog 149 0 = some 0 := by kernel_rfl
theorem Table2_ts147 : scal Tryz.prog 147 = true := by kernel_rfl
theorem Table2_mt147 : mapT Tryz.prog 147 = some (.u32,47,49) := by kernel_rfl
theorem Table2_ts140 : scal Tryz.prog 140 = true := by kernel_rfl
theorem Table2_mo : Tryz.prog.follows .mixedOrders = true := by kernel_rfl
theorem Table2_ts141 : scal Tryz.prog 141 = true := by kernel_rfl
theorem Table2_fo49_0 : fieldOff Tryz.prog 49 0 = some 0 := by kernel_rfl
theorem Table2_ts47 : scal Tryz.prog 47 = true := by kernel_rfl
theorem Table2_es219 : elemS Tryz.prog 219 = some (3,1) := by kernel_rfl
theorem Table2_zo3 : zeroOf Tryz.prog 3 = some (.int .i64 0) := by kernel_rfl
open Go.Sort
theorem appseq_l {V : Vw} {Hs : Hp} {gf : FuncId} {caps : List Value} {S Sp : List Le → Prop} {N : Nat} (hit : Iterates Tryz.prog gf caps V Hs Le.yv S Sp N) (hNb : N ≤ 1000000000)  : Does Tryz.prog 259 [.slice none 0 0,.func (.func gf) #[] caps.toArray] V Hs (fun v V' H' => V' = V ∧ ∃ xs q,S xs ∧ Ow 49 8 v xs.length (xs.flatMap Le.cells) q ∧ H' = q :: Hs) := by
 refine Does.introM Tryz.func259 rfl rfl (le rfl) (fun B => ?_)
 refine Zs<|Zr<|?_
 refine Run.box rfl (lt rfl) (fun b1 => ?_)
 refine Za Z<|Ze<|Zg<|Zs<|Zs<|Zr<|Run.nilseg<|Zm Z<|Ze<|Zg<|Zb<|?_
 refine Tr.range1 [] Hs [[],[(b1,.cells #[.slice none 0 0] 59 (0,0))]] (List.perm_append_comm (l₁ := ([[],[(b1,.cells #[.slice none 0 0] 59 (0,0))]] : Hp))) rfl (hit) (fun xs (H : Hp) => ∃ p1 n1 k1 q1,H = [q1,[(b1,.cells #[.slice p1 n1 k1] 59 (0,0))]] ∧ Ow 49 8 (.slice p1 n1 k1) n1 (xs.flatMap Le.cells) q1 ∧ n1 = xs.length) (fun c xs (H : Hp) => False) ⟨none,0,0,[],rfl,Ow.nil _ _,rfl⟩ (fun lp3 rr4 xs5 x6 H hLI hf hJ hN => ?_) (fun D2 xs5 H hS hJ => ?_) (fun D2 c xs5 H hS hJ => ?_)
 ·obtain ⟨p1,n1,k1,q1,rfl,how,hn⟩ := hJ
  refine YDoes.intro hLI rfl (env_par1 (lt rfl)) (fun Blp3 => ?_)
  refine TrR.region Z ?_
  refine Run.alloc Table2_zo49 (lt rfl) (fun b7 => ?_)
  refine Run.store (s := [(b7,.cells #[.int .u32 x6.addr,.int .i64 x6.bind,.string x6.client,.int .i64 x6.till,.int .i64 x6.acked,.int .i64 x6.told,.int .i64 x6.at_,.int .i64 x6.ver] 49 (0,0))]) Z Z Table2_sz49 (i := 0) Z Z (le Z) Z Z<|Ze<|Ex.keep [1,0,0,0]<|Ex.begin hf.1<|TrR.block<|TrR.region Z<|Zv (Y.load Z Table2_ts59 (Kn.at 3 Z) Z)<|Zv (Y.loadAgg Z Table2_ag49 (Kn.at 1 Z) Z)<|?_
  refine Run.buildSlice (l := [(0,.tmp 9)]) (r := [.int .u32 x6.addr,.int .i64 x6.bind,.string x6.client,.int .i64 x6.till,.int .i64 x6.acked,.int .i64 x6.told,.int .i64 x6.at_,.int .i64 x6.ver]) Table2_es59 Table2_zo49 rfl WD rfl rfl WD (lt rfl) (fun b8 => ?_)
  refine Run.append (n := n1) (m := 1) (xs := (xs5).flatMap Le.cells) (ys := [.int .u32 x6.addr,.int .i64 x6.bind,.string x6.client,.int .i64 x6.till,.int .i64 x6.acked,.int .i64 x6.told,.int .i64 x6.at_,.int .i64 x6.ver]) rfl rfl Table2_es59 Table2_zi49 WD (j := 3) rfl how (Src.of_rd Table2_es59 (Rd.one (Kn.at 0 rfl) rfl)) W W rfl (lt rfl) (fun v9 s10 ho11 hf => ?_)
  obtain ⟨p9,c9,rfl⟩ := hf
  replace ho11 := Ow.app1 (f := Le.cells) (l := xs5) (x := x6) ho11
  refine Run.store (s := [(b1,.cells #[.slice p9 (n1 + 1) c9] 59 (0,0))]) Z Z Table2_sz59 (i := 4) Z Z (le Z) Z Z<|Ze<|Zc<|Ex.keepTo (H' := [rec_ lp3 { rr4 with state := .busy },s10,[(b1,.cells #[.slice p9 (n1 + 1) c9] 59 (0,0))]]) [1,2,2] Z<|?_
  exact Ex.next ⟨rfl,.inl ⟨rfl,_,_,hLI.with _ _,⟨rfl,rfl⟩,rfl,⟨_,_,_,_,rfl,ho11,by rw [List.length_append,List.length_singleton]; omega⟩⟩⟩
 ·obtain ⟨p1,n1,k1,q1,rfl,how,hn⟩ := hJ
  subst hn
  refine Ex.perm (H' := defd D2 :: [(b1,.cells #[.slice p1 xs5.length k1] 59 (0,0))] :: q1 :: Hs) (List.Perm.cons _ ((List.Perm.swap _ _ _).trans (List.perm_append_comm (l₁ := [q1,[(b1,.cells #[.slice p1 xs5.length k1] 59 (0,0))]]))))<|Zc<|Zg<|Zs<|Zr<|Zv (Y.load Z Table2_ts59 (Kn.at 1 Z) Z)<|Za Z<|Ze<|Zg<|Zu<|Ex.unmark (.inl Z)<|Ex.bodyM (.inl Z)<|Ex.drop<|?_
  exact Ex.ret1 rfl rfl  ⟨rfl,xs5,q1,hS,how,rfl⟩
 ·exact hJ.elim
theorem collect_l {V : Vw} {Hs : Hp} {gf : FuncId} {caps : List Value} {S Sp : List Le → Prop} {N : Nat} (hit : Iterates Tryz.prog gf caps V Hs Le.yv S Sp N) (hNb : N ≤ 1000000000)  : Does Tryz.prog 226 [.func (.func gf) #[] caps.toArray] V Hs (fun v V' H' => V' = V ∧ ∃ xs q,S xs ∧ Ow 49 8 v xs.length (xs.flatMap Le.cells) q ∧ H' = q :: Hs) := by
 refine Does.intro Tryz.func226 rfl rfl (le rfl) (fun B => ?_)
 refine Zs<|Zr<|Za Z<|Ze<|Zg<|Zs<|Zr<|Zm Z<|?_
 refine Run.callW (l := [.const (.slice none 0 0),.tmp 3]) rfl rfl rfl (lt rfl) (appseq_l hit hNb) (fun v3 V2 H2 hle hR => ?_)
 obtain ⟨hV,xs,q,hS,ho,rfl⟩ := hR; replace hV := hV.symm; subst hV
 refine Za Z<|Ze<|Zg<|Zu<|?_
 exact Ex.ret1 rfl rfl  ⟨rfl,xs,q,hS,ho,rfl⟩
theorem sortedf_l {V : Vw} {Hs : Hp} {gf : FuncId} {caps : List Value} {S Sp : List Le → Prop} {N : Nat} (hit : Iterates Tryz.prog gf caps V Hs Le.yv S Sp N) (hNb : N ≤ 1000000000) (hlen : ∀ xs,S xs → xs.length ≤ 1000000000) {gf2 : FuncId} {caps2 : List Value} {cm : Le → Le → Int} (hcmp : ∀ x y : Le,Does Tryz.prog gf2 (.agg (Le.cells x).toArray :: .agg (Le.cells y).toArray :: caps2) V [] (Pv (.int .i64 (cm x y)) V [])) (hswo : SWO (ltc cm))  : Does Tryz.prog 158 [.func (.func gf) #[] caps.toArray,.func (.func gf2) #[] caps2.toArray] V Hs (fun v V' H' => V' = V ∧ ∃ xs ys q,S xs ∧ ys.Perm xs ∧ Srt (ltc cm) ys ∧ Ow 49 8 v ys.length (ys.flatMap Le.cells) q ∧ H' = q :: Hs) := by
 refine Does.intro Tryz.func158 rfl rfl (le rfl) (fun B => ?_)
 refine Zs<|Zr<|Za Z<|Ze<|Zg<|Zs<|Zr<|Zm Z<|?_
 refine Run.callW (l := [.tmp 6]) rfl rfl rfl (lt rfl) (collect_l hit hNb) (fun v3 V2 H2 hle hR => ?_)
 obtain ⟨hV,xs,q,hS,ho,rfl⟩ := hR; replace hV := hV.symm; subst hV
 have hxl := hlen xs hS
 refine Za Z<|Ze<|Zg<|Zs<|Zr<|Zm Z<|Zm Z<|?_
 refine Run.call [0] (l := [.tmp 8,.tmp 9]) rfl rfl rfl (lt rfl) (sort_l hcmp hswo ho W) (fun v4 V3 H3 hle3 hR3 => ?_)
 obtain ⟨hV,rfl,l2,q2,hp2,hs2,ho2,rfl⟩ := hR3; replace hV := hV.symm; subst hV
 refine Run.perm (H' := q2 :: Hs) (List.perm_append_comm (l₁ := [q2]))<|Ze<|Zg<|Zs<|Zr<|Zm Z<|Za Z<|Ze<|Zg<|Zu<|?_
 exact Ex.ret1 rfl rfl  ⟨rfl,xs,l2,q2,hS,hp2,hs2,ho2,rfl⟩
theorem those_1 {V : Vw} {l : List Le} {tx bm c1 c2 clock : Nat} {es : Array MapEntry} (hmi : MapIs .u32 (Le.mt l) es clock) {fi : FuncId} {ci : List Value} {f : Le → Bool} (his : ∀ x : Le,Does Tryz.prog fi (.agg x.cells.toArray :: ci) V [] (Pv (.bool (f x)) V [])) {N : Nat} (hNl : l.length ≤ N) {lp : Nat} {J Jx : List Le → Hp → Prop} {Hy : Hp} (hy : ∀ xs x H,J xs H → xs.length < N → YDoes Tryz.prog lp (Le.yv x) V H (fun u V' H' => V' = V ∧ (u = .bool true ∧ J (xs ++ [x]) H' ∨ u = .bool false ∧ Jx (xs ++ [x]) H'))) (h0 : J [] Hy)  : Does Tryz.prog 163 [yv lp,.pointer (some ⟨c1,0,none⟩),.pointer (some ⟨c2,0,none⟩)] V ([[(c1,.cells #[.pointer (some ⟨tx,0,none⟩)] 60 (0,0))],[(c2,.cells #[.func (.func fi) #[] ci.toArray] 140 (0,0))],[(tx,.cells #[.map (some bm)] 149 (0,0))],[(bm,.map es clock)]] ++ Hy) (fun _ V' H' => V' = V ∧ ∃ xs Hy',H' = [[(c1,.cells #[.pointer (some ⟨tx,0,none⟩)] 60 (0,0))],[(c2,.cells #[.func (.func fi) #[] ci.toArray] 140 (0,0))],[(tx,.cells #[.map (some bm)] 149 (0,0))],[(bm,.map es clock)]] ++ Hy' ∧ (xs.Perm (l.filter f) ∧ J xs Hy' ∨ True ∧ Jx xs Hy')) := by
 refine Does.intro Tryz.func163 rfl rfl (le rfl) (fun B => ?_)
 refine Zs<|Zr<|Zv (Y.load Z Table2_ts60 (Kn.at 0 Z) Z)<|Zv (Y.nilCheck Z)<|Zv (Y.fieldAddr Z Table2_fo149_0)<|Zv (Y.load Z Table2_ts147 (Kn.at 2 Z) Z)<|?_
 refine Run.rangeMap (kk := .u32) (l := Le.mt l) (j := 3) rfl Table2_mt147 rfl (lt rfl) (fun vi si hit => ?_)
 refine Ze<|Zg<|Zb<|?_
 refine ZL (X := Sg × Hp × List Le) (fun z0 => V) (fun z0 => z0.1 :: [(c1,.cells #[.pointer (some ⟨tx,0,none⟩)] 60 (0,0))] :: [(c2,.cells #[.func (.func fi) #[] ci.toArray] 140 (0,0))] :: [(tx,.cells #[.map (some bm)] 149 (0,0))] :: [(bm,.map es clock)] :: z0.2.1) (fun z0 => [(0,yv lp),(2,.pointer (some ⟨c2,0,none⟩)),(10,vi)]) (fun z0 => It bm es clock (Le.mt l) (Le.mt z0.2.2) vi z0.1 ∧ J (z0.2.2.filter f) z0.2.1) (fun z0 => l.length - z0.2.2.length) (⟨si,Hy,[]⟩ : Sg × Hp × List Le) ⟨hit,h0⟩ ?_
 rintro ⟨s1,Hy1,dl⟩ ⟨hit1,hJ⟩
 try dsimp only at hit1 hJ ⊢
 refine Zs<|Zr<|?_
 refine Run.nextMap (j := 4) (j2 := 0) rfl hmi rfl hit1 rfl (lt rfl) (fun hdone => ?_) (fun kx ux s2 hin hfew hit2 hat => ?_)
 ·refine Zv (Y.extract Z Z)<|Ze<|Zg<|Zs<|Tr.cond_f Z Z<|Zx<|Zy<|Zy<|Zi<|Ex.drop<|?_
  exact Ex.end0 rfl ⟨rfl,dl.filter f,Hy1,rfl,.inl ⟨(Le.mt_perm hdone).filter f,hJ⟩⟩
 ·obtain ⟨x,hxl,rfl,rfl⟩ := Le.mt_mem hin
  refine Zv (Y.extract Z Z)<|Ze<|Zg<|Zs<|Tr.cond_t Z Z<|Zt<|Zg<|Zb<|Zs<|Zr<|Zv (Y.entry (j := 4) (j2 := 0) Z hmi Z hat Z)<|Zv (Y.extract Z Z)<|?_
  refine Run.alloc Table2_zo49 (lt rfl) (fun b1 => ?_)
  refine Run.store (s := [(b1,.cells #[.int .u32 x.addr,.int .i64 x.bind,.string x.client,.int .i64 x.till,.int .i64 x.acked,.int .i64 x.told,.int .i64 x.at_,.int .i64 x.ver] 49 (0,0))]) Z Z Table2_sz49 (i := 0) Z Z (le Z) Z Z<|Ze<|Zg<|Zs<|Tr.regionI<|RunI.op Z<|Zv (Y.load Z Table2_ts140 (Kn.at 3 Z) Z)<|Ze<|Ex.goI<|RunI.op Z<|Zv (Y.loadAgg Z Table2_ag49 (Kn.at 0 Z) Z)<|Ze<|Ex.goI<|RunI.op Z<|Run.call0 (l := [.tmp 16]) Z Z Z (lt Z) ((his x).frame)<|?_
  refine Ze<|Ex.goI<|RunI.op Z<|Zm Z<|Ze<|Ex.goI<|?_
  rcases Zsplit (f x) with ⟨h2,g2⟩ | ⟨h2,g2⟩ <;> try simp only [kb] at g2
  ·refine RunI.on Z Z Z h2<|RunI.op Z<|Zm Z<|Ze<|Ex.goI<|RunI.on Z Z Z h2<|RunI.op Z<|Zv (Y.loadAgg Z Table2_ag49 (Kn.at 0 Z) Z)<|Ze<|Ex.goI<|RunI.on Z Z Z h2<|?_
   have hfx := h2
   refine RunI.callY [[(b1,.cells #[.int .u32 x.addr,.int .i64 x.bind,.string x.client,.int .i64 x.till,.int .i64 x.acked,.int .i64 x.told,.int .i64 x.at_,.int .i64 x.ver] 49 (0,0))],s2,[(c1,.cells #[.pointer (some ⟨tx,0,none⟩)] 60 (0,0))],[(c2,.cells #[.func (.func fi) #[] ci.toArray] 140 (0,0))],[(tx,.cells #[.map (some bm)] 149 (0,0))],[(bm,.map es clock)]] Hy1 rfl rfl rfl (lt rfl) (hy (dl.filter f) x _ hJ (by have := Le.fil_le f dl; rw [Le.mt_len,Le.mt_len] at hfew; omega)) (fun u V2 Hy2 hle hR => ?_)
   obtain ⟨hV,⟨rfl,hJ2⟩ | ⟨rfl,hJ2⟩⟩ := hR <;> (replace hV := hV.symm; subst hV)
   ·refine RunI.on Z Z Z h2<|RunI.op Z<|Zv (Y.not Z)<|Ze<|Ex.goI<|RunI.op Z<|Zv (Y.pick_t Z h2 Z)<|Ze<|Ex.goI<|RunI.nil<|Zg<|Tr.cond_f Z Z<|Zt<|Zc<|Ex.perm (H' := [(b1,.cells #[.int .u32 x.addr,.int .i64 x.bind,.string x.client,.int .i64 x.till,.int .i64 x.acked,.int .i64 x.told,.int .i64 x.at_,.int .i64 x.ver] 49 (0,0))] :: s2 :: [(c1,.cells #[.pointer (some ⟨tx,0,none⟩)] 60 (0,0))] :: [(c2,.cells #[.func (.func fi) #[] ci.toArray] 140 (0,0))] :: [(tx,.cells #[.map (some bm)] 149 (0,0))] :: [(bm,.map es clock)] :: Hy2) (List.Perm.refl _)<|?_
    refine Ex.drop ?_
    exact ZR (⟨s2,Hy2,dl ++ [x]⟩ : Sg × Hp × List Le) ⟨by rw [Le.mt_snoc]; exact hit2,by rw [Le.fil_yes hfx]; exact hJ2⟩ (by dsimp only; rw [List.length_append,List.length_singleton]; rw [Le.mt_len,Le.mt_len] at hfew; omega)
   ·refine RunI.on Z Z Z h2<|RunI.op Z<|Zv (Y.not Z)<|Ze<|Ex.goI<|RunI.op Z<|Zv (Y.pick_t Z h2 Z)<|Ze<|Ex.goI<|RunI.nil<|Zg<|Tr.cond_t Z Z<|Zu<|Zk<|Zn<|Zk<|?_
    refine Ex.drop<|Ex.drop<|?_
    exact Ex.ret0 rfl ⟨rfl,dl.filter f ++ [x],Hy2,rfl,.inr ⟨trivial,hJ2⟩⟩
  ·have hfx := h2
   refine RunI.off Z Z Z h2 Z (lt Z)<|RunI.off Z Z Z h2 Z (lt Z)<|RunI.off Z Z Z h2 Z (lt Z)<|RunI.off Z Z Z h2 Z (lt Z)<|RunI.op Z<|Zv (Y.pick_f Z h2 Z)<|Ze<|Ex.goI<|RunI.nil<|Zg<|Tr.cond_f Z Z<|Zt<|Zc<|Ex.perm (H' := [(b1,.cells #[.int .u32 x.addr,.int .i64 x.bind,.string x.client,.int .i64 x.till,.int .i64 x.acked,.int .i64 x.told,.int .i64 x.at_,.int .i64 x.ver] 49 (0,0))] :: s2 :: [(c1,.cells #[.pointer (some ⟨tx,0,none⟩)] 60 (0,0))] :: [(c2,.cells #[.func (.func fi) #[] ci.toArray] 140 (0,0))] :: [(tx,.cells #[.map (some bm)] 149 (0,0))] :: [(bm,.map es clock)] :: Hy1) (List.Perm.refl _)<|?_
   refine Ex.drop ?_
   exact ZR (⟨s2,Hy1,dl ++ [x]⟩ : Sg × Hp × List Le) ⟨by rw [Le.mt_snoc]; exact hit2,by rw [Le.fil_no hfx]; exact hJ⟩ (by dsimp only; rw [List.length_append,List.length_singleton]; rw [Le.mt_len,Le.mt_len] at hfew; omega)
theorem those_it {V : Vw} {l : List Le} {tx bm c1 c2 clock : Nat} {es : Array MapEntry} (hmi : MapIs .u32 (Le.mt l) es clock) {fi : FuncId} {ci : List Value} {f : Le → Bool} (his : ∀ x : Le,Does Tryz.prog fi (.agg x.cells.toArray :: ci) V [] (Pv (.bool (f x)) V [])) : Iterates Tryz.prog 163 [.pointer (some ⟨c1,0,none⟩),.pointer (some ⟨c2,0,none⟩)] V [[(c1,.cells #[.pointer (some ⟨tx,0,none⟩)] 60 (0,0))],[(c2,.cells #[.func (.func fi) #[] ci.toArray] 140 (0,0))],[(tx,.cells #[.map (some bm)] 149 (0,0))],[(bm,.map es clock)]] Le.yv (fun xs => xs.Perm (l.filter f)) (fun _ => True) l.length := fun lp J Jx hy Hy h0 => those_1 hmi his (Nat.le_refl _) hy h0
theorem those_top {V : Vw} {tx : Nat} {fi : FuncId} {ci : List Value}  : Does Tryz.prog 84 [.pointer (some ⟨tx,0,none⟩),.func (.func fi) #[] ci.toArray] V [] (fun v V' H' => V' = V ∧ ∃ c1 c2,v = .func (.func 163) #[] [.pointer (some ⟨c1,0,none⟩),.pointer (some ⟨c2,0,none⟩)].toArray ∧ H' = [[(c1,.cells #[.pointer (some ⟨tx,0,none⟩)] 60 (0,0))],[(c2,.cells #[.func (.func fi) #[] ci.toArray] 140 (0,0))]]) := by
 refine Does.intro Tryz.func84 rfl rfl (le rfl) (fun B => ?_)
 refine Zs<|Zr<|?_
 refine Run.box rfl (lt rfl) (fun b1 => ?_)
 refine Run.box rfl (lt rfl) (fun b2 => ?_)
 refine Za Z<|Ze<|Zg<|Zs<|Zr<|Zv (Y.makeFunc (l := []) (l' := [.tmp 2,.tmp 3]) Z Z)<|Za Z<|Ze<|Zg<|Zu<|Ex.keep [1,0]<|?_
 exact Ex.ret1 rfl rfl  ⟨rfl,b1,b2,rfl,rfl⟩
theorem sorted_1 {V : Vw} {b : Nat} {x y : Le} {gb : FuncId} {cb : List Value} {k : Le → Int} (hk : V b = some (.cells #[.func (.func gb) #[] cb.toArray] 141 (0,0))) (hby : ∀ x : Le,Does Tryz.prog gb (.agg x.cells.toArray :: cb) V [] (Pv (.int .i64 (k x)) V []))  : Does Tryz.prog 159 [.agg #[.int .u32 x.addr,.int .i64 x.bind,.string x.client,.int .i64 x.till,.int .i64 x.acked,.int .i64 x.told,.int .i64 x.at_,.int .i64 x.ver],.agg #[.int .u32 y.addr,.int .i64 y.bind,.string y.client,.int .i64 y.till,.int .i64 y.acked,.int .i64 y.told,.int .i64 y.at_,.int .i64 y.ver],.pointer (some ⟨b,0,none⟩)] V [] (Pv (.int .i64 (Le.cmpBy k x y)) V []) := by
 refine Does.intro Tryz.func159 rfl rfl (le rfl) (fun B => ?_)
 refine Zs<|Zr<|?_
 refine Run.box rfl (lt rfl) (fun b1 => ?_)
 refine Run.box rfl (lt rfl) (fun b2 => ?_)
 refine Za Z<|Ze<|Zg<|Zs<|Tr.tail 12 Table2_mo WK<|ZV (Y.load Z Table2_ts141 (.inl hk) Z)<|ZV (Y.loadAgg Z Table2_ag49 (Kn.at 1 Z) Z)<|RunQ.call0 (l := [.tmp 7]) rfl rfl rfl (lt rfl) ((hby x).frame)<|ZV (Y.load Z Table2_ts141 (.inl hk) Z)<|ZV (Y.loadAgg Z Table2_ag49 (Kn.at 0 Z) Z)<|RunQ.call0 (l := [.tmp 10]) rfl rfl rfl (lt rfl) ((hby y).frame)<|RunQ.call0 (l := [.tmp 8,.tmp 11]) Z Z Z (lt Z) cmp_n_h<|ZV (Y.fieldAddr Z Table2_fo49_0)<|?_
 refine ZV (Y.load Z Table2_ts47 (Kn.at 1 Z) Z)<|ZV (Y.fieldAddr Z Table2_fo49_0)<|ZV (Y.load Z Table2_ts47 (Kn.at 0 Z) Z)<|RunQ.call0 (l := [.tmp 14,.tmp 16]) Z Z Z (lt Z) cmp_u_h<|RunQ.nil_run<|?_
 refine Run.buildSlice (l := [(0,.tmp 12),(1,.tmp 17)]) Table2_es219 Table2_zo3 rfl WD rfl rfl WD (lt rfl) (fun b3 => ?_)
 refine Run.call0 (l := [.tmp 18]) Z Z Z (lt Z) (or_c (x := Rg.cmp3 (k x) (k y)) (y := Rg.cmp3 x.addr y.addr) (Rd.one (Kn.at 0 Z) Z))<|Za Z<|Ze<|Zg<|Zu<|Ex.keep []<|?_
 exact Ex.ret1 rfl rfl  ⟨rfl,rfl,rfl⟩
theorem tsorted_c {V : Vw} {Hs : Hp} {gf : FuncId} {caps : List Value} {S Sp : List Le → Prop} {N : Nat} (hit : ∀ V',V.le V' → Iterates Tryz.prog gf caps V' Hs Le.yv S Sp N) (hNb : N ≤ 1000000000) (hlen : ∀ xs,S xs → xs.length ≤ 1000000000) {gb : FuncId} {cb : List Value} {k : Le → Int} (hby : ∀ V',V.le V' → ∀ x : Le,Does Tryz.prog gb (.agg x.cells.toArray :: cb) V' [] (Pv (.int .i64 (k x)) V' []))  : Does Tryz.prog 83 [.func (.func gf) #[] caps.toArray,.func (.func gb) #[] cb.toArray] V Hs (fun v V' H' => V.le V' ∧ ∃ xs ys q,S xs ∧ ys.Perm xs ∧ Srt (ltc (Le.cmpBy k)) ys ∧ Ow 49 8 v ys.length (ys.flatMap Le.cells) q ∧ H' = q :: Hs) := by
 refine Does.intro Tryz.func83 rfl rfl (le rfl) (fun B => ?_)
 refine Zs<|Zr<|?_
 refine Run.box rfl (lt rfl) (fun b1 => ?_)
 refine Za Z<|Ze<|Zg<|Zs<|Zr<|?_
 refine Run.show (s := [(b1,.cells #[.func (.func gb) #[] cb.toArray] 141 (0,0))]) (H := Hs) (fun V9 hle9 hsh9 => ?_)
 have hk9 : V9 b1 = some (.cells #[.func (.func gb) #[] cb.toArray] 141 (0,0)) := hsh9 _ _ (by simp [List.lookup])
 refine Zm Z<|Zv (Y.makeFunc (l := []) (l' := [.tmp 3]) Z Z)<|?_
 refine Run.callW (l := [.tmp 5,.tmp 6]) rfl rfl rfl (lt rfl) (sortedf_l (caps2 := [.pointer (some ⟨b1,0,none⟩)]) (cm := Le.cmpBy k) (hit V9 hle9) hNb hlen (fun x y => sorted_1 hk9 (hby V9 hle9)) (Le.swoBy k)) (fun v3 V3 H3 hle3 hR => ?_)
 obtain ⟨hV,xs,ys,q,hS,hp,hs,ho,rfl⟩ := hR; replace hV := hV.symm; subst hV
 refine Za Z<|Ze<|Zg<|Zu<|?_
 exact Ex.ret1 rfl rfl  ⟨hle9,xs,ys,q,hS,hp,hs,ho,rfl⟩
end Go.Proofs.YtinkencbkcciiaaGreat
