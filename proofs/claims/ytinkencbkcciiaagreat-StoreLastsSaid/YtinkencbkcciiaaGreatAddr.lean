/- Pools of addresses, walked: Count, Pool.
Conditions: as each theorem names them. -/
import Derived.Test.YtinkencbkcciiaaGreatProg
import Derived.Test.YtinkencbkcciiaaGreatRA
import Derived.Test.YtinkencbkcciiaaGreatSortr3
import Derived.Test.YtinkencbkcciiaaGreatSortu
import Derived.Test.YtinkencbkcciiaaGreatZG
set_option linter.unusedSimpArgs false
set_option linter.unusedVariables false
set_option maxRecDepth 4000
namespace Go.Proofs.YtinkencbkcciiaaGreat
open Go Go.K
attribute [local irreducible] Code.wp wpList Calls wpQuiet
theorem Addr_fo101_1 : fieldOff Tryz.prog 101 1 = some 1 := by kernel_rfl
theorem Addr_ts47 : scal Tryz.prog 47 = true := by kernel_rfl
theorem Addr_it47_3 : intT Tryz.prog 47 3 = some .i64 := by kernel_rfl
theorem Addr_fo101_0 : fieldOff Tryz.prog 101 0 = some 0 := by kernel_rfl
theorem Addr_es23 : elemS Tryz.prog 23 = some (101,2) := by kernel_rfl
theorem Addr_ag101 : aggsz Tryz.prog 101 = some 2 := by kernel_rfl
theorem Addr_zo101 : zeroOf Tryz.prog 101 = some (.agg #[.int .u32 0,.int .u32 0]) := by kernel_rfl
theorem Addr_sz101 : sizeT Tryz.prog 101 = some 2 := by kernel_rfl
theorem Addr_ts23 : scal Tryz.prog 23 = true := by kernel_rfl
theorem Addr_zi101 : zeroInfo Tryz.prog 101 = some (2,8,.agg #[.int .u32 0,.int .u32 0]) := by kernel_rfl
theorem Addr_sz23 : sizeT Tryz.prog 23 = some 1 := by kernel_rfl
theorem Addr_mo : Tryz.prog.follows .mixedOrders = true := by kernel_rfl
theorem Addr_sz47 : sizeT Tryz.prog 47 = some 1 := by kernel_rfl
open Go.Sort
theorem size_c {q : Rg} (hq : q.Ok) {V : Vw} : Does Tryz.prog 210 [.agg #[.int .u32 q.low,.int .u32 q.high]] V [] (Pv (.int .i64 (Rg.size q)) V []) := by
 have hb := hq.all
 refine Does.intro Tryz.func210 rfl rfl (le rfl) (fun B => ?_)
 refine Zs<|Zr<|?_
 refine Run.box rfl (lt rfl) (fun b1 => ?_)
 refine Za Z<|Ze<|Zg<|Zs<|Zr<|Zv (Y.fieldAddr Z Addr_fo101_1)<|Zv (Y.load Z Addr_ts47 (Kn.at 0 Z) Z)<|Zv (Y.conv (q.high) rfl Addr_it47_3 (wrap_i64 W))<|Zv (Y.fieldAddr Z Addr_fo101_0)<|Zv (Y.load Z Addr_ts47 (Kn.at 0 Z) Z)<|Zv (Y.conv (q.low) rfl Addr_it47_3 (wrap_i64 W))<|Zv (Y.sub Z Z W)<|Zv (Y.add Z Z W)<|Za Z<|Ze<|Zg<|?_
 refine Zu<|Ex.keep []<|?_
 exact Ex.ret1 rfl rfl  ⟨rfl,rfl,rfl⟩
theorem size_h {q : Rg} (hq : q.Ok) {V : Vw} {H : Hp} : Does Tryz.prog 210 [.agg #[.int .u32 q.low,.int .u32 q.high]] V H (Pv (.int .i64 (Rg.size q)) V H) := (size_c hq).frame
theorem odd_c {q : Rg} {V : Vw} : Does Tryz.prog 188 [.agg #[.int .u32 q.low,.int .u32 q.high]] V [] (Pv (.bool (Rg.odd q)) V []) := by
 refine Does.intro Tryz.func188 rfl rfl (le rfl) (fun B => ?_)
 refine Zs<|Zr<|?_
 refine Run.box rfl (lt rfl) (fun b1 => ?_)
 refine Za Z<|Ze<|Zg<|Zs<|Zr<|Zv (Y.fieldAddr Z Addr_fo101_1)<|Zv (Y.load Z Addr_ts47 (Kn.at 0 Z) Z)<|Zv (Y.fieldAddr Z Addr_fo101_0)<|Zv (Y.load Z Addr_ts47 (Kn.at 0 Z) Z)<|Zv (Y.int Z Z Z)<|Za Z<|Ze<|Zg<|Zu<|Ex.keep []<|?_
 exact Ex.ret1 rfl rfl  ⟨rfl,rfl,rfl⟩
theorem cmp_u {m n : Int} {V : Vw} : Does Tryz.prog 162 [.int .u32 m,.int .u32 n] V [] (Pv (.int .i64 (Rg.cmp3 m n)) V []) := by
 refine Does.intro Tryz.func162 rfl rfl (le rfl) (fun B => ?_)
 refine Zs<|Zr<|Za Z<|Ze<|Zg<|Zs<|Zr<|Zm Z<|Run.call0 (l := [.tmp 7]) Z Z Z (lt Z) isnan_u0_h<|Za Z<|Ze<|Zg<|Zs<|Zr<|Zm Z<|Run.call0 (l := [.tmp 9]) Z Z Z (lt Z) isnan_u0_h<|?_
 refine Za Z<|Ze<|Zg<|Zs<|Zs<|Zr<|Zm Z<|Ze<|Zg<|Tr.cond_f Z Z<|Zt<|Zg<|Zs<|Zs<|Zr<|Zm Z<|?_
 refine Ze<|Zg<|Tr.cond_f Z Z<|Zt<|Zg<|Zs<|Zs<|Zr<|Zm Z<|Zm Z<|Zv (Y.int Z Z Z)<|Ze<|Zg<|?_
 rcases Zsplit (decide (m < n)) with ⟨h1,g1⟩ | ⟨h1,g1⟩ <;> try simp only [kb] at g1
 ·refine Tr.cond_t Z h1<|Zs<|Zr<|Za Z<|Ze<|Zg<|Zu<|Zn<|Ex.keep []<|?_
  exact Ex.ret1 rfl rfl  ⟨congrArg (Value.int _) (by unfold Rg.cmp3; (repeat' split) <;> omega),rfl,rfl⟩
 ·refine Tr.cond_f Z h1<|Zt<|Zg<|Zs<|Zs<|Zr<|Zm Z<|Zm Z<|Zv (Y.int Z Z Z)<|Ze<|Zg<|?_
  rcases Zsplit (decide (m > n)) with ⟨h2,g2⟩ | ⟨h2,g2⟩ <;> try simp only [kb] at g2
  ·refine Tr.cond_t Z h2<|Zs<|Zr<|Za Z<|Ze<|Zg<|Zu<|Zn<|Ex.keep []<|?_
   exact Ex.ret1 rfl rfl  ⟨congrArg (Value.int _) (by unfold Rg.cmp3; (repeat' split) <;> omega),rfl,rfl⟩
  ·refine Tr.cond_f Z h2<|Zt<|Zg<|Zs<|Zr<|Za Z<|Ze<|Zg<|Zu<|Ex.keep []<|?_
   exact Ex.ret1 rfl rfl  ⟨congrArg (Value.int _) (by unfold Rg.cmp3; (repeat' split) <;> omega),rfl,rfl⟩
theorem cmp_u_h {m n : Int} {V : Vw} {H : Hp} : Does Tryz.prog 162 [.int .u32 m,.int .u32 n] V H (Pv (.int .i64 (Rg.cmp3 m n)) V H) := cmp_u.frame
theorem by_c {q r : Rg} {V : Vw} : Does Tryz.prog 192 [.agg #[.int .u32 q.low,.int .u32 q.high],.agg #[.int .u32 r.low,.int .u32 r.high]] V [] (Pv (.int .i64 (Rg.cmp q r)) V []) := by
 refine Does.intro Tryz.func192 rfl rfl (le rfl) (fun B => ?_)
 refine Zs<|Zr<|?_
 refine Run.box rfl (lt rfl) (fun b1 => ?_)
 refine Run.box rfl (lt rfl) (fun b2 => ?_)
 refine Za Z<|Ze<|Zg<|Zs<|Zr<|Zv (Y.fieldAddr Z Addr_fo101_0)<|Zv (Y.load Z Addr_ts47 (Kn.at 1 Z) Z)<|Zv (Y.fieldAddr Z Addr_fo101_0)<|Zv (Y.load Z Addr_ts47 (Kn.at 0 Z) Z)<|Run.call0 (l := [.tmp 6,.tmp 8]) Z Z Z (lt Z) cmp_u_h<|Za Z<|Ze<|Zg<|Zu<|Ex.keep []<|?_
 exact Ex.ret1 rfl rfl  ⟨rfl,rfl,rfl⟩
theorem count_c {V : Vw} {H : Hp} {l : List Rg} {p : Option Addr} {c : Nat} (hv : Rd V H 2 (.slice p l.length c) l.length (l.flatMap Rg.cells)) (hlm : l.length ≤ 1000) (hok : Rg.Oks l)  : Does Tryz.prog 128 [.slice p l.length c] V H (Pv (.int .i64 (Rg.cnt l)) V H) := by
 refine Does.intro Tryz.func128 rfl rfl (le rfl) (fun B => ?_)
 refine Zs<|Zr<|Za Z<|Ze<|Zg<|Zs<|Zr<|Za Z<|Ze<|Zg<|Zs<|Zs<|Zr<|Zm Z<|Zv (Y.lenSl Z Addr_es23)<|Zm Z<|?_
 refine Ze<|Zg<|Zb<|?_
 refine ZL (X := Nat) (fun z0 => V) (fun z0 => H) (fun z0 => [(3,.int .i64 (Rg.cnt (l.take z0))),(6,.slice p l.length c),(7,.int .i64 ((l.length : Nat) : Int)),(8,.int .i64 (z0 : Int))]) (fun z0 => z0 ≤ l.length) (fun z0 => l.length - z0) (0 : Nat) (Nat.zero_le _) ?_
 rintro i1 hi
 have hcb := Rg.cnt_bd (hok.take i1)
 rw [List.length_take] at hcb
 have hsz := (hok.bd i1)
 have hsd : Rg.size (l.getD i1 Rg.dflt) = (l.getD i1 Rg.dflt).high - (l.getD i1 Rg.dflt).low + 1 := rfl
 refine Zs<|Zr<|Zv (Y.int Z Z Z)<|Ze<|Zg<|Zs<|?_
 rcases Zsplit (decide ((i1 : Int) < ((l.length : Nat) : Int))) with ⟨h1,g1⟩ | ⟨h1,g1⟩ <;> try simp only [kb] at g1
 ·refine Tr.cond_t Z h1<|Zt<|Zg<|Zs<|Zb<|Zs<|Zr<|Zv (Y.idxR i1 Z Z Addr_es23 hv W W)<|Zv (Y.ldRA (vs := [.int .u32 ((l.getD i1 Rg.dflt).low),.int .u32 ((l.getD i1 Rg.dflt).high)]) rfl Addr_ag101 hv rfl WD (fun o ho => flatm_atA Rg.len W Rg.dflt o ho))<|?_
  refine Run.alloc Addr_zo101 (lt rfl) (fun b2 => ?_)
  refine Run.store (s := [(b2,.cells #[.int .u32 ((l.getD i1 Rg.dflt).low),.int .u32 ((l.getD i1 Rg.dflt).high)] 101 (0,0))]) Z Z Addr_sz101 (i := 0) Z Z (le Z) Z Z<|Ze<|Zg<|Zr<|Zm Z<|Zv (Y.loadAgg Z Addr_ag101 (Kn.at 0 Z) Z)<|Run.call0 (l := [.tmp 13]) Z Z Z (lt Z) (size_h (hok.at i1))<|Zv (Y.add Z Z W)<|Za Z<|Ze<|Zc<|Zg<|Zr<|Zv (Y.add Z Z W)<|Zm Z<|Ze<|?_
  refine Ex.drop ?_
  have er := Rg.cnt_take (l := l) (i := i1) W
  exact ZR (i1 + 1 : Nat) W W (by repeat (first | exact subB_nil _ | refine subB_cons (by first | rfl | exact congrArg (fun z => some (Value.int _ z)) W | exact congrArg (fun z => some (Value.int _ z)) W) ?_))
 ·refine Tr.cond_f Z h1<|Zx<|Zy<|Zy<|Zi<|Zg<|Zs<|Zr<|Zm Z<|Za Z<|Ze<|Zg<|Zu<|?_
  exact Ex.ret1 rfl rfl  ⟨congrArg (Value.int _) (by rw [List.take_of_length_le W]),rfl,rfl⟩
theorem count_h {V : Vw} {H : Hp} {l : List Rg} {v : Value} (hv : Rd V H 2 v l.length (l.flatMap Rg.cells)) (hlm : l.length ≤ 1000) (hok : Rg.Oks l) : Does Tryz.prog 128 [v] V H (Pv (.int .i64 (Rg.cnt l)) V H) := by
  obtain ⟨p,c,rfl,_⟩ := hv.form
  exact count_c hv hlm hok
theorem index_r {V : Vw} {H : Hp} {l : List Rg} {p : Option Addr} {c : Nat} (hv : Rd V H 2 (.slice p l.length c) l.length (l.flatMap Rg.cells)) (hlm : l.length ≤ 1000000000) {gf : FuncId} {caps : List Value} {pb : Rg → Bool} (hp : ∀ q,Does Tryz.prog gf (.agg (Rg.cells q).toArray :: caps) V H (Pv (.bool (pb q)) V H))  : Does Tryz.prog 239 [.slice p l.length c,.func (.func gf) #[] caps.toArray] V H (Pv (.int .i64 (ixf pb l)) V H) := by
 refine Does.intro Tryz.func239 rfl rfl (le rfl) (fun B => ?_)
 refine Zs<|Zr<|Za Z<|Ze<|Zg<|Zs<|Zs<|Zr<|Zm Z<|Zv (Y.lenSl Z Addr_es23)<|Zm Z<|Ze<|Zg<|Zb<|?_
 refine ZL (X := Nat) (fun z0 => V) (fun z0 => H) (fun z0 => [(0,.slice p l.length c),(1,.func (.func gf) #[] caps.toArray),(7,.int .i64 ((l.length : Nat) : Int)),(8,.int .i64 (z0 : Int))]) (fun z0 => z0 ≤ l.length ∧ ∀ j,j < z0 → pb (l.getD j Rg.dflt) = false) (fun z0 => l.length - z0) (0 : Nat) ⟨Nat.zero_le _,fun j hj => absurd hj (Nat.not_lt_zero j)⟩ ?_
 rintro i1 ⟨hi,hn⟩
 refine Zs<|Zr<|Zv (Y.int Z Z Z)<|Ze<|Zg<|Zs<|?_
 rcases Zsplit (decide ((i1 : Int) < ((l.length : Nat) : Int))) with ⟨h1,g1⟩ | ⟨h1,g1⟩ <;> try simp only [kb] at g1
 ·refine Tr.cond_t Z h1<|Zt<|Zg<|Zs<|Zb<|Zs<|Zr<|Zm Z<|Za Z<|Ze<|Zg<|Zs<|Zr<|Zm Z<|Zm Z<|Zm Z<|?_
  refine Zv (Y.idxR i1 Z Z Addr_es23 hv W W)<|Zv (Y.ldRA (vs := [.int .u32 ((l.getD i1 Rg.dflt).low),.int .u32 ((l.getD i1 Rg.dflt).high)]) rfl Addr_ag101 hv rfl WD (fun o ho => flatm_atA Rg.len W Rg.dflt o ho))<|Run.call0 (l := [.tmp 15]) Z Z Z (lt Z) (hp (l.getD i1 Rg.dflt))<|Ze<|Zg<|?_
  rcases Zsplit (pb (l.getD i1 Rg.dflt)) with ⟨h2,g2⟩ | ⟨h2,g2⟩ <;> try simp only [kb] at g2
  ·refine Tr.cond_t Z h2<|Zs<|Zr<|Zm Z<|Za Z<|Ze<|Zg<|Zu<|Zk<|Zn<|Zn<|Zk<|Zn<|?_
   exact Ex.ret1 rfl rfl  ⟨congrArg (Value.int _) (ixf_at hn W (by assumption)).symm,rfl,rfl⟩
  ·refine Tr.cond_f Z h2<|Zt<|Zc<|Zg<|Zr<|Zv (Y.add Z Z W)<|Zm Z<|Ze<|?_
   exact ZR (i1 + 1 : Nat) ⟨by omega,upto_succ hn (by assumption)⟩ W
 ·refine Tr.cond_f Z h1<|Zx<|Zy<|Zy<|Zi<|Zg<|Zs<|Zr<|Za Z<|Ze<|Zg<|Zu<|?_
  exact Ex.ret1 rfl rfl  ⟨congrArg (Value.int _) (ixf_none (d := Rg.dflt) (fun j hj => hn j W)).symm,rfl,rfl⟩
theorem index_r_h {V : Vw} {H : Hp} {l : List Rg} {v : Value} {n : Nat} (hv : Rd V H 2 v n (l.flatMap Rg.cells)) (hlm : l.length ≤ 1000000000) {gf : FuncId} {caps : List Value} {pb : Rg → Bool} (hp : ∀ q,Does Tryz.prog gf (.agg (Rg.cells q).toArray :: caps) V H (Pv (.bool (pb q)) V H)) : Does Tryz.prog 239 [v,.func (.func gf) #[] caps.toArray] V H (Pv (.int .i64 (ixf pb l)) V H) := by
  obtain rfl : n = l.length := by have := hv.len; rw [flat_len Rg.enc] at this; omega
  obtain ⟨p,c,rfl,_⟩ := hv.form
  exact index_r hv hlm hp
theorem contains_r {V : Vw} {H : Hp} {l : List Rg} {p : Option Addr} {c : Nat} (hv : Rd V H 2 (.slice p l.length c) l.length (l.flatMap Rg.cells)) (hlm : l.length ≤ 1000000000) {gf : FuncId} {caps : List Value} {pb : Rg → Bool} (hp : ∀ q,Does Tryz.prog gf (.agg (Rg.cells q).toArray :: caps) V H (Pv (.bool (pb q)) V H))  : Does Tryz.prog 189 [.slice p l.length c,.func (.func gf) #[] caps.toArray] V H (Pv (.bool (l.any pb)) V H) := by
 refine Does.intro Tryz.func189 rfl rfl (le rfl) (fun B => ?_)
 refine Zs<|Zr<|Za Z<|Ze<|Zg<|Zs<|Zr<|Zm Z<|Zm Z<|Run.call0 (l := [.tmp 5,.tmp 6]) Z Z Z (lt Z) (index_r_h hv hlm hp)<|Zv (Y.int Z Z Z)<|Za Z<|Ze<|Zg<|Zu<|?_
 exact Ex.ret1 rfl rfl  ⟨congrArg Value.bool (ixf_any pb l Rg.dflt),rfl,rfl⟩
theorem values1_r {V : Vw} {l : List Rg} {p : Option Addr} {c b N : Nat} (hv : Rd V [] 2 (.slice p l.length c) l.length (l.flatMap Rg.cells)) (hlm : l.length ≤ 1000000000) (hNl : l.length ≤ N) {lp : Nat} {J Jx : List Rg → Hp → Prop} {Hy : Hp} (hy : ∀ xs x H,J xs H → xs.length < N → YDoes Tryz.prog lp (Rg.yv x) V H (fun u V' H' => V' = V ∧ (u = .bool true ∧ J (xs ++ [x]) H' ∨ u = .bool false ∧ Jx (xs ++ [x]) H'))) (h0 : J [] Hy)  : Does Tryz.prog 242 [yv lp,.pointer (some ⟨b,0,none⟩)] V ([[(b,.cells #[.slice p l.length c] 23 (0,0))]] ++ Hy) (fun _ V' H' => V' = V ∧ ∃ xs Hy',H' = [[(b,.cells #[.slice p l.length c] 23 (0,0))]] ++ Hy' ∧ (xs = l ∧ J xs Hy' ∨ True ∧ Jx xs Hy')) := by
 refine Does.intro Tryz.func242 rfl rfl (le rfl) (fun B => ?_)
 refine Zs<|Zr<|Zv (Y.load Z Addr_ts23 (Kn.at 0 Z) Z)<|Zv (Y.lenSl Z Addr_es23)<|Zm Z<|Ze<|Zg<|Zb<|?_
 refine ZL (X := Nat × Hp) (fun z0 => V) (fun z0 => [(b,.cells #[.slice p l.length c] 23 (0,0))] :: z0.2) (fun z0 => [(0,yv lp),(5,.slice p l.length c),(6,.int .i64 ((l.length : Nat) : Int)),(7,.int .i64 (z0.1 : Int))]) (fun z0 => z0.1 ≤ l.length ∧ J (l.take z0.1) z0.2) (fun z0 => l.length - z0.1) (⟨0,Hy⟩ : Nat × Hp) ⟨Nat.zero_le _,h0⟩ ?_
 rintro ⟨i1,Hy1⟩ ⟨hi,hJ⟩
 try dsimp only at hi hJ ⊢
 refine Zs<|Zr<|Zv (Y.int Z Z Z)<|Ze<|Zg<|Zs<|?_
 rcases Zsplit (decide ((i1 : Int) < ((l.length : Nat) : Int))) with ⟨h1,g1⟩ | ⟨h1,g1⟩ <;> try simp only [kb] at g1
 ·refine Tr.cond_t Z h1<|Zt<|Zg<|Zs<|Zb<|Zs<|Zr<|Zv (Y.idxR i1 Z Z Addr_es23 hv.of_nil W W)<|Zv (Y.ldRA (vs := [.int .u32 ((l.getD i1 Rg.dflt).low),.int .u32 ((l.getD i1 Rg.dflt).high)]) rfl Addr_ag101 hv.of_nil rfl WD (fun o ho => flatm_atA Rg.len W Rg.dflt o ho))<|?_
  refine Run.alloc Addr_zo101 (lt rfl) (fun b2 => ?_)
  refine Run.store (s := [(b2,.cells #[.int .u32 ((l.getD i1 Rg.dflt).low),.int .u32 ((l.getD i1 Rg.dflt).high)] 101 (0,0))]) Z Z Addr_sz101 (i := 0) Z Z (le Z) Z Z<|Ze<|Zg<|Zs<|Tr.regionI<|RunI.op Z<|Zm Z<|Ze<|Ex.goI<|RunI.op Z<|Zv (Y.loadAgg Z Addr_ag101 (Kn.at 0 Z) Z)<|Ze<|Ex.goI<|?_
  refine RunI.callY [[(b2,.cells #[.int .u32 ((l.getD i1 Rg.dflt).low),.int .u32 ((l.getD i1 Rg.dflt).high)] 101 (0,0))],[(b,.cells #[.slice p l.length c] 23 (0,0))]] Hy1 rfl rfl rfl (lt rfl) (hy (l.take i1) (l.getD i1 Rg.dflt) _ hJ (by rw [List.length_take]; omega)) (fun u V2 Hy2 hle hR => ?_)
  obtain ⟨hV,⟨rfl,hJ2⟩ | ⟨rfl,hJ2⟩⟩ := hR <;> (replace hV := hV.symm; subst hV)
  ·refine RunI.op Z<|Zv (Y.not Z)<|Ze<|Ex.goI<|RunI.nil<|Zg<|Tr.cond_f Z Z<|Zt<|Zc<|Zg<|Zr<|Zv (Y.add Z Z W)<|Zm Z<|Ze<|Ex.drop<|?_
   exact ZR (⟨i1 + 1,Hy2⟩ : Nat × Hp) ⟨by omega,by rw [take_succ_getD l i1 Rg.dflt W]; exact hJ2⟩ (by dsimp only; omega)
  ·refine RunI.op Z<|Zv (Y.not Z)<|Ze<|Ex.goI<|RunI.nil<|Zg<|Tr.cond_t Z Z<|Zu<|Zk<|Zn<|Zn<|Zk<|Ex.drop<|?_
   exact Ex.ret0 rfl ⟨rfl,l.take i1 ++ [l.getD i1 Rg.dflt],Hy2,rfl,.inr ⟨trivial,hJ2⟩⟩
 ·refine Tr.cond_f Z h1<|Zx<|Zy<|Zy<|Zi<|?_
  exact Ex.end0 rfl ⟨rfl,l.take i1,Hy1,rfl,.inl ⟨List.take_of_length_le W,hJ⟩⟩
theorem values_r_it {V : Vw} {l : List Rg} {p : Option Addr} {c b : Nat} (hv : Rd V [] 2 (.slice p l.length c) l.length (l.flatMap Rg.cells)) (hlm : l.length ≤ 1000000000) : Iterates Tryz.prog 242 [.pointer (some ⟨b,0,none⟩)] V [[(b,.cells #[.slice p l.length c] 23 (0,0))]] Rg.yv (fun xs => xs = l) (fun _ => True) l.length := fun lp J Jx hy Hy h0 => values1_r hv hlm (Nat.le_refl _) hy h0
theorem values_r_top {V : Vw} {l : List Rg} {p : Option Addr} {c : Nat}  : Does Tryz.prog 191 [.slice p l.length c] V [] (fun v V' H' => V' = V ∧ ∃ b,v = .func (.func 242) #[] [.pointer (some ⟨b,0,none⟩)].toArray ∧ H' = [[(b,.cells #[.slice p l.length c] 23 (0,0))]]) := by
 refine Does.intro Tryz.func191 rfl rfl (le rfl) (fun B => ?_)
 refine Zs<|Zr<|?_
 refine Run.box rfl (lt rfl) (fun b1 => ?_)
 refine Za Z<|Ze<|Zg<|Zs<|Zr<|Zv (Y.makeFunc (l := []) (l' := [.tmp 1]) Z Z)<|Za Z<|Ze<|Zg<|Zu<|Ex.keep [0]<|?_
 exact Ex.ret1 rfl rfl  ⟨rfl,b1,rfl,rfl⟩
theorem appseq_r {V : Vw} {Hs : Hp} {gf : FuncId} {caps : List Value} {S Sp : List Rg → Prop} {N : Nat} (hit : Iterates Tryz.prog gf caps V Hs Rg.yv S Sp N) (hNb : N ≤ 1000000000)  : Does Tryz.prog 264 [.slice none 0 0,.func (.func gf) #[] caps.toArray] V Hs (fun v V' H' => V' = V ∧ ∃ xs q,S xs ∧ Ow 101 2 v xs.length (xs.flatMap Rg.cells) q ∧ H' = q :: Hs) := by
 refine Does.introM Tryz.func264 rfl rfl (le rfl) (fun B => ?_)
 refine Zs<|Zr<|?_
 refine Run.box rfl (lt rfl) (fun b1 => ?_)
 refine Za Z<|Ze<|Zg<|Zs<|Zs<|Zr<|Run.nilseg<|Zm Z<|Ze<|Zg<|Zb<|?_
 refine Tr.range1 [] Hs [[],[(b1,.cells #[.slice none 0 0] 23 (0,0))]] (List.perm_append_comm (l₁ := ([[],[(b1,.cells #[.slice none 0 0] 23 (0,0))]] : Hp))) rfl (hit) (fun xs (H : Hp) => ∃ p1 n1 k1 q1,H = [q1,[(b1,.cells #[.slice p1 n1 k1] 23 (0,0))]] ∧ Ow 101 2 (.slice p1 n1 k1) n1 (xs.flatMap Rg.cells) q1 ∧ n1 = xs.length) (fun c xs (H : Hp) => False) ⟨none,0,0,[],rfl,Ow.nil _ _,rfl⟩ (fun lp3 rr4 xs5 x6 H hLI hf hJ hN => ?_) (fun D2 xs5 H hS hJ => ?_) (fun D2 c xs5 H hS hJ => ?_)
 ·obtain ⟨p1,n1,k1,q1,rfl,how,hn⟩ := hJ
  refine YDoes.intro hLI rfl (env_par1 (lt rfl)) (fun Blp3 => ?_)
  refine TrR.region Z ?_
  refine Run.alloc Addr_zo101 (lt rfl) (fun b7 => ?_)
  refine Run.store (s := [(b7,.cells #[.int .u32 x6.low,.int .u32 x6.high] 101 (0,0))]) Z Z Addr_sz101 (i := 0) Z Z (le Z) Z Z<|Ze<|Ex.keep [1,0,0,0]<|Ex.begin hf.1<|TrR.block<|TrR.region Z<|Zv (Y.load Z Addr_ts23 (Kn.at 3 Z) Z)<|Zv (Y.loadAgg Z Addr_ag101 (Kn.at 1 Z) Z)<|?_
  refine Run.buildSlice (l := [(0,.tmp 9)]) Addr_es23 Addr_zo101 rfl WD rfl rfl WD (lt rfl) (fun b8 => ?_)
  refine Run.append (n := n1) (m := 1) (xs := (xs5).flatMap Rg.cells) (ys := [.int .u32 x6.low,.int .u32 x6.high]) rfl rfl Addr_es23 Addr_zi101 WD (j := 3) rfl how (Src.of_rd Addr_es23 (Rd.one (Kn.at 0 rfl) rfl)) W W rfl (lt rfl) (fun v9 s10 ho11 hf => ?_)
  obtain ⟨p9,c9,rfl⟩ := hf
  replace ho11 := Ow.app1 (f := Rg.cells) (l := xs5) (x := (⟨x6.low,x6.high⟩ : Rg)) ho11
  refine Run.store (s := [(b1,.cells #[.slice p9 (n1 + 1) c9] 23 (0,0))]) Z Z Addr_sz23 (i := 4) Z Z (le Z) Z Z<|Ze<|Zc<|Ex.keepTo (H' := [rec_ lp3 { rr4 with state := .busy },s10,[(b1,.cells #[.slice p9 (n1 + 1) c9] 23 (0,0))]]) [1,2,2] Z<|?_
  exact Ex.next ⟨rfl,.inl ⟨rfl,_,_,hLI.with _ _,⟨rfl,rfl⟩,rfl,⟨_,_,_,_,rfl,ho11,by rw [List.length_append,List.length_singleton]; omega⟩⟩⟩
 ·obtain ⟨p1,n1,k1,q1,rfl,how,hn⟩ := hJ
  subst hn
  refine Ex.perm (H' := defd D2 :: [(b1,.cells #[.slice p1 xs5.length k1] 23 (0,0))] :: q1 :: Hs) (List.Perm.cons _ ((List.Perm.swap _ _ _).trans (List.perm_append_comm (l₁ := [q1,[(b1,.cells #[.slice p1 xs5.length k1] 23 (0,0))]]))))<|Zc<|Zg<|Zs<|Zr<|Zv (Y.load Z Addr_ts23 (Kn.at 1 Z) Z)<|Za Z<|Ze<|Zg<|Zu<|Ex.unmark (.inl Z)<|Ex.bodyM (.inl Z)<|Ex.drop<|?_
  exact Ex.ret1 rfl rfl  ⟨rfl,xs5,q1,hS,how,rfl⟩
 ·exact hJ.elim
theorem collect_r {V : Vw} {Hs : Hp} {gf : FuncId} {caps : List Value} {S Sp : List Rg → Prop} {N : Nat} (hit : Iterates Tryz.prog gf caps V Hs Rg.yv S Sp N) (hNb : N ≤ 1000000000)  : Does Tryz.prog 240 [.func (.func gf) #[] caps.toArray] V Hs (fun v V' H' => V' = V ∧ ∃ xs q,S xs ∧ Ow 101 2 v xs.length (xs.flatMap Rg.cells) q ∧ H' = q :: Hs) := by
 refine Does.intro Tryz.func240 rfl rfl (le rfl) (fun B => ?_)
 refine Zs<|Zr<|Za Z<|Ze<|Zg<|Zs<|Zr<|Zm Z<|?_
 refine Run.callW (l := [.const (.slice none 0 0),.tmp 3]) rfl rfl rfl (lt rfl) (appseq_r hit hNb) (fun v3 V2 H2 hle hR => ?_)
 obtain ⟨hV,xs,q,hS,ho,rfl⟩ := hR; replace hV := hV.symm; subst hV
 refine Za Z<|Ze<|Zg<|Zu<|?_
 exact Ex.ret1 rfl rfl  ⟨rfl,xs,q,hS,ho,rfl⟩
theorem sortedf_r {V : Vw} {Hs : Hp} {gf : FuncId} {caps : List Value} {S Sp : List Rg → Prop} {N : Nat} (hit : Iterates Tryz.prog gf caps V Hs Rg.yv S Sp N) (hNb : N ≤ 1000000000) (hlen : ∀ xs,S xs → xs.length ≤ 1000000000) {gf2 : FuncId} {caps2 : List Value} {cm : Rg → Rg → Int} (hcmp : ∀ x y : Rg,Does Tryz.prog gf2 (.agg (Rg.cells x).toArray :: .agg (Rg.cells y).toArray :: caps2) V [] (Pv (.int .i64 (cm x y)) V [])) (hswo : SWO (ltc cm))  : Does Tryz.prog 190 [.func (.func gf) #[] caps.toArray,.func (.func gf2) #[] caps2.toArray] V Hs (fun v V' H' => V' = V ∧ ∃ xs ys q,S xs ∧ ys.Perm xs ∧ Srt (ltc cm) ys ∧ Ow 101 2 v ys.length (ys.flatMap Rg.cells) q ∧ H' = q :: Hs) := by
 refine Does.intro Tryz.func190 rfl rfl (le rfl) (fun B => ?_)
 refine Zs<|Zr<|Za Z<|Ze<|Zg<|Zs<|Zr<|Zm Z<|?_
 refine Run.callW (l := [.tmp 6]) rfl rfl rfl (lt rfl) (collect_r hit hNb) (fun v3 V2 H2 hle hR => ?_)
 obtain ⟨hV,xs,q,hS,ho,rfl⟩ := hR; replace hV := hV.symm; subst hV
 have hxl := hlen xs hS
 refine Za Z<|Ze<|Zg<|Zs<|Zr<|Zm Z<|Zm Z<|?_
 refine Run.call [0] (l := [.tmp 8,.tmp 9]) rfl rfl rfl (lt rfl) (sort_r hcmp hswo ho W) (fun v4 V3 H3 hle3 hR3 => ?_)
 obtain ⟨hV,rfl,l2,q2,hp2,hs2,ho2,rfl⟩ := hR3; replace hV := hV.symm; subst hV
 refine Run.perm (H' := q2 :: Hs) (List.perm_append_comm (l₁ := [q2]))<|Ze<|Zg<|Zs<|Zr<|Zm Z<|Za Z<|Ze<|Zg<|Zu<|?_
 exact Ex.ret1 rfl rfl  ⟨rfl,xs,l2,q2,hS,hp2,hs2,ho2,rfl⟩
theorem pool_c {V : Vw} {l : List Rg} {p : Option Addr} {c : Nat} (hv : Rd V [] 2 (.slice p l.length c) l.length (l.flatMap Rg.cells)) (hlm : l.length ≤ 1000) (hok : Rg.Oks l)  : Does Tryz.prog 109 [.slice p l.length c] V [] (fun v V' H' => V.le V' ∧ H' = [] ∧ ∃ w,v = .tuple #[w,.int .i64 (Rg.pool l).2] ∧ Rd V' [] 2 w (Rg.pool l).1.length ((Rg.pool l).1.flatMap Rg.cells)) := by
 refine Does.intro Tryz.func109 rfl rfl (le rfl) (fun B => ?_)
 refine Zs<|Zr<|Za Z<|Za Z<|Ze<|Zg<|Zs<|Zr<|Za Z<|Ze<|Zg<|Zs<|Zs<|Zr<|Zm Z<|Zm Z<|?_
 refine Run.callW (l := [.tmp 9,.tmp 10]) rfl rfl rfl (lt rfl) (contains_r (caps := []) (pb := Rg.odd) hv.of_nil W (fun q => odd_c.frame)) (fun v3 V2 H2 hle hR => ?_)
 obtain ⟨rfl,hV,rfl⟩ := hR; replace hV := hV.symm; subst hV
 refine Run.heapTo (H' := []) Z<|Ze<|Zg<|?_
 rcases Zsplit (l.any Rg.odd) with ⟨h1,g1⟩ | ⟨h1,g1⟩ <;> try simp only [kb] at g1
 ·refine Tr.cond_t Z h1<|Zs<|Zr<|Za Z<|Za Z<|Ze<|Zg<|Zu<|Zn<|Ex.keep []<|?_
  exact Ex.ret2 rfl rfl rfl  ⟨Vw.le_refl _,rfl,_,by rw [Rg.pool_odd h1],by rw [Rg.pool_odd h1]; exact Rd.nil _ _ _⟩
 ·refine Tr.cond_f Z h1<|Zt<|Zg<|Zs<|Zr<|Zm Z<|?_
  refine Run.call [] (l := [.tmp 12]) rfl rfl rfl (lt rfl) (values_r_top (l := l) (p := p) (c := c)) (fun v4 V2 H2 hle hR => ?_)
  obtain ⟨hV,bk,rfl,rfl⟩ := hR; replace hV := hV.symm; subst hV
  refine Run.heapTo (H' := [[(bk,.cells #[.slice p l.length c] 23 (0,0))]]) Z ?_
  refine Run.call [0] (l := [.tmp 13,.func 192]) rfl rfl rfl (lt rfl) (sortedf_r (caps := [.pointer (some ⟨bk,0,none⟩)]) (caps2 := []) (cm := Rg.cmp) (values_r_it hv W) W (fun xs hx => by rw [hx]; omega) (fun x y => by_c (q := x) (r := y)) Rg.swo_cmp) (fun v5 V3 H3 hle3 hR3 => ?_)
  obtain ⟨hV,xs,m,qm,hxl,hpm,hsm,hom,rfl⟩ := hR3; replace hV := hV.symm; subst hV
  rw [hxl] at hpm; clear hxl
  have hml := hpm.length_eq
  have hokm := hok.perm hpm
  obtain ⟨pm,km,rfl⟩ := hom.form
  refine Run.heapTo (H' := [qm,[(bk,.cells #[.slice p l.length c] 23 (0,0))]]) Z<|Za Z<|Ze<|Zg<|Zs<|Zr<|Run.nilseg<|Za Z<|Ze<|Zg<|Zs<|Zs<|Zr<|Run.keepTo (H' := [[],qm]) [0,0] Z<|Zm Z<|Zv (Y.lenSl Z Addr_es23)<|?_
  refine Zm Z<|Ze<|Zg<|Zb<|?_
  refine ZL (X := Nat × Option Addr × Nat × Nat × Sg) (fun z0 => V) (fun z0 => [z0.2.2.2.2,qm]) (fun z0 => [(5,.slice z0.2.1 z0.2.2.1 z0.2.2.2.1),(15,.slice pm m.length km),(16,.int .i64 ((m.length : Nat) : Int)),(17,.int .i64 (z0.1 : Int))]) (fun z0 => Ow 101 2 (.slice z0.2.1 z0.2.2.1 z0.2.2.2.1) z0.2.2.1 ((Rg.join (m.take z0.1)).flatMap Rg.cells) z0.2.2.2.2 ∧ z0.2.2.1 = (Rg.join (m.take z0.1)).length ∧ z0.1 ≤ m.length) (fun z0 => m.length - z0.1) (⟨0,none,0,0,[]⟩ : Nat × Option Addr × Nat × Nat × Sg) ⟨Ow.nil _ _,rfl,Nat.zero_le _⟩ ?_
  rintro ⟨i1,p1,n1,k1,q1⟩ ⟨how,hn,hi⟩
  try dsimp only at how hn hi ⊢
  have hjl := Rg.join_len (m.take i1)
  rw [List.length_take] at hjl
  have hbm := hokm.bd i1
  have hbj := (Rg.join_ok (hokm.take i1)).bd (n1 - 1)
  refine Zs<|Zr<|Zv (Y.int Z Z Z)<|Ze<|Zg<|Zs<|?_
  rcases Zsplit (decide ((i1 : Int) < ((m.length : Nat) : Int))) with ⟨h2,g2⟩ | ⟨h2,g2⟩ <;> try simp only [kb] at g2
  ·refine Tr.cond_t Z h2<|Zt<|Zg<|Zs<|Zb<|Zs<|Zr<|Zv (Y.idxR i1 Z Z Addr_es23 (hom.rd 1 rfl) W W)<|Zv (Y.ldRA (vs := [.int .u32 ((m.getD i1 Rg.dflt).low),.int .u32 ((m.getD i1 Rg.dflt).high)]) rfl Addr_ag101 (hom.rd 1 rfl) rfl WD (fun o ho => flatm_atA Rg.len W Rg.dflt o ho))<|?_
   refine Run.alloc Addr_zo101 (lt rfl) (fun b3 => ?_)
   refine Run.store (s := [(b3,.cells #[.int .u32 ((m.getD i1 Rg.dflt).low),.int .u32 ((m.getD i1 Rg.dflt).high)] 101 (0,0))]) Z Z Addr_sz101 (i := 0) Z Z (le Z) Z Z<|Ze<|Zg<|Zs<|Zs<|Zr<|Zm Z<|Zv (Y.lenSl Z Addr_es23)<|Za Z<|Ze<|Zg<|Zs<|Tr.quiet Addr_mo WK<|ZM Z<|ZV (Y.int Z Z Z)<|ZM Z<|?_
   rcases Zsplit (decide (((n1 : Nat) : Int) > 0)) with ⟨h4,g4⟩ | ⟨h4,g4⟩ <;> try simp only [kb] at g4
   ·refine ZP h4<|ZV (Y.fieldAddr Z Addr_fo101_0)<|ZP h4<|ZV (Y.load Z Addr_ts47 (Kn.at 0 Z) Z)<|ZP h4<|ZV (Y.conv ((m.getD i1 Rg.dflt).low) rfl Addr_it47_3 (wrap_i64 W))<|ZP h4<|ZM Z<|ZP h4<|ZM Z<|ZP h4<|ZV (Y.sub Z Z W)<|ZP h4<|ZV (Y.idxR (n1 - 1) rfl rfl Addr_es23 (how.rd 1 rfl) W W)<|ZP h4<|ZV (Y.fieldR Z Addr_fo101_1 (how.rd 1 rfl) W)<|?_
    refine ZP h4<|ZV (Y.ldR Z Addr_ts47 (how.rd 1 rfl) (flatm_at Rg.len W Rg.dflt WD rfl))<|ZP h4<|ZV (Y.conv (((Rg.join (m.take i1)).getD (n1 - 1) Rg.dflt).high) rfl Addr_it47_3 (wrap_i64 W))<|ZP h4<|ZV (Y.add Z Z W)<|ZP h4<|ZV (Y.int Z Z Z)<|ZV (Y.pick_t Z h4 Z)<|ZE<|Zg<|?_
    rcases Zsplit (decide (((m.getD i1 Rg.dflt).low) ≤ ((((Rg.join (m.take i1)).getD (n1 - 1) Rg.dflt).high) + 1))) with ⟨h5,g5⟩ | ⟨h5,g5⟩ <;> try simp only [kb] at g5
    ·refine Tr.cond_t Z h5<|Zs<|Tr.tail 13 Addr_mo WK<|ZM Z<|ZM Z<|ZV (Y.sub Z Z W)<|ZM Z<|ZM Z<|ZV (Y.sub Z Z W)<|ZV (Y.idxR (n1 - 1) rfl rfl Addr_es23 (how.rd 1 rfl) W W)<|ZV (Y.fieldR Z Addr_fo101_1 (how.rd 1 rfl) W)<|ZV (Y.ldR Z Addr_ts47 (how.rd 1 rfl) (flatm_at Rg.len W Rg.dflt WD rfl))<|ZV (Y.fieldAddr Z Addr_fo101_1)<|ZV (Y.load Z Addr_ts47 (Kn.at 0 Z) Z)<|?_
     refine ZV (Y.max2 Z Z)<|ZV (Y.idxR (n1 - 1) rfl rfl Addr_es23 (how.rd 1 rfl) W W)<|RunQ.nil_run<|Zv (Y.fieldR Z Addr_fo101_1 (how.rd 1 rfl) W)<|?_
     refine Run.stO rfl rfl Addr_sz47 how (i := 1) rfl W rfl rfl (fun s6 ho7 => ?_)
     replace ho7 := Ow.upd (l := Rg.join (m.take i1)) (i := (n1 - 1)) (o := 1) (d := Rg.dflt) (x := (⟨((Rg.join (m.take i1)).getD (n1 - 1) Rg.dflt).low,max (((Rg.join (m.take i1)).getD (n1 - 1) Rg.dflt).high) ((m.getD i1 Rg.dflt).high)⟩ : Rg)) Rg.len ho7 W WD rfl
     refine Run.heapTo (H' := [[(b3,.cells #[.int .u32 ((m.getD i1 Rg.dflt).low),.int .u32 ((m.getD i1 Rg.dflt).high)] 101 (0,0))],s6,qm]) Z<|Ze<|Zg<|Zx<|Zy<|Zi<|Zg<|Zr<|Zv (Y.add Z Z W)<|Zm Z<|Ze<|Ex.keep [1,1]<|?_
     have er : Rg.join (m.take (i1 + 1)) = _ := Rg.join_set (n := n1) W hn W W
     exact ZR (⟨i1 + 1,p1,n1,k1,s6⟩ : Nat × Option Addr × Nat × Nat × Sg) ⟨by rw [er]; exact ho7,by rw [er,List.length_set]; exact hn,by omega⟩ (by dsimp only; omega)
    ·refine Tr.cond_f Z h5<|Zt<|Zg<|Zr<|Zm Z<|Zv (Y.loadAgg Z Addr_ag101 (Kn.at 0 Z) Z)<|?_
     refine Run.buildSlice (l := [(0,.tmp 54)]) Addr_es23 Addr_zo101 rfl WD rfl rfl WD (lt rfl) (fun b8 => ?_)
     refine Run.append (n := n1) (m := 1) (xs := (Rg.join (m.take i1)).flatMap Rg.cells) (ys := [.int .u32 ((m.getD i1 Rg.dflt).low),.int .u32 ((m.getD i1 Rg.dflt).high)]) rfl rfl Addr_es23 Addr_zi101 WD (j := 2) rfl how (Src.of_rd Addr_es23 (Rd.one (Kn.at 0 rfl) rfl)) W W rfl (lt rfl) (fun v9 s10 ho11 hf => ?_)
     obtain ⟨p9,c9,rfl⟩ := hf
     replace ho11 := Ow.app1 (f := Rg.cells) (l := Rg.join (m.take i1)) (x := (⟨(m.getD i1 Rg.dflt).low,(m.getD i1 Rg.dflt).high⟩ : Rg)) ho11
     refine Za Z<|Ze<|Zc<|Zg<|Zr<|Zv (Y.add Z Z W)<|Zm Z<|Ze<|Ex.keep [2,2]<|?_
     have er : Rg.join (m.take (i1 + 1)) = _ := Rg.join_add (n := n1) W hn (by first | (left; omega) | (right; omega))
     exact ZR (⟨i1 + 1,p9,(n1 + 1),c9,s10⟩ : Nat × Option Addr × Nat × Nat × Sg) ⟨by rw [er]; exact ho11,by rw [er,List.length_append,List.length_singleton]; dsimp only; omega,by omega⟩ (by dsimp only; omega)
   ·refine ZO h4 Z<|ZO h4 Z<|ZO h4 Z<|ZO h4 Z<|ZO h4 Z<|ZO h4 Z<|ZO h4 Z<|ZO h4 Z<|ZO h4 Z<|ZO h4 Z<|ZO h4 Z<|ZO h4 Z<|ZV (Y.pick_f Z h4 Z)<|ZE<|Zg<|Tr.cond_f Z Z<|?_
    refine Zt<|Zg<|Zr<|Zm Z<|Zv (Y.loadAgg Z Addr_ag101 (Kn.at 0 Z) Z)<|?_
    refine Run.buildSlice (l := [(0,.tmp 54)]) Addr_es23 Addr_zo101 rfl WD rfl rfl WD (lt rfl) (fun b12 => ?_)
    refine Run.append (n := n1) (m := 1) (xs := (Rg.join (m.take i1)).flatMap Rg.cells) (ys := [.int .u32 ((m.getD i1 Rg.dflt).low),.int .u32 ((m.getD i1 Rg.dflt).high)]) rfl rfl Addr_es23 Addr_zi101 WD (j := 2) rfl how (Src.of_rd Addr_es23 (Rd.one (Kn.at 0 rfl) rfl)) W W rfl (lt rfl) (fun v13 s14 ho15 hf => ?_)
    obtain ⟨p13,c13,rfl⟩ := hf
    replace ho15 := Ow.app1 (f := Rg.cells) (l := Rg.join (m.take i1)) (x := (⟨(m.getD i1 Rg.dflt).low,(m.getD i1 Rg.dflt).high⟩ : Rg)) ho15
    refine Za Z<|Ze<|Zc<|Zg<|Zr<|Zv (Y.add Z Z W)<|Zm Z<|Ze<|Ex.keep [2,2]<|?_
    have er : Rg.join (m.take (i1 + 1)) = _ := Rg.join_add (n := n1) W hn (by first | (left; omega) | (right; omega))
    exact ZR (⟨i1 + 1,p13,(n1 + 1),c13,s14⟩ : Nat × Option Addr × Nat × Nat × Sg) ⟨by rw [er]; exact ho15,by rw [er,List.length_append,List.length_singleton]; dsimp only; omega,by omega⟩ (by dsimp only; omega)
  ·refine Tr.cond_f Z h2<|Zx<|Zy<|Zy<|Zi<|Zg<|Zs<|Zs<|Zr<|?_
   obtain rfl : i1 = m.length := by omega
   rw [List.take_length,Rg.join_any (Rg.odd_all (by assumption)) hpm (Rg.lows_of hsm)] at how hn
   subst hn
   have hcl := Rg.can_len l
   refine Zm Z<|Run.call0 (l := [.tmp 58]) rfl rfl rfl (lt rfl) (count_h (how.rd 0 rfl) W (Rg.can_ok hok))<|Zv (Y.int Z Z Z)<|Ze<|Zg<|?_
   rcases Zsplit (decide ((Rg.cnt (Rg.can l)) > 256)) with ⟨h16,g16⟩ | ⟨h16,g16⟩ <;> try simp only [kb] at g16
   ·refine Tr.cond_t Z h16<|Zs<|Zr<|Za Z<|Za Z<|Ze<|Zg<|Zu<|Zn<|Ex.keep []<|?_
    exact Ex.ret2 rfl rfl rfl  ⟨Vw.le_refl _,rfl,_,by rw [Rg.pool_full h1 W],by rw [Rg.pool_full h1 W]; exact Rd.nil _ _ _⟩
   ·refine Tr.cond_f Z h16<|Zt<|Zg<|Zs<|Zr<|Zm Z<|Za Z<|Za Z<|Ze<|Zg<|Zu<|Ex.keepTo (H' := [q1]) [0] Z<|?_
    refine Ex.show (fun V2 hle2 hsh2 => ?_)
    exact Ex.ret2 rfl rfl rfl  ⟨hle2,rfl,_,by rw [Rg.pool_ok h1 W],by rw [Rg.pool_ok h1 W]; exact how.show hsh2⟩
theorem pool_h {V : Vw} {l : List Rg} {v : Value} (hv : Rd V [] 2 v l.length (l.flatMap Rg.cells)) (hlm : l.length ≤ 1000) (hok : Rg.Oks l) : Does Tryz.prog 109 [v] V [] (fun v V' H' => V.le V' ∧ H' = [] ∧ ∃ w,v = .tuple #[w,.int .i64 (Rg.pool l).2] ∧ Rd V' [] 2 w (Rg.pool l).1.length ((Rg.pool l).1.flatMap Rg.cells)) := by
  obtain ⟨p,c,rfl,_⟩ := hv.form
  exact pool_c hv hlm hok
end Go.Proofs.YtinkencbkcciiaaGreat
