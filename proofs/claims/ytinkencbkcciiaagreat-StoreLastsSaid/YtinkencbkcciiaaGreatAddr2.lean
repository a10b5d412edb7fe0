/- The addresses of a pool one by one, walked: At, Index.
Conditions: as each theorem names them. -/
import Derived.Test.YtinkencbkcciiaaGreatProg
import Derived.Test.YtinkencbkcciiaaGreatKD
import Derived.Test.YtinkencbkcciiaaGreatRB
import Derived.Test.YtinkencbkcciiaaGreatAddr
import Derived.Test.YtinkencbkcciiaaGreatZG
set_option linter.unusedSimpArgs false
set_option linter.unusedVariables false
set_option maxRecDepth 4000
namespace Go.Proofs.YtinkencbkcciiaaGreat
open Go Go.K
attribute [local irreducible] Code.wp wpList Calls wpQuiet
theorem Addr2_ts23 : scal Tryz.prog 23 = true := by kernel_rfl
theorem Addr2_es23 : elemS Tryz.prog 23 = some (101,2) := by kernel_rfl
theorem Addr2_ag101 : aggsz Tryz.prog 101 = some 2 := by kernel_rfl
theorem Addr2_zo101 : zeroOf Tryz.prog 101 = some (.agg #[.int .u32 0,.int .u32 0]) := by kernel_rfl
theorem Addr2_sz101 : sizeT Tryz.prog 101 = some 2 := by kernel_rfl
theorem Addr2_fo101_0 : fieldOff Tryz.prog 101 0 = some 0 := by kernel_rfl
theorem Addr2_ts47 : scal Tryz.prog 47 = true := by kernel_rfl
theorem Addr2_it3_47 : intT Tryz.prog 3 47 = some .u32 := by kernel_rfl
theorem Addr2_zo47 : zeroOf Tryz.prog 47 = some (.int .u32 0) := by kernel_rfl
theorem Addr2_zo26 : zeroOf Tryz.prog 26 = some (.int .i64 0) := by kernel_rfl
theorem Addr2_ts3 : scal Tryz.prog 3 = true := by kernel_rfl
theorem Addr2_sz47 : sizeT Tryz.prog 47 = some 1 := by kernel_rfl
theorem Addr2_sz26 : sizeT Tryz.prog 26 = some 1 := by kernel_rfl
theorem Addr2_ts26 : scal Tryz.prog 26 = true := by kernel_rfl
theorem all1_c {V : Vw} {l : List Rg} {p : Option Addr} {c b N : Nat} (hv : Rd V [] 2 (.slice p l.length c) l.length (l.flatMap Rg.cells)) (hlm : l.length ≤ 1000) (hok : Rg.Oks l) (hNl : (Rg.adr l).length ≤ N) {lp : Nat} {J Jx : List (Int × Int) → Hp → Prop} {Hy : Hp} (hy : ∀ xs x H,J xs H → xs.length < N → YDoes Tryz.prog lp (Rg.iv x) V H (fun u V' H' => V' = V ∧ (u = .bool true ∧ J (xs ++ [x]) H' ∨ u = .bool false ∧ Jx (xs ++ [x]) H'))) (h0 : J [] Hy)  : Does Tryz.prog 256 [yv lp,.pointer (some ⟨b,0,none⟩)] V ([[(b,.cells #[.slice p l.length c] 23 (0,0))]] ++ Hy) (fun _ V' H' => V' = V ∧ ∃ xs Hy',H' = [[(b,.cells #[.slice p l.length c] 23 (0,0))]] ++ Hy' ∧ (xs = Rg.ix (Rg.adr l) ∧ J xs Hy' ∨ (∃ k,k < (Rg.adr l).length ∧ xs = (Rg.ix (Rg.adr l)).take (k + 1)) ∧ Jx xs Hy')) := by
 refine Does.intro Tryz.func256 rfl rfl (le rfl) (fun B => ?_)
 refine Zs<|Zr<|Za Z<|Ze<|Zg<|Zs<|Zr<|Zv (Y.load Z Addr2_ts23 (Kn.at 0 Z) Z)<|Zv (Y.lenSl Z Addr2_es23)<|Zm Z<|Ze<|Zg<|Zb<|?_
 refine ZL (X := Nat × Hp) (fun z0 => V) (fun z0 => [(b,.cells #[.slice p l.length c] 23 (0,0))] :: z0.2) (fun z0 => [(0,yv lp),(3,.int .i64 (((Rg.adr (l.take z0.1)).length : Nat) : Int)),(7,.slice p l.length c),(8,.int .i64 ((l.length : Nat) : Int)),(9,.int .i64 (z0.1 : Int))]) (fun z0 => z0.1 ≤ l.length ∧ J ((Rg.ix (Rg.adr l)).take ((Rg.adr (l.take z0.1)).length)) z0.2) (fun z0 => l.length - z0.1) (⟨0,Hy⟩ : Nat × Hp) ⟨Nat.zero_le _,h0⟩ ?_
 rintro ⟨i1,Hy1⟩ ⟨hi,hJ⟩
 try dsimp only at hi hJ ⊢
 have hbd := hok.bd i1
 have hsd : Rg.size (l.getD i1 Rg.dflt) = (l.getD i1 Rg.dflt).high - (l.getD i1 Rg.dflt).low + 1 := rfl
 have hal := Rg.adr_len_le (hok.take i1)
 rw [List.length_take] at hal
 refine Zs<|Zr<|Zv (Y.int Z Z Z)<|Ze<|Zg<|Zs<|?_
 rcases Zsplit (decide ((i1 : Int) < ((l.length : Nat) : Int))) with ⟨h1,g1⟩ | ⟨h1,g1⟩ <;> try simp only [kb] at g1
 ·refine Tr.cond_t Z h1<|Zt<|Zg<|Zs<|Zb<|Zs<|Zr<|Zv (Y.idxR i1 Z Z Addr2_es23 hv.of_nil W W)<|Zv (Y.ldRA (vs := [.int .u32 ((l.getD i1 Rg.dflt).low),.int .u32 ((l.getD i1 Rg.dflt).high)]) rfl Addr2_ag101 hv.of_nil rfl WD (fun o ho => flatm_atA Rg.len W Rg.dflt o ho))<|?_
  refine Run.alloc Addr2_zo101 (lt rfl) (fun b2 => ?_)
  refine Run.store (s := [(b2,.cells #[.int .u32 ((l.getD i1 Rg.dflt).low),.int .u32 ((l.getD i1 Rg.dflt).high)] 101 (0,0))]) Z Z Addr2_sz101 (i := 0) Z Z (le Z) Z Z<|Ze<|Zg<|Zs<|Zr<|Zv (Y.loadAgg Z Addr2_ag101 (Kn.at 0 Z) Z)<|Run.call0 (l := [.tmp 13]) Z Z Z (lt Z) (size_h (hok.at i1))<|Zm Z<|Ze<|Zg<|Zb<|?_
  refine ZL (X := Nat × Hp) (fun z0 => V) (fun z0 => [(b2,.cells #[.int .u32 ((l.getD i1 Rg.dflt).low),.int .u32 ((l.getD i1 Rg.dflt).high)] 101 (0,0))] :: [(b,.cells #[.slice p l.length c] 23 (0,0))] :: z0.2) (fun z0 => [(0,yv lp),(3,.int .i64 (((Rg.adr (l.take i1)).length + z0.1 : Nat) : Int)),(7,.slice p l.length c),(8,.int .i64 ((l.length : Nat) : Int)),(9,.int .i64 (i1 : Int)),(5,.pointer (some ⟨b2,0,none⟩)),(14,.int .i64 (Rg.size (l.getD i1 Rg.dflt))),(15,.int .i64 (z0.1 : Int))]) (fun z0 => z0.1 ≤ (Rg.size (l.getD i1 Rg.dflt)).toNat ∧ J ((Rg.ix (Rg.adr l)).take ((Rg.adr (l.take i1)).length + z0.1)) z0.2) (fun z0 => (Rg.size (l.getD i1 Rg.dflt)).toNat - z0.1) (⟨0,Hy1⟩ : Nat × Hp) ⟨Nat.zero_le _,hJ⟩ ?_
  rintro ⟨j1,Hy3⟩ ⟨hj,hJ3⟩
  try dsimp only at hj hJ3 ⊢
  refine Zs<|Zr<|Zv (Y.int Z Z Z)<|Ze<|Zg<|Zs<|?_
  rcases Zsplit (decide ((j1 : Int) < (Rg.size (l.getD i1 Rg.dflt)))) with ⟨h3,g3⟩ | ⟨h3,g3⟩ <;> try simp only [kb] at g3
  ·refine Tr.cond_t Z h3<|Zt<|Zg<|Zs<|Zb<|Zs<|Zr<|Zm Z<|Za Z<|Ze<|Zg<|Zs<|Zs<|Tr.regionI<|RunI.op Z<|Zm Z<|?_
   refine Ze<|Ex.goI<|RunI.op Z<|Zm Z<|Ze<|Ex.goI<|RunI.op Z<|Zv (Y.fieldAddr Z Addr2_fo101_0)<|Ze<|Ex.goI<|RunI.op Z<|Zv (Y.load Z Addr2_ts47 (Kn.at 0 Z) Z)<|Ze<|Ex.goI<|RunI.op Z<|Zm Z<|?_
   refine Ze<|Ex.goI<|RunI.op Z<|Zv (Y.conv ((j1 : Int)) rfl Addr2_it3_47 (wrap_u32 W))<|Ze<|Ex.goI<|RunI.op Z<|Zv (Y.int (r := .int .u32 ((l.getD i1 Rg.dflt).low + (j1 : Int))) rfl rfl (by simp only [intRes]; rw [wrap_u32 W]))<|Ze<|Ex.goI<|?_
   have ea := Rg.adr_at (l := l) (i := i1) (j := j1) W W
   refine RunI.callY [[(b2,.cells #[.int .u32 ((l.getD i1 Rg.dflt).low),.int .u32 ((l.getD i1 Rg.dflt).high)] 101 (0,0))],[(b,.cells #[.slice p l.length c] 23 (0,0))]] Hy3 rfl rfl rfl (lt rfl) (hy ((Rg.ix (Rg.adr l)).take ((Rg.adr (l.take i1)).length + j1)) ((((Rg.adr (l.take i1)).length + j1 : Nat) : Int),(l.getD i1 Rg.dflt).low + (j1 : Int)) _ hJ3 (by rw [List.length_take,Rg.ix_len]; omega)) (fun u V2 Hy4 hle hR => ?_)
   rw [← ea.2,← Rg.ix_take ea.1] at hR
   obtain ⟨hV,⟨rfl,hJ4⟩ | ⟨rfl,hJ4⟩⟩ := hR <;> (replace hV := hV.symm; subst hV)
   ·refine RunI.op Z<|Zv (Y.not Z)<|Ze<|Ex.goI<|RunI.nil<|Zg<|Tr.cond_f Z Z<|Zt<|Zg<|Zr<|Zm Z<|Zv (Y.add Z Z W)<|Za Z<|Ze<|Zc<|Zg<|?_
    refine Zr<|Zv (Y.add Z Z W)<|Zm Z<|Ze<|?_
    exact ZR (⟨j1 + 1,Hy4⟩ : Nat × Hp) ⟨by omega,hJ4⟩ (by dsimp only; omega) (by repeat (first | exact subB_nil _ | refine subB_cons (by first | rfl | exact congrArg (fun z => some (Value.int _ z)) W | exact congrArg (fun z => some (Value.int _ z)) W) ?_))
   ·refine RunI.op Z<|Zv (Y.not Z)<|Ze<|Ex.goI<|RunI.nil<|Zg<|Tr.cond_t Z Z<|Zu<|Zn<|Zk<|Zn<|Zn<|Zk<|Zk<|Zn<|Zn<|?_
    refine Zk<|Ex.drop<|?_
    exact Ex.ret0 rfl ⟨rfl,_,Hy4,rfl,.inr ⟨⟨_,ea.1,rfl⟩,hJ4⟩⟩
  ·refine Tr.cond_f Z h3<|Zx<|Zy<|Zy<|Zi<|Zc<|Zg<|Zr<|Zv (Y.add Z Z W)<|Zm Z<|Ze<|Ex.drop<|?_
   have el := Rg.adr_len_take (l := l) (i := i1) W
   have ej : (Rg.adr (l.take i1)).length + j1 = (Rg.adr (l.take (i1 + 1))).length := by omega
   exact ZR (⟨i1 + 1,Hy3⟩ : Nat × Hp) ⟨by omega,by rw [← ej]; exact hJ3⟩ (by dsimp only; omega) (by repeat (first | exact subB_nil _ | refine subB_cons (by first | rfl | exact congrArg (fun z => some (Value.int _ z)) W | exact congrArg (fun z => some (Value.int _ z)) (by dsimp only; omega)) ?_))
 ·refine Tr.cond_f Z h1<|Zx<|Zy<|Zy<|Zi<|?_
  obtain rfl : i1 = l.length := by omega
  rw [List.take_length,Rg.ix_full] at hJ
  exact Ex.end0 rfl ⟨rfl,_,Hy1,rfl,.inl ⟨rfl,hJ⟩⟩
theorem all_it {V : Vw} {l : List Rg} {p : Option Addr} {c b : Nat} (hv : Rd V [] 2 (.slice p l.length c) l.length (l.flatMap Rg.cells)) (hlm : l.length ≤ 1000) (hok : Rg.Oks l) : Iterates Tryz.prog 256 [.pointer (some ⟨b,0,none⟩)] V [[(b,.cells #[.slice p l.length c] 23 (0,0))]] Rg.iv (fun xs => xs = Rg.ix (Rg.adr l)) (fun xs => ∃ k,k < (Rg.adr l).length ∧ xs = (Rg.ix (Rg.adr l)).take (k + 1)) (Rg.adr l).length := fun lp J Jx hy Hy h0 => all1_c hv hlm hok (Nat.le_refl _) hy h0
theorem all_top {V : Vw} {l : List Rg} {p : Option Addr} {c : Nat}  : Does Tryz.prog 211 [.slice p l.length c] V [] (fun v V' H' => V' = V ∧ ∃ b,v = .func (.func 256) #[] [.pointer (some ⟨b,0,none⟩)].toArray ∧ H' = [[(b,.cells #[.slice p l.length c] 23 (0,0))]]) := by
 refine Does.intro Tryz.func211 rfl rfl (le rfl) (fun B => ?_)
 refine Zs<|Zr<|?_
 refine Run.box rfl (lt rfl) (fun b1 => ?_)
 refine Za Z<|Ze<|Zg<|Zs<|Zr<|Zv (Y.makeFunc (l := []) (l' := [.tmp 1]) Z Z)<|Za Z<|Ze<|Zg<|Zu<|Ex.keep [0]<|?_
 exact Ex.ret1 rfl rfl  ⟨rfl,b1,rfl,rfl⟩
theorem at_a {V : Vw} {l : List Rg} {p : Option Addr} {c : Nat} (hv : Rd V [] 2 (.slice p l.length c) l.length (l.flatMap Rg.cells)) (hlm : l.length ≤ 1000) (hok : Rg.Oks l) {n : Int}  : Does Tryz.prog 129 [.slice p l.length c,.int .i64 n] V [] (Pv (.tuple #[.int .u32 ((Rg.at_ (Rg.adr l) n).1),.int .i64 ((Rg.at_ (Rg.adr l) n).2)]) V []) := by
 refine Does.introM Tryz.func129 rfl rfl (le rfl) (fun B => ?_)
 refine Zs<|Zr<|?_
 refine Run.box rfl (lt rfl) (fun b1 => ?_)
 refine Run.alloc Addr2_zo47 (lt rfl) (fun b2 => ?_)
 refine Run.alloc Addr2_zo26 (lt rfl) (fun b3 => ?_)
 refine Ze<|Zg<|Zs<|Zs<|Zr<|Zm Z<|?_
 refine Run.call [] (l := [.tmp 8]) rfl rfl rfl (lt rfl) (all_top (l := l) (p := p) (c := c)) (fun v4 V2 H2 hle hR => ?_)
 obtain ⟨hV,bk,rfl,rfl⟩ := hR; replace hV := hV.symm; subst hV
 refine Run.heapTo (H' := [[(b3,.cells #[.int .i64 0] 26 (0,0))],[(b2,.cells #[.int .u32 0] 47 (0,0))],[(b1,.cells #[.int .i64 n] 3 (0,0))],[(bk,.cells #[.slice p l.length c] 23 (0,0))]]) Z<|Ze<|Zg<|Zb<|?_
 refine Tr.range1 [] [[(bk,.cells #[.slice p l.length c] 23 (0,0))]] [[(b3,.cells #[.int .i64 0] 26 (0,0))],[(b2,.cells #[.int .u32 0] 47 (0,0))],[(b1,.cells #[.int .i64 n] 3 (0,0))]] ((pull_perm [3,0,0,0] [[(b3,.cells #[.int .i64 0] 26 (0,0))],[(b2,.cells #[.int .u32 0] 47 (0,0))],[(b1,.cells #[.int .i64 n] 3 (0,0))],[(bk,.cells #[.slice p l.length c] 23 (0,0))]]).symm) rfl (all_it hv hlm hok) (fun xs (H : Hp) => H = [[(b3,.cells #[.int .i64 0] 26 (0,0))],[(b2,.cells #[.int .u32 0] 47 (0,0))],[(b1,.cells #[.int .i64 n] 3 (0,0))]] ∧ ∀ q ∈ xs,q.1 ≠ n) (fun c xs (H : Hp) => c = .ret ∧ ∃ ys q,xs = ys ++ [q] ∧ (q.1 = n) ∧ H = [[(b3,.cells #[.int .i64 0] 26 (0,0))],[(b2,.cells #[.int .u32 q.2] 47 (0,0))],[(b1,.cells #[.int .i64 n] 3 (0,0))]]) ⟨rfl,fun q h => by cases h⟩ (fun lp5 rr6 xs7 x8 H hLI hf hJ hN => ?_) (fun D4 xs7 H hS hJ => ?_) (fun D4 c xs7 H hS hJ => ?_)
 ·obtain ⟨rfl,hn⟩ := hJ
  refine YDoes.intro hLI rfl (env_par2 (lt rfl) (lt rfl)) (fun Blp5 => ?_)
  refine TrR.seq<|TrR.region Z<|Za Z<|Ze<|Ex.goR<|TrR.region Z<|Za Z<|Ze<|Ex.begin hf.1<|TrR.block<|TrR.seq<|TrR.region Z<|Zm Z<|Zv (Y.load Z Addr2_ts3 (Kn.at 3 Z) Z)<|Zv (Y.int Z Z Z)<|Ze<|?_
  refine Ex.goR ?_
  rcases Zsplit (x8.1 == n) with ⟨h9,g9⟩ | ⟨h9,g9⟩ <;> try simp only [kb] at g9
  ·refine TrR.cond_t Z h9<|TrR.seq<|TrR.region Z<|Zm Z<|Run.store (s := [(b2,.cells #[.int .u32 x8.2] 47 (0,0))]) Z Z Addr2_sz47 (i := 2) Z Z (le Z) Z Z<|Run.store (s := [(b3,.cells #[.int .i64 0] 26 (0,0))]) Z Z Addr2_sz26 (i := 1) Z Z (le Z) Z Z<|Ze<|Ex.goR<|TrR.to_ret<|Zk<|?_
   exact Ex.stopRet ⟨rfl,.inr ⟨rfl,_,_,_,rfl,rfl,rfl,⟨rfl,xs7,x8,rfl,by omega,rfl⟩⟩⟩
  ·refine TrR.cond_f Z h9<|TrR.to_end<|Zc<|?_
   exact Ex.next ⟨rfl,.inl ⟨rfl,_,_,hLI.with _ _,⟨rfl,rfl⟩,rfl,⟨rfl,Rg.snoc_all hn W⟩⟩⟩
 ·obtain ⟨rfl,hn⟩ := hJ
  refine Zc<|Zg<|Zs<|Zr<|Run.store (s := [(b2,.cells #[.int .u32 0] 47 (0,0))]) Z Z Addr2_sz47 (i := 3) Z Z (le Z) Z Z<|Run.store (s := [(b3,.cells #[.int .i64 4] 26 (0,0))]) Z Z Addr2_sz26 (i := 2) Z Z (le Z) Z Z<|Ze<|Zg<|Zu<|Ex.unmark (.inl Z)<|Ex.bodyM (.inl Z)<|?_
  exact Ex.retS2 [] rfl rfl rfl Addr2_ts47 Addr2_ts26 (Kn.at 2 rfl) (Kn.at 1 rfl) rfl rfl ⟨by rw [Rg.at_none (by rw [← hS]; exact hn)]; rfl,rfl,rfl⟩
 ·obtain ⟨rfl,ys,qz,hxs,hqz,rfl⟩ := hJ
  refine Zk<|Zn<|Ex.unmark (.inl Z)<|Ex.bodyM (.inl Z)<|?_
  exact Ex.retS2 [] rfl rfl rfl Addr2_ts47 Addr2_ts26 (Kn.at 2 rfl) (Kn.at 1 rfl) rfl rfl ⟨by rw [Rg.at_some hS hxs hqz]; rfl,rfl,rfl⟩
theorem at_h {V : Vw} {l : List Rg} {v : Value} {n : Int} (hv : Rd V [] 2 v l.length (l.flatMap Rg.cells)) (hlm : l.length ≤ 1000) (hok : Rg.Oks l) {H : Hp} : Does Tryz.prog 129 [v,.int .i64 n] V H (Pv (.tuple #[.int .u32 ((Rg.at_ (Rg.adr l) n).1),.int .i64 ((Rg.at_ (Rg.adr l) n).2)]) V H) := by
  obtain ⟨p,c,rfl,_⟩ := hv.form
  exact (at_a hv hlm hok).frame
end Go.Proofs.YtinkencbkcciiaaGreat
