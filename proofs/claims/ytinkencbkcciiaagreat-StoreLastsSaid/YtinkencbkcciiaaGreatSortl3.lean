/- slices.SortFunc at leases, walked.
Conditions: as each theorem names them. -/
import Derived.Test.YtinkencbkcciiaaGreatProg
import Derived.Test.YtinkencbkcciiaaGreatSortl2
import Derived.Test.YtinkencbkcciiaaGreatSA
import Derived.Test.YtinkencbkcciiaaGreatZG
set_option linter.unusedSimpArgs false
set_option linter.unusedVariables false
set_option maxRecDepth 4000
namespace Go.Proofs.YtinkencbkcciiaaGreat
open Go Go.K
attribute [local irreducible] Code.wp wpList Calls wpQuiet
theorem Sortl3_es59 : elemS Tryz.prog 59 = some (49,8) := by kernel_rfl
theorem Sortl3_it3_191 : intT Tryz.prog 3 191 = some .u64 := by kernel_rfl
open Go.Sort
theorem insn_l {gf : FuncId} {caps : List Value}  {V : Vw} : Does Tryz.prog 270 [.slice none 0 0,.int .i64 0,.int .i64 0,.func (.func gf) #[] caps.toArray] V [] (Pv (.tuple #[]) V []) := by
 refine Does.intro Tryz.func270 rfl rfl (le rfl) (fun B => ?_)
 refine Zs<|Zr<|Zm Z<|Zv (Y.addN ((0 + 1 : Nat) : Int) rfl rfl W W)<|Za Z<|Ze<|Zg<|Zb<|?_
 refine ZL (X := Unit) (fun _ => V) (fun _ => []) (fun _ => [(0,.slice none 0 0),(1,.int .i64 0),(2,.int .i64 0),(3,.func (.func gf) #[] caps.toArray),(8,.int .i64 ((0 + 1 : Nat) : Int))]) (fun _ => True) (fun _ => 0) () trivial ?_
 rintro _ _
 refine Zs<|Zs<|Zr<|Zm Z<|Zm Z<|Zv (Y.int Z Z Z)<|Ze<|Zg<|Tr.cond_f rfl (show (decide (((0 + 1 : Nat) : Int) < 0)) = false from by decide +kernel)<|Zx<|Zy<|Zy<|Zi<|?_
 exact Ex.end0 rfl ⟨rfl,rfl,rfl⟩
theorem insn_l_h {gf : FuncId} {caps : List Value}  {V : Vw} {H : Hp} : Does Tryz.prog 270 [.slice none 0 0,.int .i64 0,.int .i64 0,.func (.func gf) #[] caps.toArray] V H (Pv (.tuple #[]) V H) := insn_l.frame
theorem pdqn_l {l : Nat} {gf : FuncId} {caps : List Value}  {V : Vw} : Does Tryz.prog 260 [.slice none 0 0,.int .i64 0,.int .i64 0,.int .i64 ((l : Nat) : Int),.func (.func gf) #[] caps.toArray] V [] (Pv (.tuple #[]) V []) := by
 refine Does.intro Tryz.func260 rfl rfl (le rfl) (fun B => ?_)
 refine Zs<|Zr<|Za Z<|Ze<|Zg<|Zs<|Zr<|Za Z<|Ze<|Zg<|Zb<|?_
 refine ZL (X := Unit) (fun _ => V) (fun _ => []) (fun _ => [(0,.slice none 0 0),(1,.int .i64 0),(2,.int .i64 0),(3,.int .i64 ((l : Nat) : Int)),(4,.func (.func gf) #[] caps.toArray),(10,.bool true),(11,.bool true)]) (fun _ => True) (fun _ => 0) () trivial ?_
 rintro _ _
 refine Zb<|Zs<|Zr<|Zm Z<|Zm Z<|Zv (Y.subN ((0 - 0 : Nat) : Int) rfl rfl W W)<|Za Z<|Ze<|Zg<|Zs<|Zs<|Zr<|Zm Z<|Zv (Y.int Z Z Z)<|Ze<|Zg<|?_
 refine Tr.cond_t rfl (show (decide (((0 - 0 : Nat) : Int) ≤ 12)) = true from by decide +kernel)<|Zs<|Zr<|Zm Z<|Zm Z<|Zm Z<|Zm Z<|Run.call0 (l := [.tmp 26,.tmp 27,.tmp 28,.tmp 29]) Z Z Z (lt Z) insn_l_h<|Ze<|Zg<|Zu<|Zn<|Zk<|Zn<|Zk<|?_
 exact Ex.ret0 rfl ⟨rfl,rfl,rfl⟩
theorem pdqn_l_h {l : Nat} {gf : FuncId} {caps : List Value}  {V : Vw} {H : Hp} : Does Tryz.prog 260 [.slice none 0 0,.int .i64 0,.int .i64 0,.int .i64 ((l : Nat) : Int),.func (.func gf) #[] caps.toArray] V H (Pv (.tuple #[]) V H) := pdqn_l.frame
theorem sortn_l {gf : FuncId} {caps : List Value}  {V : Vw} : Does Tryz.prog 227 [.slice none 0 0,.func (.func gf) #[] caps.toArray] V [] (Pv (.tuple #[]) V []) := by
 refine Does.intro Tryz.func227 rfl rfl (le rfl) (fun B => ?_)
 refine Zs<|Zr<|Zm Z<|Zv (Y.lenSl Z Sortl3_es59)<|Za Z<|Ze<|Zg<|Zr<|Zm Z<|Zm Z<|Zm Z<|Zv (Y.conv (0) rfl Sortl3_it3_191 (wrap_u64 W))<|?_
 refine Run.call [] (l := [.tmp 10]) rfl rfl rfl (lt rfl) (len_0 (m := 0) W) (fun v V2 H2 hle hR => ?_)
 obtain ⟨hV,⟨k1,rfl,hk1,hk2⟩,rfl⟩ := hR; replace hV := hV.symm; subst hV
 refine Run.heapTo (H' := []) Z<|Zm Z<|Run.call0 (l := [.tmp 7,.const (.int .i64 0),.tmp 8,.tmp 11,.tmp 12]) Z Z Z (lt Z) pdqn_l_h<|Ze<|?_
 exact Ex.end0 rfl ⟨rfl,rfl,rfl⟩
theorem sortn_l_h {gf : FuncId} {caps : List Value}  {V : Vw} {H : Hp} : Does Tryz.prog 227 [.slice none 0 0,.func (.func gf) #[] caps.toArray] V H (Pv (.tuple #[]) V H) := sortn_l.frame
theorem sorts_l {V : Vw} {n c b : Nat} {rest : List Value} {d0 : Array Le} {gf : FuncId} {caps : List Value} {cm : Le → Le → Int}  (hN : n ≤ 1073741824) (hd : d0.size = n) (hcmp : ∀ x y : Le,Does Tryz.prog gf (.agg (Le.cells x).toArray :: .agg (Le.cells y).toArray :: caps) V [] (Pv (.int .i64 (cm x y)) V [])) (hswo : SWO (ltc cm))  : Does Tryz.prog 227 [.slice (some ⟨b,0,none⟩) n c,.func (.func gf) #[] caps.toArray] V [sgD Le.cells 49 b rest d0] (fun v V' H' => V' = V ∧ v = .tuple #[] ∧ ∃ d1,PermIn 0 n d0 d1 ∧ SortedIn (ltc cm) 0 n d1 ∧ H' = [sgD Le.cells 49 b rest d1]) := by
 refine Does.intro Tryz.func227 rfl rfl (le rfl) (fun B => ?_)
 refine Zs<|Zr<|Zm Z<|Zv (Y.lenSl Z Sortl3_es59)<|Za Z<|Ze<|Zg<|Zr<|Zm Z<|Zm Z<|Zm Z<|Zv (Y.conv (((n : Nat) : Int)) rfl Sortl3_it3_191 (wrap_u64 W))<|?_
 refine Run.call [] (l := [.tmp 10]) rfl rfl rfl (lt rfl) (len_0 (m := n) W) (fun v V2 H2 hle hR => ?_)
 obtain ⟨hV,⟨k1,rfl,hk1,hk2⟩,rfl⟩ := hR; replace hV := hV.symm; subst hV
 refine Run.heapTo (H' := [sgD Le.cells 49 b rest d0]) Z<|Zm Z<|?_
 refine Run.call [0] (l := [.tmp 7,.const (.int .i64 0),.tmp 8,.tmp 11,.tmp 12]) rfl rfl rfl (lt rfl) (pdq_l (x := 0) (y := n) (l := k1) hN hd (Nat.zero_le _) (Nat.le_refl _) (.inl rfl) W hcmp hswo) (fun v V2 H2 hle hR => ?_)
 obtain ⟨hV,rfl,d1,hp1,hs1,rfl⟩ := hR; replace hV := hV.symm; subst hV
 refine Run.heapTo (H' := [sgD Le.cells 49 b rest d1]) Z<|Ze<|Ex.keep [0]<|?_
 exact Ex.end0 rfl ⟨rfl,rfl,d1,hp1,hs1,rfl⟩
theorem sort_l {V : Vw} {v : Value} {l : List Le} {s : Sg} {gf : FuncId} {caps : List Value} {cm : Le → Le → Int}  (hcmp : ∀ x y : Le,Does Tryz.prog gf (.agg (Le.cells x).toArray :: .agg (Le.cells y).toArray :: caps) V [] (Pv (.int .i64 (cm x y)) V [])) (hswo : SWO (ltc cm)) (ho : Ow 49 8 v l.length (l.flatMap Le.cells) s) (hn : l.length ≤ 1073741824) : Does Tryz.prog 227 [v,.func (.func gf) #[] caps.toArray] V [s] (fun u V' H' => V' = V ∧ u = .tuple #[] ∧ ∃ l' s',l'.Perm l ∧ Srt (ltc cm) l' ∧ Ow 49 8 v l'.length (l'.flatMap Le.cells) s' ∧ H' = [s']) := by
  rcases ho.toD Le.enc1 with ⟨rfl,rfl,rfl⟩ | ⟨b,cap,rest,rfl,rfl,h1,h2,h3⟩
  · refine (sortn_l_h (H := [[]])).mono ?_
    rintro v V' H' ⟨rfl,rfl,rfl⟩
    exact ⟨rfl,rfl,[],[],List.Perm.refl _,List.Pairwise.nil,Ow.nil _ _,rfl⟩
  · refine (sorts_l (n := l.length) (c := cap) (b := b) (rest := rest) (d0 := l.toArray) hn (by simp) hcmp hswo).mono ?_
    rintro v V' H' ⟨rfl,rfl,d1,hp,hs,rfl⟩
    have hz : d1.size = l.length := by have := hp.1; simpa using this
    have hp2 : PermIn 0 l.toArray.size l.toArray d1 := by simpa using hp
    have hs2 : SortedIn (ltc cm) 0 d1.size d1 := by rw [hz]; exact hs
    have hw := Ow.ofD (e := 49) (b := b) (rest := rest) (l := d1.toList) (cap := cap) Le.enc1 (by simp [hz]; exact h1) h2 (by simp [hz]; simpa using h3)
    refine ⟨rfl,rfl,d1.toList,_,by simpa using perm_of hp2,srt_of hs2,?_,rfl⟩
    have e1 : d1.toList.length = l.length := by simp [hz]
    rw [show d1.toList.toArray = d1 by simp,e1] at hw; rw [e1]; exact hw
end Go.Proofs.YtinkencbkcciiaaGreat
