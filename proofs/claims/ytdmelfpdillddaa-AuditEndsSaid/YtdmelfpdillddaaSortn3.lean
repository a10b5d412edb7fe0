/- slices.Sort at whole numbers, walked.
Conditions: as each theorem names them. -/
import Derived.Test.YtdmelfpdillddaaProg
import Derived.Test.YtdmelfpdillddaaSortn2
import Derived.Test.YtdmelfpdillddaaSA
import Derived.Test.YtdmelfpdillddaaZG
set_option linter.unusedSimpArgs false
set_option linter.unusedVariables false
set_option maxRecDepth 4000
namespace Go.Proofs.Ytdmelfpdillddaa
open Go Go.K
attribute [local irreducible] Code.wp wpList Calls wpQuiet
theorem Sortn3_es49 : elemS Try.prog 49 = some (3, 1) := by kernel_rfl
theorem Sortn3_it3_63 : intT Try.prog 3 63 = some .u64 := by kernel_rfl

open Go.Sort

theorem insn_n  {V : Vw} : Does Try.prog 42 [.slice none 0 0, .int .i64 0, .int .i64 0] V [] (Pv (.tuple #[]) V []) := by
 refine Does.intro Try.func42 rfl rfl (le rfl) (fun B => ?_)
 refine Zs<|Zr<|Zm Z<|Zv (Y.addN ((0 + 1 : Nat) : Int) rfl rfl W W)<|Za Z<|Ze<|Zg<|Zb<|?_
 refine ZL (X := Unit) (fun _ => V) (fun _ => []) (fun _ => [(0, .slice none 0 0), (1, .int .i64 0), (2, .int .i64 0), (6, .int .i64 ((0 + 1 : Nat) : Int))]) (fun _ => True) (fun _ => 0) () trivial ?_
 rintro _ _
 refine Zs<|Zs<|Zr<|Zm Z<|Zm Z<|Zv (Y.int Z Z Z)<|Ze<|Zg<|Tr.cond_f rfl (show (decide (((0 + 1 : Nat) : Int) < 0)) = false from by decide +kernel)<|Zx<|Zy<|Zy<|Zi<|?_
 exact Ex.end0 rfl ⟨rfl, rfl, rfl⟩

theorem insn_n_h  {V : Vw} {H : Hp} : Does Try.prog 42 [.slice none 0 0, .int .i64 0, .int .i64 0] V H (Pv (.tuple #[]) V H) := insn_n.frame

theorem pdqn_n {l : Nat}  {V : Vw} : Does Try.prog 33 [.slice none 0 0, .int .i64 0, .int .i64 0, .int .i64 ((l : Nat) : Int)] V [] (Pv (.tuple #[]) V []) := by
 refine Does.intro Try.func33 rfl rfl (le rfl) (fun B => ?_)
 refine Zs<|Zr<|Za Z<|Ze<|Zg<|Zs<|Zr<|Za Z<|Ze<|Zg<|Zb<|?_
 refine ZL (X := Unit) (fun _ => V) (fun _ => []) (fun _ => [(0, .slice none 0 0), (1, .int .i64 0), (2, .int .i64 0), (3, .int .i64 ((l : Nat) : Int)), (8, .bool true), (9, .bool true)]) (fun _ => True) (fun _ => 0) () trivial ?_
 rintro _ _
 refine Zb<|Zs<|Zr<|Zm Z<|Zm Z<|Zv (Y.subN ((0 - 0 : Nat) : Int) rfl rfl W W)<|Za Z<|Ze<|Zg<|Zs<|Zs<|Zr<|Zm Z<|Zv (Y.int Z Z Z)<|Ze<|Zg<|?_
 refine Tr.cond_t rfl (show (decide (((0 - 0 : Nat) : Int) ≤ 12)) = true from by decide +kernel)<|Zs<|Zr<|Zm Z<|Zm Z<|Zm Z<|Run.call0 (l := [.tmp 24, .tmp 25, .tmp 26]) Z Z Z (lt Z) insn_n_h<|Ze<|Zg<|Zu<|Zn<|Zk<|Zn<|Zk<|?_
 exact Ex.ret0 rfl ⟨rfl, rfl, rfl⟩

theorem pdqn_n_h {l : Nat}  {V : Vw} {H : Hp} : Does Try.prog 33 [.slice none 0 0, .int .i64 0, .int .i64 0, .int .i64 ((l : Nat) : Int)] V H (Pv (.tuple #[]) V H) := pdqn_n.frame

theorem sortn_n  {V : Vw} : Does Try.prog 24 [.slice none 0 0] V [] (Pv (.tuple #[]) V []) := by
 refine Does.intro Try.func24 rfl rfl (le rfl) (fun B => ?_)
 refine Zs<|Zr<|Zm Z<|Zv (Y.lenSl Z Sortn3_es49)<|Za Z<|Ze<|Zg<|Zr<|Zm Z<|Zm Z<|Zm Z<|Zv (Y.conv (0) rfl Sortn3_it3_63 (wrap_u64 W))<|?_
 refine Run.call [] (l := [.tmp 8]) rfl rfl rfl (lt rfl) (len_0 (m := 0) W) (fun v V2 H2 hle hR => ?_)
 obtain ⟨hV, ⟨k1, rfl, hk1, hk2⟩, rfl⟩ := hR; replace hV := hV.symm; subst hV
 refine Run.heapTo (H' := []) Z<|Run.call0 (l := [.tmp 5, .const (.int .i64 0), .tmp 6, .tmp 9]) Z Z Z (lt Z) pdqn_n_h<|Ze<|?_
 exact Ex.end0 rfl ⟨rfl, rfl, rfl⟩

theorem sortn_n_h  {V : Vw} {H : Hp} : Does Try.prog 24 [.slice none 0 0] V H (Pv (.tuple #[]) V H) := sortn_n.frame

theorem sorts_n {V : Vw} {n c b : Nat} {rest : List Value} {d0 : Array Int}  (hN : n ≤ 1073741824) (hd : d0.size = n)  : Does Try.prog 24 [.slice (some ⟨b, 0, none⟩) n c] V [sgD nI 3 b rest d0] (fun v V' H' => V' = V ∧ v = .tuple #[] ∧ ∃ d1, PermIn 0 n d0 d1 ∧ SortedIn ltInt 0 n d1 ∧ H' = [sgD nI 3 b rest d1]) := by
 refine Does.intro Try.func24 rfl rfl (le rfl) (fun B => ?_)
 refine Zs<|Zr<|Zm Z<|Zv (Y.lenSl Z Sortn3_es49)<|Za Z<|Ze<|Zg<|Zr<|Zm Z<|Zm Z<|Zm Z<|Zv (Y.conv (((n : Nat) : Int)) rfl Sortn3_it3_63 (wrap_u64 W))<|?_
 refine Run.call [] (l := [.tmp 8]) rfl rfl rfl (lt rfl) (len_0 (m := n) W) (fun v V2 H2 hle hR => ?_)
 obtain ⟨hV, ⟨k1, rfl, hk1, hk2⟩, rfl⟩ := hR; replace hV := hV.symm; subst hV
 refine Run.heapTo (H' := [sgD nI 3 b rest d0]) Z ?_
 refine Run.call [0] (l := [.tmp 5, .const (.int .i64 0), .tmp 6, .tmp 9]) rfl rfl rfl (lt rfl) (pdq_n (x := 0) (y := n) (l := k1) hN hd (Nat.zero_le _) (Nat.le_refl _) (.inl rfl) W) (fun v V2 H2 hle hR => ?_)
 obtain ⟨hV, rfl, d1, hp1, hs1, rfl⟩ := hR; replace hV := hV.symm; subst hV
 refine Run.heapTo (H' := [sgD nI 3 b rest d1]) Z<|Ze<|Ex.keep [0]<|?_
 exact Ex.end0 rfl ⟨rfl, rfl, d1, hp1, hs1, rfl⟩

theorem sort_n {V : Vw} {v : Value} {l : List Int} {s : Sg}  (ho : Ow 3 1 v l.length (l.flatMap nI) s) (hn : l.length ≤ 1073741824) : Does Try.prog 24 [v] V [s] (fun u V' H' => V' = V ∧ u = .tuple #[] ∧ ∃ l' s', l'.Perm l ∧ Srt ltInt l' ∧ Ow 3 1 v l'.length (l'.flatMap nI) s' ∧ H' = [s']) := by
  rcases ho.toD nI_enc with ⟨rfl, rfl, rfl⟩ | ⟨b, cap, rest, rfl, rfl, h1, h2, h3⟩
  · refine (sortn_n_h (H := [[]])).mono ?_
    rintro v V' H' ⟨rfl, rfl, rfl⟩
    exact ⟨rfl, rfl, [], [], List.Perm.refl _, List.Pairwise.nil, Ow.nil _ _, rfl⟩
  · refine (sorts_n (n := l.length) (c := cap) (b := b) (rest := rest) (d0 := l.toArray) hn (by simp)).mono ?_
    rintro v V' H' ⟨rfl, rfl, d1, hp, hs, rfl⟩
    have hz : d1.size = l.length := by have := hp.1; simpa using this
    have hp2 : PermIn 0 l.toArray.size l.toArray d1 := by simpa using hp
    have hs2 : SortedIn ltInt 0 d1.size d1 := by rw [hz]; exact hs
    have hw := Ow.ofD (e := 3) (b := b) (rest := rest) (l := d1.toList) (cap := cap) nI_enc (by simp [hz]; exact h1) h2 (by simp [hz]; simpa using h3)
    refine ⟨rfl, rfl, d1.toList, _, by simpa using perm_of hp2, srt_of hs2, ?_, rfl⟩
    have e1 : d1.toList.length = l.length := by simp [hz]
    rw [show d1.toList.toArray = d1 by simp, e1] at hw; rw [e1]; exact hw
end Go.Proofs.Ytdmelfpdillddaa
