/- The library's Collect, Keys, Sorted at numbers, walked.
Conditions: as each theorem names them. -/
import Derived.Test.YtjfacdepgkdoeaaProg
import Derived.Test.YtjfacdepgkdoeaaKC
import Derived.Test.YtjfacdepgkdoeaaLA
import Derived.Test.YtjfacdepgkdoeaaSortu3
set_option linter.unusedSimpArgs false
set_option linter.unusedVariables false
set_option maxRecDepth 4000
namespace Go.Proofs.Ytjfacdepgkdoeaa
open Go Go.K
attribute [local irreducible] Code.wp wpList Calls wpQuiet
theorem Seqs_ts32 : scal Try.prog 32 = true := by kernel_rfl
theorem Seqs_es32 : elemS Try.prog 32 = some (37, 1) := by kernel_rfl
theorem Seqs_zo37 : zeroOf Try.prog 37 = some (.int .u32 0) := by kernel_rfl
theorem Seqs_zi37 : zeroInfo Try.prog 37 = some (1, 4, .int .u32 0) := by kernel_rfl
theorem Seqs_sz32 : sizeT Try.prog 32 = some 1 := by kernel_rfl
theorem Seqs_ts35 : scal Try.prog 35 = true := by kernel_rfl
theorem Seqs_mt35 : mapT Try.prog 35 = some (.u32, 37, 4) := by kernel_rfl

theorem appseq_u {V : Vw} {Hs : Hp} {gf : FuncId} {caps : List Value} {S Sp : List Int → Prop} {N : Nat} (hit : Iterates Try.prog gf caps V Hs nU S Sp N) (hNb : N ≤ 1000000000)  : Does Try.prog 141 [.slice none 0 0, .func (.func gf) #[] caps.toArray] V Hs (fun v V' H' => V' = V ∧ ∃ xs q, S xs ∧ Ow 37 1 v xs.length (xs.flatMap nU) q ∧ H' = q :: Hs) := by
 refine Does.introM Try.func141 rfl rfl (le rfl) (fun B => ?_)
 refine Tr.seq ?_
 refine Tr.region ?_
 refine Run.box rfl (lt rfl) (fun b1 => ?_)
 refine Run.val (lt rfl) (Y.assign rfl) ?_
 refine Run.to_end ?_
 refine Ex.go ?_
 refine Tr.seq ?_
 refine Tr.seq ?_
 refine Tr.region ?_
 refine Run.nilseg ?_
 refine Run.val (lt rfl) (Y.move rfl) ?_
 refine Run.to_end ?_
 refine Ex.go ?_
 refine Tr.block ?_
 refine Tr.range1 [] Hs [[], [(b1, .cells #[.slice none 0 0] 32 (0, 0))]] (List.perm_append_comm (l₁ := ([[], [(b1, .cells #[.slice none 0 0] 32 (0, 0))]] : Hp))) rfl (hit) (fun xs (H : Hp) => ∃ p1 n1 k1 q1, H = [q1, [(b1, .cells #[.slice p1 n1 k1] 32 (0, 0))]] ∧ Ow 37 1 (.slice p1 n1 k1) n1 (xs.flatMap nU) q1 ∧ n1 = xs.length) (fun c xs (H : Hp) => False) ⟨none, 0, 0, [], rfl, Ow.nil _ _, rfl⟩ (fun lp3 rr4 xs5 x6 H hLI hf hJ hN => ?_) (fun D2 xs5 H hS hJ => ?_) (fun D2 c xs5 H hS hJ => ?_)
 ·obtain ⟨p1, n1, k1, q1, rfl, how, hn⟩ := hJ
  refine YDoes.intro hLI rfl (env_par1 (lt rfl)) (fun Blp3 => ?_)
  refine TrR.region rfl ?_
  refine Run.val (lt rfl) (Y.assign rfl) ?_
  refine Run.to_end ?_
  refine Ex.begin hf.1 ?_
  refine TrR.block ?_
  refine TrR.region rfl ?_
  refine Run.val (lt rfl) (Y.load rfl Seqs_ts32 (Kn.at 2 rfl) rfl) ?_
  refine Run.val (lt rfl) (Y.move rfl) ?_
  refine Run.buildSlice (l := [(0, .tmp 9)]) Seqs_es32 Seqs_zo37 rfl (by decide) rfl rfl (by decide) (lt rfl) (fun b7 => ?_)
  refine Run.append (n := n1) (m := 1) (xs := (xs5).flatMap nU) (ys := [.int .u32 x6]) rfl rfl Seqs_es32 Seqs_zi37 (by decide) (j := 2) rfl how (Src.of_rd Seqs_es32 (Rd.one (Kn.at 0 rfl) rfl)) (by omega) (by omega) rfl (lt rfl) (fun v8 s9 ho10 hf => ?_)
  obtain ⟨p8, c8, rfl⟩ := hf
  replace ho10 := Ow.app1 (f := nU) (l := xs5) (x := x6) ho10
  refine Run.store (s := [(b1, .cells #[.slice p8 (n1 + 1) c8] 32 (0, 0))]) rfl rfl Seqs_sz32 (i := 3) rfl rfl (le rfl) rfl rfl ?_
  refine Run.to_end ?_
  refine Ex.end_block ?_
  refine Ex.keepTo (H' := [rec_ lp3 { rr4 with state := .busy }, s9, [(b1, .cells #[.slice p8 (n1 + 1) c8] 32 (0, 0))]]) [1, 1, 1] rfl ?_
  exact Ex.next ⟨rfl, .inl ⟨rfl, _, _, hLI.with _ _, ⟨rfl, rfl⟩, rfl, ⟨_, _, _, _, rfl, ho10, by rw [List.length_append, List.length_singleton]; omega⟩⟩⟩
 ·obtain ⟨p1, n1, k1, q1, rfl, how, hn⟩ := hJ
  subst hn
  refine Ex.perm (H' := defd D2 :: [(b1, .cells #[.slice p1 xs5.length k1] 32 (0, 0))] :: q1 :: Hs) (List.Perm.cons _ ((List.Perm.swap _ _ _).trans (List.perm_append_comm (l₁ := [q1, [(b1, .cells #[.slice p1 xs5.length k1] 32 (0, 0))]])))) ?_
  refine Ex.end_block ?_
  refine Ex.go ?_
  refine Tr.seq ?_
  refine Tr.region ?_
  refine Run.val (lt rfl) (Y.load rfl Seqs_ts32 (Kn.at 1 rfl) rfl) ?_
  refine Run.val (lt rfl) (Y.assign rfl) ?_
  refine Run.to_end ?_
  refine Ex.go ?_
  refine Tr.to_ret ?_
  refine Ex.unmark (.inl rfl) ?_
  refine Ex.bodyM (.inl rfl) ?_
  refine Ex.drop ?_
  exact Ex.ret1 rfl rfl  ⟨rfl, xs5, q1, hS, how, rfl⟩
 ·exact hJ.elim

theorem collect_u {V : Vw} {Hs : Hp} {gf : FuncId} {caps : List Value} {S Sp : List Int → Prop} {N : Nat} (hit : Iterates Try.prog gf caps V Hs nU S Sp N) (hNb : N ≤ 1000000000)  : Does Try.prog 100 [.func (.func gf) #[] caps.toArray] V Hs (fun v V' H' => V' = V ∧ ∃ xs q, S xs ∧ Ow 37 1 v xs.length (xs.flatMap nU) q ∧ H' = q :: Hs) := by
 refine Does.intro Try.func100 rfl rfl (le rfl) (fun B => ?_)
 refine Tr.seq ?_
 refine Tr.region ?_
 refine Run.val (lt rfl) (Y.assign rfl) ?_
 refine Run.to_end ?_
 refine Ex.go ?_
 refine Tr.seq ?_
 refine Tr.region ?_
 refine Run.val (lt rfl) (Y.move rfl) ?_
 refine Run.callW (l := [.const (.slice none 0 0), .tmp 3]) rfl rfl rfl (lt rfl) (appseq_u hit hNb) (fun v3 V2 H2 hle hR => ?_)
 obtain ⟨hV, xs, q, hS, ho, rfl⟩ := hR; replace hV := hV.symm; subst hV
 refine Run.val (lt rfl) (Y.assign rfl) ?_
 refine Run.to_end ?_
 refine Ex.go ?_
 refine Tr.to_ret ?_
 exact Ex.ret1 rfl rfl  ⟨rfl, xs, q, hS, ho, rfl⟩

theorem keysu1 {V : Vw} {l : List (Int × Value)} {b bm : Nat} {es : Array MapEntry} {clock : Nat} (hm : MapIs .u32 l es clock) {N : Nat} (hNl : l.length ≤ N) {lp : Nat} {J Jx : List Int → Hp → Prop} {Hy : Hp} (hy : ∀ xs x H, J xs H → xs.length < N → YDoes Try.prog lp (nU x) V H (fun u V' H' => V' = V ∧ (u = .bool true ∧ J (xs ++ [x]) H' ∨ u = .bool false ∧ Jx (xs ++ [x]) H'))) (h0 : J [] Hy)  : Does Try.prog 101 [yv lp, .pointer (some ⟨b, 0, none⟩)] V ([[(b, .cells #[.map (some bm)] 35 (0, 0))], [(bm, .map es clock)]] ++ Hy) (fun _ V' H' => V' = V ∧ ∃ xs Hy', H' = [[(b, .cells #[.map (some bm)] 35 (0, 0))], [(bm, .map es clock)]] ++ Hy' ∧ (xs.Perm (l.map (·.1)) ∧ J xs Hy' ∨ True ∧ Jx xs Hy')) := by
 refine Does.intro Try.func101 rfl rfl (le rfl) (fun B => ?_)
 refine Tr.seq ?_
 refine Tr.region ?_
 refine Run.val (lt rfl) (Y.load rfl Seqs_ts35 (Kn.at 0 rfl) rfl) ?_
 refine Run.rangeMap (kk := .u32) (l := l) (j := 1) rfl Seqs_mt35 rfl (lt rfl) (fun vi si hit => ?_)
 refine Run.to_end ?_
 refine Ex.go ?_
 refine Tr.block ?_
 refine Tr.loop (X := Sg × Hp × List (Int × Value)) (fun z0 => V) (fun z0 => z0.1 :: [(b, .cells #[.map (some bm)] 35 (0, 0))] :: [(bm, .map es clock)] :: z0.2.1) (fun z0 => [(0, yv lp), (5, vi)]) (fun z0 => It bm es clock l z0.2.2 vi z0.1 ∧ J (z0.2.2.map (·.1)) z0.2.1) (fun z0 => l.length - z0.2.2.length) (⟨si, Hy, []⟩ : Sg × Hp × List (Int × Value)) ⟨hit, h0⟩ (fun a w i => ⟨i.1.sub (subB_cons (by first | rfl | exact congrArg (fun z => some (Value.int _ z)) (by omega)) (subB_cons (by first | rfl | exact congrArg (fun z => some (Value.int _ z)) (by omega)) (subB_nil _))), i.2⟩) ?_
 rintro ⟨s1, Hy1, ds⟩ ⟨hit1, hJ⟩
 try dsimp only at hit1 hJ ⊢
 refine Tr.seq ?_
 refine Tr.region ?_
 refine Run.nextMap (j := 2) (j2 := 0) rfl hm rfl hit1 rfl (lt rfl) (fun hdone => ?_) (fun kx ux s2 hin hfew hit2 hat => ?_)
 ·refine Run.val (lt rfl) (Y.extract rfl rfl) ?_
  refine Run.to_end ?_
  refine Ex.go ?_
  refine Tr.seq ?_
  refine Tr.cond_f rfl rfl ?_
  refine Tr.to_exit ?_
  refine Ex.exit_then ?_
  refine Ex.exit_then ?_
  refine Ex.exit_in ?_
  refine Ex.drop ?_
  exact Ex.end0 rfl ⟨rfl, ds.map (·.1), Hy1, rfl, .inl ⟨hdone.map _, hJ⟩⟩
 ·refine Run.val (lt rfl) (Y.extract rfl rfl) ?_
  refine Run.to_end ?_
  refine Ex.go ?_
  refine Tr.seq ?_
  refine Tr.cond_t rfl rfl ?_
  refine Tr.to_end ?_
  refine Ex.go ?_
  refine Tr.block ?_
  refine Tr.seq ?_
  refine Tr.region ?_
  refine Run.val (lt rfl) (Y.entry (j := 2) (j2 := 0) rfl hm rfl hat rfl) ?_
  refine Run.val (lt rfl) (Y.extract rfl rfl) ?_
  refine Run.val (lt rfl) (Y.assign rfl) ?_
  refine Run.to_end ?_
  refine Ex.go ?_
  refine Tr.seq ?_
  refine Tr.regionI ?_
  refine RunI.op rfl ?_
  refine Run.val (lt rfl) (Y.move rfl) ?_
  refine Run.to_end ?_
  refine Ex.goI ?_
  refine RunI.op rfl ?_
  refine Run.val (lt rfl) (Y.move rfl) ?_
  refine Run.to_end ?_
  refine Ex.goI ?_
  refine RunI.callY [s2, [(b, .cells #[.map (some bm)] 35 (0, 0))], [(bm, .map es clock)]] Hy1 rfl rfl rfl (lt rfl) (hy _ _ _ hJ (by rw [List.length_map]; omega)) (fun u V2 Hy2 hle hR => ?_)
  obtain ⟨hV, ⟨rfl, hJ2⟩ | ⟨rfl, hJ2⟩⟩ := hR <;> (replace hV := hV.symm; subst hV)
  ·refine RunI.op rfl ?_
   refine Run.val (lt rfl) (Y.not rfl) ?_
   refine Run.to_end ?_
   refine Ex.goI ?_
   refine RunI.nil ?_
   refine Ex.go ?_
   refine Tr.cond_f rfl rfl ?_
   refine Tr.to_end ?_
   refine Ex.end_block ?_
   exact Ex.round (⟨s2, Hy2, ds ++ [(kx, ux)]⟩ : Sg × Hp × List (Int × Value)) ⟨hit2, by rw [List.map_append]; exact hJ2⟩ (by dsimp only; rw [List.length_append, List.length_singleton]; omega) rfl rfl (subB_cons (by first | rfl | exact congrArg (fun z => some (Value.int _ z)) (by omega)) (subB_cons (by first | rfl | exact congrArg (fun z => some (Value.int _ z)) (by omega)) (subB_nil _)))
  ·refine RunI.op rfl ?_
   refine Run.val (lt rfl) (Y.not rfl) ?_
   refine Run.to_end ?_
   refine Ex.goI ?_
   refine RunI.nil ?_
   refine Ex.go ?_
   refine Tr.cond_t rfl rfl ?_
   refine Tr.to_ret ?_
   refine Ex.ret_block ?_
   refine Ex.ret_then ?_
   refine Ex.ret_block ?_
   refine Ex.drop ?_
   exact Ex.ret0 rfl ⟨rfl, ds.map (·.1) ++ [kx], Hy2, rfl, .inr ⟨trivial, hJ2⟩⟩

theorem keysu_it {V : Vw} {l : List (Int × Value)} {b bm : Nat} {es : Array MapEntry} {clock : Nat} (hm : MapIs .u32 l es clock) : Iterates Try.prog 101 [.pointer (some ⟨b, 0, none⟩)] V [[(b, .cells #[.map (some bm)] 35 (0, 0))], [(bm, .map es clock)]] nU (fun xs => xs.Perm (l.map (·.1))) (fun _ => True) l.length := fun lp J Jx hy Hy h0 => keysu1 hm (Nat.le_refl _) hy h0

theorem keysu_top {V : Vw} {bm : Nat}  : Does Try.prog 69 [.map (some bm)] V [] (fun v V' H' => V' = V ∧ ∃ b, v = .func (.func 101) #[] [.pointer (some ⟨b, 0, none⟩)].toArray ∧ H' = [[(b, .cells #[.map (some bm)] 35 (0, 0))]]) := by
 refine Does.intro Try.func69 rfl rfl (le rfl) (fun B => ?_)
 refine Tr.seq ?_
 refine Tr.region ?_
 refine Run.box rfl (lt rfl) (fun b1 => ?_)
 refine Run.val (lt rfl) (Y.assign rfl) ?_
 refine Run.to_end ?_
 refine Ex.go ?_
 refine Tr.seq ?_
 refine Tr.region ?_
 refine Run.val (lt rfl) (Y.makeFunc (l := []) (l' := [.tmp 1]) rfl rfl) ?_
 refine Run.val (lt rfl) (Y.assign rfl) ?_
 refine Run.to_end ?_
 refine Ex.go ?_
 refine Tr.to_ret ?_
 refine Ex.keep [0] ?_
 exact Ex.ret1 rfl rfl  ⟨rfl, b1, rfl, rfl⟩

theorem sorted_u {V : Vw} {Hs : Hp} {gf : FuncId} {caps : List Value} {S Sp : List Int → Prop} {N : Nat} (hit : Iterates Try.prog gf caps V Hs nU S Sp N) (hNb : N ≤ 1000000000) (hlen : ∀ xs, S xs → xs.length ≤ 1000000000)  : Does Try.prog 68 [.func (.func gf) #[] caps.toArray] V Hs (fun v V' H' => V' = V ∧ ∃ xs q, S xs ∧ Ow 37 1 v xs.length ((isort xs).flatMap nU) q ∧ H' = q :: Hs) := by
 refine Does.intro Try.func68 rfl rfl (le rfl) (fun B => ?_)
 refine Tr.seq ?_
 refine Tr.region ?_
 refine Run.val (lt rfl) (Y.assign rfl) ?_
 refine Run.to_end ?_
 refine Ex.go ?_
 refine Tr.seq ?_
 refine Tr.region ?_
 refine Run.val (lt rfl) (Y.move rfl) ?_
 refine Run.callW (l := [.tmp 4]) rfl rfl rfl (lt rfl) (collect_u hit hNb) (fun v3 V2 H2 hle hR => ?_)
 obtain ⟨hV, xs, q, hS, ho, rfl⟩ := hR; replace hV := hV.symm; subst hV
 have hxl := hlen xs hS
 refine Run.val (lt rfl) (Y.assign rfl) ?_
 refine Run.to_end ?_
 refine Ex.go ?_
 refine Tr.seq ?_
 refine Tr.region ?_
 refine Run.val (lt rfl) (Y.move rfl) ?_
 refine Run.call [0] (l := [.tmp 6]) rfl rfl rfl (lt rfl) (sort_u ho (by omega)) (fun v4 V3 H3 hle3 hR3 => ?_)
 obtain ⟨hV, rfl, l2, q2, hp2, hs2, ho2, rfl⟩ := hR3; replace hV := hV.symm; subst hV
 obtain rfl := up_isort (srt_up hs2) hp2
 rw [isort_length] at ho2
 refine Run.perm (H' := q2 :: Hs) (List.perm_append_comm (l₁ := [q2])) ?_
 refine Run.to_end ?_
 refine Ex.go ?_
 refine Tr.seq ?_
 refine Tr.region ?_
 refine Run.val (lt rfl) (Y.move rfl) ?_
 refine Run.val (lt rfl) (Y.assign rfl) ?_
 refine Run.to_end ?_
 refine Ex.go ?_
 refine Tr.to_ret ?_
 exact Ex.ret1 rfl rfl  ⟨rfl, xs, q2, hS, ho2, rfl⟩
end Go.Proofs.Ytjfacdepgkdoeaa
