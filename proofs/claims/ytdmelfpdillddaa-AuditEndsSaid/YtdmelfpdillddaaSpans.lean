/- The times at which a client was promised an address, walked.
Conditions: as each theorem names them. -/
import Derived.Test.YtdmelfpdillddaaProg
import Derived.Test.YtdmelfpdillddaaAudit2
import Derived.Test.YtdmelfpdillddaaSortp3
import Derived.Test.YtdmelfpdillddaaAB
import Derived.Test.YtdmelfpdillddaaRA
import Derived.Test.YtdmelfpdillddaaKF
import Derived.Test.YtdmelfpdillddaaKG
import Derived.Test.YtdmelfpdillddaaSeqs
import Derived.Test.YtdmelfpdillddaaZG
set_option linter.unusedSimpArgs false
set_option linter.unusedVariables false
set_option maxRecDepth 4000
namespace Go.Proofs.Ytdmelfpdillddaa
open Go Go.K
attribute [local irreducible] Code.wp wpList Calls wpQuiet
theorem Spans_al35 : arrT Try.prog 35 = some (2, 1) := by kernel_rfl
theorem Spans_ts3 : scal Try.prog 3 = true := by kernel_rfl
theorem Spans_ts28 : scal Try.prog 28 = true := by kernel_rfl
theorem Spans_es28 : elemS Try.prog 28 = some (35, 2) := by kernel_rfl
theorem Spans_ag35 : aggsz Try.prog 35 = some 2 := by kernel_rfl
theorem Spans_zo35 : zeroOf Try.prog 35 = some (.agg #[.int .i64 0, .int .i64 0]) := by kernel_rfl
theorem Spans_sz35 : sizeT Try.prog 35 = some 2 := by kernel_rfl
theorem Spans_zi35 : zeroInfo Try.prog 35 = some (2, 16, .agg #[.int .i64 0, .int .i64 0]) := by kernel_rfl
theorem Spans_sz28 : sizeT Try.prog 28 = some 1 := by kernel_rfl
theorem Spans_mo : Try.prog.follows .mixedOrders = true := by kernel_rfl
theorem Spans_sz3 : sizeT Try.prog 3 = some 1 := by kernel_rfl
theorem Spans_es22 : elemS Try.prog 22 = some (34, 5) := by kernel_rfl
theorem Spans_ag34 : aggsz Try.prog 34 = some 5 := by kernel_rfl
theorem Spans_zo34 : zeroOf Try.prog 34 = some (.agg #[.int .i64 0, .int .u32 0, .string ⟨#[]⟩, .int .i64 0, .int .i64 0]) := by kernel_rfl
theorem Spans_sz34 : sizeT Try.prog 34 = some 5 := by kernel_rfl
theorem Spans_fo34_1 : fieldOff Try.prog 34 1 = some 1 := by kernel_rfl
theorem Spans_ts24 : scal Try.prog 24 = true := by kernel_rfl
theorem Spans_fo34_2 : fieldOff Try.prog 34 2 = some 2 := by kernel_rfl
theorem Spans_ts9 : scal Try.prog 9 = true := by kernel_rfl
theorem Spans_fo34_3 : fieldOff Try.prog 34 3 = some 3 := by kernel_rfl
theorem Spans_fo34_4 : fieldOff Try.prog 34 4 = some 4 := by kernel_rfl
theorem Spans_ea35 : elemA Try.prog 35 = some 1 := by kernel_rfl
theorem Spans_zo28 : zeroOf Try.prog 28 = some (.slice none 0 0) := by kernel_rfl

open Go.Sort

theorem cmp_n {m n : Int} {V : Vw} : Does Try.prog 31 [.int .i64 m, .int .i64 n] V [] (Pv (.int .i64 (Rg.cmp3 m n)) V []) := by
 refine Does.intro Try.func31 rfl rfl (le rfl) (fun B => ?_)
 refine Zs<|Zr<|Za Z<|Ze<|Zg<|Zs<|Zr<|Zm Z<|Run.call0 (l := [.tmp 7]) Z Z Z (lt Z) isnan_n0_h<|Za Z<|Ze<|Zg<|Zs<|Zr<|Zm Z<|Run.call0 (l := [.tmp 9]) Z Z Z (lt Z) isnan_n0_h<|?_
 refine Za Z<|Ze<|Zg<|Zs<|Zs<|Zr<|Zm Z<|Ze<|Zg<|Tr.cond_f Z Z<|Zt<|Zg<|Zs<|Zs<|Zr<|Zm Z<|?_
 refine Ze<|Zg<|Tr.cond_f Z Z<|Zt<|Zg<|Zs<|Zs<|Zr<|Zm Z<|Zm Z<|Zv (Y.int Z Z Z)<|Ze<|Zg<|?_
 rcases Zsplit (decide (m < n)) with ⟨h1, g1⟩ | ⟨h1, g1⟩ <;> try simp only [kb] at g1
 ·refine Tr.cond_t Z h1<|Zs<|Zr<|Za Z<|Ze<|Zg<|Zu<|Zn<|Ex.keep []<|?_
  exact Ex.ret1 rfl rfl  ⟨congrArg (Value.int _) (by unfold Rg.cmp3; (repeat' split) <;> omega), rfl, rfl⟩
 ·refine Tr.cond_f Z h1<|Zt<|Zg<|Zs<|Zs<|Zr<|Zm Z<|Zm Z<|Zv (Y.int Z Z Z)<|Ze<|Zg<|?_
  rcases Zsplit (decide (m > n)) with ⟨h2, g2⟩ | ⟨h2, g2⟩ <;> try simp only [kb] at g2
  ·refine Tr.cond_t Z h2<|Zs<|Zr<|Za Z<|Ze<|Zg<|Zu<|Zn<|Ex.keep []<|?_
   exact Ex.ret1 rfl rfl  ⟨congrArg (Value.int _) (by unfold Rg.cmp3; (repeat' split) <;> omega), rfl, rfl⟩
  ·refine Tr.cond_f Z h2<|Zt<|Zg<|Zs<|Zr<|Za Z<|Ze<|Zg<|Zu<|Ex.keep []<|?_
   exact Ex.ret1 rfl rfl  ⟨congrArg (Value.int _) (by unfold Rg.cmp3; (repeat' split) <;> omega), rfl, rfl⟩

theorem cmp_n_h {m n : Int} {V : Vw} {H : Hp} : Does Try.prog 31 [.int .i64 m, .int .i64 n] V H (Pv (.int .i64 (Rg.cmp3 m n)) V H) := cmp_n.frame

theorem byp_c {q r : Rg} {V : Vw} : Does Try.prog 30 [.agg #[.int .i64 q.low, .int .i64 q.high], .agg #[.int .i64 r.low, .int .i64 r.high]] V [] (Pv (.int .i64 (Rg.cmp q r)) V []) := by
 refine Does.intro Try.func30 rfl rfl (le rfl) (fun B => ?_)
 refine Zs<|Zr<|?_
 refine Run.box rfl (lt rfl) (fun b1 => ?_)
 refine Run.box rfl (lt rfl) (fun b2 => ?_)
 refine Za Z<|Ze<|Zg<|Zs<|Zr<|Zv (Y.idxArr Z Z Spans_al35 WD WD)<|Zv (Y.load Z Spans_ts3 (Kn.at 1 Z) Z)<|Zv (Y.idxArr Z Z Spans_al35 WD WD)<|Zv (Y.load Z Spans_ts3 (Kn.at 0 Z) Z)<|Run.call0 (l := [.tmp 6, .tmp 8]) Z Z Z (lt Z) cmp_n_h<|Za Z<|Ze<|Zg<|Zu<|Ex.keep []<|?_
 exact Ex.ret1 rfl rfl  ⟨rfl, rfl, rfl⟩

theorem values1_p {V : Vw} {l : List Rg} {p : Option Addr} {c b N : Nat} (hv : Rd V [] 2 (.slice p l.length c) l.length (l.flatMap Rg.sp2)) (hlm : l.length ≤ 1000000000) (hNl : l.length ≤ N) {lp : Nat} {J Jx : List Rg → Hp → Prop} {Hy : Hp} (hy : ∀ xs x H, J xs H → xs.length < N → YDoes Try.prog lp (Rg.yp x) V H (fun u V' H' => V' = V ∧ (u = .bool true ∧ J (xs ++ [x]) H' ∨ u = .bool false ∧ Jx (xs ++ [x]) H'))) (h0 : J [] Hy)  : Does Try.prog 40 [yv lp, .pointer (some ⟨b, 0, none⟩)] V ([[(b, .cells #[.slice p l.length c] 28 (0, 0))]] ++ Hy) (fun _ V' H' => V' = V ∧ ∃ xs Hy', H' = [[(b, .cells #[.slice p l.length c] 28 (0, 0))]] ++ Hy' ∧ (xs = l ∧ J xs Hy' ∨ True ∧ Jx xs Hy')) := by
 refine Does.intro Try.func40 rfl rfl (le rfl) (fun B => ?_)
 refine Zs<|Zr<|Zv (Y.load Z Spans_ts28 (Kn.at 0 Z) Z)<|Zv (Y.lenSl Z Spans_es28)<|Zm Z<|Ze<|Zg<|Zb<|?_
 refine ZL (X := Nat × Hp) (fun z0 => V) (fun z0 => [(b, .cells #[.slice p l.length c] 28 (0, 0))] :: z0.2) (fun z0 => [(0, yv lp), (5, .slice p l.length c), (6, .int .i64 ((l.length : Nat) : Int)), (7, .int .i64 (z0.1 : Int))]) (fun z0 => z0.1 ≤ l.length ∧ J (l.take z0.1) z0.2) (fun z0 => l.length - z0.1) (⟨0, Hy⟩ : Nat × Hp) ⟨Nat.zero_le _, h0⟩ ?_
 rintro ⟨i1, Hy1⟩ ⟨hi, hJ⟩
 try dsimp only at hi hJ ⊢
 refine Zs<|Zr<|Zv (Y.int Z Z Z)<|Ze<|Zg<|Zs<|?_
 rcases Zsplit (decide ((i1 : Int) < ((l.length : Nat) : Int))) with ⟨h1, g1⟩ | ⟨h1, g1⟩ <;> try simp only [kb] at g1
 ·refine Tr.cond_t Z h1<|Zt<|Zg<|Zs<|Zb<|Zs<|Zr<|Zv (Y.idxR i1 Z Z Spans_es28 hv.of_nil W W)<|Zv (Y.ldRA (vs := [.int .i64 ((l.getD i1 Rg.dflt).low), .int .i64 ((l.getD i1 Rg.dflt).high)]) rfl Spans_ag35 hv.of_nil rfl WD (fun o ho => flatm_atA Rg.sp2_len W Rg.dflt o ho))<|?_
  refine Run.alloc Spans_zo35 (lt rfl) (fun b2 => ?_)
  refine Run.store (s := [(b2, .cells #[.int .i64 ((l.getD i1 Rg.dflt).low), .int .i64 ((l.getD i1 Rg.dflt).high)] 35 (0, 0))]) Z Z Spans_sz35 (i := 0) Z Z (le Z) Z Z<|Ze<|Zg<|Zs<|Tr.regionI<|RunI.op Z<|Zm Z<|Ze<|Ex.goI<|RunI.op Z<|Zv (Y.loadAgg Z Spans_ag35 (Kn.at 0 Z) Z)<|Ze<|Ex.goI<|?_
  refine RunI.callY [[(b2, .cells #[.int .i64 ((l.getD i1 Rg.dflt).low), .int .i64 ((l.getD i1 Rg.dflt).high)] 35 (0, 0))], [(b, .cells #[.slice p l.length c] 28 (0, 0))]] Hy1 rfl rfl rfl (lt rfl) (hy (l.take i1) (l.getD i1 Rg.dflt) _ hJ (by rw [List.length_take]; omega)) (fun u V2 Hy2 hle hR => ?_)
  obtain ⟨hV, ⟨rfl, hJ2⟩ | ⟨rfl, hJ2⟩⟩ := hR <;> (replace hV := hV.symm; subst hV)
  ·refine RunI.op Z<|Zv (Y.not Z)<|Ze<|Ex.goI<|RunI.nil<|Zg<|Tr.cond_f Z Z<|Zt<|Zc<|Zg<|Zr<|Zv (Y.add Z Z W)<|Zm Z<|Ze<|Ex.drop<|?_
   exact ZR (⟨i1 + 1, Hy2⟩ : Nat × Hp) ⟨by omega, by rw [take_succ_getD l i1 Rg.dflt W]; exact hJ2⟩ (by dsimp only; omega)
  ·refine RunI.op Z<|Zv (Y.not Z)<|Ze<|Ex.goI<|RunI.nil<|Zg<|Tr.cond_t Z Z<|Zu<|Zk<|Zn<|Zn<|Zk<|Ex.drop<|?_
   exact Ex.ret0 rfl ⟨rfl, l.take i1 ++ [l.getD i1 Rg.dflt], Hy2, rfl, .inr ⟨trivial, hJ2⟩⟩
 ·refine Tr.cond_f Z h1<|Zx<|Zy<|Zy<|Zi<|?_
  exact Ex.end0 rfl ⟨rfl, l.take i1, Hy1, rfl, .inl ⟨List.take_of_length_le W, hJ⟩⟩

theorem values_p_it {V : Vw} {l : List Rg} {p : Option Addr} {c b : Nat} (hv : Rd V [] 2 (.slice p l.length c) l.length (l.flatMap Rg.sp2)) (hlm : l.length ≤ 1000000000) : Iterates Try.prog 40 [.pointer (some ⟨b, 0, none⟩)] V [[(b, .cells #[.slice p l.length c] 28 (0, 0))]] Rg.yp (fun xs => xs = l) (fun _ => True) l.length := fun lp J Jx hy Hy h0 => values1_p hv hlm (Nat.le_refl _) hy h0

theorem values_p_top {V : Vw} {l : List Rg} {p : Option Addr} {c : Nat}  : Does Try.prog 29 [.slice p l.length c] V [] (fun v V' H' => V' = V ∧ ∃ b, v = .func (.func 40) #[] [.pointer (some ⟨b, 0, none⟩)].toArray ∧ H' = [[(b, .cells #[.slice p l.length c] 28 (0, 0))]]) := by
 refine Does.intro Try.func29 rfl rfl (le rfl) (fun B => ?_)
 refine Zs<|Zr<|?_
 refine Run.box rfl (lt rfl) (fun b1 => ?_)
 refine Za Z<|Ze<|Zg<|Zs<|Zr<|Zv (Y.makeFunc (l := []) (l' := [.tmp 1]) Z Z)<|Za Z<|Ze<|Zg<|Zu<|Ex.keep [0]<|?_
 exact Ex.ret1 rfl rfl  ⟨rfl, b1, rfl, rfl⟩

theorem appseq_p {V : Vw} {Hs : Hp} {gf : FuncId} {caps : List Value} {S Sp : List Rg → Prop} {N : Nat} (hit : Iterates Try.prog gf caps V Hs Rg.yp S Sp N) (hNb : N ≤ 1000000000)  : Does Try.prog 55 [.slice none 0 0, .func (.func gf) #[] caps.toArray] V Hs (fun v V' H' => V' = V ∧ ∃ xs q, S xs ∧ Ow 35 2 v xs.length (xs.flatMap Rg.sp2) q ∧ H' = q :: Hs) := by
 refine Does.introM Try.func55 rfl rfl (le rfl) (fun B => ?_)
 refine Zs<|Zr<|?_
 refine Run.box rfl (lt rfl) (fun b1 => ?_)
 refine Za Z<|Ze<|Zg<|Zs<|Zs<|Zr<|Run.nilseg<|Zm Z<|Ze<|Zg<|Zb<|?_
 refine Tr.range1 [] Hs [[], [(b1, .cells #[.slice none 0 0] 28 (0, 0))]] (List.perm_append_comm (l₁ := ([[], [(b1, .cells #[.slice none 0 0] 28 (0, 0))]] : Hp))) rfl (hit) (fun xs (H : Hp) => ∃ p1 n1 k1 q1, H = [q1, [(b1, .cells #[.slice p1 n1 k1] 28 (0, 0))]] ∧ Ow 35 2 (.slice p1 n1 k1) n1 (xs.flatMap Rg.sp2) q1 ∧ n1 = xs.length) (fun c xs (H : Hp) => False) ⟨none, 0, 0, [], rfl, Ow.nil _ _, rfl⟩ (fun lp3 rr4 xs5 x6 H hLI hf hJ hN => ?_) (fun D2 xs5 H hS hJ => ?_) (fun D2 c xs5 H hS hJ => ?_)
 ·obtain ⟨p1, n1, k1, q1, rfl, how, hn⟩ := hJ
  refine YDoes.intro hLI rfl (env_par1 (lt rfl)) (fun Blp3 => ?_)
  refine TrR.region Z ?_
  refine Run.alloc Spans_zo35 (lt rfl) (fun b7 => ?_)
  refine Run.store (s := [(b7, .cells #[.int .i64 x6.low, .int .i64 x6.high] 35 (0, 0))]) Z Z Spans_sz35 (i := 0) Z Z (le Z) Z Z<|Ze<|Ex.keep [1, 0, 0, 0]<|Ex.begin hf.1<|TrR.block<|TrR.region Z<|Zv (Y.load Z Spans_ts28 (Kn.at 3 Z) Z)<|Zv (Y.loadAgg Z Spans_ag35 (Kn.at 1 Z) Z)<|?_
  refine Run.buildSlice (l := [(0, .tmp 9)]) Spans_es28 Spans_zo35 rfl WD rfl rfl WD (lt rfl) (fun b8 => ?_)
  refine Run.append (n := n1) (m := 1) (xs := (xs5).flatMap Rg.sp2) (ys := [.int .i64 x6.low, .int .i64 x6.high]) rfl rfl Spans_es28 Spans_zi35 WD (j := 3) rfl how (Src.of_rd Spans_es28 (Rd.one (Kn.at 0 rfl) rfl)) W W rfl (lt rfl) (fun v9 s10 ho11 hf => ?_)
  obtain ⟨p9, c9, rfl⟩ := hf
  replace ho11 := Ow.app1 (f := Rg.sp2) (l := xs5) (x := (⟨x6.low, x6.high⟩ : Rg)) ho11
  refine Run.store (s := [(b1, .cells #[.slice p9 (n1 + 1) c9] 28 (0, 0))]) Z Z Spans_sz28 (i := 4) Z Z (le Z) Z Z<|Ze<|Zc<|Ex.keepTo (H' := [rec_ lp3 { rr4 with state := .busy }, s10, [(b1, .cells #[.slice p9 (n1 + 1) c9] 28 (0, 0))]]) [1, 2, 2] Z<|?_
  exact Ex.next ⟨rfl, .inl ⟨rfl, _, _, hLI.with _ _, ⟨rfl, rfl⟩, rfl, ⟨_, _, _, _, rfl, ho11, by rw [List.length_append, List.length_singleton]; omega⟩⟩⟩
 ·obtain ⟨p1, n1, k1, q1, rfl, how, hn⟩ := hJ
  subst hn
  refine Ex.perm (H' := defd D2 :: [(b1, .cells #[.slice p1 xs5.length k1] 28 (0, 0))] :: q1 :: Hs) (List.Perm.cons _ ((List.Perm.swap _ _ _).trans (List.perm_append_comm (l₁ := [q1, [(b1, .cells #[.slice p1 xs5.length k1] 28 (0, 0))]]))))<|Zc<|Zg<|Zs<|Zr<|Zv (Y.load Z Spans_ts28 (Kn.at 1 Z) Z)<|Za Z<|Ze<|Zg<|Zu<|Ex.unmark (.inl Z)<|Ex.bodyM (.inl Z)<|Ex.drop<|?_
  exact Ex.ret1 rfl rfl  ⟨rfl, xs5, q1, hS, how, rfl⟩
 ·exact hJ.elim

theorem collect_p {V : Vw} {Hs : Hp} {gf : FuncId} {caps : List Value} {S Sp : List Rg → Prop} {N : Nat} (hit : Iterates Try.prog gf caps V Hs Rg.yp S Sp N) (hNb : N ≤ 1000000000)  : Does Try.prog 38 [.func (.func gf) #[] caps.toArray] V Hs (fun v V' H' => V' = V ∧ ∃ xs q, S xs ∧ Ow 35 2 v xs.length (xs.flatMap Rg.sp2) q ∧ H' = q :: Hs) := by
 refine Does.intro Try.func38 rfl rfl (le rfl) (fun B => ?_)
 refine Zs<|Zr<|Za Z<|Ze<|Zg<|Zs<|Zr<|Zm Z<|?_
 refine Run.callW (l := [.const (.slice none 0 0), .tmp 3]) rfl rfl rfl (lt rfl) (appseq_p hit hNb) (fun v3 V2 H2 hle hR => ?_)
 obtain ⟨hV, xs, q, hS, ho, rfl⟩ := hR; replace hV := hV.symm; subst hV
 refine Za Z<|Ze<|Zg<|Zu<|?_
 exact Ex.ret1 rfl rfl  ⟨rfl, xs, q, hS, ho, rfl⟩

theorem sortedf_p {V : Vw} {Hs : Hp} {gf : FuncId} {caps : List Value} {S Sp : List Rg → Prop} {N : Nat} (hit : Iterates Try.prog gf caps V Hs Rg.yp S Sp N) (hNb : N ≤ 1000000000) (hlen : ∀ xs, S xs → xs.length ≤ 1000000000) {gf2 : FuncId} {caps2 : List Value} {cm : Rg → Rg → Int} (hcmp : ∀ x y : Rg, Does Try.prog gf2 (.agg (Rg.sp2 x).toArray :: .agg (Rg.sp2 y).toArray :: caps2) V [] (Pv (.int .i64 (cm x y)) V [])) (hswo : SWO (ltc cm))  : Does Try.prog 28 [.func (.func gf) #[] caps.toArray, .func (.func gf2) #[] caps2.toArray] V Hs (fun v V' H' => V' = V ∧ ∃ xs ys q, S xs ∧ ys.Perm xs ∧ Srt (ltc cm) ys ∧ Ow 35 2 v ys.length (ys.flatMap Rg.sp2) q ∧ H' = q :: Hs) := by
 refine Does.intro Try.func28 rfl rfl (le rfl) (fun B => ?_)
 refine Zs<|Zr<|Za Z<|Ze<|Zg<|Zs<|Zr<|Zm Z<|?_
 refine Run.callW (l := [.tmp 6]) rfl rfl rfl (lt rfl) (collect_p hit hNb) (fun v3 V2 H2 hle hR => ?_)
 obtain ⟨hV, xs, q, hS, ho, rfl⟩ := hR; replace hV := hV.symm; subst hV
 have hxl := hlen xs hS
 refine Za Z<|Ze<|Zg<|Zs<|Zr<|Zm Z<|Zm Z<|?_
 refine Run.call [0] (l := [.tmp 8, .tmp 9]) rfl rfl rfl (lt rfl) (sort_p hcmp hswo ho W) (fun v4 V3 H3 hle3 hR3 => ?_)
 obtain ⟨hV, rfl, l2, q2, hp2, hs2, ho2, rfl⟩ := hR3; replace hV := hV.symm; subst hV
 refine Run.perm (H' := q2 :: Hs) (List.perm_append_comm (l₁ := [q2]))<|Ze<|Zg<|Zs<|Zr<|Zm Z<|Za Z<|Ze<|Zg<|Zu<|?_
 exact Ex.ret1 rfl rfl  ⟨rfl, xs, l2, q2, hS, hp2, hs2, ho2, rfl⟩

theorem spans2_c {V : Vw} {m : List Rg} {pm : Option Addr} {km b : Nat} {qm : Sg} (hom : Ow 35 2 (.slice pm m.length km) m.length (m.flatMap Rg.sp2) qm) (htm : Rg.Tm m) (hml : m.length ≤ 1000) {N : Nat} (hNl : m.length ≤ N) {lp : Nat} {J Jx : List Rg → Hp → Prop} {Hy : Hp} (hy : ∀ xs x H, J xs H → xs.length < N → YDoes Try.prog lp (Rg.yp x) V H (fun u V' H' => V' = V ∧ (u = .bool true ∧ J (xs ++ [x]) H' ∨ u = .bool false ∧ Jx (xs ++ [x]) H'))) (h0 : J [] Hy)  : Does Try.prog 32 [yv lp, .pointer (some ⟨b, 0, none⟩)] V ([[(b, .cells #[.slice pm m.length km] 28 (0, 0))], qm] ++ Hy) (fun _ V' H' => V' = V ∧ ∃ xs Hy', H' = [[(b, .cells #[.slice pm m.length km] 28 (0, 0))], qm] ++ Hy' ∧ (xs = Rg.join m ∧ J xs Hy' ∨ True ∧ Jx xs Hy')) := by
 refine Does.intro Try.func32 rfl rfl (le rfl) (fun B => ?_)
 refine Zs<|Zr<|Za Z<|Ze<|Zg<|Zb<|?_
 refine ZL (X := Nat × Hp) (fun z0 => V) (fun z0 => [(b, .cells #[.slice pm m.length km] 28 (0, 0))] :: qm :: z0.2) (fun z0 => [(0, yv lp), (1, .pointer (some ⟨b, 0, none⟩)), (3, .int .i64 (z0.1 : Int))]) (fun z0 => J (Rg.join (m.take z0.1)) z0.2 ∧ z0.1 ≤ m.length ∧ (z0.1 < m.length → Rg.Gap (m.take z0.1) (m.getD z0.1 Rg.dflt))) (fun z0 => m.length - z0.1) (⟨0, Hy⟩ : Nat × Hp) ⟨h0, Nat.zero_le _, fun _ => Rg.gap_zero _ _⟩ ?_
 rintro ⟨i1, Hy1⟩ ⟨hJ, hi, hgap⟩
 try dsimp only at hJ hi hgap ⊢
 have hb1 := htm.bd i1
 refine Zs<|Zs<|Zr<|Zm Z<|Zv (Y.load Z Spans_ts28 (Kn.at 0 Z) Z)<|Zv (Y.lenSl Z Spans_es28)<|Zv (Y.int Z Z Z)<|Ze<|Zg<|?_
 rcases Zsplit (decide ((i1 : Int) < ((m.length : Nat) : Int))) with ⟨h1, g1⟩ | ⟨h1, g1⟩ <;> try simp only [kb] at g1
 ·refine Tr.cond_t Z h1<|Zt<|Zg<|Zb<|Zs<|Zr<|Zv (Y.load Z Spans_ts28 (Kn.at 0 Z) Z)<|Zm Z<|Zv (Y.idxR i1 Z Z Spans_es28 (hom.rd 1 rfl) W W)<|Zv (Y.ldRA (vs := [.int .i64 ((m.getD i1 Rg.dflt).low), .int .i64 ((m.getD i1 Rg.dflt).high)]) rfl Spans_ag35 (hom.rd 1 rfl) rfl WD (fun o ho => flatm_atA Rg.sp2_len W Rg.dflt o ho))<|?_
  refine Run.alloc Spans_zo35 (lt rfl) (fun b2 => ?_)
  refine Run.store (s := [(b2, .cells #[.int .i64 ((m.getD i1 Rg.dflt).low), .int .i64 ((m.getD i1 Rg.dflt).high)] 35 (0, 0))]) Z Z Spans_sz35 (i := 0) Z Z (le Z) Z Z<|Ze<|Zg<|Zs<|Zs<|Zr<|Zm Z<|Zv (Y.add Z Z W)<|Za Z<|Ze<|Zg<|Zb<|?_
  refine ZL (X := Nat × Int × Int) (fun z0 => V) (fun z0 => [(b2, .cells #[.int .i64 z0.2.1, .int .i64 z0.2.2] 35 (0, 0))] :: [(b, .cells #[.slice pm m.length km] 28 (0, 0))] :: qm :: Hy1) (fun z0 => [(0, yv lp), (1, .pointer (some ⟨b, 0, none⟩)), (3, .int .i64 (z0.1 : Int)), (4, .pointer (some ⟨b2, 0, none⟩))]) (fun z0 => Rg.join (m.take z0.1) = Rg.join (m.take i1) ++ [⟨z0.2.1, z0.2.2⟩] ∧ i1 < z0.1 ∧ z0.1 ≤ m.length ∧ (0 ≤ z0.2.1 ∧ z0.2.1 ≤ z0.2.2 ∧ z0.2.2 ≤ 1099511627776)) (fun z0 => m.length - z0.1) (⟨i1 + 1, (m.getD i1 Rg.dflt).low, (m.getD i1 Rg.dflt).high⟩ : Nat × Int × Int) ⟨Rg.join_in W (hgap W), by dsimp only; omega, by dsimp only; omega, by dsimp only; omega⟩ ?_
  rintro ⟨i2, lo, hi⟩ ⟨hj, hi2, hi3, hbd⟩
  try dsimp only at hj hi2 hi3 hbd ⊢
  have hb2 := htm.bd i2
  refine Zs<|Zs<|Tr.quiet Spans_mo WK<|ZM Z<|ZV (Y.load Z Spans_ts28 (Kn.at 1 Z) Z)<|ZV (Y.lenSl Z Spans_es28)<|ZV (Y.int Z Z Z)<|ZM Z<|?_
  rcases Zsplit (decide ((i2 : Int) < ((m.length : Nat) : Int))) with ⟨h3, g3⟩ | ⟨h3, g3⟩ <;> try simp only [kb] at g3
  ·refine ZP h3<|ZV (Y.load Z Spans_ts28 (Kn.at 1 Z) Z)<|ZP h3<|ZM Z<|ZP h3<|ZV (Y.idxR i2 Z Z Spans_es28 (hom.rd 2 rfl) W W)<|ZP h3<|ZV (Y.idxArrR Z Z Spans_al35 (hom.rd 2 rfl) W WD WD)<|ZP h3<|ZV (Y.ldR Z Spans_ts3 (hom.rd 2 rfl) (flatm_at Rg.sp2_len W Rg.dflt WD rfl))<|ZP h3<|ZV (Y.idxArr Z Z Spans_al35 WD WD)<|ZP h3<|ZV (Y.load Z Spans_ts3 (Kn.at 0 Z) Z)<|?_
   refine ZP h3<|ZV (Y.add Z Z W)<|ZP h3<|ZV (Y.int Z Z Z)<|ZV (Y.pick_t Z h3 Z)<|ZE<|Zg<|?_
   rcases Zsplit (decide (((m.getD i2 Rg.dflt).low) ≤ (hi + 1))) with ⟨h4, g4⟩ | ⟨h4, g4⟩ <;> try simp only [kb] at g4
   ·refine Tr.cond_t Z h4<|Zt<|Zg<|Zs<|Zb<|Tr.tail 9 Spans_mo WK<|ZV (Y.idxArr Z Z Spans_al35 WD WD)<|ZV (Y.load Z Spans_ts3 (Kn.at 0 Z) Z)<|ZV (Y.load Z Spans_ts28 (Kn.at 1 Z) Z)<|ZM Z<|ZV (Y.idxR i2 Z Z Spans_es28 (hom.rd 2 rfl) W W)<|ZV (Y.idxArrR Z Z Spans_al35 (hom.rd 2 rfl) W WD WD)<|ZV (Y.ldR Z Spans_ts3 (hom.rd 2 rfl) (flatm_at Rg.sp2_len W Rg.dflt WD rfl))<|?_
    refine ZV (Y.max2 Z Z)<|ZV (Y.idxArr Z Z Spans_al35 WD WD)<|RunQ.nil_run<|Run.store (s := [(b2, .cells #[.int .i64 lo, .int .i64 (max hi ((m.getD i2 Rg.dflt).high))] 35 (0, 0))]) Z Z Spans_sz3 (i := 0) Z Z (le Z) Z Z<|Ze<|Zc<|Zg<|Zr<|Zm Z<|Zv (Y.add Z Z W)<|Za Z<|Ze<|?_
    exact ZR (⟨i2 + 1, lo, max hi ((m.getD i2 Rg.dflt).high)⟩ : Nat × Int × Int) ⟨Rg.join_on W hj W, by dsimp only; omega, by dsimp only; omega, by dsimp only; omega⟩ (by dsimp only; omega)
   ·refine Tr.cond_f Z h4<|Zx<|Zy<|Zy<|Zi<|Zg<|Zs<|Tr.regionI<|RunI.op Z<|Zm Z<|Ze<|Ex.goI<|RunI.op Z<|Zv (Y.loadAgg Z Spans_ag35 (Kn.at 0 Z) Z)<|Ze<|Ex.goI<|?_
    refine RunI.callY [[(b2, .cells #[.int .i64 lo, .int .i64 hi] 35 (0, 0))], [(b, .cells #[.slice pm m.length km] 28 (0, 0))], qm] Hy1 rfl rfl rfl (lt rfl) (hy (Rg.join (m.take i1)) ⟨lo, hi⟩ _ hJ (Nat.lt_of_lt_of_le (Rg.join_take_len hi3 hj) hNl)) (fun u V2 Hy2 hle hR => ?_)
    obtain ⟨hV, ⟨rfl, hJ2⟩ | ⟨rfl, hJ2⟩⟩ := hR <;> (replace hV := hV.symm; subst hV)
    ·refine RunI.op Z<|Zv (Y.not Z)<|Ze<|Ex.goI<|RunI.nil<|Zg<|Tr.cond_f Z Z<|Zt<|Zc<|Ex.drop<|?_
     exact ZR (⟨i2, Hy2⟩ : Nat × Hp) ⟨by rw [hj]; exact hJ2, by omega, fun hlt => Rg.gap_up hj (by dsimp only; omega)⟩ (by dsimp only; omega)
    ·refine RunI.op Z<|Zv (Y.not Z)<|Ze<|Ex.goI<|RunI.nil<|Zg<|Tr.cond_t Z Z<|Zu<|Zk<|Zn<|Zk<|Ex.drop<|?_
     exact Ex.ret0 rfl ⟨rfl, Rg.join (m.take i1) ++ [⟨lo, hi⟩], Hy2, rfl, .inr ⟨trivial, hJ2⟩⟩
  ·refine ZO h3 Z<|ZO h3 Z<|ZO h3 Z<|ZO h3 Z<|ZO h3 Z<|ZO h3 Z<|ZO h3 Z<|ZO h3 Z<|ZO h3 Z<|ZV (Y.pick_f Z h3 Z)<|ZE<|Zg<|Tr.cond_f Z Z<|Zx<|Zy<|Zy<|?_
   refine Zi<|Zg<|Zs<|Tr.regionI<|RunI.op Z<|Zm Z<|Ze<|Ex.goI<|RunI.op Z<|Zv (Y.loadAgg Z Spans_ag35 (Kn.at 0 Z) Z)<|Ze<|Ex.goI<|?_
   refine RunI.callY [[(b2, .cells #[.int .i64 lo, .int .i64 hi] 35 (0, 0))], [(b, .cells #[.slice pm m.length km] 28 (0, 0))], qm] Hy1 rfl rfl rfl (lt rfl) (hy (Rg.join (m.take i1)) ⟨lo, hi⟩ _ hJ (Nat.lt_of_lt_of_le (Rg.join_take_len hi3 hj) hNl)) (fun u V2 Hy2 hle hR => ?_)
   obtain ⟨hV, ⟨rfl, hJ2⟩ | ⟨rfl, hJ2⟩⟩ := hR <;> (replace hV := hV.symm; subst hV)
   ·refine RunI.op Z<|Zv (Y.not Z)<|Ze<|Ex.goI<|RunI.nil<|Zg<|Tr.cond_f Z Z<|Zt<|Zc<|Ex.drop<|?_
    exact ZR (⟨i2, Hy2⟩ : Nat × Hp) ⟨by rw [hj]; exact hJ2, by omega, fun hlt => absurd hlt W⟩ (by dsimp only; omega)
   ·refine RunI.op Z<|Zv (Y.not Z)<|Ze<|Ex.goI<|RunI.nil<|Zg<|Tr.cond_t Z Z<|Zu<|Zk<|Zn<|Zk<|Ex.drop<|?_
    exact Ex.ret0 rfl ⟨rfl, Rg.join (m.take i1) ++ [⟨lo, hi⟩], Hy2, rfl, .inr ⟨trivial, hJ2⟩⟩
 ·refine Tr.cond_f Z h1<|Zx<|Zy<|Zy<|Zi<|?_
  exact Ex.end0 rfl ⟨rfl, Rg.join (m.take i1), Hy1, rfl, .inl ⟨by rw [List.take_of_length_le W], hJ⟩⟩

theorem spans2_it {V : Vw} {m : List Rg} {pm : Option Addr} {km b : Nat} {qm : Sg} (hom : Ow 35 2 (.slice pm m.length km) m.length (m.flatMap Rg.sp2) qm) (htm : Rg.Tm m) (hml : m.length ≤ 1000) : Iterates Try.prog 32 [.pointer (some ⟨b, 0, none⟩)] V [[(b, .cells #[.slice pm m.length km] 28 (0, 0))], qm] Rg.yp (fun xs => xs = Rg.join m) (fun _ => True) m.length := fun lp J Jx hy Hy h0 => spans2_c hom htm hml (Nat.le_refl _) hy h0

theorem spans_c {V : Vw} {l : List Rg} {p : Option Addr} {c : Nat} (hv : Rd V [] 2 (.slice p l.length c) l.length (l.flatMap Rg.sp2)) (hlm : l.length ≤ 1000)  : Does Try.prog 19 [.slice p l.length c] V [] (fun v V' H' => V' = V ∧ ∃ b m pm km qm, v = .func (.func 32) #[] [.pointer (some ⟨b, 0, none⟩)].toArray ∧ m.Perm l ∧ Srt (ltc Rg.cmp) m ∧ Ow 35 2 (.slice pm m.length km) m.length (m.flatMap Rg.sp2) qm ∧ H' = [[(b, .cells #[.slice pm m.length km] 28 (0, 0))], qm]) := by
 refine Does.intro Try.func19 rfl rfl (le rfl) (fun B => ?_)
 refine Zs<|Zr<|?_
 refine Run.box rfl (lt rfl) (fun b1 => ?_)
 refine Za Z<|Ze<|Zg<|Zs<|Zr<|Zv (Y.load Z Spans_ts28 (Kn.at 0 Z) Z)<|?_
 refine Run.call [] (l := [.tmp 3]) rfl rfl rfl (lt rfl) (values_p_top (l := l) (p := p) (c := c)) (fun v4 V2 H2 hle hR => ?_)
 obtain ⟨hV, bk, rfl, rfl⟩ := hR; replace hV := hV.symm; subst hV
 refine Run.heapTo (H' := [[(b1, .cells #[.slice p l.length c] 28 (0, 0))], [(bk, .cells #[.slice p l.length c] 28 (0, 0))]]) Z ?_
 refine Run.call [1] (l := [.tmp 4, .func 30]) rfl rfl rfl (lt rfl) (sortedf_p (caps := [.pointer (some ⟨bk, 0, none⟩)]) (caps2 := []) (cm := Rg.cmp) (values_p_it hv W) W (fun xs hx => by rw [hx]; omega) (fun x y => byp_c (q := x) (r := y)) Rg.swo_cmp) (fun v5 V3 H3 hle3 hR3 => ?_)
 obtain ⟨hV, xs, m, qm, hxl, hpm, hsm, hom, rfl⟩ := hR3; replace hV := hV.symm; subst hV
 rw [hxl] at hpm; clear hxl
 obtain ⟨pm, km, rfl⟩ := hom.form
 refine Run.heapTo (H' := [[(b1, .cells #[.slice p l.length c] 28 (0, 0))], qm, [(bk, .cells #[.slice p l.length c] 28 (0, 0))]]) Z<|Run.store (s := [(b1, .cells #[.slice pm m.length km] 28 (0, 0))]) Z Z Spans_sz28 (i := 0) Z Z (le Z) Z Z<|Ze<|Zg<|Zs<|Zr<|Zv (Y.makeFunc (l := []) (l' := [.tmp 1]) Z Z)<|Za Z<|Ze<|Zg<|Zu<|Ex.keep [0, 0]<|?_
 exact Ex.ret1 rfl rfl  ⟨rfl, b1, m, pm, km, qm, rfl, hpm, hsm, hom, rfl⟩

theorem spans_top {V : Vw} {l : List Pr} {p : Option Addr} {c : Nat} (hv : Rd V [] 5 (.slice p l.length c) l.length (l.flatMap Pr.cells)) (hl : l.length ≤ 60) {a : Int} {cl : ByteArray}  : Does Try.prog 10 [.slice p l.length c, .int .u32 a, .string cl] V [] (fun v V' H' => V.le V' ∧ ∃ q, Ow 35 2 v (Pr.spans a cl l).length ((Pr.spans a cl l).flatMap Rg.sp2) q ∧ H' = [q]) := by
 refine Does.introM Try.func10 rfl rfl (le rfl) (fun B => ?_)
 refine Zs<|Zr<|Za Z<|Ze<|Zg<|Zs<|Zr<|Run.nilseg<|Za Z<|Ze<|Zg<|Zs<|Zs<|Zr<|Zm Z<|Zv (Y.lenSl Z Spans_es22)<|?_
 refine Zm Z<|Ze<|Zg<|Zb<|?_
 refine ZL (X := Nat × Option Addr × Nat × Nat × Sg) (fun z0 => V) (fun z0 => [z0.2.2.2.2]) (fun z0 => [(0, .slice p l.length c), (1, .int .u32 a), (2, .string cl), (7, .slice z0.2.1 z0.2.2.1 z0.2.2.2.1), (12, .slice p l.length c), (13, .int .i64 ((l.length : Nat) : Int)), (14, .int .i64 (z0.1 : Int))]) (fun z0 => Ow 35 2 (.slice z0.2.1 z0.2.2.1 z0.2.2.2.1) z0.2.2.1 ((Pr.mine a cl (l.take z0.1)).flatMap Rg.sp2) z0.2.2.2.2 ∧ z0.2.2.1 = (Pr.mine a cl (l.take z0.1)).length ∧ z0.1 ≤ l.length) (fun z0 => l.length - z0.1) (⟨0, none, 0, 0, []⟩ : Nat × Option Addr × Nat × Nat × Sg) ⟨Ow.nil _ _, rfl, Nat.zero_le _⟩ ?_
 rintro ⟨i1, p1, n1, k1, q1⟩ ⟨how, hn, hi⟩
 try dsimp only at how hn hi ⊢
 have hsl := Pr.mine_le a cl (l.take i1)
 rw [List.length_take] at hsl
 refine Zs<|Zr<|Zv (Y.int Z Z Z)<|Ze<|Zg<|Zs<|?_
 rcases Zsplit (decide ((i1 : Int) < ((l.length : Nat) : Int))) with ⟨h1, g1⟩ | ⟨h1, g1⟩ <;> try simp only [kb] at g1
 ·refine Tr.cond_t Z h1<|Zt<|Zg<|Zs<|Zb<|Zs<|Zr<|Zv (Y.idxR i1 Z Z Spans_es22 hv.of_nil W W)<|Zv (Y.ldRA (vs := [.int .i64 ((l.getD i1 Pr.dflt).srv), .int .u32 ((l.getD i1 Pr.dflt).addr), .string ((l.getD i1 Pr.dflt).client), .int .i64 ((l.getD i1 Pr.dflt).from_), .int .i64 ((l.getD i1 Pr.dflt).till)]) rfl Spans_ag34 hv.of_nil rfl WD (fun o ho => flatm_atA Pr.len W Pr.dflt o ho))<|?_
  refine Run.alloc Spans_zo34 (lt rfl) (fun b2 => ?_)
  refine Run.store (s := [(b2, .cells #[.int .i64 ((l.getD i1 Pr.dflt).srv), .int .u32 ((l.getD i1 Pr.dflt).addr), .string ((l.getD i1 Pr.dflt).client), .int .i64 ((l.getD i1 Pr.dflt).from_), .int .i64 ((l.getD i1 Pr.dflt).till)] 34 (0, 0))]) Z Z Spans_sz34 (i := 0) Z Z (le Z) Z Z<|Ze<|Zg<|Zs<|Zr<|Zv (Y.fieldAddr Z Spans_fo34_1)<|Zv (Y.load Z Spans_ts24 (Kn.at 0 Z) Z)<|Zm Z<|Zv (Y.int Z Z Z)<|Zm Z<|?_
  rcases Zsplit (((l.getD i1 Pr.dflt).addr) == a) with ⟨h3, g3⟩ | ⟨h3, g3⟩ <;> try simp only [kb] at g3
  ·refine Zp h3<|Zv (Y.fieldAddr Z Spans_fo34_2)<|Zp h3<|Zv (Y.load Z Spans_ts9 (Kn.at 0 Z) Z)<|Zp h3<|Zm Z<|Zp h3<|Zv (Y.eqStr Z Z)<|Zv (Y.pick_t Z h3 Z)<|Zm Z<|?_
   rcases Zsplit (((l.getD i1 Pr.dflt).client).toList == cl.toList) with ⟨h4, g4⟩ | ⟨h4, g4⟩ <;> try simp only [kb] at g4
   ·refine Zp h4<|Zv (Y.loadAgg Z Spans_ag34 (Kn.at 0 Z) Z)<|Zp h4<|Run.call0 (l := [.tmp 29]) Z Z Z (lt Z) (right_c_h Z)<|Zv (Y.pick_t Z h4 Z)<|Ze<|Zg<|?_
    rcases Zsplit (Pr.right (l.getD i1 Pr.dflt)) with ⟨h5, g5⟩ | ⟨h5, g5⟩ <;> try simp only [kb] at g5
    ·refine Tr.cond_t Z h5<|Zr<|Zm Z<|Zv (Y.fieldAddr Z Spans_fo34_3)<|Zv (Y.load Z Spans_ts3 (Kn.at 0 Z) Z)<|Zv (Y.fieldAddr Z Spans_fo34_4)<|Zv (Y.load Z Spans_ts3 (Kn.at 0 Z) Z)<|Zv (Y.buildA (l := [(0, .tmp 34), (1, .tmp 36)]) Spans_zo35 Spans_ea35 Z Z)<|?_
     refine Run.buildSlice (l := [(0, .tmp 37)]) Spans_es28 Spans_zo35 rfl WD rfl rfl WD (lt rfl) (fun b6 => ?_)
     refine Run.append (n := n1) (m := 1) (xs := (Pr.mine a cl (l.take i1)).flatMap Rg.sp2) (ys := [.int .i64 ((l.getD i1 Pr.dflt).from_), .int .i64 ((l.getD i1 Pr.dflt).till)]) rfl rfl Spans_es28 Spans_zi35 WD (j := 2) rfl how (Src.of_rd Spans_es28 (Rd.one (Kn.at 0 rfl) rfl)) W W rfl (lt rfl) (fun v7 s8 ho9 hf => ?_)
     obtain ⟨p7, c7, rfl⟩ := hf
     replace ho9 := Ow.app1 (f := Rg.sp2) (l := Pr.mine a cl (l.take i1)) (x := (⟨(l.getD i1 Pr.dflt).from_, (l.getD i1 Pr.dflt).till⟩ : Rg)) ho9
     refine Za Z<|Ze<|Zc<|Zg<|Zr<|Zv (Y.add Z Z W)<|Zm Z<|Ze<|Ex.keep [2]<|?_
     have er := Pr.mine_yes W (show Pr.ec a cl (l.getD i1 Pr.dflt) = true by unfold Pr.ec; simp_all)
     exact ZR (⟨i1 + 1, p7, (n1 + 1), c7, s8⟩ : Nat × Option Addr × Nat × Nat × Sg) ⟨by rw [er]; exact ho9, by rw [er]; rw [List.length_append, List.length_singleton]; dsimp only; omega, by omega⟩ (by dsimp only; omega)
    ·refine Tr.cond_f Z h5<|Zt<|Zc<|Zg<|Zr<|Zv (Y.add Z Z W)<|Zm Z<|Ze<|Ex.keep [1]<|?_
     have er := Pr.mine_no W (show Pr.ec a cl (l.getD i1 Pr.dflt) = false by unfold Pr.ec; simp_all)
     exact ZR (⟨i1 + 1, p1, n1, k1, q1⟩ : Nat × Option Addr × Nat × Nat × Sg) ⟨by rw [er]; exact how, by rw [er]; exact hn, by omega⟩ (by dsimp only; omega)
   ·refine Zo h4 Z<|Zo h4 Z<|Zv (Y.pick_f Z h4 Z)<|Ze<|Zg<|Tr.cond_f Z Z<|Zt<|Zc<|Zg<|Zr<|Zv (Y.add Z Z W)<|Zm Z<|Ze<|Ex.keep [1]<|?_
    have er := Pr.mine_no W (show Pr.ec a cl (l.getD i1 Pr.dflt) = false by unfold Pr.ec; simp_all)
    exact ZR (⟨i1 + 1, p1, n1, k1, q1⟩ : Nat × Option Addr × Nat × Nat × Sg) ⟨by rw [er]; exact how, by rw [er]; exact hn, by omega⟩ (by dsimp only; omega)
  ·refine Zo h3 Z<|Zo h3 Z<|Zo h3 Z<|Zo h3 Z<|Zv (Y.pick_f Z h3 Z)<|Zm Z<|Zo Z Z<|Zo Z Z<|Zv (Y.pick_f Z Z Z)<|Ze<|Zg<|Tr.cond_f Z Z<|Zt<|Zc<|Zg<|Zr<|?_
   refine Zv (Y.add Z Z W)<|Zm Z<|Ze<|Ex.keep [1]<|?_
   have er := Pr.mine_no W (show Pr.ec a cl (l.getD i1 Pr.dflt) = false by unfold Pr.ec; simp_all)
   exact ZR (⟨i1 + 1, p1, n1, k1, q1⟩ : Nat × Option Addr × Nat × Nat × Sg) ⟨by rw [er]; exact how, by rw [er]; exact hn, by omega⟩ (by dsimp only; omega)
 ·refine Tr.cond_f Z h1<|Zx<|Zy<|Zy<|Zi<|Zg<|Zs<|Zr<|?_
  obtain rfl : i1 = l.length := by omega
  rw [List.take_length] at how hn hsl
  subst hn
  refine Run.keepTo (H' := [q1]) [0] Z ?_
  refine Run.show (fun V10 hleV10 hshV10 => ?_)
  have hmm := how.shows _ hshV10
  replace hv := hv.le hleV10
  have hVle := hleV10
  refine Run.alloc Spans_zo28 (lt rfl) (fun b11 => ?_)
  refine Ze<|Zg<|Zs<|Zs<|Zr<|Run.nilseg<|Zm Z<|?_
  refine Run.call [] (l := [.tmp 41]) rfl rfl rfl (lt rfl) (spans_c (l := Pr.mine a cl l) hmm W) (fun v5 V5 H5 hle5 hR5 => ?_)
  obtain ⟨hV, bs, m, pm, km, qm, rfl, hpm, hsm, hom, rfl⟩ := hR5; replace hV := hV.symm; subst hV
  have hml := hpm.length_eq
  have htm := (Pr.mine_tm a cl l).perm hpm
  have hjm : Rg.join m = Pr.spans a cl l := Rg.join_any (Pr.mine_tm a cl l).odd hpm (Rg.lows_of hsm)
  have hjl := Pr.spans_len a cl l
  refine Run.heapTo (H' := [[], [(b11, .cells #[.slice none 0 0] 28 (0, 0))], [(bs, .cells #[.slice pm m.length km] 28 (0, 0))], qm]) Z<|Run.heapTo (H' := [[], [(b11, .cells #[.slice none 0 0] 28 (0, 0))], [(bs, .cells #[.slice pm m.length km] 28 (0, 0))], qm]) Z<|Ze<|Zg<|Zb<|?_
  refine Tr.range1 [] [[(bs, .cells #[.slice pm m.length km] 28 (0, 0))], qm] [[], [(b11, .cells #[.slice none 0 0] 28 (0, 0))]] ((pull_perm [2, 2, 0, 0] [[], [(b11, .cells #[.slice none 0 0] 28 (0, 0))], [(bs, .cells #[.slice pm m.length km] 28 (0, 0))], qm]).symm) rfl (spans2_it hom htm W) (fun xs (H : Hp) => ∃ p1 n1 k1 q1, H = [q1, [(b11, .cells #[.slice p1 n1 k1] 28 (0, 0))]] ∧ Ow 35 2 (.slice p1 n1 k1) n1 (xs.flatMap Rg.sp2) q1 ∧ n1 = xs.length) (fun c xs (H : Hp) => False) ⟨none, 0, 0, [], rfl, Ow.nil _ _, rfl⟩ (fun lp13 rr14 xs15 x16 H hLI hf hJ hN => ?_) (fun D12 xs15 H hS hJ => ?_) (fun D12 c xs15 H hS hJ => ?_)
  ·obtain ⟨p2, n2, k2, q2, rfl, how2, hn2⟩ := hJ
   refine YDoes.intro hLI rfl (env_par1 (lt rfl)) (fun Blp13 => ?_)
   refine TrR.region Z ?_
   refine Run.alloc Spans_zo35 (lt rfl) (fun b17 => ?_)
   refine Run.store (s := [(b17, .cells #[.int .i64 x16.low, .int .i64 x16.high] 35 (0, 0))]) Z Z Spans_sz35 (i := 0) Z Z (le Z) Z Z<|Ze<|Ex.keep [1, 0, 0, 0]<|Ex.begin hf.1<|TrR.block<|TrR.region Z<|Zv (Y.load Z Spans_ts28 (Kn.at 3 Z) Z)<|Zv (Y.loadAgg Z Spans_ag35 (Kn.at 1 Z) Z)<|?_
   refine Run.buildSlice (l := [(0, .tmp 45)]) Spans_es28 Spans_zo35 rfl WD rfl rfl WD (lt rfl) (fun b18 => ?_)
   refine Run.append (n := n2) (m := 1) (xs := (xs15).flatMap Rg.sp2) (ys := [.int .i64 x16.low, .int .i64 x16.high]) rfl rfl Spans_es28 Spans_zi35 WD (j := 3) rfl how2 (Src.of_rd Spans_es28 (Rd.one (Kn.at 0 rfl) rfl)) W W rfl (lt rfl) (fun v19 s20 ho21 hf => ?_)
   obtain ⟨p19, c19, rfl⟩ := hf
   replace ho21 := Ow.app1 (f := Rg.sp2) (l := xs15) (x := (⟨x16.low, x16.high⟩ : Rg)) ho21
   refine Run.store (s := [(b11, .cells #[.slice p19 (n2 + 1) c19] 28 (0, 0))]) Z Z Spans_sz28 (i := 4) Z Z (le Z) Z Z<|Ze<|Zc<|Ex.keepTo (H' := [rec_ lp13 { rr14 with state := .busy }, s20, [(b11, .cells #[.slice p19 (n2 + 1) c19] 28 (0, 0))]]) [1, 2, 2] Z<|?_
   exact Ex.next ⟨rfl, .inl ⟨rfl, _, _, hLI.with _ _, ⟨rfl, rfl⟩, rfl, ⟨_, _, _, _, rfl, ho21, by rw [List.length_append, List.length_singleton]; omega⟩⟩⟩
  ·obtain ⟨p2, n2, k2, q2, rfl, how2, hn2⟩ := hJ
   subst hn2
   have hxs : xs15 = Pr.spans a cl l := hS.trans hjm
   subst hxs
   refine Zc<|Zg<|Zs<|Zr<|Zv (Y.load Z Spans_ts28 (Kn.at 4 Z) Z)<|Za Z<|Ze<|Zg<|Zu<|Ex.unmark (.inl Z)<|Ex.bodyM (.inl Z)<|Ex.keep [2]<|?_
   exact Ex.ret1 rfl rfl  ⟨hVle, q2, how2, rfl⟩
  ·exact hJ.elim

theorem spans_o {V : Vw} {l : List Pr} {v : Value} (hv : Rd V [] 5 v l.length (l.flatMap Pr.cells)) (hl : l.length ≤ 60) {a : Int} {cl : ByteArray} : Does Try.prog 10 [v, .int .u32 a, .string cl] V [] (fun v V' H' => V' = V ∧ ∃ q, Ow 35 2 v (Pr.spans a cl l).length ((Pr.spans a cl l).flatMap Rg.sp2) q ∧ H' = [q]) := by
  obtain ⟨p, c, rfl, _⟩ := hv.form
  exact (spans_top hv hl).forget fun v V' H' _ h => ⟨rfl, h.2⟩
end Go.Proofs.Ytdmelfpdillddaa
