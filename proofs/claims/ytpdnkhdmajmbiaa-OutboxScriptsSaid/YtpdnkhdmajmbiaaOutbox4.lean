/- Boxes of messages: what is told at a moment.
Conditions: as each theorem names them. -/
import Derived.Test.YtpdnkhdmajmbiaaProg
import Derived.Test.YtpdnkhdmajmbiaaBA
import Derived.Test.YtpdnkhdmajmbiaaOutbox
import Derived.Test.YtpdnkhdmajmbiaaSeqsn
import Derived.Test.YtpdnkhdmajmbiaaKE
import Derived.Test.YtpdnkhdmajmbiaaLA
import Derived.Test.YtpdnkhdmajmbiaaZG
set_option linter.unusedSimpArgs false
set_option linter.unusedVariables false
set_option maxRecDepth 4000
namespace Go.Proofs.Ytpdnkhdmajmbiaa
open Go Go.K
attribute [local irreducible] Code.wp wpList Calls wpQuiet
theorem Outbox4_ts24 : scal Try.prog 24 = true := by kernel_rfl
theorem Outbox4_fo99_0 : fieldOff Try.prog 99 0 = some 0 := by kernel_rfl
theorem Outbox4_ts96 : scal Try.prog 96 = true := by kernel_rfl
theorem Outbox4_es150 : elemS Try.prog 150 = some (3, 1) := by kernel_rfl
theorem Outbox4_ts3 : scal Try.prog 3 = true := by kernel_rfl
theorem Outbox4_mt96 : mapT Try.prog 96 = some (.i64, 3, 102) := by kernel_rfl
theorem Outbox4_zo102 : zeroOf Try.prog 102 = some (.pointer none) := by kernel_rfl
theorem Outbox4_mo : Try.prog.follows .mixedOrders = true := by kernel_rfl
theorem Outbox4_fo105_1 : fieldOff Try.prog 105 1 = some 11 := by kernel_rfl

theorem due_top {V : Vw} {bx : Nat} {now : Int}  : Does Try.prog 54 [.pointer (some ⟨bx, 0, none⟩), .int .i64 now] V [] (fun v V' H' => V' = V ∧ ∃ c1 c2, v = .func (.func 83) #[] [.pointer (some ⟨c1, 0, none⟩), .pointer (some ⟨c2, 0, none⟩)].toArray ∧ H' = [[(c1, .cells #[.pointer (some ⟨bx, 0, none⟩)] 24 (0, 0))], [(c2, .cells #[.int .i64 now] 3 (0, 0))]]) := by
 refine Does.intro Try.func54 rfl rfl (le rfl) (fun B => ?_)
 refine Zs<|Zr<|?_
 refine Run.box rfl (lt rfl) (fun b1 => ?_)
 refine Run.box rfl (lt rfl) (fun b2 => ?_)
 refine Za Z<|Ze<|Zg<|Zs<|Zr<|Zv (Y.makeFunc (l := []) (l' := [.tmp 2, .tmp 3]) Z Z)<|Za Z<|Ze<|Zg<|Zu<|Ex.keep [1, 0]<|?_
 exact Ex.ret1 rfl rfl  ⟨rfl, b1, b2, rfl, rfl⟩

theorem due_1 {V : Vw} {o : Ob} {bx bm c1 c2 clock : Nat} {es : Array MapEntry} {vf vw : Value} {now : Int} (hmi : MapIs .i64 o.mout es clock) (hi : o.Inv) (hnow : 0 ≤ now ∧ now ≤ 1099511627776) (hsm : o.outs.length ≤ 1000000000) {N : Nat} (hNl : o.outs.length ≤ N) {lp : Nat} {J Jx : List Out → Hp → Prop} {Hy : Hp} (hy : ∀ xs x H, x ∈ o.outs → J xs H → xs.length < N → YDoes Try.prog lp [.pointer (some ⟨x.blk, 0, none⟩)] V (H ++ [Ob.sgl 105 (Ob.marks now o xs)]) (fun u V' H' => V' = V ∧ ∃ H2, H' = H2 ++ [Ob.sgl 105 (Ob.marks now o (xs ++ [x]))] ∧ (u = .bool true ∧ J (xs ++ [x]) H2 ∨ u = .bool false ∧ Jx (xs ++ [x]) H2))) (h0 : J [] Hy)  : Does Try.prog 83 [yv lp, .pointer (some ⟨c1, 0, none⟩), .pointer (some ⟨c2, 0, none⟩)] V ([[(c1, .cells #[.pointer (some ⟨bx, 0, none⟩)] 24 (0, 0))], [(c2, .cells #[.int .i64 now] 3 (0, 0))], [(bx, .cells #[.map (some bm), vf, vw, .int .i64 o.last] 99 (0, 0))], [(bm, .map es clock)]] ++ (Hy ++ [Ob.sgl 105 (Ob.marks now o [])])) (fun _ V' H' => V' = V ∧ ∃ xs Hy', H' = [[(c1, .cells #[.pointer (some ⟨bx, 0, none⟩)] 24 (0, 0))], [(c2, .cells #[.int .i64 now] 3 (0, 0))], [(bx, .cells #[.map (some bm), vf, vw, .int .i64 o.last] 99 (0, 0))], [(bm, .map es clock)]] ++ (Hy' ++ [Ob.sgl 105 (Ob.marks now o xs)]) ∧ (xs = o.outs.filter (Ob.due now) ∧ J xs Hy' ∨ True ∧ Jx xs Hy')) := by
 have hmo : Om .i64 (.map (some bm)) o.mout [(bm, .map es clock)] := ⟨bm, es, clock, rfl, rfl, hmi⟩
 have hol := Ob.outs_len hi
 have hlb := hi.l1
 have hml := Ob.mout_len o
 have hxl := Ob.xids_len o
 refine Does.intro Try.func83 rfl rfl (le rfl) (fun B => ?_)
 refine Zs<|Zr<|Zv (Y.load Z Outbox4_ts24 (Kn.at 0 Z) Z)<|Zv (Y.nilCheck Z)<|Zv (Y.fieldAddr Z Outbox4_fo99_0)<|Zv (Y.load Z Outbox4_ts96 (Kn.at 2 Z) Z)<|?_
 refine Run.call [] (l := [.tmp 10]) rfl rfl rfl (lt rfl) keysn_top (fun v3 V2 H2 hle hR => ?_)
 obtain ⟨hV, bk, rfl, rfl⟩ := hR; replace hV := hV.symm; subst hV
 refine Run.perm (H' := [(bk, .cells #[.map (some bm)] 96 (0, 0))] :: [(c1, .cells #[.pointer (some ⟨bx, 0, none⟩)] 24 (0, 0))] :: [(c2, .cells #[.int .i64 now] 3 (0, 0))] :: [(bx, .cells #[.map (some bm), vf, vw, .int .i64 o.last] 99 (0, 0))] :: [(bm, .map es clock)] :: (Hy ++ [Ob.sgl 105 (Ob.marks now o [])])) (List.perm_append_comm (l₁ := ([[(bk, .cells #[.map (some bm)] 96 (0, 0))]] : Hp))) ?_
 refine Run.call [0, 3] (l := [.tmp 11]) rfl rfl rfl (lt rfl) (sorted_n (caps := [.pointer (some ⟨bk, 0, none⟩)]) (keysn_it hmi) W (fun xs hp => by have := hp.length_eq; rw [List.length_map] at this; omega)) (fun v4 V3 H3 hle3 hR3 => ?_)
 obtain ⟨hV, xs9, q9, hS9, ho9, rfl⟩ := hR3; replace hV := hV.symm; subst hV
 rw [Ob.mout_keys] at hS9
 rw [show isort xs9 = o.xids from up_unique (isort_up _) (Ob.keys_up hi) ((isort_perm xs9).trans hS9), show xs9.length = o.outs.length from hS9.length_eq.trans (Ob.xids_len o)] at ho9
 obtain ⟨p9, k9, rfl⟩ := ho9.form
 refine Run.perm (H' := q9 :: [(bk, .cells #[.map (some bm)] 96 (0, 0))] :: [(c1, .cells #[.pointer (some ⟨bx, 0, none⟩)] 24 (0, 0))] :: [(c2, .cells #[.int .i64 now] 3 (0, 0))] :: [(bx, .cells #[.map (some bm), vf, vw, .int .i64 o.last] 99 (0, 0))] :: [(bm, .map es clock)] :: (Hy ++ [Ob.sgl 105 (Ob.marks now o [])])) (perm_q (B := ([q9, [(bk, .cells #[.map (some bm)] 96 (0, 0))]] : Hp)) (A := ([[(c1, .cells #[.pointer (some ⟨bx, 0, none⟩)] 24 (0, 0))], [(c2, .cells #[.int .i64 now] 3 (0, 0))], [(bx, .cells #[.map (some bm), vf, vw, .int .i64 o.last] 99 (0, 0))]] : Hp)) (D := ([[(bm, .map es clock)]] : Hp))) ?_
 refine Zv (Y.lenSl Z Outbox4_es150)<|Zm Z<|Ze<|Zg<|Zb<|?_
 refine ZL (X := Nat × Hp) (fun z0 => V) (fun z0 => q9 :: [(bk, .cells #[.map (some bm)] 96 (0, 0))] :: [(c1, .cells #[.pointer (some ⟨bx, 0, none⟩)] 24 (0, 0))] :: [(c2, .cells #[.int .i64 now] 3 (0, 0))] :: [(bx, .cells #[.map (some bm), vf, vw, .int .i64 o.last] 99 (0, 0))] :: [(bm, .map es clock)] :: (z0.2 ++ [Ob.sgl 105 (Ob.marks now o (Ob.upto now o z0.1))])) (fun z0 => [(0, yv lp), (1, .pointer (some ⟨c1, 0, none⟩)), (2, .pointer (some ⟨c2, 0, none⟩)), (12, .slice p9 o.outs.length k9), (13, .int .i64 ((o.outs.length : Nat) : Int)), (14, .int .i64 (z0.1 : Int))]) (fun z0 => z0.1 ≤ o.outs.length ∧ J (Ob.upto now o z0.1) z0.2) (fun z0 => o.outs.length - z0.1) (⟨0, Hy⟩ : Nat × Hp) ⟨Nat.zero_le _, h0⟩ ?_
 rintro ⟨i1, Hy1⟩ ⟨hil, hJ⟩
 try dsimp only at hil hJ ⊢
 refine Zs<|Zr<|Zv (Y.int Z Z Z)<|Ze<|Zg<|Zs<|?_
 rcases Zsplit (decide ((i1 : Int) < ((o.outs.length : Nat) : Int))) with ⟨h1, g1⟩ | ⟨h1, g1⟩ <;> try simp only [kb] at g1
 ·refine Tr.cond_t Z h1<|Zt<|Zg<|Zs<|Zb<|Zs<|Zr<|Zv (Y.idxR i1 Z Z Outbox4_es150 (ho9.rd 0 rfl) W W)<|Zv (Y.ldR Z Outbox4_ts3 (ho9.rd 0 rfl) (flatm_at0 nI_enc.len W 0 WD rfl))<|Za Z<|Ze<|Zg<|Zs<|Zr<|Zv (Y.load Z Outbox4_ts24 (Kn.at 2 Z) Z)<|Zv (Y.nilCheck Z)<|?_
  refine Zv (Y.fieldAddr Z Outbox4_fo99_0)<|Zv (Y.load Z Outbox4_ts96 (Kn.at 4 Z) Z)<|Zm Z<|?_
  have hxs := hi.st _ (Ob.getD_mem (l := o.outs) (i := i1) W)
  refine Zv (Y.lookup (r := .pointer (some ⟨(o.outs.getD i1 Ob.odflt).blk, 0, none⟩)) rfl rfl Outbox4_mt96 Outbox4_zo102 hmo (j := 5) rfl (by rw [Ob.xid_at W, Ob.mout_get, Ob.find_at hi W]; rfl))<|Za Z<|Ze<|Zg<|Zs<|Tr.tailI 17 Outbox4_mo rfl WK<|ZM Z<|ZV (Y.nilCheck Z)<|ZV (Y.fieldAddr Z Outbox4_fo105_1)<|ZV (Y.load Z Outbox4_ts3 (.inr (List.mem_flatten.2 ⟨_, by simp, Ob.kn_at (T := 105) (now := now) hi (i := i1) W⟩)) rfl)<|?_
  refine ZV (Y.int Z Z Z)<|ZM Z<|?_
  rcases Zsplit (((o.outs.getD i1 Ob.odflt).sent) == (-1)) with ⟨h2, g2⟩ | ⟨h2, g2⟩ <;> try simp only [kb] at g2
  ·refine ZO h2 Z<|ZO h2 Z<|ZO h2 Z<|ZO h2 Z<|ZO h2 Z<|ZO h2 Z<|ZO h2 Z<|ZV (Y.pick_t Z h2 Z)<|ZM Z<|ZP Z<|ZM Z<|ZP Z<|ZM Z<|RunQ.nil_runI<|RunI.on Z Z Z Z<|?_
   have hdue : Ob.due now (o.outs.getD i1 Ob.odflt) = true := by unfold Ob.due; simp only [Bool.or_eq_true, decide_eq_true_eq]; first | (left; omega) | (right; omega)
   have hup := Ob.upto_yes (now := now) (o := o) (i := i1) W hdue
   refine RunI.callY [q9, [(bk, .cells #[.map (some bm)] 96 (0, 0))], [(c1, .cells #[.pointer (some ⟨bx, 0, none⟩)] 24 (0, 0))], [(c2, .cells #[.int .i64 now] 3 (0, 0))], [(bx, .cells #[.map (some bm), vf, vw, .int .i64 o.last] 99 (0, 0))], [(bm, .map es clock)]] (Hy1 ++ [Ob.sgl 105 (Ob.marks now o (Ob.upto now o i1))]) rfl rfl rfl (lt rfl) (hy (Ob.upto now o i1) (o.outs.getD i1 Ob.odflt) _ (Ob.getD_mem W) hJ (by have := Ob.upto_len now o i1; omega)) (fun u V2 Hr hle hR => ?_)
   rw [← hup] at hR
   obtain ⟨hV, Hy2, rfl, ⟨rfl, hJ2⟩ | ⟨rfl, hJ2⟩⟩ := hR <;> (replace hV := hV.symm; subst hV)
   ·refine RunI.on Z Z Z Z<|RunI.op Z<|Zv (Y.not Z)<|Ze<|Ex.goI<|RunI.op Z<|Zv (Y.pick_t Z Z Z)<|Ze<|Ex.goI<|RunI.nil<|Zg<|Tr.cond_f Z Z<|Zt<|Zc<|Zg<|Zr<|?_
    refine Zv (Y.add Z Z W)<|Zm Z<|Ze<|?_
    exact ZR (⟨i1 + 1, Hy2⟩ : Nat × Hp) ⟨by omega, hJ2⟩ (by dsimp only; omega)
   ·refine RunI.on Z Z Z Z<|RunI.op Z<|Zv (Y.not Z)<|Ze<|Ex.goI<|RunI.op Z<|Zv (Y.pick_t Z Z Z)<|Ze<|Ex.goI<|RunI.nil<|Zg<|Tr.cond_t Z Z<|Zu<|Zk<|Zn<|Zn<|?_
    refine Zk<|Ex.drop<|Ex.drop<|?_
    exact Ex.ret0 rfl ⟨rfl, (Ob.upto now o (i1 + 1)), Hy2, rfl, .inr ⟨trivial, hJ2⟩⟩
  ·refine ZP h2<|ZV (Y.load Z Outbox4_ts3 (Kn.at 3 Z) Z)<|ZP h2<|ZM Z<|ZP h2<|ZV (Y.nilCheck Z)<|ZP h2<|ZV (Y.fieldAddr Z Outbox4_fo105_1)<|ZP h2<|ZV (Y.load Z Outbox4_ts3 (.inr (List.mem_flatten.2 ⟨_, by simp, Ob.kn_at (T := 105) (now := now) hi (i := i1) W⟩)) rfl)<|ZP h2<|ZV (Y.sub Z Z W)<|ZP h2<|ZV (Y.int Z Z Z)<|ZV (Y.pick_f Z h2 Z)<|ZM Z<|?_
   rcases Zsplit (decide ((now - ((o.outs.getD i1 Ob.odflt).sent)) ≥ 3)) with ⟨h3, g3⟩ | ⟨h3, g3⟩ <;> try simp only [kb] at g3
   ·refine ZP h3<|ZM Z<|ZP h3<|ZM Z<|RunQ.nil_runI<|RunI.on Z Z Z h3<|?_
    have hdue : Ob.due now (o.outs.getD i1 Ob.odflt) = true := by unfold Ob.due; simp only [Bool.or_eq_true, decide_eq_true_eq]; first | (left; omega) | (right; omega)
    have hup := Ob.upto_yes (now := now) (o := o) (i := i1) W hdue
    refine RunI.callY [q9, [(bk, .cells #[.map (some bm)] 96 (0, 0))], [(c1, .cells #[.pointer (some ⟨bx, 0, none⟩)] 24 (0, 0))], [(c2, .cells #[.int .i64 now] 3 (0, 0))], [(bx, .cells #[.map (some bm), vf, vw, .int .i64 o.last] 99 (0, 0))], [(bm, .map es clock)]] (Hy1 ++ [Ob.sgl 105 (Ob.marks now o (Ob.upto now o i1))]) rfl rfl rfl (lt rfl) (hy (Ob.upto now o i1) (o.outs.getD i1 Ob.odflt) _ (Ob.getD_mem W) hJ (by have := Ob.upto_len now o i1; omega)) (fun u V2 Hr hle hR => ?_)
    rw [← hup] at hR
    obtain ⟨hV, Hy2, rfl, ⟨rfl, hJ2⟩ | ⟨rfl, hJ2⟩⟩ := hR <;> (replace hV := hV.symm; subst hV)
    ·refine RunI.on Z Z Z h3<|RunI.op Z<|Zv (Y.not Z)<|Ze<|Ex.goI<|RunI.op Z<|Zv (Y.pick_t Z h3 Z)<|Ze<|Ex.goI<|RunI.nil<|Zg<|Tr.cond_f Z Z<|Zt<|Zc<|Zg<|Zr<|?_
     refine Zv (Y.add Z Z W)<|Zm Z<|Ze<|?_
     exact ZR (⟨i1 + 1, Hy2⟩ : Nat × Hp) ⟨by omega, hJ2⟩ (by dsimp only; omega)
    ·refine RunI.on Z Z Z h3<|RunI.op Z<|Zv (Y.not Z)<|Ze<|Ex.goI<|RunI.op Z<|Zv (Y.pick_t Z h3 Z)<|Ze<|Ex.goI<|RunI.nil<|Zg<|Tr.cond_t Z Z<|Zu<|Zk<|Zn<|Zn<|?_
     refine Zk<|Ex.drop<|Ex.drop<|?_
     exact Ex.ret0 rfl ⟨rfl, (Ob.upto now o (i1 + 1)), Hy2, rfl, .inr ⟨trivial, hJ2⟩⟩
   ·refine ZO h3 Z<|ZO h3 Z<|RunQ.nil_runI<|RunI.off Z Z Z h3 Z (lt Z)<|RunI.off Z Z Z h3 Z (lt Z)<|RunI.op Z<|Zv (Y.pick_f Z h3 Z)<|Ze<|Ex.goI<|RunI.nil<|Zg<|Tr.cond_f Z Z<|Zt<|Zc<|Zg<|Zr<|?_
    refine Zv (Y.add Z Z W)<|Zm Z<|Ze<|?_
    have hdue : Ob.due now (o.outs.getD i1 Ob.odflt) = false := by unfold Ob.due; simp only [Bool.or_eq_false_iff, decide_eq_false_iff_not]; constructor <;> omega
    rw [← Ob.upto_no (now := now) (o := o) (i := i1) W hdue]
    exact ZR (⟨i1 + 1, Hy1⟩ : Nat × Hp) ⟨by omega, by rw [Ob.upto_no W hdue]; exact hJ⟩ (by dsimp only; omega)
 ·refine Tr.cond_f Z h1<|Zx<|Zy<|Zy<|Zi<|Ex.drop<|Ex.drop<|?_
  exact Ex.end0 rfl ⟨rfl, (Ob.upto now o i1), Hy1, rfl, .inl ⟨by rw [show i1 = o.outs.length by omega]; exact Ob.upto_all now o, hJ⟩⟩

theorem due_it {V : Vw} {o : Ob} {bx bm c1 c2 clock : Nat} {es : Array MapEntry} {vf vw : Value} {now : Int} (hmi : MapIs .i64 o.mout es clock) (hi : o.Inv) (hnow : 0 ≤ now ∧ now ≤ 1099511627776) (hsm : o.outs.length ≤ 1000000000) : IterB Try.prog 83 [.pointer (some ⟨c1, 0, none⟩), .pointer (some ⟨c2, 0, none⟩)] V [[(c1, .cells #[.pointer (some ⟨bx, 0, none⟩)] 24 (0, 0))], [(c2, .cells #[.int .i64 now] 3 (0, 0))], [(bx, .cells #[.map (some bm), vf, vw, .int .i64 o.last] 99 (0, 0))], [(bm, .map es clock)]] (fun xs => [Ob.sgl 105 (Ob.marks now o xs)]) (fun x : Out => [.pointer (some ⟨x.blk, 0, none⟩)]) (fun x => x ∈ o.outs) (fun xs => xs = o.outs.filter (Ob.due now)) (fun _ => True) o.outs.length := fun lp J Jx hy Hy h0 => due_1 hmi hi hnow hsm (Nat.le_refl _) hy h0
end Go.Proofs.Ytpdnkhdmajmbiaa
