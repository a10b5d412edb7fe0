/- Boxes of messages: Tick.
Conditions: as each theorem names them. -/
import Derived.Test.YtpdnkhdmajmbiaaProg
import Derived.Test.YtpdnkhdmajmbiaaOutbox4
import Derived.Test.YtpdnkhdmajmbiaaKC
import Derived.Test.YtpdnkhdmajmbiaaKF
import Derived.Test.YtpdnkhdmajmbiaaZG
set_option linter.unusedSimpArgs false
set_option linter.unusedVariables false
set_option maxRecDepth 4000
namespace Go.Proofs.Ytpdnkhdmajmbiaa
open Go Go.K
attribute [local irreducible] Code.wp wpList Calls wpQuiet
theorem Outbox5_ts3 : scal Try.prog 3 = true := by kernel_rfl
theorem Outbox5_zo39 : zeroOf Try.prog 39 = some (.slice none 0 0) := by kernel_rfl
theorem Outbox5_fo105_1 : fieldOff Try.prog 105 1 = some 11 := by kernel_rfl
theorem Outbox5_sz3 : sizeT Try.prog 3 = some 1 := by kernel_rfl
theorem Outbox5_mo : Try.prog.follows .mixedOrders = true := by kernel_rfl
theorem Outbox5_ts39 : scal Try.prog 39 = true := by kernel_rfl
theorem Outbox5_fo105_0 : fieldOff Try.prog 105 0 = some 0 := by kernel_rfl
theorem Outbox5_ag35 : aggsz Try.prog 35 = some 11 := by kernel_rfl
theorem Outbox5_es39 : elemS Try.prog 39 = some (35, 11) := by kernel_rfl
theorem Outbox5_zo35 : zeroOf Try.prog 35 = some (.agg #[.int .i64 0, .int .i64 0, .int .i64 0, .int .i64 0, .int .i64 0, .int .u32 0, .int .i64 0, .string ⟨#[]⟩, .int .i64 0, .int .i64 0, .bool false]) := by kernel_rfl
theorem Outbox5_zi35 : zeroInfo Try.prog 35 = some (11, 96, .agg #[.int .i64 0, .int .i64 0, .int .i64 0, .int .i64 0, .int .i64 0, .int .u32 0, .int .i64 0, .string ⟨#[]⟩, .int .i64 0, .int .i64 0, .bool false]) := by kernel_rfl
theorem Outbox5_sz39 : sizeT Try.prog 39 = some 1 := by kernel_rfl

theorem tick_m {V : Vw} {o : Ob} {bx bm clock : Nat} {es : Array MapEntry} {vf vw : Value} {sf sw : Sg} {now : Int} (hmi : MapIs .i64 o.mout es clock) (hmf : Om .u32 vf o.mf sf) (hmw : Om .u32 vw o.mw sw) (hi : o.Inv) (hsm : o.outs.length ≤ 1000000000)  : Does Try.prog 18 [.pointer (some ⟨bx, 0, none⟩), .int .i64 now] V [[(bx, .cells #[.map (some bm), vf, vw, .int .i64 o.last] 99 (0, 0))], [(bm, .map es clock)], sf, sw, Ob.sg 105 o] (fun v V' H' => V' = V ∧ ∃ p c q H2, v = .tuple #[.slice p (o.tickE now).1.length c, .int .i64 (o.tickE now).2.1] ∧ Ow 35 11 (.slice p (o.tickE now).1.length c) (o.tickE now).1.length ((o.tickE now).1.flatMap Msg.cl) q ∧ H' = q :: H2 ∧ Ob.Is 105 99 (o.tickE now).2.2 bx H2) := by
 have hol := Ob.outs_len hi
 have hlb := hi.l1
 refine Does.introM Try.func18 rfl rfl (le rfl) (fun B => ?_)
 refine Zs<|Zr<|?_
 refine Run.box rfl (lt rfl) (fun b1 => ?_)
 refine Za Z<|Za Z<|Ze<|Zg<|Zs<|Zs<|Zr<|Zv (Y.load Z Outbox5_ts3 (Kn.at 0 Z) Z)<|Zv (Y.int Z Z Z)<|Zm Z<|?_
 rcases Zsplit (decide (now < 0)) with ⟨h2, g2⟩ | ⟨h2, g2⟩ <;> try simp only [kb] at g2
 ·refine Zo h2 Z<|Zo h2 Z<|Zv (Y.pick_t Z h2 Z)<|Ze<|Zg<|Tr.cond_t Z Z<|Zs<|Zr<|Za Z<|Za Z<|Ze<|Zg<|Zu<|Zn<|Ex.bodyM (.inl Z)<|Ex.keepTo (H' := [[(bx, .cells #[.map (some bm), vf, vw, .int .i64 o.last] 99 (0, 0))], [(bm, .map es clock)], sf, sw, Ob.sg 105 o]) [1, 1, 1, 1, 1] Z<|?_
  refine Ex.recut (H' := [] :: [[(bx, .cells #[.map (some bm), vf, vw, .int .i64 o.last] 99 (0, 0))], [(bm, .map es clock)], sf, sw, Ob.sg 105 o]) (List.Perm.of_eq (by simp)) ?_
  exact Ex.ret2 rfl rfl rfl  ⟨rfl, none, 0, [], _, by rw [Ob.tickE_no W]; rfl, by rw [Ob.tickE_no W]; exact Ow.nil _ _, rfl, by rw [Ob.tickE_no W]; exact ⟨_, _, _, _, _, _, rfl, ⟨bm, es, clock, rfl, rfl, hmi⟩, hmf, hmw⟩⟩
 ·refine Zp h2<|Zv (Y.load Z Outbox5_ts3 (Kn.at 0 Z) Z)<|Zp h2<|Zv (Y.int Z Z Z)<|Zv (Y.pick_f Z h2 Z)<|Ze<|Zg<|?_
  rcases Zsplit (decide (now > 1099511627776)) with ⟨h3, g3⟩ | ⟨h3, g3⟩ <;> try simp only [kb] at g3
  ·refine Tr.cond_t Z h3<|Zs<|Zr<|Za Z<|Za Z<|Ze<|Zg<|Zu<|Zn<|Ex.bodyM (.inl Z)<|Ex.keepTo (H' := [[(bx, .cells #[.map (some bm), vf, vw, .int .i64 o.last] 99 (0, 0))], [(bm, .map es clock)], sf, sw, Ob.sg 105 o]) [1, 1, 1, 1, 1] Z<|Ex.recut (H' := [] :: [[(bx, .cells #[.map (some bm), vf, vw, .int .i64 o.last] 99 (0, 0))], [(bm, .map es clock)], sf, sw, Ob.sg 105 o]) (List.Perm.of_eq (by simp))<|?_
   exact Ex.ret2 rfl rfl rfl  ⟨rfl, none, 0, [], _, by rw [Ob.tickE_no W]; rfl, by rw [Ob.tickE_no W]; exact Ow.nil _ _, rfl, by rw [Ob.tickE_no W]; exact ⟨_, _, _, _, _, _, rfl, ⟨bm, es, clock, rfl, rfl, hmi⟩, hmf, hmw⟩⟩
  ·refine Tr.cond_f Z h3<|Zt<|Zg<|Zs<|Zr<|?_
   refine Run.alloc Outbox5_zo39 (lt rfl) (fun b4 => ?_)
   refine Ze<|Zg<|Zs<|Zs<|Zr<|Run.nilseg<|Zm Z<|Zv (Y.load Z Outbox5_ts3 (Kn.at 2 Z) Z)<|?_
   have hnow : 0 ≤ now ∧ now ≤ 1099511627776 := by omega
   refine Run.call [] (l := [.tmp 14, .tmp 15]) rfl rfl rfl (lt rfl) due_top (fun v3 V2 H2 hle hR => ?_)
   obtain ⟨hV, c1, c2, rfl, rfl⟩ := hR; replace hV := hV.symm; subst hV
   refine Run.heapTo (H' := [[], [(b4, .cells #[.slice none 0 0] 39 (0, 0))], [(b1, .cells #[.int .i64 now] 3 (0, 0))], [(bx, .cells #[.map (some bm), vf, vw, .int .i64 o.last] 99 (0, 0))], [(bm, .map es clock)], sf, sw, Ob.sgl 105 (Ob.marks now o []), [(c1, .cells #[.pointer (some ⟨bx, 0, none⟩)] 24 (0, 0))], [(c2, .cells #[.int .i64 now] 3 (0, 0))]]) (by rw [Ob.marks_nil]; rfl)<|Run.heapTo (H' := [[], [(b4, .cells #[.slice none 0 0] 39 (0, 0))], [(b1, .cells #[.int .i64 now] 3 (0, 0))], [(bx, .cells #[.map (some bm), vf, vw, .int .i64 o.last] 99 (0, 0))], [(bm, .map es clock)], sf, sw, Ob.sgl 105 (Ob.marks now o []), [(c1, .cells #[.pointer (some ⟨bx, 0, none⟩)] 24 (0, 0))], [(c2, .cells #[.int .i64 now] 3 (0, 0))]]) Z<|?_
   refine Ze<|Zg<|Zb<|?_
   refine Tr.rangeB (Bl := fun xs => [Ob.sgl 105 (Ob.marks now o xs)]) [sf, sw] [[(c1, .cells #[.pointer (some ⟨bx, 0, none⟩)] 24 (0, 0))], [(c2, .cells #[.int .i64 now] 3 (0, 0))], [(bx, .cells #[.map (some bm), vf, vw, .int .i64 o.last] 99 (0, 0))], [(bm, .map es clock)]] [[], [(b4, .cells #[.slice none 0 0] 39 (0, 0))], [(b1, .cells #[.int .i64 now] 3 (0, 0))]] ((pull_perm [8, 8, 3, 3, 0, 0, 0, 2] [[], [(b4, .cells #[.slice none 0 0] 39 (0, 0))], [(b1, .cells #[.int .i64 now] 3 (0, 0))], [(bx, .cells #[.map (some bm), vf, vw, .int .i64 o.last] 99 (0, 0))], [(bm, .map es clock)], sf, sw, Ob.sgl 105 (Ob.marks now o []), [(c1, .cells #[.pointer (some ⟨bx, 0, none⟩)] 24 (0, 0))], [(c2, .cells #[.int .i64 now] 3 (0, 0))]]).symm) rfl ((due_it hmi hi hnow hsm)) (fun xs (H : Hp) => ∃ p1 n1 k1 q1, H = [q1, [(b4, .cells #[.slice p1 n1 k1] 39 (0, 0))], [(b1, .cells #[.int .i64 now] 3 (0, 0))]] ∧ Ow 35 11 (.slice p1 n1 k1) n1 ((Ob.msgs xs).flatMap Msg.cl) q1 ∧ n1 = xs.length) (fun c xs (H : Hp) => False) ⟨none, 0, 0, [], rfl, Ow.nil _ _, rfl⟩ (fun lp6 rr7 xs8 x9 H hLI hf hG hJ hN => ?_) (fun D5 xs8 H hS hJ => ?_) (fun D5 c xs8 H hS hJ => ?_)
   ·obtain ⟨p1, n1, k1, q1, rfl, how, hn⟩ := hJ
    refine YDoes.intro hLI rfl (env_par1 (lt rfl)) (fun Blp6 => ?_)
    obtain ⟨pre, post, hcut, hne⟩ := Ob.cut_at hi hG
    refine TrR.region Z<|Za Z<|Ze<|Ex.begin hf.1<|TrR.block<|TrR.seq<|TrR.region Z<|Run.recut (H' := [rec_ lp6 { rr7 with state := .busy }, q1, [(b4, .cells #[.slice p1 n1 k1] 39 (0, 0))], [(b1, .cells #[.int .i64 now] 3 (0, 0))], Ob.sgl 105 ((pre ++ post).map (Ob.mark now xs8)), [(x9.blk, .cells #[.int .i64 x9.msg.kind, .int .i64 x9.msg.life, .int .i64 x9.msg.seen, .int .i64 x9.msg.xid, .int .i64 x9.msg.state, .int .u32 x9.msg.addr, .int .i64 x9.msg.bind, .string x9.msg.client, .int .i64 x9.msg.pot, .int .i64 x9.msg.at_, .bool x9.msg.ok, .int .i64 (Ob.sent now xs8 x9)] 105 (0, 0))]]) (recut_last (A := ([rec_ lp6 { rr7 with state := .busy }, q1, [(b4, .cells #[.slice p1 n1 k1] 39 (0, 0))], [(b1, .cells #[.int .i64 now] 3 (0, 0))]] : Hp)) (Ob.cut_sg hcut))<|?_
    refine Zm Z<|Zv (Y.load Z Outbox5_ts3 (Kn.at 3 Z) Z)<|Zv (Y.nilCheck Z)<|Zv (Y.fieldAddr Z Outbox5_fo105_1)<|Run.store (s := [(x9.blk, .cells #[.int .i64 x9.msg.kind, .int .i64 x9.msg.life, .int .i64 x9.msg.seen, .int .i64 x9.msg.xid, .int .i64 x9.msg.state, .int .u32 x9.msg.addr, .int .i64 x9.msg.bind, .string x9.msg.client, .int .i64 x9.msg.pot, .int .i64 x9.msg.at_, .bool x9.msg.ok, .int .i64 now] 105 (0, 0))]) Z Z Outbox5_sz3 (i := 5) Z Z (le Z) Z Z<|?_
    refine Ze<|Ex.goR<|TrR.anyL [(b4, .cells #[.slice p1 n1 k1] 39 (0, 0)), (x9.blk, .cells #[.int .i64 x9.msg.kind, .int .i64 x9.msg.life, .int .i64 x9.msg.seen, .int .i64 x9.msg.xid, .int .i64 x9.msg.state, .int .u32 x9.msg.addr, .int .i64 x9.msg.bind, .string x9.msg.client, .int .i64 x9.msg.pot, .int .i64 x9.msg.at_, .bool x9.msg.ok, .int .i64 now] 105 (0, 0))] 7 Outbox5_mo Z<|RunL.take (i := 0) 0 rfl rfl WK WK WK WK (fun _ _ _ h => h) (lt rfl) (KnAll.cons (Kn.at 2 rfl) (ZK 5 Z)) (fun _ => (Y.load rfl Outbox5_ts39 Kn.vk1 rfl))<|?_
    refine RunL.pure (i := 1) rfl WK WK WK WK (fun _ _ _ h => h) (lt rfl) (KnAll.cons (Kn.at 2 rfl) (ZK 5 Z)) (fun _ => (Y.move rfl))<|RunL.pure (i := 2) rfl WK WK WK WK (fun _ _ _ h => h) (lt rfl) (KnAll.cons (Kn.at 2 rfl) (ZK 5 Z)) (fun _ => (Y.nilCheck rfl))<|RunL.pure (i := 3) rfl WK WK WK WK (fun _ _ _ h => h) (lt rfl) (KnAll.cons (Kn.at 2 rfl) (ZK 5 Z)) (fun _ => (Y.fieldAddr rfl Outbox5_fo105_0))<|?_
    refine RunL.take (i := 4) 1 rfl rfl WK WK WK WK (fun _ _ _ h => h) (lt rfl) (KnAll.cons (Kn.at 2 rfl) (ZK 5 Z)) (fun _ => (Y.loadAgg rfl Outbox5_ag35 Kn.vk1 rfl)) ?_
    refine RunL.one (i := 5) WK rfl  ?_ 
    refine Run.buildSlice (l := [(0, .tmp 26)]) (r := [.int .i64 x9.msg.kind, .int .i64 x9.msg.life, .int .i64 x9.msg.seen, .int .i64 x9.msg.xid, .int .i64 x9.msg.state, .int .u32 x9.msg.addr, .int .i64 x9.msg.bind, .string x9.msg.client, .int .i64 x9.msg.pot, .int .i64 x9.msg.at_, .bool x9.msg.ok]) Outbox5_es39 Outbox5_zo35 rfl WD rfl rfl WD (lt rfl) (fun b10 => ?_)
    refine Ze<|Ex.anyL (KnAll.cons (Kn.at 3 Z) (ZK 6 Z))<|?_
    refine RunL.one (i := 6) WK rfl  ?_ 
    refine Run.append (n := n1) (m := 1) (xs := ((Ob.msgs xs8)).flatMap Msg.cl) (ys := [.int .i64 x9.msg.kind, .int .i64 x9.msg.life, .int .i64 x9.msg.seen, .int .i64 x9.msg.xid, .int .i64 x9.msg.state, .int .u32 x9.msg.addr, .int .i64 x9.msg.bind, .string x9.msg.client, .int .i64 x9.msg.pot, .int .i64 x9.msg.at_, .bool x9.msg.ok]) rfl rfl Outbox5_es39 Outbox5_zi35 WD (j := 2) rfl how (Src.of_rd Outbox5_es39 (Rd.one (Kn.at 0 rfl) rfl)) W W rfl (lt rfl) (fun v11 s12 ho13 hf => ?_)
    obtain ⟨p11, c11, rfl⟩ := hf
    replace ho13 := Ow.app1 (f := Msg.cl) (l := (Ob.msgs xs8)) (x := x9.msg) ho13
    refine Ze<|Ex.anyL (KnAll.cons (Kn.at 3 Z) (ZK 6 Z))<|?_
    refine RunL.one (i := 7) WK rfl  ?_ 
    refine Run.store (s := [(b4, .cells #[.slice p11 (n1 + 1) c11] 39 (0, 0))]) Z Z Outbox5_sz39 (i := 3) Z Z (le Z) Z Z<|Ze<|Ex.anyLz Z<|RunL.done WK<|Zc<|Ex.keepTo (H' := [rec_ lp6 { rr7 with state := .busy }, s12, [(b4, .cells #[.slice p11 (n1 + 1) c11] 39 (0, 0))], [(b1, .cells #[.int .i64 now] 3 (0, 0))], Ob.sgl 105 ((pre ++ post).map (Ob.mark now xs8)), [(x9.blk, .cells #[.int .i64 x9.msg.kind, .int .i64 x9.msg.life, .int .i64 x9.msg.seen, .int .i64 x9.msg.xid, .int .i64 x9.msg.state, .int .u32 x9.msg.addr, .int .i64 x9.msg.bind, .string x9.msg.client, .int .i64 x9.msg.pot, .int .i64 x9.msg.at_, .bool x9.msg.ok, .int .i64 now] 105 (0, 0))]]) [1, 1, 1, 1, 1, 1] Z<|?_
    refine Ex.recut (H' := [rec_ lp6 { rr7 with state := .busy }, s12, [(b4, .cells #[.slice p11 (n1 + 1) c11] 39 (0, 0))], [(b1, .cells #[.int .i64 now] 3 (0, 0))], Ob.sgl 105 (Ob.marks now o (xs8 ++ [x9]))]) (recut_last (A := ([rec_ lp6 { rr7 with state := .busy }, s12, [(b4, .cells #[.slice p11 (n1 + 1) c11] 39 (0, 0))], [(b1, .cells #[.int .i64 now] 3 (0, 0))]] : Hp)) (Ob.back_sg hcut hne).symm).symm ?_
    exact Ex.next ⟨rfl, .inl ⟨rfl, _, _, hLI.with _ _, ⟨rfl, rfl⟩, rfl, ⟨_, rfl, _, _, _, _, rfl, by rw [Ob.msgs_snoc]; exact ho13, by rw [List.length_append, List.length_singleton]; omega⟩⟩⟩
   ·obtain ⟨p1, n1, k1, q1, rfl, how, hn⟩ := hJ
    subst hS; subst hn
    refine Zc<|Zg<|Zs<|Zr<|Zv (Y.load Z Outbox5_ts39 (Kn.at 8 Z) Z)<|Za Z<|Za Z<|Ze<|Zg<|Zu<|Ex.unmark (.inl Z)<|Ex.bodyM (.inl Z)<|Ex.keepTo (H' := [q1, [(bx, .cells #[.map (some bm), vf, vw, .int .i64 o.last] 99 (0, 0))], [(bm, .map es clock)], sf, sw, Ob.sgl 105 (Ob.marks now o (o.outs.filter (Ob.due now)))]) [6, 4, 4, 0, 0, 4] Z<|?_
    have hle2 : (o.tick now).1.length = (o.outs.filter (Ob.due now)).length := List.length_map ..
    exact Ex.ret2 rfl rfl rfl  ⟨rfl, p1, k1, q1, _, by rw [Ob.tickE_ok hnow]; simp only; rw [hle2]; rfl, by rw [Ob.tickE_ok hnow]; simp only; rw [hle2]; exact how, rfl, by rw [Ob.tickE_ok hnow, Ob.marks_all hi]; exact ⟨_, _, _, _, _, _, rfl, ⟨bm, es, clock, rfl, rfl, by rw [Ob.tick_mout]; exact hmi⟩, by rw [Ob.tick_mf]; exact hmf, hmw⟩⟩
   ·exact hJ.elim

theorem tick_c {V : Vw} {o : Ob} {bx : Nat} {vo vf vw : Value} {so sf sw : Sg} (hmo : Om .i64 vo o.mout so) (hmf : Om .u32 vf o.mf sf) (hmw : Om .u32 vw o.mw sw) {now : Int} (hi : o.Inv) (hsm : o.outs.length ≤ 1000000000) : Does Try.prog 18 [.pointer (some ⟨bx, 0, none⟩), .int .i64 now] V [[(bx, .cells #[vo, vf, vw, .int .i64 o.last] 99 (0, 0))], so, sf, sw, Ob.sg 105 o] (fun v V' H' => V' = V ∧ ∃ p c q H2, v = .tuple #[.slice p (o.tickE now).1.length c, .int .i64 (o.tickE now).2.1] ∧ Ow 35 11 (.slice p (o.tickE now).1.length c) (o.tickE now).1.length ((o.tickE now).1.flatMap Msg.cl) q ∧ H' = q :: H2 ∧ Ob.Is 105 99 (o.tickE now).2.2 bx H2) := by
 obtain ⟨bm, es, clock, rfl, rfl, hmi⟩ := hmo
 exact tick_m hmi hmf hmw hi hsm
end Go.Proofs.Ytpdnkhdmajmbiaa
