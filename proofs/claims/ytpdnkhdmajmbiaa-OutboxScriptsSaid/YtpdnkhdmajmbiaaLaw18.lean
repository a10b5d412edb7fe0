/- Statements on boxes of messages, walked: what is taken.
Conditions: as each theorem names them. -/
import Derived.Test.YtpdnkhdmajmbiaaProg
import Derived.Test.YtpdnkhdmajmbiaaOutbox6
import Derived.Test.YtpdnkhdmajmbiaaRseen
import Derived.Test.YtpdnkhdmajmbiaaSeen
import Derived.Test.YtpdnkhdmajmbiaaKC
import Derived.Test.YtpdnkhdmajmbiaaZG
set_option linter.unusedSimpArgs false
set_option linter.unusedVariables false
set_option maxRecDepth 4000
namespace Go.Proofs.Ytpdnkhdmajmbiaa
open Go Go.K
attribute [local irreducible] Code.wp wpList Calls wpQuiet
theorem Law18_pt24 : ptrT Try.prog 24 = true := by kernel_rfl
theorem Law18_pt46 : ptrT Try.prog 46 = true := by kernel_rfl
theorem Law18_zo35 : zeroOf Try.prog 35 = some (.agg #[.int .i64 0, .int .i64 0, .int .i64 0, .int .i64 0, .int .i64 0, .int .u32 0, .int .i64 0, .string ⟨#[]⟩, .int .i64 0, .int .i64 0, .bool false]) := by kernel_rfl
theorem Law18_sz35 : sizeT Try.prog 35 = some 11 := by kernel_rfl
theorem Law18_pl35 : placesS Try.prog 35 = some [(0, 1), (1, 1), (2, 1), (3, 1), (4, 1), (5, 1), (6, 1), (7, 1), (8, 1), (9, 1), (10, 1)] := by kernel_rfl
theorem Law18_es39 : elemS Try.prog 39 = some (35, 11) := by kernel_rfl
theorem Law18_fo35_8 : fieldOff Try.prog 35 8 = some 8 := by kernel_rfl
theorem Law18_ts3 : scal Try.prog 3 = true := by kernel_rfl
theorem Law18_fo35_3 : fieldOff Try.prog 35 3 = some 3 := by kernel_rfl
theorem Law18_ag35 : aggsz Try.prog 35 = some 11 := by kernel_rfl
theorem Law18_tg4 : tagOf Try.prog 4 = some (1, .i64) := by kernel_rfl
theorem Law18_es45 : elemS Try.prog 45 = some (4, 1) := by kernel_rfl
theorem Law18_ts4 : scal Try.prog 4 = true := by kernel_rfl

theorem awake_c  {V : Vw} : Does Try.prog 13 [] V [] (Pv (.bool true) V []) := by
 refine Does.intro Try.func13 rfl rfl (le rfl) (fun B => ?_)
 refine Zs<|Zr<|Za Z<|Ze<|Zg<|Zs<|Zr<|?_
 refine Run.call [] (l := []) rfl rfl rfl (lt rfl) (new_o) (fun v9 V9 H9 hle9 hR => ?_)
 obtain ⟨hV, bx1, sb1, rfl, hb1, rfl⟩ := hR; replace hV := hV.symm; subst hV
 refine Run.heapTo (H' := [sb1]) Z<|Za Z<|Ze<|Zg<|Zs<|Zr<|?_
 refine Run.call [] (l := []) rfl rfl rfl (lt rfl) (news_c) (fun v9 V9 H9 hle9 hR => ?_)
 obtain ⟨hV, sx, vs, ss, rfl, hms, rfl⟩ := hR; replace hV := hV.symm; subst hV
 refine Run.heapTo (H' := [sb1, [(sx, .cells #[vs] 111 (0, 0))], ss]) Z<|Za Z<|Ze<|Zg<|Zs<|Zs<|Zr<|Zm Z<|Zv (Y.eqNil Z Z Law18_pt24)<|Zm Z<|Zp Z<|Zm Z<|Zp Z<|Zv (Y.eqNil Z Z Law18_pt46)<|Zv (Y.pick_f Z Z Z)<|Ze<|?_
 refine Zg<|Tr.cond_f Z Z<|Zt<|Zg<|Zs<|Zr<|Zm Z<|Run.call0 (l := [.const (.int .u32 1), .const (.int .i64 5)]) Z Z Z (lt Z) update_h<|?_
 refine Run.call [0] (l := [.tmp 20, .tmp 21]) rfl rfl rfl (lt rfl) (put_o hb1 (m := (Ob.upd 1 5))) (fun v9 V9 H9 hle9 hR => ?_)
 obtain ⟨hV, b2, e2, o2, sb2, hq2, rfl, hb2, rfl⟩ := hR; replace hV := hV.symm; subst hV
 refine Run.heapTo (H' := [[(sx, .cells #[vs] 111 (0, 0))], ss, sb2]) Z<|Ze<|Zg<|Zs<|Zr<|Zm Z<|Run.call0 (l := [.const (.int .u32 1), .const (.int .i64 6)]) Z Z Z (lt Z) update_h<|?_
 refine Run.call [2] (l := [.tmp 23, .tmp 24]) rfl rfl rfl (lt rfl) (put_o hb2 (m := (Ob.upd 1 6))) (fun v9 V9 H9 hle9 hR => ?_)
 obtain ⟨hV, b3, e3, o3, sb3, hq3, rfl, hb3, rfl⟩ := hR; replace hV := hV.symm; subst hV
 refine Run.heapTo (H' := [[(sx, .cells #[vs] 111 (0, 0))], ss, sb3]) Z<|Ze<|Zg<|Zs<|Zr<|Zm Z<|?_
 have hl2 : o3.last ≤ 1000000000 := Ob.aw_last2 hq2 hq3
 refine Run.call [2] (l := [.tmp 27, .const (.int .i64 0)]) rfl rfl rfl (lt rfl) (tick_o hb3 (now := 0) hl2) (fun v9 V9 H9 hle9 hR => ?_)
 obtain ⟨hV, ms4, e4, o4, p4, c4, q4, sb4, hq4, rfl, ho4, hb4, rfl⟩ := hR; replace hV := hV.symm; subst hV
 refine Run.heapTo (H' := [[(sx, .cells #[vs] 111 (0, 0))], ss, q4, sb4]) Z<|Zm Z<|Zv (Y.extract Z Z)<|Zv (Y.extract Z Z)<|Za Z<|Za Z<|Ze<|Zg<|Zs<|Zr<|Zm Z<|?_
 refine Run.call [3] (l := [.tmp 32, .const (.int .i64 1)]) rfl rfl rfl (lt rfl) (acked_o hb4 (k := 1)) (fun v9 V9 H9 hle9 hR => ?_)
 obtain ⟨hV, b5, m5, f5, o5, sb5, hq5, rfl, hb5, rfl⟩ := hR; replace hV := hV.symm; subst hV
 refine Run.heapTo (H' := [[(sx, .cells #[vs] 111 (0, 0))], ss, q4, sb5]) Z<|Zm Z<|Zv (Y.extract Z Z)<|Zv (Y.extract Z Z)<|?_
 refine Run.alloc Law18_zo35 (lt rfl) (fun b6 => ?_)
 refine Run.store (s := [(b6, .cells #[.int .i64 m5.kind, .int .i64 m5.life, .int .i64 m5.seen, .int .i64 m5.xid, .int .i64 m5.state, .int .u32 m5.addr, .int .i64 m5.bind, .string m5.client, .int .i64 m5.pot, .int .i64 m5.at_, .bool m5.ok] 35 (0, 0))]) Z Z Law18_sz35 (i := 0) Z Z (le Z) Z Z<|Za Z<|Ze<|Zg<|Zs<|Zr<|Zm Z<|?_
 have hl4 : o5.last ≤ 1000000000 := Ob.aw_last4 hq2 hq3 hq4 hq5
 refine Run.call [4] (l := [.tmp 37, .const (.int .i64 0)]) rfl rfl rfl (lt rfl) (tick_o hb5 (now := 0) hl4) (fun v9 V9 H9 hle9 hR => ?_)
 obtain ⟨hV, ms7, e7, o7, p7, c7, q7, sb7, hq7, rfl, ho7, hb7, rfl⟩ := hR; replace hV := hV.symm; subst hV
 refine Run.heapTo (H' := [[(b6, .cells #[.int .i64 m5.kind, .int .i64 m5.life, .int .i64 m5.seen, .int .i64 m5.xid, .int .i64 m5.state, .int .u32 m5.addr, .int .i64 m5.bind, .string m5.client, .int .i64 m5.pot, .int .i64 m5.at_, .bool m5.ok] 35 (0, 0))], [(sx, .cells #[vs] 111 (0, 0))], ss, q4, q7, sb7]) Z<|Zm Z<|Zv (Y.extract Z Z)<|Zv (Y.extract Z Z)<|Za Z<|Za Z<|Ze<|Zg<|Zs<|Zr<|Zm Z<|Zv (Y.buildS (l := [(3, .const (.int .i64 1))]) Law18_zo35 Law18_pl35 Z Z)<|?_
 refine Run.call [1, 1] (l := [.tmp 42, .tmp 43]) rfl rfl rfl (lt rfl) (take_c (l := []) (m := { Msg.zero with xid := 1 }) hms) (fun v9 V9 H9 hle9 hR => ?_)
 obtain ⟨rfl, hV, rfl⟩ := hR; replace hV := hV.symm; subst hV
 refine Run.heapTo (H' := [[(b6, .cells #[.int .i64 m5.kind, .int .i64 m5.life, .int .i64 m5.seen, .int .i64 m5.xid, .int .i64 m5.state, .int .u32 m5.addr, .int .i64 m5.bind, .string m5.client, .int .i64 m5.pot, .int .i64 m5.at_, .bool m5.ok] 35 (0, 0))], q4, q7, sb7, [(sx, .cells #[vs] 111 (0, 0))], ss]) Z<|Zm Z<|Zv (Y.extract Z Z)<|Zv (Y.extract Z Z)<|Zv (Y.extract Z Z)<|Za Z<|Za Z<|Za Z<|Ze<|Zg<|Zs<|Zr<|?_
 obtain ⟨hk1, hk2, hk3, hk4, hk5, hk6, hk7⟩ := Ob.awk hq2 hq3 hq4 hq5 hq7
 have hsn : Sn.newer [] (Msg.zero.addr) 1 = true := rfl
 refine Zm Z<|Zv (Y.int Z Z Z)<|Zm Z<|Run.on rfl rfl rfl (by rw [hk1]; rfl)<|Zm Z<|Run.on rfl rfl rfl (by rw [hk1]; rfl)<|Zv (Y.lenSl Z Law18_es39)<|Run.on rfl rfl rfl (by rw [hk1]; rfl)<|Zv (Y.int Z Z Z)<|Zv (Y.pick_t Z (by rw [hk1]; rfl) rfl)<|Zm Z<|Run.on rfl rfl rfl (by rw [hk2]; rfl)<|Zm Z<|Zv (Y.pick_t Z (by rw [hk2]; rfl) rfl)<|Zm Z<|Zp hk3<|?_
 refine Zv (Y.fieldAddr Z Law18_fo35_8)<|Zp hk3<|Zv (Y.load Z Law18_ts3 (Kn.at 0 Z) Z)<|Zp hk3<|Zv (Y.int Z Z Z)<|Zv (Y.pick_t Z hk3 Z)<|Zm Z<|Run.on rfl rfl rfl (by rw [hk4]; rfl)<|Zm Z<|Run.on rfl rfl rfl (by rw [hk4]; rfl)<|Zv (Y.lenSl Z Law18_es39)<|Run.on rfl rfl rfl (by rw [hk4]; rfl)<|Zv (Y.int Z Z Z)<|Zv (Y.pick_t Z (by rw [hk4]; rfl) rfl)<|Zm Z<|Run.on rfl rfl rfl (by rw [hk5]; rfl)<|?_
 refine Zm Z<|Run.on rfl rfl rfl (by rw [hk5]; rfl)<|Zv (Y.idxR 0 Z Z Law18_es39 (ho7.rd 2 rfl) W W)<|Run.on rfl rfl rfl (by rw [hk5]; rfl)<|Zv (Y.fieldR Z Law18_fo35_3 (ho7.rd 2 rfl) W)<|Run.on rfl rfl rfl (by rw [hk5]; rfl)<|Zv (Y.ldR Z Law18_ts3 (ho7.rd 2 rfl) (flatm_at Msg.cl_enc.len W Msg.zero WD rfl))<|Run.on rfl rfl rfl (by rw [hk5]; rfl)<|Zv (Y.int Z Z Z)<|Zv (Y.pick_t Z (by rw [hk5]; rfl) rfl)<|?_
 refine Zm Z<|Run.on rfl rfl rfl (by rw [hk6]; rfl)<|Zm Z<|Run.on rfl rfl rfl (by rw [hk6]; rfl)<|Zv (Y.idxR 0 Z Z Law18_es39 (ho7.rd 2 rfl) W W)<|Run.on rfl rfl rfl (by rw [hk6]; rfl)<|Zv (Y.fieldR Z Law18_fo35_8 (ho7.rd 2 rfl) W)<|Run.on rfl rfl rfl (by rw [hk6]; rfl)<|Zv (Y.ldR Z Law18_ts3 (ho7.rd 2 rfl) (flatm_at Msg.cl_enc.len W Msg.zero WD rfl))<|Run.on rfl rfl rfl (by rw [hk6]; rfl)<|?_
 refine Zv (Y.int Z Z Z)<|Zv (Y.pick_t Z (by rw [hk6]; rfl) rfl)<|Zm Z<|Run.on rfl rfl rfl (by rw [hk7]; rfl)<|Zm Z<|Zv (Y.pick_t Z (by rw [hk7]; rfl) rfl)<|Za Z<|Ze<|Zg<|Zu<|Ex.keep []<|?_
 exact Ex.ret1 rfl rfl  ⟨rfl, rfl, rfl⟩

theorem awake_h {V : Vw} {H : Hp} : Does Try.prog 13 [] V H (Pv (.bool true) V H) := awake_c.frame

theorem outboxseen_c {V : Vw} {l : List Msg} {p : Option Addr} {c : Nat} (hv : Rd V [] 11 (.slice p l.length c) l.length (l.flatMap Msg.cl)) (hl9 : l.length ≤ 9223372036854775807) {bs : List Bool} {p2 : Option Addr} {c2 : Nat} (hv2 : Rd V [] 1 (.slice p2 bs.length c2) bs.length (bs.flatMap nB)) (hb9 : bs.length ≤ 9223372036854775807)  : Does Try.prog 4 [.slice p l.length c, .slice p2 bs.length c2] V [] (fun v _ _ => v = .bool true) := by
 refine Does.intro Try.func4 rfl rfl (le rfl) (fun B => ?_)
 refine Zs<|Zr<|Za Z<|Ze<|Zg<|Zs<|Zr<|Run.call0 (l := []) Z Z Z (lt Z) awake_h<|Run.heapTo (H' := []) Z<|Za Z<|Ze<|Zg<|Zs<|Zr<|?_
 refine Run.call [] (l := []) rfl rfl rfl (lt rfl) (news_c) (fun v9 V9 H9 hle9 hR => ?_)
 obtain ⟨hV, sx, vs, ss, rfl, hms, rfl⟩ := hR; replace hV := hV.symm; subst hV
 refine Run.heapTo (H' := [[(sx, .cells #[vs] 111 (0, 0))], ss]) Z<|Run.heapTo (H' := [[(sx, .cells #[vs] 111 (0, 0))], ss]) Z<|Za Z<|Ze<|Zg<|Zs<|Zr<|?_
 refine Run.call [] (l := []) rfl rfl rfl (lt rfl) (rnews_c) (fun v9 V9 H9 hle9 hR => ?_)
 obtain ⟨hV, rx, rfl, rfl⟩ := hR; replace hV := hV.symm; subst hV
 refine Run.heapTo (H' := [[(sx, .cells #[vs] 111 (0, 0))], ss, [(rx, .cells #[.slice none 0 0] 114 (0, 0))], []]) Z<|Run.heapTo (H' := [[(sx, .cells #[vs] 111 (0, 0))], ss, [(rx, .cells #[.slice none 0 0] 114 (0, 0))], []]) Z<|Za Z<|Ze<|Zg<|Zs<|Zs<|Zr<|Zm Z<|Zv (Y.not Z)<|Zm Z<|Zp Z<|Zm Z<|Zp Z<|Zv (Y.eqNil Z Z Law18_pt46)<|Zv (Y.pick_f Z Z Z)<|?_
 refine Ze<|Zg<|Tr.cond_f Z Z<|Zt<|Zg<|Zs<|Zs<|Zr<|Za Z<|Ze<|Zg<|Zb<|?_
 refine ZL (X := Nat × List (Int × (Int × Bool)) × Sg × Option Addr × Nat × Sg) (fun z0 => V) (fun z0 => [[(sx, .cells #[vs] 111 (0, 0))], z0.2.2.1, [(rx, .cells #[.slice z0.2.2.2.1 z0.2.1.length z0.2.2.2.2.1] 114 (0, 0))], z0.2.2.2.2.2]) (fun z0 => [(0, .slice p l.length c), (1, .slice p2 bs.length c2), (6, .pointer (some ⟨sx, 0, none⟩)), (7, .pointer (some ⟨rx, 0, none⟩)), (8, .int .i64 (z0.1 : Int))]) (fun z0 => Om .u32 vs (Sn.ms z0.2.1) z0.2.2.1 ∧ Ow 119 3 (.slice z0.2.2.2.1 z0.2.1.length z0.2.2.2.2.1) z0.2.1.length (z0.2.1.flatMap Sn.row) z0.2.2.2.2.2 ∧ z0.2.1.length ≤ z0.1 ∧ z0.1 ≤ l.length ∧ z0.1 ≤ 200) (fun z0 => l.length - z0.1) (⟨0, [], ss, none, 0, []⟩ : Nat × List (Int × (Int × Bool)) × Sg × Option Addr × Nat × Sg) ⟨hms, Ow.nil _ _, Nat.le_refl _, Nat.zero_le _, Nat.zero_le _⟩ ?_
 rintro ⟨i1, ls, ss1, pl, cl, sq1⟩ ⟨hms, hsq, hll, hil, hi2⟩
 try dsimp only at hms hsq hll hil hi2 ⊢
 refine Zs<|Zs<|Zr<|Zm Z<|Zm Z<|Zv (Y.lenSl Z Law18_es39)<|Zv (Y.int Z Z Z)<|Zm Z<|?_
 rcases Zsplit (decide ((i1 : Int) < ((l.length : Nat) : Int))) with ⟨h1, g1⟩ | ⟨h1, g1⟩ <;> try simp only [kb] at g1
 ·refine Zp h1<|Zm Z<|Zp h1<|Zv (Y.int Z Z Z)<|Zv (Y.pick_t Z h1 Z)<|Ze<|Zg<|?_
  rcases Zsplit (decide ((i1 : Int) < 200)) with ⟨h2, g2⟩ | ⟨h2, g2⟩ <;> try simp only [kb] at g2
  ·refine Tr.cond_t Z h2<|Zt<|Zg<|Zs<|Zb<|Zs<|Zr<|Zm Z<|Zm Z<|Zm Z<|Zv (Y.idxR i1 Z Z Law18_es39 hv.of_nil W W)<|Zv (Y.ldRA (vs := [.int .i64 ((l.getD i1 Msg.zero).kind), .int .i64 ((l.getD i1 Msg.zero).life), .int .i64 ((l.getD i1 Msg.zero).seen), .int .i64 ((l.getD i1 Msg.zero).xid), .int .i64 ((l.getD i1 Msg.zero).state), .int .u32 ((l.getD i1 Msg.zero).addr), .int .i64 ((l.getD i1 Msg.zero).bind), .string ((l.getD i1 Msg.zero).client), .int .i64 ((l.getD i1 Msg.zero).pot), .int .i64 ((l.getD i1 Msg.zero).at_), .bool ((l.getD i1 Msg.zero).ok)]) rfl Law18_ag35 hv.of_nil rfl WD (fun o ho => flatm_atA Msg.cl_enc.len W Msg.zero o ho))<|?_
   refine Run.call [0, 0] (l := [.tmp 36, .tmp 40]) rfl rfl rfl (lt rfl) (take_c (l := ls) (m := (l.getD i1 Msg.zero)) hms) (fun v9 V9 H9 hle9 hR => ?_)
   obtain ⟨rfl, hV, rfl⟩ := hR; replace hV := hV.symm; subst hV
   refine Run.heapTo (H' := [[(rx, .cells #[.slice pl ls.length cl] 114 (0, 0))], sq1, [(sx, .cells #[vs] 111 (0, 0))], ss1]) Z<|Run.heapTo (H' := [[(rx, .cells #[.slice pl ls.length cl] 114 (0, 0))], sq1, [(sx, .cells #[vs] 111 (0, 0))], ss1]) Z<|Zm Z<|Zv (Y.extract Z Z)<|Zv (Y.extract Z Z)<|Zv (Y.extract Z Z)<|Za Z<|Za Z<|Za Z<|Ze<|Zg<|Zs<|Zr<|Zm Z<|Zm Z<|Zm Z<|?_
   refine Zv (Y.idxR i1 Z Z Law18_es39 hv.of_nil W W)<|Zv (Y.ldRA (vs := [.int .i64 ((l.getD i1 Msg.zero).kind), .int .i64 ((l.getD i1 Msg.zero).life), .int .i64 ((l.getD i1 Msg.zero).seen), .int .i64 ((l.getD i1 Msg.zero).xid), .int .i64 ((l.getD i1 Msg.zero).state), .int .u32 ((l.getD i1 Msg.zero).addr), .int .i64 ((l.getD i1 Msg.zero).bind), .string ((l.getD i1 Msg.zero).client), .int .i64 ((l.getD i1 Msg.zero).pot), .int .i64 ((l.getD i1 Msg.zero).at_), .bool ((l.getD i1 Msg.zero).ok)]) rfl Law18_ag35 hv.of_nil rfl WD (fun o ho => flatm_atA Msg.cl_enc.len W Msg.zero o ho))<|?_
   refine Run.call [0, 0] (l := [.tmp 46, .tmp 50]) rfl rfl rfl (lt rfl) (rtake_c (l := ls) (m := (l.getD i1 Msg.zero)) hsq W) (fun v9 V9 H9 hle9 hR => ?_)
   obtain ⟨rfl, hV, rfl⟩ := hR; replace hV := hV.symm; subst hV
   refine Run.heapTo (H' := [[(sx, .cells #[vs] 111 (0, 0))], ss1, [(rx, .cells #[.slice pl ls.length cl] 114 (0, 0))], sq1]) Z<|Run.heapTo (H' := [[(sx, .cells #[vs] 111 (0, 0))], ss1, [(rx, .cells #[.slice pl ls.length cl] 114 (0, 0))], sq1]) Z<|Zm Z<|Zv (Y.extract Z Z)<|Zv (Y.extract Z Z)<|Zv (Y.extract Z Z)<|Za Z<|Za Z<|Za Z<|Ze<|Zg<|Zs<|Zs<|Zr<|Zm Z<|Zm Z<|?_
   refine Zv (Y.neB_f Z Z Law18_tg4)<|Zm Z<|Zp Z<|Zm Z<|Zp Z<|Zm Z<|Zp Z<|Zv (Y.neB_f Z Z Law18_tg4)<|Zv (Y.pick_f Z Z Z)<|Zm Z<|Zp Z<|Zm Z<|Zp Z<|Zm Z<|Zp Z<|Zv (Y.neB_f Z Z Law18_tg4)<|?_
   refine Zv (Y.pick_f Z Z Z)<|Ze<|Zg<|Tr.cond_f Z Z<|Zt<|Zg<|Zs<|Zr<|Zm Z<|Zm Z<|Zv (Y.lenSl Z Law18_es45)<|Zv (Y.int Z Z Z)<|Zm Z<|?_
   rcases Zsplit (decide ((i1 : Int) < ((bs.length : Nat) : Int))) with ⟨h3, g3⟩ | ⟨h3, g3⟩ <;> try simp only [kb] at g3
   ·refine Zp h3<|Zm Z<|Zp h3<|Zm Z<|Zp h3<|Zv (Y.idxR i1 Z Z Law18_es45 hv2.of_nil W W)<|Zp h3<|Zv (Y.ldR Z Law18_ts4 hv2.of_nil (flatm_at0 nB_enc.len W false WD rfl))<|Zv (Y.pick_t Z h3 Z)<|Za Z<|Ze<|Zg<|Zs<|Zr<|Zm Z<|Zm Z<|?_
    refine Zm Z<|Zv (Y.idxR i1 Z Z Law18_es39 hv.of_nil W W)<|Zv (Y.ldRA (vs := [.int .i64 ((l.getD i1 Msg.zero).kind), .int .i64 ((l.getD i1 Msg.zero).life), .int .i64 ((l.getD i1 Msg.zero).seen), .int .i64 ((l.getD i1 Msg.zero).xid), .int .i64 ((l.getD i1 Msg.zero).state), .int .u32 ((l.getD i1 Msg.zero).addr), .int .i64 ((l.getD i1 Msg.zero).bind), .string ((l.getD i1 Msg.zero).client), .int .i64 ((l.getD i1 Msg.zero).pot), .int .i64 ((l.getD i1 Msg.zero).at_), .bool ((l.getD i1 Msg.zero).ok)]) rfl Law18_ag35 hv.of_nil rfl WD (fun o ho => flatm_atA Msg.cl_enc.len W Msg.zero o ho))<|?_
    refine Zm Z ?_
    refine Run.call [0, 0] (l := [.tmp 78, .tmp 82, .tmp 83]) rfl rfl rfl (lt rfl) (note_c (l := ls) (m := (l.getD i1 Msg.zero)) (ok := (bs.getD i1 false)) hms) (fun v9 V9 H9 hle9 hR => ?_)
    obtain ⟨hV, ss2, hms2, rfl⟩ := hR; replace hV := hV.symm; subst hV
    refine Run.heapTo (H' := [[(rx, .cells #[.slice pl ls.length cl] 114 (0, 0))], sq1, [(sx, .cells #[vs] 111 (0, 0))], ss2]) Z<|Run.heapTo (H' := [[(rx, .cells #[.slice pl ls.length cl] 114 (0, 0))], sq1, [(sx, .cells #[vs] 111 (0, 0))], ss2]) Z<|Ze<|Zg<|Zr<|Zm Z<|Zm Z<|Zm Z<|Zv (Y.idxR i1 Z Z Law18_es39 hv.of_nil W W)<|Zv (Y.ldRA (vs := [.int .i64 ((l.getD i1 Msg.zero).kind), .int .i64 ((l.getD i1 Msg.zero).life), .int .i64 ((l.getD i1 Msg.zero).seen), .int .i64 ((l.getD i1 Msg.zero).xid), .int .i64 ((l.getD i1 Msg.zero).state), .int .u32 ((l.getD i1 Msg.zero).addr), .int .i64 ((l.getD i1 Msg.zero).bind), .string ((l.getD i1 Msg.zero).client), .int .i64 ((l.getD i1 Msg.zero).pot), .int .i64 ((l.getD i1 Msg.zero).at_), .bool ((l.getD i1 Msg.zero).ok)]) rfl Law18_ag35 hv.of_nil rfl WD (fun o ho => flatm_atA Msg.cl_enc.len W Msg.zero o ho))<|?_
    refine Zm Z ?_
    refine Run.call [0, 0] (l := [.tmp 85, .tmp 89, .tmp 90]) rfl rfl rfl (lt rfl) (rnote_c (l := ls) (m := (l.getD i1 Msg.zero)) (ok := (bs.getD i1 false)) hsq W) (fun v9 V9 H9 hle9 hR => ?_)
    obtain ⟨hV, pl2, cl2, sq2, hsq2, rfl⟩ := hR; replace hV := hV.symm; subst hV
    refine Run.heapTo (H' := [[(sx, .cells #[vs] 111 (0, 0))], ss2, [(rx, .cells #[.slice pl2 (Sn.note ls (l.getD i1 Msg.zero).addr (l.getD i1 Msg.zero).xid (bs.getD i1 false)).length cl2] 114 (0, 0))], sq2]) Z<|Run.heapTo (H' := [[(sx, .cells #[vs] 111 (0, 0))], ss2, [(rx, .cells #[.slice pl2 (Sn.note ls (l.getD i1 Msg.zero).addr (l.getD i1 Msg.zero).xid (bs.getD i1 false)).length cl2] 114 (0, 0))], sq2]) Z<|Ze<|?_
    refine Zc<|Zg<|Zr<|Zm Z<|Zv (Y.add Z Z W)<|Za Z<|Ze<|Ex.keepTo (H' := [[(sx, .cells #[vs] 111 (0, 0))], ss2, [(rx, .cells #[.slice pl2 (Sn.note ls (l.getD i1 Msg.zero).addr (l.getD i1 Msg.zero).xid (bs.getD i1 false)).length cl2] 114 (0, 0))], sq2]) [0, 0, 0, 0] Z<|?_
    have hnl := Sn.note_len ls (l.getD i1 Msg.zero).addr (l.getD i1 Msg.zero).xid (bs.getD i1 false)
    exact ZR (⟨i1 + 1, (Sn.note ls (l.getD i1 Msg.zero).addr (l.getD i1 Msg.zero).xid (bs.getD i1 false)), ss2, pl2, cl2, sq2⟩ : Nat × List (Int × (Int × Bool)) × Sg × Option Addr × Nat × Sg) ⟨hms2, hsq2, by (try dsimp only); omega, by omega, by omega⟩ (by dsimp only; omega)
   ·refine Zo h3 Z<|Zo h3 Z<|Zo h3 Z<|Zo h3 Z<|Zv (Y.pick_f Z h3 Z)<|Za Z<|Ze<|Zg<|Zs<|Zr<|Zm Z<|Zm Z<|Zm Z<|Zv (Y.idxR i1 Z Z Law18_es39 hv.of_nil W W)<|Zv (Y.ldRA (vs := [.int .i64 ((l.getD i1 Msg.zero).kind), .int .i64 ((l.getD i1 Msg.zero).life), .int .i64 ((l.getD i1 Msg.zero).seen), .int .i64 ((l.getD i1 Msg.zero).xid), .int .i64 ((l.getD i1 Msg.zero).state), .int .u32 ((l.getD i1 Msg.zero).addr), .int .i64 ((l.getD i1 Msg.zero).bind), .string ((l.getD i1 Msg.zero).client), .int .i64 ((l.getD i1 Msg.zero).pot), .int .i64 ((l.getD i1 Msg.zero).at_), .bool ((l.getD i1 Msg.zero).ok)]) rfl Law18_ag35 hv.of_nil rfl WD (fun o ho => flatm_atA Msg.cl_enc.len W Msg.zero o ho))<|?_
    refine Zm Z ?_
    refine Run.call [0, 0] (l := [.tmp 78, .tmp 82, .tmp 83]) rfl rfl rfl (lt rfl) (note_c (l := ls) (m := (l.getD i1 Msg.zero)) (ok := false) hms) (fun v9 V9 H9 hle9 hR => ?_)
    obtain ⟨hV, ss2, hms2, rfl⟩ := hR; replace hV := hV.symm; subst hV
    refine Run.heapTo (H' := [[(rx, .cells #[.slice pl ls.length cl] 114 (0, 0))], sq1, [(sx, .cells #[vs] 111 (0, 0))], ss2]) Z<|Run.heapTo (H' := [[(rx, .cells #[.slice pl ls.length cl] 114 (0, 0))], sq1, [(sx, .cells #[vs] 111 (0, 0))], ss2]) Z<|Ze<|Zg<|Zr<|Zm Z<|Zm Z<|Zm Z<|Zv (Y.idxR i1 Z Z Law18_es39 hv.of_nil W W)<|Zv (Y.ldRA (vs := [.int .i64 ((l.getD i1 Msg.zero).kind), .int .i64 ((l.getD i1 Msg.zero).life), .int .i64 ((l.getD i1 Msg.zero).seen), .int .i64 ((l.getD i1 Msg.zero).xid), .int .i64 ((l.getD i1 Msg.zero).state), .int .u32 ((l.getD i1 Msg.zero).addr), .int .i64 ((l.getD i1 Msg.zero).bind), .string ((l.getD i1 Msg.zero).client), .int .i64 ((l.getD i1 Msg.zero).pot), .int .i64 ((l.getD i1 Msg.zero).at_), .bool ((l.getD i1 Msg.zero).ok)]) rfl Law18_ag35 hv.of_nil rfl WD (fun o ho => flatm_atA Msg.cl_enc.len W Msg.zero o ho))<|?_
    refine Zm Z ?_
    refine Run.call [0, 0] (l := [.tmp 85, .tmp 89, .tmp 90]) rfl rfl rfl (lt rfl) (rnote_c (l := ls) (m := (l.getD i1 Msg.zero)) (ok := false) hsq W) (fun v9 V9 H9 hle9 hR => ?_)
    obtain ⟨hV, pl2, cl2, sq2, hsq2, rfl⟩ := hR; replace hV := hV.symm; subst hV
    refine Run.heapTo (H' := [[(sx, .cells #[vs] 111 (0, 0))], ss2, [(rx, .cells #[.slice pl2 (Sn.note ls (l.getD i1 Msg.zero).addr (l.getD i1 Msg.zero).xid false).length cl2] 114 (0, 0))], sq2]) Z<|Run.heapTo (H' := [[(sx, .cells #[vs] 111 (0, 0))], ss2, [(rx, .cells #[.slice pl2 (Sn.note ls (l.getD i1 Msg.zero).addr (l.getD i1 Msg.zero).xid false).length cl2] 114 (0, 0))], sq2]) Z<|Ze<|Zc<|Zg<|Zr<|Zm Z<|Zv (Y.add Z Z W)<|?_
    refine Za Z<|Ze<|Ex.keepTo (H' := [[(sx, .cells #[vs] 111 (0, 0))], ss2, [(rx, .cells #[.slice pl2 (Sn.note ls (l.getD i1 Msg.zero).addr (l.getD i1 Msg.zero).xid false).length cl2] 114 (0, 0))], sq2]) [0, 0, 0, 0] Z<|?_
    have hnl := Sn.note_len ls (l.getD i1 Msg.zero).addr (l.getD i1 Msg.zero).xid false
    exact ZR (⟨i1 + 1, (Sn.note ls (l.getD i1 Msg.zero).addr (l.getD i1 Msg.zero).xid false), ss2, pl2, cl2, sq2⟩ : Nat × List (Int × (Int × Bool)) × Sg × Option Addr × Nat × Sg) ⟨hms2, hsq2, by (try dsimp only); omega, by omega, by omega⟩ (by dsimp only; omega)
  ·refine Tr.cond_f Z h2<|Zx<|Zy<|Zy<|Zi<|Zg<|Zs<|Zr<|Za Z<|Ze<|Zg<|Zu<|Ex.keep []<|?_
   exact Ex.ret1 rfl rfl  rfl
 ·refine Zo h1 Z<|Zo h1 Z<|Zv (Y.pick_f Z h1 Z)<|Ze<|Zg<|Tr.cond_f Z Z<|Zx<|Zy<|Zy<|Zi<|Zg<|Zs<|Zr<|Za Z<|Ze<|Zg<|?_
  refine Zu<|Ex.keep []<|?_
  exact Ex.ret1 rfl rfl  rfl

theorem outboxseen_h {V : Vw} {l : List Msg} {v0 v1 : Value} (hv : Rd V [] 11 v0 l.length (l.map Msg.cl).flatten) (hl9 : l.length ≤ 9223372036854775807) {bs : List Bool} (hv2 : Rd V [] 1 v1 bs.length (bs.map nB).flatten) (hb9 : bs.length ≤ 9223372036854775807) : Does Try.prog 4 [v0, v1] V [] (fun v _ _ => v = .bool true) := by
  obtain ⟨p, c, rfl, _⟩ := hv.form
  obtain ⟨p2, c2, rfl, _⟩ := hv2.form
  rw [← List.flatMap_def] at hv hv2
  exact outboxseen_c hv hl9 hv2 hb9
end Go.Proofs.Ytpdnkhdmajmbiaa
