/- The statement OutboxAnswers, walked.
Conditions: as each theorem names them. -/
import Derived.Test.YtpdnkhdmajmbiaaProg
import Derived.Test.YtpdnkhdmajmbiaaLaw18c
import Derived.Test.YtpdnkhdmajmbiaaBB
import Derived.Test.YtpdnkhdmajmbiaaZG
set_option linter.unusedSimpArgs false
set_option linter.unusedVariables false
set_option maxRecDepth 4000
namespace Go.Proofs.Ytpdnkhdmajmbiaa
open Go Go.K
attribute [local irreducible] Code.wp wpList Calls wpQuiet
theorem Law18d_pt24 : ptrT Try.prog 24 = true := by kernel_rfl
theorem Law18d_es22 : elemS Try.prog 22 = some (31, 2) := by kernel_rfl
theorem Law18d_mo : Try.prog.follows .mixedOrders = true := by kernel_rfl
theorem Law18d_al31 : arrT Try.prog 31 = some (2, 1) := by kernel_rfl
theorem Law18d_ts3 : scal Try.prog 3 = true := by kernel_rfl
theorem Law18d_it3_30 : intT Try.prog 3 30 = some .u32 := by kernel_rfl
theorem Law18d_es39 : elemS Try.prog 39 = some (35, 11) := by kernel_rfl
theorem Law18d_fo35_3 : fieldOff Try.prog 35 3 = some 3 := by kernel_rfl
theorem Law18d_zo35 : zeroOf Try.prog 35 = some (.agg #[.int .i64 0, .int .i64 0, .int .i64 0, .int .i64 0, .int .i64 0, .int .u32 0, .int .i64 0, .string ⟨#[]⟩, .int .i64 0, .int .i64 0, .bool false]) := by kernel_rfl
theorem Law18d_sz35 : sizeT Try.prog 35 = some 11 := by kernel_rfl
theorem Law18d_ag35 : aggsz Try.prog 35 = some 11 := by kernel_rfl
theorem Law18d_tgs35 : tags Try.prog 35 = some [(0, .i64), (0, .i64), (0, .i64), (0, .i64), (0, .i64), (0, .u32), (0, .i64), (2, .i64), (0, .i64), (0, .i64), (1, .i64)] := by kernel_rfl
theorem Law18d_fo35_8 : fieldOff Try.prog 35 8 = some 8 := by kernel_rfl

set_option maxHeartbeats 1000000 in
theorem outboxanswers_c {V : Vw} {l : List (Int × Int)} {p : Option Addr} {c : Nat} (hv : Rd V [] 2 (.slice p l.length c) l.length (l.flatMap pr2)) (hl9 : l.length ≤ 9223372036854775807)  : Does Try.prog 7 [.slice p l.length c] V [] (fun v _ _ => v = .bool true) := by
 refine Does.intro Try.func7 rfl rfl (le rfl) (fun B => ?_)
 refine Zs<|Zr<|Za Z<|Ze<|Zg<|Zs<|Zr<|Run.call0 (l := []) Z Z Z (lt Z) awake_h<|Run.heapTo (H' := []) Z<|Za Z<|Ze<|Zg<|Zs<|Zr<|?_
 refine Run.call [] (l := []) rfl rfl rfl (lt rfl) (new_o) (fun v9 V9 H9 hle9 hR => ?_)
 obtain ⟨hV, bx1, sb1, rfl, hb1, rfl⟩ := hR; replace hV := hV.symm; subst hV
 refine Run.heapTo (H' := [sb1]) Z<|Run.heapTo (H' := [sb1]) Z<|Za Z<|Ze<|Zg<|Zs<|Zs<|Zr<|Zm Z<|Zv (Y.not Z)<|Zm Z<|Zp Z<|Zm Z<|Zp Z<|Zv (Y.eqNil Z Z Law18d_pt24)<|Zv (Y.pick_f Z Z Z)<|?_
 refine Ze<|Zg<|Tr.cond_f Z Z<|Zt<|Zg<|Zs<|Zs<|Zr<|Za Z<|Ze<|Zg<|Zb<|?_
 refine ZL (X := Nat × Ob × Sg) (fun z0 => V) (fun z0 => [z0.2.2]) (fun z0 => [(0, .slice p l.length c), (4, .pointer (some ⟨bx1, 0, none⟩)), (5, .int .i64 (z0.1 : Int))]) (fun z0 => Ob.In 105 99 z0.2.1 bx1 z0.2.2 ∧ Ob.Ans z0.2.1 ∧ z0.2.1.load ≤ (z0.1 : Int) ∧ z0.1 ≤ l.length ∧ z0.1 ≤ 100) (fun z0 => l.length - z0.1) (⟨0, Ob.new, sb1⟩ : Nat × Ob × Sg) ⟨hb1, Ob.ans_new, Int.le_refl _, Nat.zero_le _, Nat.zero_le _⟩ ?_
 rintro ⟨i1, o, sb⟩ ⟨hb, hA, hlo, hil, hi2⟩
 try dsimp only at hb hA hlo hil hi2 ⊢
 refine Zs<|Zs<|Zr<|?_
 have hll := Ob.last_load o
 refine Zm Z<|Zm Z<|Zv (Y.lenSl Z Law18d_es22)<|Zv (Y.int Z Z Z)<|Zm Z<|?_
 rcases Zsplit (decide ((i1 : Int) < ((l.length : Nat) : Int))) with ⟨h2, g2⟩ | ⟨h2, g2⟩ <;> try simp only [kb] at g2
 ·refine Zp h2<|Zm Z<|Zp h2<|Zv (Y.int Z Z Z)<|Zv (Y.pick_t Z h2 Z)<|Ze<|Zg<|?_
  rcases Zsplit (decide ((i1 : Int) < 100)) with ⟨h3, g3⟩ | ⟨h3, g3⟩ <;> try simp only [kb] at g3
  ·refine Tr.cond_t Z h3<|Zt<|Zg<|Zs<|Zb<|Tr.tail 14 Law18d_mo WK<|ZM Z<|ZM Z<|ZM Z<|ZV (Y.idxR i1 Z Z Law18d_es22 hv.of_nil W W)<|ZV (Y.idxArrR Z Z Law18d_al31 hv.of_nil W WD WD)<|ZV (Y.ldR Z Law18d_ts3 hv.of_nil (flatm_at pr2_enc.len W ((0, 0) : Int × Int) WD rfl))<|ZV (Y.int (r := .int .i64 (((l.getD i1 ((0, 0) : Int × Int)).1) % 8)) rfl rfl (by simp only [intRes]; rw [and_low2 ((l.getD i1 ((0, 0) : Int × Int)).1) 7 8 3 WD rfl rfl]))<|?_
   refine ZV (Y.conv (((l.getD i1 ((0, 0) : Int × Int)).1) % 8) rfl Law18d_it3_30 (wrap_u32 W))<|ZM Z<|ZM Z<|ZV (Y.idxR i1 Z Z Law18d_es22 hv.of_nil W W)<|ZV (Y.idxArrR Z Z Law18d_al31 hv.of_nil W WD WD)<|ZV (Y.ldR Z Law18d_ts3 hv.of_nil (flatm_at pr2_enc.len W ((0, 0) : Int × Int) WD rfl))<|RunQ.call0 (l := [.tmp 44, .tmp 49]) Z Z Z (lt Z) update_h<|?_
   refine RunQ.nil_run ?_
   refine Run.call [0] (l := [.tmp 37, .tmp 50]) rfl rfl rfl (lt rfl) (put_o hb (m := (Ob.upd (((l.getD i1 ((0, 0) : Int × Int)).1) % 8) ((l.getD i1 ((0, 0) : Int × Int)).2)))) (fun v9 V9 H9 hle9 hR => ?_)
   obtain ⟨hV, b4, e4, o4, sb4, hq4, rfl, hb4, rfl⟩ := hR; replace hV := hV.symm; subst hV
   refine Run.heapTo (H' := [sb4]) Z<|Run.heapTo (H' := [sb4]) Z<|Ze<|Zc<|Zg<|Zr<|Zm Z<|Zv (Y.add Z Z W)<|Za Z<|Ze<|Ex.keep [0]<|?_
   have hld := Ob.load_put hq4
   exact ZR (⟨i1 + 1, o4, sb4⟩ : Nat × Ob × Sg) ⟨hb4, Ob.ans_put hA W hq4, by (try dsimp only); omega, by (try dsimp only); omega, by (try dsimp only); omega⟩ (by dsimp only; omega)
  ·refine Tr.cond_f Z h3<|Zx<|Zy<|Zy<|Zi<|Zg<|Zs<|Zr<|?_
   have hwl : o.waits.length ≤ 4294967296 := by have := hb.1.l0; unfold Ob.load at hlo; omega
   refine Zm Z<|Run.call0 (l := [.tmp 52]) Z Z Z (lt Z) (Does.frame1 0 Z (len_o hb hwl))<|Za Z<|Ze<|Zg<|Zs<|Zr<|Zm Z<|?_
   refine Run.call [0] (l := [.tmp 55, .const (.int .i64 5)]) rfl rfl rfl (lt rfl) (tick_o hb (now := 5) (by skip; omega)) (fun v9 V9 H9 hle9 hR => ?_)
   obtain ⟨hV, ms5, e5, o5, p5, c5, q5, sb5, hq5, rfl, ho5, hb5, rfl⟩ := hR; replace hV := hV.symm; subst hV
   refine Run.heapTo (H' := [q5, sb5]) Z<|Run.heapTo (H' := [q5, sb5]) Z<|Zm Z<|Zv (Y.extract Z Z)<|Zv (Y.extract Z Z)<|Za Z<|Za Z<|Ze<|Zg<|Zs<|Zs<|Zr<|?_
   obtain ⟨hTm, hTe, hTo, hTl⟩ := Ob.ans_tick hA WD hq5
   have hLn := Ob.ans_len hA hb.1
   have hTn : ms5.length = o.outs.length := by rw [hTm, Ob.msgs_len]
   have hAn := hA.n
   refine Zm Z<|Zv (Y.int Z Z Z)<|Zm Z<|Run.on rfl rfl rfl (by rw [hTe]; rfl)<|Zm Z<|Run.on rfl rfl rfl (by rw [hTe]; rfl)<|Zv (Y.lenSl Z Law18d_es39)<|Run.on rfl rfl rfl (by rw [hTe]; rfl)<|Zm Z<|Run.on rfl rfl rfl (by rw [hTe]; rfl)<|Zv (Y.int Z Z Z)<|Zv (Y.pick_f Z (by rw [hTe]; rfl) rfl)<|Zm Z<|Run.on rfl rfl rfl (by rw [hTn, hLn]; simp)<|Zm Z<|Run.on rfl rfl rfl (by rw [hTn, hLn]; simp)<|?_
   refine Run.call0 (l := [.tmp 68]) Z Z Z (lt Z) (Does.frame1 1 Z (last_o hb5))<|Run.on rfl rfl rfl (by rw [hTn, hLn]; simp)<|Zm Z<|Run.on rfl rfl rfl (by rw [hTn, hLn]; simp)<|Zv (Y.int Z Z Z)<|Zv (Y.pick_f Z (by rw [hTn, hLn]; simp) rfl)<|Ze<|Zg<|Tr.cond_f rfl (by rw [hTl, hLn, hAn]; simp)<|Zt<|Zg<|Zs<|Zs<|Zr<|?_
   have hTp : ∀ k, k < ms5.length → ms5.getD k Msg.zero = (o5.outs.getD k Ob.odflt).msg := fun k hk => by rw [hTm, hTo]; rw [hTm, Ob.msgs_len] at hk; exact Ob.tick_msg hk
   have hT2 : o5.outs.length = ms5.length := by rw [hTo, hTn]; unfold Ob.tick; simp
   have hT3 : o5.load ≤ 100 := by have := Ob.load_tick hq5; omega
   refine Run.keepTo (H' := [sb5, q5]) [1, 0] Z<|Za Z<|Ze<|Zg<|Zb<|?_
   refine ZL (X := Nat × Ob × Sg) (fun z0 => V) (fun z0 => [z0.2.2, q5]) (fun z0 => [(4, .pointer (some ⟨bx1, 0, none⟩)), (7, .slice p5 ms5.length c5), (9, .int .i64 (z0.1 : Int))]) (fun z0 => Ob.In 105 99 z0.2.1 bx1 z0.2.2 ∧ (∃ nw, z0.2.1.outs = o5.outs.drop z0.1 ++ nw) ∧ z0.2.1.load ≤ 100 ∧ z0.1 ≤ ms5.length) (fun z0 => ms5.length - z0.1) (⟨0, o5, sb5⟩ : Nat × Ob × Sg) ⟨hb5, ⟨[], by simp⟩, hT3, Nat.zero_le _⟩ ?_
   rintro ⟨k1, r, sd⟩ ⟨hd, hnw, hlo4, hkl⟩
   try dsimp only at hd hnw hlo4 hkl ⊢
   refine Zs<|Zs<|Zr<|?_
   have hll4 := Ob.last_load r
   obtain ⟨nw, hnw⟩ := hnw
   refine Zm Z<|Zm Z<|Zv (Y.lenSl Z Law18d_es39)<|Zv (Y.int Z Z Z)<|Ze<|Zg<|?_
   rcases Zsplit (decide ((k1 : Int) < ((ms5.length : Nat) : Int))) with ⟨h6, g6⟩ | ⟨h6, g6⟩ <;> try simp only [kb] at g6
   ·refine Tr.cond_t Z h6<|Zt<|Zg<|Zs<|Zb<|Zs<|Zr<|Zm Z<|Zm Z<|Zm Z<|Zv (Y.idxR k1 Z Z Law18d_es39 (ho5.rd 1 rfl) W W)<|Zv (Y.fieldR Z Law18d_fo35_3 (ho5.rd 1 rfl) W)<|Zv (Y.ldR Z Law18d_ts3 (ho5.rd 1 rfl) (flatm_at Msg.cl_enc.len W Msg.zero WD rfl))<|?_
    refine Run.call [0] (l := [.tmp 80, .tmp 85]) rfl rfl rfl (lt rfl) (acked_o hd (k := (ms5.getD k1 Msg.zero).xid)) (fun v9 V9 H9 hle9 hR => ?_)
    obtain ⟨hV, b7, m7, f7, o7, sb7, hq7, rfl, hb7, rfl⟩ := hR; replace hV := hV.symm; subst hV
    refine Run.heapTo (H' := [q5, sb7]) Z<|Run.heapTo (H' := [q5, sb7]) Z<|Zm Z<|Zv (Y.extract Z Z)<|Zv (Y.extract Z Z)<|?_
    refine Run.alloc Law18d_zo35 (lt rfl) (fun b8 => ?_)
    refine Run.store (s := [(b8, .cells #[.int .i64 m7.kind, .int .i64 m7.life, .int .i64 m7.seen, .int .i64 m7.xid, .int .i64 m7.state, .int .u32 m7.addr, .int .i64 m7.bind, .string m7.client, .int .i64 m7.pot, .int .i64 m7.at_, .bool m7.ok] 35 (0, 0))]) Z Z Law18d_sz35 (i := 0) Z Z (le Z) Z Z<|Za Z<|Ze<|Zg<|Zs<|Zr<|Zm Z<|Zm Z<|Zm Z<|Zv (Y.idxR k1 Z Z Law18d_es39 (ho5.rd 1 rfl) W W)<|Zv (Y.fieldR Z Law18d_fo35_3 (ho5.rd 1 rfl) W)<|?_
    refine Zv (Y.ldR Z Law18d_ts3 (ho5.rd 1 rfl) (flatm_at Msg.cl_enc.len W Msg.zero WD rfl)) ?_
    refine Run.call [2] (l := [.tmp 90, .tmp 95]) rfl rfl rfl (lt rfl) (acked_o hb7 (k := (ms5.getD k1 Msg.zero).xid)) (fun v9 V9 H9 hle9 hR => ?_)
    obtain ⟨hV, b9, m9, f9, o9, sb9, hq9, rfl, hb9, rfl⟩ := hR; replace hV := hV.symm; subst hV
    refine Run.heapTo (H' := [[(b8, .cells #[.int .i64 m7.kind, .int .i64 m7.life, .int .i64 m7.seen, .int .i64 m7.xid, .int .i64 m7.state, .int .u32 m7.addr, .int .i64 m7.bind, .string m7.client, .int .i64 m7.pot, .int .i64 m7.at_, .bool m7.ok] 35 (0, 0))], q5, sb9]) Z<|Run.heapTo (H' := [[(b8, .cells #[.int .i64 m7.kind, .int .i64 m7.life, .int .i64 m7.seen, .int .i64 m7.xid, .int .i64 m7.state, .int .u32 m7.addr, .int .i64 m7.bind, .string m7.client, .int .i64 m7.pot, .int .i64 m7.at_, .bool m7.ok] 35 (0, 0))], q5, sb9]) Z<|?_
    refine Zm Z<|Zv (Y.extract Z Z)<|Zv (Y.extract Z Z)<|?_
    refine Run.alloc Law18d_zo35 (lt rfl) (fun b10 => ?_)
    refine Run.store (s := [(b10, .cells #[.int .i64 m9.kind, .int .i64 m9.life, .int .i64 m9.seen, .int .i64 m9.xid, .int .i64 m9.state, .int .u32 m9.addr, .int .i64 m9.bind, .string m9.client, .int .i64 m9.pot, .int .i64 m9.at_, .bool m9.ok] 35 (0, 0))]) Z Z Law18d_sz35 (i := 0) Z Z (le Z) Z Z<|Za Z<|Ze<|Zg<|Zs<|Tr.quiet Law18d_mo WK<|?_
    obtain ⟨hG1, hG2, hG3, hG4, hG5⟩ := Ob.ans_acked (E := ms5.getD k1 Msg.zero) hd.1 hnw W (hTp k1 W) (hb5.1.mx _ (Ob.getD_mem W)) hq7 hq9
    refine ZM Z<|ZV (Y.not Z)<|ZM Z<|ZP (congrArg Bool.not hG1)<|ZM Z<|ZV (Y.pick_f Z (congrArg Bool.not hG1) Z)<|ZM Z<|ZP hG3<|ZV (Y.loadAgg Z Law18d_ag35 (Kn.at 1 Z) Z)<|ZP hG3<|ZM Z<|ZP hG3<|ZM Z<|ZP hG3<|ZV (Y.idxR k1 Z Z Law18d_es39 (ho5.rd 2 rfl) W W)<|ZP hG3<|?_
    refine ZV (Y.ldRA (vs := [.int .i64 ((ms5.getD k1 Msg.zero).kind), .int .i64 ((ms5.getD k1 Msg.zero).life), .int .i64 ((ms5.getD k1 Msg.zero).seen), .int .i64 ((ms5.getD k1 Msg.zero).xid), .int .i64 ((ms5.getD k1 Msg.zero).state), .int .u32 ((ms5.getD k1 Msg.zero).addr), .int .i64 ((ms5.getD k1 Msg.zero).bind), .string ((ms5.getD k1 Msg.zero).client), .int .i64 ((ms5.getD k1 Msg.zero).pot), .int .i64 ((ms5.getD k1 Msg.zero).at_), .bool ((ms5.getD k1 Msg.zero).ok)]) rfl Law18d_ag35 (ho5.rd 2 rfl) rfl WD (fun o ho => flatm_atA Msg.cl_enc.len W Msg.zero o ho)) ?_
    refine ZP hG3<|ZV (Y.neS Z Z Law18d_tgs35 Z Z)<|ZV (Y.pick_f Z hG3 Z)<|ZE<|Zg<|Tr.cond_f Z (congrArg Bool.not (Ob.same_of hG2))<|Zt<|Zc<|Zg<|Zr<|Zm Z<|Zv (Y.add Z Z W)<|Za Z<|Ze<|Ex.keep [3, 2]<|?_
    have hl1 := Ob.load_acked hq7
    have hl2 := Ob.load_acked hq9
    exact ZR (⟨k1 + 1, o9, sb9⟩ : Nat × Ob × Sg) ⟨hb9, by (try dsimp only); rw [hG4]; exact hG5, by (try dsimp only); omega, by (try dsimp only); omega⟩ (by dsimp only; omega)
   ·refine Tr.cond_f Z h6<|Zx<|Zy<|Zy<|Zi<|Zg<|Zs<|Zr<|Zm Z<|Run.call0 (l := [.const (.int .u32 1), .const (.int .i64 5)]) Z Z Z (lt Z) update_h<|?_
    refine Run.call [0] (l := [.tmp 112, .tmp 113]) rfl rfl rfl (lt rfl) (put_o hd (m := (Ob.upd 1 5))) (fun v9 V9 H9 hle9 hR => ?_)
    obtain ⟨hV, b11, e11, o11, sb11, hq11, rfl, hb11, rfl⟩ := hR; replace hV := hV.symm; subst hV
    refine Run.heapTo (H' := [q5, sb11]) Z<|Run.heapTo (H' := [q5, sb11]) Z<|Ze<|Zg<|Zs<|Zr<|Zm Z<|Run.call0 (l := [.const (.int .u32 1), .const (.int .i64 6)]) Z Z Z (lt Z) update_h<|?_
    refine Run.call [1] (l := [.tmp 115, .tmp 116]) rfl rfl rfl (lt rfl) (put_o hb11 (m := (Ob.upd 1 6))) (fun v9 V9 H9 hle9 hR => ?_)
    obtain ⟨hV, b12, e12, o12, sb12, hq12, rfl, hb12, rfl⟩ := hR; replace hV := hV.symm; subst hV
    refine Run.heapTo (H' := [q5, sb12]) Z<|Run.heapTo (H' := [q5, sb12]) Z<|Ze<|Zg<|Zs<|Zr<|?_
    have hl5 := Ob.load_put hq11
    have hl6 := Ob.load_put hq12
    have hl7 := Ob.last_load o12
    have hl8 := hb12.1.l0
    refine Zm Z<|Run.call0 (l := [.tmp 118]) Z Z Z (lt Z) (Does.frame1 1 Z (last_o hb12))<|Za Z<|Ze<|Zg<|Zs<|Zr<|Zm Z<|?_
    refine Run.call [1] (l := [.tmp 120]) rfl rfl rfl (lt rfl) (clear_o hb12) (fun v9 V9 H9 hle9 hR => ?_)
    obtain ⟨hV, sb13, hb13, rfl⟩ := hR; replace hV := hV.symm; subst hV
    refine Run.heapTo (H' := [q5, sb13]) Z<|Run.heapTo (H' := [q5, sb13]) Z<|Ze<|Zg<|Zs<|Zr<|Zm Z<|?_
    refine Run.call [1] (l := [.tmp 123, .const (.int .i64 9)]) rfl rfl rfl (lt rfl) (tick_o hb13 (now := 9) (by show o12.last ≤ _; omega)) (fun v9 V9 H9 hle9 hR => ?_)
    obtain ⟨hV, ms14, e14, o14, p14, c14, q14, sb14, hq14, rfl, ho14, hb14, rfl⟩ := hR; replace hV := hV.symm; subst hV
    refine Run.heapTo (H' := [q5, q14, sb14]) Z<|Run.heapTo (H' := [q5, q14, sb14]) Z<|Zm Z<|Zv (Y.extract Z Z)<|Zv (Y.extract Z Z)<|Za Z<|Za Z<|Ze<|Zg<|Zs<|Zs<|Zr<|?_
    obtain ⟨hN1, hN2⟩ := Ob.ans_none hq14
    have hN3 : o14.waits.length ≤ 4294967296 := by rw [hN2]; exact Nat.zero_le _
    refine Zm Z<|Zv (Y.lenSl Z Law18d_es39)<|Zv (Y.int Z Z Z)<|Zm Z<|Run.on rfl rfl rfl (by rw [hN1]; rfl)<|Zm Z<|Run.on rfl rfl rfl (by rw [hN1]; rfl)<|Run.call0 (l := [.tmp 131]) Z Z Z (lt Z) (Does.frame1 2 Z (len_o hb14 hN3))<|Run.on rfl rfl rfl (by rw [hN1]; rfl)<|Zv (Y.int Z Z Z)<|Zv (Y.pick_f Z (by rw [hN1]; rfl) rfl)<|Zm Z<|Run.on rfl rfl rfl (by rw [hN2, Ob.clear_len]; rfl)<|Zm Z<|Run.on rfl rfl rfl (by rw [hN2, Ob.clear_len]; rfl)<|?_
    refine Run.call0 (l := [.tmp 136, .const (.int .u32 1)]) Z Z Z (lt Z) (Does.frame1 2 Z (busy_o hb14 (a := 1)))<|Zv (Y.pick_f Z (by rw [hN2, Ob.clear_len]; rfl) rfl)<|Zm Z<|Run.on rfl rfl rfl (by rw [hN2]; rfl)<|Zm Z<|Run.on rfl rfl rfl (by rw [hN2]; rfl)<|Run.call0 (l := [.tmp 140]) Z Z Z (lt Z) (Does.frame1 2 Z (last_o hb14))<|Run.on rfl rfl rfl (by rw [hN2]; rfl)<|Zm Z<|Run.on rfl rfl rfl (by rw [hN2]; rfl)<|Zv (Y.int Z Z Z)<|?_
    refine Zv (Y.pick_f Z (by rw [hN2]; rfl) rfl)<|Ze<|Zg<|Tr.cond_f rfl (by rw [hN2]; simp [Ob.clear])<|Zt<|Zg<|Zs<|Zr<|Zm Z<|Run.call0 (l := [.const (.int .u32 1), .const (.int .i64 7)]) Z Z Z (lt Z) update_h<|?_
    refine Run.call [2] (l := [.tmp 145, .tmp 146]) rfl rfl rfl (lt rfl) (put_o hb14 (m := (Ob.upd 1 7))) (fun v9 V9 H9 hle9 hR => ?_)
    obtain ⟨hV, b15, e15, o15, sb15, hq15, rfl, hb15, rfl⟩ := hR; replace hV := hV.symm; subst hV
    refine Run.heapTo (H' := [q5, q14, sb15]) Z<|Run.heapTo (H' := [q5, q14, sb15]) Z<|Ze<|Zg<|Zs<|Zr<|Zm Z<|?_
    refine Run.call [2] (l := [.tmp 149, .const (.int .i64 9)]) rfl rfl rfl (lt rfl) (tick_o hb15 (now := 9) (by have h8 := Ob.load_put hq15; have h9 := Ob.last_load o15; rw [hN2] at h8; have h10 : Ob.load o12.clear = o12.last := (by show o12.last + 0 = _; omega); omega)) (fun v9 V9 H9 hle9 hR => ?_)
    obtain ⟨hV, ms16, e16, o16, p16, c16, q16, sb16, hq16, rfl, ho16, hb16, rfl⟩ := hR; replace hV := hV.symm; subst hV
    refine Run.heapTo (H' := [q5, q14, q16, sb16]) Z<|Run.heapTo (H' := [q5, q14, q16, sb16]) Z<|Zm Z<|Zv (Y.extract Z Z)<|Zv (Y.extract Z Z)<|Za Z<|Za Z<|Ze<|Zg<|Zs<|Zr<|?_
    have hS := Ob.ans_seven (o := o12) W (by rw [← hN2]; exact hq15) hq16
    obtain ⟨hS1, hS2, hS3⟩ := hS
    refine Zm Z<|Zv (Y.lenSl Z Law18d_es39)<|Zv (Y.int Z Z Z)<|Zm Z<|Run.on rfl rfl rfl (by rw [hS1]; rfl)<|Zm Z<|Run.on rfl rfl rfl (by rw [hS1]; rfl)<|Zv (Y.idxR 0 Z Z Law18d_es39 (ho16.rd 2 rfl) W W)<|Run.on rfl rfl rfl (by rw [hS1]; rfl)<|Zv (Y.fieldR Z Law18d_fo35_3 (ho16.rd 2 rfl) W)<|Run.on rfl rfl rfl (by rw [hS1]; rfl)<|Zv (Y.ldR Z Law18d_ts3 (ho16.rd 2 rfl) (flatm_at Msg.cl_enc.len W Msg.zero WD rfl))<|?_
    refine Run.on rfl rfl rfl (by rw [hS1]; rfl)<|Zm Z<|Run.on rfl rfl rfl (by rw [hS1]; rfl)<|Zv (Y.add Z Z W)<|Run.on rfl rfl rfl (by rw [hS1]; rfl)<|Zv (Y.int Z Z Z)<|Zv (Y.pick_t Z (by rw [hS1]; rfl) rfl)<|Zm Z<|Run.on rfl rfl rfl (by rw [hS2]; simp)<|Zm Z<|Run.on rfl rfl rfl (by rw [hS2]; simp)<|Zv (Y.idxR 0 Z Z Law18d_es39 (ho16.rd 2 rfl) W W)<|Run.on rfl rfl rfl (by rw [hS2]; simp)<|Zv (Y.fieldR Z Law18d_fo35_8 (ho16.rd 2 rfl) W)<|?_
    refine Run.on rfl rfl rfl (by rw [hS2]; simp)<|Zv (Y.ldR Z Law18d_ts3 (ho16.rd 2 rfl) (flatm_at Msg.cl_enc.len W Msg.zero WD rfl))<|Run.on rfl rfl rfl (by rw [hS2]; simp)<|Zv (Y.int Z Z Z)<|Zv (Y.pick_t Z (by rw [hS2]; simp) rfl)<|Za Z<|Ze<|Zg<|Zu<|Ex.keep []<|?_
    exact Ex.ret1 rfl rfl  (congrArg Value.bool (by rw [hS3]; rfl))
 ·refine Zo h2 Z<|Zo h2 Z<|Zv (Y.pick_f Z h2 Z)<|Ze<|Zg<|Tr.cond_f Z Z<|Zx<|Zy<|Zy<|Zi<|Zg<|Zs<|Zr<|?_
  have hwl : o.waits.length ≤ 4294967296 := by have := hb.1.l0; unfold Ob.load at hlo; omega
  refine Zm Z<|Run.call0 (l := [.tmp 52]) Z Z Z (lt Z) (Does.frame1 0 Z (len_o hb hwl))<|Za Z<|Ze<|Zg<|Zs<|Zr<|Zm Z<|?_
  refine Run.call [0] (l := [.tmp 55, .const (.int .i64 5)]) rfl rfl rfl (lt rfl) (tick_o hb (now := 5) (by skip; omega)) (fun v9 V9 H9 hle9 hR => ?_)
  obtain ⟨hV, ms17, e17, o17, p17, c17, q17, sb17, hq17, rfl, ho17, hb17, rfl⟩ := hR; replace hV := hV.symm; subst hV
  refine Run.heapTo (H' := [q17, sb17]) Z<|Run.heapTo (H' := [q17, sb17]) Z<|Zm Z<|Zv (Y.extract Z Z)<|Zv (Y.extract Z Z)<|Za Z<|Za Z<|Ze<|Zg<|Zs<|Zs<|Zr<|?_
  obtain ⟨hTm, hTe, hTo, hTl⟩ := Ob.ans_tick hA WD hq17
  have hLn := Ob.ans_len hA hb.1
  have hTn : ms17.length = o.outs.length := by rw [hTm, Ob.msgs_len]
  have hAn := hA.n
  refine Zm Z<|Zv (Y.int Z Z Z)<|Zm Z<|Run.on rfl rfl rfl (by rw [hTe]; rfl)<|Zm Z<|Run.on rfl rfl rfl (by rw [hTe]; rfl)<|Zv (Y.lenSl Z Law18d_es39)<|Run.on rfl rfl rfl (by rw [hTe]; rfl)<|Zm Z<|Run.on rfl rfl rfl (by rw [hTe]; rfl)<|Zv (Y.int Z Z Z)<|Zv (Y.pick_f Z (by rw [hTe]; rfl) rfl)<|Zm Z<|Run.on rfl rfl rfl (by rw [hTn, hLn]; simp)<|Zm Z<|Run.on rfl rfl rfl (by rw [hTn, hLn]; simp)<|?_
  refine Run.call0 (l := [.tmp 68]) Z Z Z (lt Z) (Does.frame1 1 Z (last_o hb17))<|Run.on rfl rfl rfl (by rw [hTn, hLn]; simp)<|Zm Z<|Run.on rfl rfl rfl (by rw [hTn, hLn]; simp)<|Zv (Y.int Z Z Z)<|Zv (Y.pick_f Z (by rw [hTn, hLn]; simp) rfl)<|Ze<|Zg<|Tr.cond_f rfl (by rw [hTl, hLn, hAn]; simp)<|Zt<|Zg<|Zs<|Zs<|Zr<|?_
  have hTp : ∀ k, k < ms17.length → ms17.getD k Msg.zero = (o17.outs.getD k Ob.odflt).msg := fun k hk => by rw [hTm, hTo]; rw [hTm, Ob.msgs_len] at hk; exact Ob.tick_msg hk
  have hT2 : o17.outs.length = ms17.length := by rw [hTo, hTn]; unfold Ob.tick; simp
  have hT3 : o17.load ≤ 100 := by have := Ob.load_tick hq17; omega
  refine Run.keepTo (H' := [sb17, q17]) [1, 0] Z<|Za Z<|Ze<|Zg<|Zb<|?_
  refine ZL (X := Nat × Ob × Sg) (fun z0 => V) (fun z0 => [z0.2.2, q17]) (fun z0 => [(4, .pointer (some ⟨bx1, 0, none⟩)), (7, .slice p17 ms17.length c17), (9, .int .i64 (z0.1 : Int))]) (fun z0 => Ob.In 105 99 z0.2.1 bx1 z0.2.2 ∧ (∃ nw, z0.2.1.outs = o17.outs.drop z0.1 ++ nw) ∧ z0.2.1.load ≤ 100 ∧ z0.1 ≤ ms17.length) (fun z0 => ms17.length - z0.1) (⟨0, o17, sb17⟩ : Nat × Ob × Sg) ⟨hb17, ⟨[], by simp⟩, hT3, Nat.zero_le _⟩ ?_
  rintro ⟨k1, r, sd⟩ ⟨hd, hnw, hlo4, hkl⟩
  try dsimp only at hd hnw hlo4 hkl ⊢
  refine Zs<|Zs<|Zr<|?_
  have hll4 := Ob.last_load r
  obtain ⟨nw, hnw⟩ := hnw
  refine Zm Z<|Zm Z<|Zv (Y.lenSl Z Law18d_es39)<|Zv (Y.int Z Z Z)<|Ze<|Zg<|?_
  rcases Zsplit (decide ((k1 : Int) < ((ms17.length : Nat) : Int))) with ⟨h18, g18⟩ | ⟨h18, g18⟩ <;> try simp only [kb] at g18
  ·refine Tr.cond_t Z h18<|Zt<|Zg<|Zs<|Zb<|Zs<|Zr<|Zm Z<|Zm Z<|Zm Z<|Zv (Y.idxR k1 Z Z Law18d_es39 (ho17.rd 1 rfl) W W)<|Zv (Y.fieldR Z Law18d_fo35_3 (ho17.rd 1 rfl) W)<|Zv (Y.ldR Z Law18d_ts3 (ho17.rd 1 rfl) (flatm_at Msg.cl_enc.len W Msg.zero WD rfl))<|?_
   refine Run.call [0] (l := [.tmp 80, .tmp 85]) rfl rfl rfl (lt rfl) (acked_o hd (k := (ms17.getD k1 Msg.zero).xid)) (fun v9 V9 H9 hle9 hR => ?_)
   obtain ⟨hV, b19, m19, f19, o19, sb19, hq19, rfl, hb19, rfl⟩ := hR; replace hV := hV.symm; subst hV
   refine Run.heapTo (H' := [q17, sb19]) Z<|Run.heapTo (H' := [q17, sb19]) Z<|Zm Z<|Zv (Y.extract Z Z)<|Zv (Y.extract Z Z)<|?_
   refine Run.alloc Law18d_zo35 (lt rfl) (fun b20 => ?_)
   refine Run.store (s := [(b20, .cells #[.int .i64 m19.kind, .int .i64 m19.life, .int .i64 m19.seen, .int .i64 m19.xid, .int .i64 m19.state, .int .u32 m19.addr, .int .i64 m19.bind, .string m19.client, .int .i64 m19.pot, .int .i64 m19.at_, .bool m19.ok] 35 (0, 0))]) Z Z Law18d_sz35 (i := 0) Z Z (le Z) Z Z<|Za Z<|Ze<|Zg<|Zs<|Zr<|Zm Z<|Zm Z<|Zm Z<|Zv (Y.idxR k1 Z Z Law18d_es39 (ho17.rd 1 rfl) W W)<|Zv (Y.fieldR Z Law18d_fo35_3 (ho17.rd 1 rfl) W)<|?_
   refine Zv (Y.ldR Z Law18d_ts3 (ho17.rd 1 rfl) (flatm_at Msg.cl_enc.len W Msg.zero WD rfl)) ?_
   refine Run.call [2] (l := [.tmp 90, .tmp 95]) rfl rfl rfl (lt rfl) (acked_o hb19 (k := (ms17.getD k1 Msg.zero).xid)) (fun v9 V9 H9 hle9 hR => ?_)
   obtain ⟨hV, b21, m21, f21, o21, sb21, hq21, rfl, hb21, rfl⟩ := hR; replace hV := hV.symm; subst hV
   refine Run.heapTo (H' := [[(b20, .cells #[.int .i64 m19.kind, .int .i64 m19.life, .int .i64 m19.seen, .int .i64 m19.xid, .int .i64 m19.state, .int .u32 m19.addr, .int .i64 m19.bind, .string m19.client, .int .i64 m19.pot, .int .i64 m19.at_, .bool m19.ok] 35 (0, 0))], q17, sb21]) Z<|Run.heapTo (H' := [[(b20, .cells #[.int .i64 m19.kind, .int .i64 m19.life, .int .i64 m19.seen, .int .i64 m19.xid, .int .i64 m19.state, .int .u32 m19.addr, .int .i64 m19.bind, .string m19.client, .int .i64 m19.pot, .int .i64 m19.at_, .bool m19.ok] 35 (0, 0))], q17, sb21]) Z<|?_
   refine Zm Z<|Zv (Y.extract Z Z)<|Zv (Y.extract Z Z)<|?_
   refine Run.alloc Law18d_zo35 (lt rfl) (fun b22 => ?_)
   refine Run.store (s := [(b22, .cells #[.int .i64 m21.kind, .int .i64 m21.life, .int .i64 m21.seen, .int .i64 m21.xid, .int .i64 m21.state, .int .u32 m21.addr, .int .i64 m21.bind, .string m21.client, .int .i64 m21.pot, .int .i64 m21.at_, .bool m21.ok] 35 (0, 0))]) Z Z Law18d_sz35 (i := 0) Z Z (le Z) Z Z<|Za Z<|Ze<|Zg<|Zs<|Tr.quiet Law18d_mo WK<|?_
   obtain ⟨hG1, hG2, hG3, hG4, hG5⟩ := Ob.ans_acked (E := ms17.getD k1 Msg.zero) hd.1 hnw W (hTp k1 W) (hb17.1.mx _ (Ob.getD_mem W)) hq19 hq21
   refine ZM Z<|ZV (Y.not Z)<|ZM Z<|ZP (congrArg Bool.not hG1)<|ZM Z<|ZV (Y.pick_f Z (congrArg Bool.not hG1) Z)<|ZM Z<|ZP hG3<|ZV (Y.loadAgg Z Law18d_ag35 (Kn.at 1 Z) Z)<|ZP hG3<|ZM Z<|ZP hG3<|ZM Z<|ZP hG3<|ZV (Y.idxR k1 Z Z Law18d_es39 (ho17.rd 2 rfl) W W)<|ZP hG3<|?_
   refine ZV (Y.ldRA (vs := [.int .i64 ((ms17.getD k1 Msg.zero).kind), .int .i64 ((ms17.getD k1 Msg.zero).life), .int .i64 ((ms17.getD k1 Msg.zero).seen), .int .i64 ((ms17.getD k1 Msg.zero).xid), .int .i64 ((ms17.getD k1 Msg.zero).state), .int .u32 ((ms17.getD k1 Msg.zero).addr), .int .i64 ((ms17.getD k1 Msg.zero).bind), .string ((ms17.getD k1 Msg.zero).client), .int .i64 ((ms17.getD k1 Msg.zero).pot), .int .i64 ((ms17.getD k1 Msg.zero).at_), .bool ((ms17.getD k1 Msg.zero).ok)]) rfl Law18d_ag35 (ho17.rd 2 rfl) rfl WD (fun o ho => flatm_atA Msg.cl_enc.len W Msg.zero o ho)) ?_
   refine ZP hG3<|ZV (Y.neS Z Z Law18d_tgs35 Z Z)<|ZV (Y.pick_f Z hG3 Z)<|ZE<|Zg<|Tr.cond_f Z (congrArg Bool.not (Ob.same_of hG2))<|Zt<|Zc<|Zg<|Zr<|Zm Z<|Zv (Y.add Z Z W)<|Za Z<|Ze<|Ex.keep [3, 2]<|?_
   have hl1 := Ob.load_acked hq19
   have hl2 := Ob.load_acked hq21
   exact ZR (⟨k1 + 1, o21, sb21⟩ : Nat × Ob × Sg) ⟨hb21, by (try dsimp only); rw [hG4]; exact hG5, by (try dsimp only); omega, by (try dsimp only); omega⟩ (by dsimp only; omega)
  ·refine Tr.cond_f Z h18<|Zx<|Zy<|Zy<|Zi<|Zg<|Zs<|Zr<|Zm Z<|Run.call0 (l := [.const (.int .u32 1), .const (.int .i64 5)]) Z Z Z (lt Z) update_h<|?_
   refine Run.call [0] (l := [.tmp 112, .tmp 113]) rfl rfl rfl (lt rfl) (put_o hd (m := (Ob.upd 1 5))) (fun v9 V9 H9 hle9 hR => ?_)
   obtain ⟨hV, b23, e23, o23, sb23, hq23, rfl, hb23, rfl⟩ := hR; replace hV := hV.symm; subst hV
   refine Run.heapTo (H' := [q17, sb23]) Z<|Run.heapTo (H' := [q17, sb23]) Z<|Ze<|Zg<|Zs<|Zr<|Zm Z<|Run.call0 (l := [.const (.int .u32 1), .const (.int .i64 6)]) Z Z Z (lt Z) update_h<|?_
   refine Run.call [1] (l := [.tmp 115, .tmp 116]) rfl rfl rfl (lt rfl) (put_o hb23 (m := (Ob.upd 1 6))) (fun v9 V9 H9 hle9 hR => ?_)
   obtain ⟨hV, b24, e24, o24, sb24, hq24, rfl, hb24, rfl⟩ := hR; replace hV := hV.symm; subst hV
   refine Run.heapTo (H' := [q17, sb24]) Z<|Run.heapTo (H' := [q17, sb24]) Z<|Ze<|Zg<|Zs<|Zr<|?_
   have hl5 := Ob.load_put hq23
   have hl6 := Ob.load_put hq24
   have hl7 := Ob.last_load o24
   have hl8 := hb24.1.l0
   refine Zm Z<|Run.call0 (l := [.tmp 118]) Z Z Z (lt Z) (Does.frame1 1 Z (last_o hb24))<|Za Z<|Ze<|Zg<|Zs<|Zr<|Zm Z<|?_
   refine Run.call [1] (l := [.tmp 120]) rfl rfl rfl (lt rfl) (clear_o hb24) (fun v9 V9 H9 hle9 hR => ?_)
   obtain ⟨hV, sb25, hb25, rfl⟩ := hR; replace hV := hV.symm; subst hV
   refine Run.heapTo (H' := [q17, sb25]) Z<|Run.heapTo (H' := [q17, sb25]) Z<|Ze<|Zg<|Zs<|Zr<|Zm Z<|?_
   refine Run.call [1] (l := [.tmp 123, .const (.int .i64 9)]) rfl rfl rfl (lt rfl) (tick_o hb25 (now := 9) (by show o24.last ≤ _; omega)) (fun v9 V9 H9 hle9 hR => ?_)
   obtain ⟨hV, ms26, e26, o26, p26, c26, q26, sb26, hq26, rfl, ho26, hb26, rfl⟩ := hR; replace hV := hV.symm; subst hV
   refine Run.heapTo (H' := [q17, q26, sb26]) Z<|Run.heapTo (H' := [q17, q26, sb26]) Z<|Zm Z<|Zv (Y.extract Z Z)<|Zv (Y.extract Z Z)<|Za Z<|Za Z<|Ze<|Zg<|Zs<|Zs<|Zr<|?_
   obtain ⟨hN1, hN2⟩ := Ob.ans_none hq26
   have hN3 : o26.waits.length ≤ 4294967296 := by rw [hN2]; exact Nat.zero_le _
   refine Zm Z<|Zv (Y.lenSl Z Law18d_es39)<|Zv (Y.int Z Z Z)<|Zm Z<|Run.on rfl rfl rfl (by rw [hN1]; rfl)<|Zm Z<|Run.on rfl rfl rfl (by rw [hN1]; rfl)<|Run.call0 (l := [.tmp 131]) Z Z Z (lt Z) (Does.frame1 2 Z (len_o hb26 hN3))<|Run.on rfl rfl rfl (by rw [hN1]; rfl)<|Zv (Y.int Z Z Z)<|Zv (Y.pick_f Z (by rw [hN1]; rfl) rfl)<|Zm Z<|Run.on rfl rfl rfl (by rw [hN2, Ob.clear_len]; rfl)<|Zm Z<|Run.on rfl rfl rfl (by rw [hN2, Ob.clear_len]; rfl)<|?_
   refine Run.call0 (l := [.tmp 136, .const (.int .u32 1)]) Z Z Z (lt Z) (Does.frame1 2 Z (busy_o hb26 (a := 1)))<|Zv (Y.pick_f Z (by rw [hN2, Ob.clear_len]; rfl) rfl)<|Zm Z<|Run.on rfl rfl rfl (by rw [hN2]; rfl)<|Zm Z<|Run.on rfl rfl rfl (by rw [hN2]; rfl)<|Run.call0 (l := [.tmp 140]) Z Z Z (lt Z) (Does.frame1 2 Z (last_o hb26))<|Run.on rfl rfl rfl (by rw [hN2]; rfl)<|Zm Z<|Run.on rfl rfl rfl (by rw [hN2]; rfl)<|Zv (Y.int Z Z Z)<|?_
   refine Zv (Y.pick_f Z (by rw [hN2]; rfl) rfl)<|Ze<|Zg<|Tr.cond_f rfl (by rw [hN2]; simp [Ob.clear])<|Zt<|Zg<|Zs<|Zr<|Zm Z<|Run.call0 (l := [.const (.int .u32 1), .const (.int .i64 7)]) Z Z Z (lt Z) update_h<|?_
   refine Run.call [2] (l := [.tmp 145, .tmp 146]) rfl rfl rfl (lt rfl) (put_o hb26 (m := (Ob.upd 1 7))) (fun v9 V9 H9 hle9 hR => ?_)
   obtain ⟨hV, b27, e27, o27, sb27, hq27, rfl, hb27, rfl⟩ := hR; replace hV := hV.symm; subst hV
   refine Run.heapTo (H' := [q17, q26, sb27]) Z<|Run.heapTo (H' := [q17, q26, sb27]) Z<|Ze<|Zg<|Zs<|Zr<|Zm Z<|?_
   refine Run.call [2] (l := [.tmp 149, .const (.int .i64 9)]) rfl rfl rfl (lt rfl) (tick_o hb27 (now := 9) (by have h8 := Ob.load_put hq27; have h9 := Ob.last_load o27; rw [hN2] at h8; have h10 : Ob.load o24.clear = o24.last := (by show o24.last + 0 = _; omega); omega)) (fun v9 V9 H9 hle9 hR => ?_)
   obtain ⟨hV, ms28, e28, o28, p28, c28, q28, sb28, hq28, rfl, ho28, hb28, rfl⟩ := hR; replace hV := hV.symm; subst hV
   refine Run.heapTo (H' := [q17, q26, q28, sb28]) Z<|Run.heapTo (H' := [q17, q26, q28, sb28]) Z<|Zm Z<|Zv (Y.extract Z Z)<|Zv (Y.extract Z Z)<|Za Z<|Za Z<|Ze<|Zg<|Zs<|Zr<|?_
   have hS := Ob.ans_seven (o := o24) W (by rw [← hN2]; exact hq27) hq28
   obtain ⟨hS1, hS2, hS3⟩ := hS
   refine Zm Z<|Zv (Y.lenSl Z Law18d_es39)<|Zv (Y.int Z Z Z)<|Zm Z<|Run.on rfl rfl rfl (by rw [hS1]; rfl)<|Zm Z<|Run.on rfl rfl rfl (by rw [hS1]; rfl)<|Zv (Y.idxR 0 Z Z Law18d_es39 (ho28.rd 2 rfl) W W)<|Run.on rfl rfl rfl (by rw [hS1]; rfl)<|Zv (Y.fieldR Z Law18d_fo35_3 (ho28.rd 2 rfl) W)<|Run.on rfl rfl rfl (by rw [hS1]; rfl)<|Zv (Y.ldR Z Law18d_ts3 (ho28.rd 2 rfl) (flatm_at Msg.cl_enc.len W Msg.zero WD rfl))<|?_
   refine Run.on rfl rfl rfl (by rw [hS1]; rfl)<|Zm Z<|Run.on rfl rfl rfl (by rw [hS1]; rfl)<|Zv (Y.add Z Z W)<|Run.on rfl rfl rfl (by rw [hS1]; rfl)<|Zv (Y.int Z Z Z)<|Zv (Y.pick_t Z (by rw [hS1]; rfl) rfl)<|Zm Z<|Run.on rfl rfl rfl (by rw [hS2]; simp)<|Zm Z<|Run.on rfl rfl rfl (by rw [hS2]; simp)<|Zv (Y.idxR 0 Z Z Law18d_es39 (ho28.rd 2 rfl) W W)<|Run.on rfl rfl rfl (by rw [hS2]; simp)<|Zv (Y.fieldR Z Law18d_fo35_8 (ho28.rd 2 rfl) W)<|?_
   refine Run.on rfl rfl rfl (by rw [hS2]; simp)<|Zv (Y.ldR Z Law18d_ts3 (ho28.rd 2 rfl) (flatm_at Msg.cl_enc.len W Msg.zero WD rfl))<|Run.on rfl rfl rfl (by rw [hS2]; simp)<|Zv (Y.int Z Z Z)<|Zv (Y.pick_t Z (by rw [hS2]; simp) rfl)<|Za Z<|Ze<|Zg<|Zu<|Ex.keep []<|?_
   exact Ex.ret1 rfl rfl  (congrArg Value.bool (by rw [hS3]; rfl))

theorem outboxanswers_h {V : Vw} {l : List (Int × Int)} {v0 : Value} (hv : Rd V [] 2 v0 l.length (l.map pr2).flatten) (hl9 : l.length ≤ 9223372036854775807) : Does Try.prog 7 [v0] V [] (fun v _ _ => v = .bool true) := by
  obtain ⟨p, c, rfl, _⟩ := hv.form
  rw [← List.flatMap_def] at hv
  exact outboxanswers_c hv hl9
end Go.Proofs.Ytpdnkhdmajmbiaa
