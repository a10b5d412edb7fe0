/- TableLast, walked.
Conditions: as each theorem names them. -/
import Derived.Test.YtpdnkhdmajmbiaaProg
import Derived.Test.YtpdnkhdmajmbiaaLaw12
import Derived.Test.YtpdnkhdmajmbiaaZG
set_option linter.unusedSimpArgs false
set_option linter.unusedVariables false
set_option maxRecDepth 4000
namespace Go.Proofs.Ytpdnkhdmajmbiaa
open Go Go.K
attribute [local irreducible] Code.wp wpList Calls wpQuiet
theorem Law12d_mo : Try.prog.follows .mixedOrders = true := by kernel_rfl
theorem Law12d_ag69 : aggsz Try.prog 69 = some 8 := by kernel_rfl
theorem Law12d_es67 : elemS Try.prog 67 = some (69, 8) := by kernel_rfl
theorem Law12d_zi69 : zeroInfo Try.prog 69 = some (8, 72, .agg #[.int .u32 0, .int .i64 0, .string ⟨#[]⟩, .int .i64 0, .int .i64 0, .int .i64 0, .int .i64 0, .int .i64 0]) := by kernel_rfl
theorem Law12d_zo69 : zeroOf Try.prog 69 = some (.agg #[.int .u32 0, .int .i64 0, .string ⟨#[]⟩, .int .i64 0, .int .i64 0, .int .i64 0, .int .i64 0, .int .i64 0]) := by kernel_rfl
theorem Law12d_pt71 : ptrT Try.prog 71 = true := by kernel_rfl
theorem Law12d_sz69 : sizeT Try.prog 69 = some 8 := by kernel_rfl
theorem Law12d_fo69_0 : fieldOff Try.prog 69 0 = some 0 := by kernel_rfl
theorem Law12d_ts30 : scal Try.prog 30 = true := by kernel_rfl
theorem Law12d_tgs69 : tags Try.prog 69 = some [(0, .u32), (0, .i64), (2, .i64), (0, .i64), (0, .i64), (0, .i64), (0, .i64), (0, .i64)] := by kernel_rfl
theorem Law12d_tg4 : tagOf Try.prog 4 = some (1, .i64) := by kernel_rfl

theorem long_x {V : Vw} {H : Hp} {p : Option Addr} {n0 c n1 : Nat} {a b : List Le} {p2 : Option Addr} {c2 : Nat} (hv : Rd V H 8 (.slice p2 n1 c2) n1 (a.flatMap Le.cells)) (hn : n1 = a.length) (he : a = b) (hl9 : b.length ≤ 9223372036854775807) : Does Try.prog 34 [.slice p n0 c, .slice p2 n1 c2] V H (Pv (.bool (Le.long n0 b)) V H) := by
  subst he; subst hn; exact long_c hv hl9

set_option maxHeartbeats 1000000 in
theorem tlast_c {V : Vw} {rs : List Rg} {p : Option Addr} {c : Nat} (hv : Rd V [] 2 (.slice p rs.length c) rs.length (rs.flatMap Rg.cells)) (hok : Rg.Oks rs) {ls : List Le} {p2 : Option Addr} {c2 : Nat} (hv2 : Rd V [] 8 (.slice p2 ls.length c2) ls.length (ls.flatMap Le.cells)) (hcs : ∀ x, x ∈ ls → x.client.size ≤ 9223372036854775807) (hl9 : ls.length ≤ 9223372036854775807) {x : Le} (hs : x.client.size ≤ 9223372036854775807) (hl7 : ls.length * 72 ≤ 140737488351232)  : Does Try.prog 8 [.slice p rs.length c, .slice p2 ls.length c2, .agg #[.int .u32 x.addr, .int .i64 x.bind, .string x.client, .int .i64 x.till, .int .i64 x.acked, .int .i64 x.told, .int .i64 x.at_, .int .i64 x.ver]] V [] (fun v _ _ => v = .bool true) := by
 refine Does.intro Try.func8 rfl rfl (le rfl) (fun B => ?_)
 refine Zs<|Zr<|?_
 refine Run.box rfl (lt rfl) (fun b1 => ?_)
 refine Za Z<|Ze<|Zg<|Zs<|Zr<|?_
 refine Run.call [] (l := []) rfl rfl rfl (lt rfl) (awake12_c) (fun v2 V2 H2 hle2 hR2 => ?_)
 obtain ⟨_, rfl, rfl⟩ := hR2
 replace hv := hv.le hle2
 replace hv2 := hv2.le hle2
 have hVle := hle2
 refine Run.heapTo (H' := [[(b1, .cells #[.int .u32 x.addr, .int .i64 x.bind, .string x.client, .int .i64 x.till, .int .i64 x.acked, .int .i64 x.told, .int .i64 x.at_, .int .i64 x.ver] 69 (0, 0))]]) Z<|Run.heapTo (H' := [[(b1, .cells #[.int .u32 x.addr, .int .i64 x.bind, .string x.client, .int .i64 x.till, .int .i64 x.acked, .int .i64 x.told, .int .i64 x.at_, .int .i64 x.ver] 69 (0, 0))]]) Z<|Za Z<|Ze<|Zg<|Zs<|Tr.anyD [(b1, .cells #[.int .u32 x.addr, .int .i64 x.bind, .string x.client, .int .i64 x.till, .int .i64 x.acked, .int .i64 x.told, .int .i64 x.at_, .int .i64 x.ver] 69 (0, 0))] Law12d_mo<|?_
 refine RunD.pure (i := 0) rfl WK WK WK (fun _ _ _ h => h) (lt rfl) (ZK 0 Z) (fun _ => (Y.move rfl))<|RunD.pure (i := 2) rfl WK WK WK (fun _ _ _ h => h) (lt rfl) (ZK 0 Z) (fun _ => (Y.move rfl))<|RunD.take (i := 4) 0 rfl rfl WK WK WK (fun _ _ _ h => h) (lt rfl) (ZK 0 Z) (fun _ => (Y.loadAgg rfl Law12d_ag69 Kn.vk1 rfl))<|?_
 refine RunD.two (i := 1) (j := 5) WK rfl rfl  ?_ ?_ 
 ·refine Run.buildSlice0 Law12d_es67 (lt rfl) (fun b3 => ?_)
  refine Ze<|Ex.anyD (ZK 1 Z)<|?_
  refine RunD.two (i := 3) (j := 5) WK rfl rfl  ?_ ?_ 
  ·refine Run.append (n := 0) (m := ls.length) (xs := []) (ys := ls.flatMap Le.cells) rfl rfl Law12d_es67 Law12d_zi69 WD (j := 0) rfl (Ow.lit (cur := #[]) rfl WD) (Src.of_rd Law12d_es67 hv2.of_nil) W W (all_one_flat Le.enc1 _) (lt rfl) (fun v4 s5 ho6 hf => ?_)
   obtain ⟨p4, c4, rfl⟩ := hf
   replace ho6 := Ow.app (f := Le.cells) (l := []) (m := ls) ho6
   refine Ze<|Ex.anyD (ZK 1 Z)<|?_
   refine RunD.one (i := 5) WK rfl  ?_ 
   refine Run.buildSlice (l := [(0, .tmp 23)]) (r := [.int .u32 x.addr, .int .i64 x.bind, .string x.client, .int .i64 x.till, .int .i64 x.acked, .int .i64 x.told, .int .i64 x.at_, .int .i64 x.ver]) Law12d_es67 Law12d_zo69 rfl WD rfl rfl WD (lt rfl) (fun b7 => ?_)
   refine Ze<|Ex.anyD (ZK 2 Z)<|?_
   refine RunD.one (i := 6) WK rfl  ?_ 
   refine Run.append (n := 0 + ls.length) (m := 1) (xs := ([] ++ ls).flatMap Le.cells) (ys := [.int .u32 x.addr, .int .i64 x.bind, .string x.client, .int .i64 x.till, .int .i64 x.acked, .int .i64 x.told, .int .i64 x.at_, .int .i64 x.ver]) rfl rfl Law12d_es67 Law12d_zi69 WD (j := 1) rfl ho6 (Src.of_rd Law12d_es67 (Rd.one (Kn.at 0 rfl) rfl)) W W rfl (lt rfl) (fun v8 s9 ho10 hf => ?_)
   obtain ⟨p8, c8, rfl⟩ := hf
   replace ho10 := Ow.app1 (f := Le.cells) (l := [] ++ ls) (x := x) ho10
   refine Ze<|Ex.anyD (ZK 2 Z)<|?_
   refine RunD.one (i := 7) WK rfl  ?_ 
   refine Run.call0 (l := [.tmp 19, .tmp 25]) rfl rfl rfl (lt rfl) (long_x (n0 := rs.length) (b := (ls ++ [x])) (ho10.rd 1 rfl) (by simp <;> omega) (by simp) (by rw [List.length_append, List.length_singleton]; omega))<|Ze<|Ex.anyD (ZK 2 Z)<|RunD.pure (i := 8) rfl WK WK WK (fun _ _ _ h => h) (lt rfl) (ZK 2 Z) (fun _ => (Y.assign rfl))<|RunD.done WK<|Zg<|Zs<|Zs<|Zr<|Zm Z<|Zv (Y.not Z)<|?_
   refine Zm Z<|Zp Z<|Zm Z<|Zv (Y.pick_f Z Z Z)<|Ze<|Zg<|?_
   rcases Zsplit (Le.long rs.length (ls ++ [x])) with ⟨h11, g11⟩ | ⟨h11, g11⟩ <;> try simp only [kb] at g11
   ·refine Tr.cond_t Z h11<|Zs<|Zr<|Zm Z<|Za Z<|Ze<|Zg<|Zu<|Zn<|Ex.keep []<|?_
    exact Ex.ret1 rfl rfl  rfl
   ·obtain ⟨hlg1, hlg2⟩ := Le.long_f h11; rw [List.length_append, List.length_singleton] at hlg2
    refine Tr.cond_f Z h11<|Zt<|Zg<|Zs<|Zr<|?_
    by_cases hp0 : (Rg.pool rs).2 = 0
    ·refine Zm Z<|Zm Z<|?_
     refine Run.call [] (l := [.tmp 34, .tmp 35]) rfl rfl rfl (lt rfl) (made_c hv hok hv2 hcs W W) (fun v12 V12 H12 hle12 hR12 => ?_)
     rcases hR12 with ⟨_, ⟨hpn, _⟩ | ⟨_, l, tx, rx, s1, pl, cl, ql, rfl, hin, hl, hnl, rfl⟩⟩
     · exact absurd hp0 hpn
     replace hv := hv.le hle12
     replace hv2 := hv2.le hle12
     replace hVle := Vw.le_trans hVle hle12
     obtain ⟨hr, hlm, _⟩ := id hin
     refine Run.heapTo (H' := [[(b7, .cells #[.int .u32 x.addr, .int .i64 x.bind, .string x.client, .int .i64 x.till, .int .i64 x.acked, .int .i64 x.told, .int .i64 x.at_, .int .i64 x.ver] 69 (0, 0))], s9, [(b1, .cells #[.int .u32 x.addr, .int .i64 x.bind, .string x.client, .int .i64 x.till, .int .i64 x.acked, .int .i64 x.told, .int .i64 x.at_, .int .i64 x.ver] 69 (0, 0))], s1, [(rx, .cells #[.slice pl l.length cl] 94 (0, 0))], ql]) Z ?_
     refine Run.heapTo (H' := [[(b7, .cells #[.int .u32 x.addr, .int .i64 x.bind, .string x.client, .int .i64 x.till, .int .i64 x.acked, .int .i64 x.told, .int .i64 x.at_, .int .i64 x.ver] 69 (0, 0))], s9, [(b1, .cells #[.int .u32 x.addr, .int .i64 x.bind, .string x.client, .int .i64 x.till, .int .i64 x.acked, .int .i64 x.told, .int .i64 x.at_, .int .i64 x.ver] 69 (0, 0))], s1, [(rx, .cells #[.slice pl l.length cl] 94 (0, 0))], ql]) Z ?_
     refine Zm Z<|Zv (Y.extract Z Z)<|Zv (Y.extract Z Z)<|Zv (Y.extract Z Z)<|Za Z<|Za Z<|Za Z<|Ze<|Zg<|Zs<|Zs<|Zr<|Zm Z<|Zv (Y.not Z)<|Zm Z<|Zp Z<|?_
     refine Zm Z<|Zp Z<|Zv (Y.eqNil Z Z Law12d_pt71)<|Zv (Y.pick_f Z Z Z)<|Ze<|Zg<|Tr.cond_f Z Z<|Zt<|Zg<|Zs<|Zr<|Zm Z<|?_
     refine Run.call [3] (l := [.tmp 47]) rfl rfl rfl (lt rfl) (all_o hin) (fun v13 V13 H13 hle13 hR13 => ?_)
     obtain ⟨hV, q13, ho13, rfl⟩ := hR13; replace hV := hV.symm; subst hV
     obtain ⟨p13, c13, rfl⟩ := ho13.form
     refine Run.heapTo (H' := [[(b7, .cells #[.int .u32 x.addr, .int .i64 x.bind, .string x.client, .int .i64 x.till, .int .i64 x.acked, .int .i64 x.told, .int .i64 x.at_, .int .i64 x.ver] 69 (0, 0))], s9, [(b1, .cells #[.int .u32 x.addr, .int .i64 x.bind, .string x.client, .int .i64 x.till, .int .i64 x.acked, .int .i64 x.told, .int .i64 x.at_, .int .i64 x.ver] 69 (0, 0))], [(rx, .cells #[.slice pl l.length cl] 94 (0, 0))], ql, q13, s1]) Z ?_
     refine Run.heapTo (H' := [[(b7, .cells #[.int .u32 x.addr, .int .i64 x.bind, .string x.client, .int .i64 x.till, .int .i64 x.acked, .int .i64 x.told, .int .i64 x.at_, .int .i64 x.ver] 69 (0, 0))], s9, [(b1, .cells #[.int .u32 x.addr, .int .i64 x.bind, .string x.client, .int .i64 x.till, .int .i64 x.acked, .int .i64 x.told, .int .i64 x.at_, .int .i64 x.ver] 69 (0, 0))], [(rx, .cells #[.slice pl l.length cl] 94 (0, 0))], ql, q13, s1]) Z ?_
     refine Za Z<|Ze<|Zg<|Zs<|Zr<|Zm Z<|Zv (Y.loadAgg Z Law12d_ag69 (Kn.at 2 Z) Z)<|?_
     refine Run.call [6] (l := [.tmp 49, .tmp 50]) rfl rfl rfl (lt rfl) (set_o (q := x) hin hs) (fun v14 V14 H14 hle14 hR14 => ?_)
     obtain ⟨hV, rfl, sb14, hin14, rfl⟩ := hR14; replace hV := hV.symm; subst hV
     refine Run.heapTo (H' := [[(b7, .cells #[.int .u32 x.addr, .int .i64 x.bind, .string x.client, .int .i64 x.till, .int .i64 x.acked, .int .i64 x.told, .int .i64 x.at_, .int .i64 x.ver] 69 (0, 0))], s9, [(b1, .cells #[.int .u32 x.addr, .int .i64 x.bind, .string x.client, .int .i64 x.till, .int .i64 x.acked, .int .i64 x.told, .int .i64 x.at_, .int .i64 x.ver] 69 (0, 0))], [(rx, .cells #[.slice pl l.length cl] 94 (0, 0))], ql, q13, sb14]) Z ?_
     refine Run.heapTo (H' := [[(b7, .cells #[.int .u32 x.addr, .int .i64 x.bind, .string x.client, .int .i64 x.till, .int .i64 x.acked, .int .i64 x.told, .int .i64 x.at_, .int .i64 x.ver] 69 (0, 0))], s9, [(b1, .cells #[.int .u32 x.addr, .int .i64 x.bind, .string x.client, .int .i64 x.till, .int .i64 x.acked, .int .i64 x.told, .int .i64 x.at_, .int .i64 x.ver] 69 (0, 0))], [(rx, .cells #[.slice pl l.length cl] 94 (0, 0))], ql, q13, sb14]) Z ?_
     refine Za Z<|Ze<|Zg<|Zs<|Zr<|Zm Z<|?_
     refine Run.call [6] (l := [.tmp 52]) rfl rfl rfl (lt rfl) (all_o hin14) (fun v15 V15 H15 hle15 hR15 => ?_)
     obtain ⟨hV, q15, ho15, rfl⟩ := hR15; replace hV := hV.symm; subst hV
     obtain ⟨p15, c15, rfl⟩ := ho15.form
     refine Run.heapTo (H' := [[(b7, .cells #[.int .u32 x.addr, .int .i64 x.bind, .string x.client, .int .i64 x.till, .int .i64 x.acked, .int .i64 x.told, .int .i64 x.at_, .int .i64 x.ver] 69 (0, 0))], s9, [(b1, .cells #[.int .u32 x.addr, .int .i64 x.bind, .string x.client, .int .i64 x.till, .int .i64 x.acked, .int .i64 x.told, .int .i64 x.at_, .int .i64 x.ver] 69 (0, 0))], [(rx, .cells #[.slice pl l.length cl] 94 (0, 0))], ql, q13, q15, sb14]) Z ?_
     refine Run.heapTo (H' := [[(b7, .cells #[.int .u32 x.addr, .int .i64 x.bind, .string x.client, .int .i64 x.till, .int .i64 x.acked, .int .i64 x.told, .int .i64 x.at_, .int .i64 x.ver] 69 (0, 0))], s9, [(b1, .cells #[.int .u32 x.addr, .int .i64 x.bind, .string x.client, .int .i64 x.till, .int .i64 x.acked, .int .i64 x.told, .int .i64 x.at_, .int .i64 x.ver] 69 (0, 0))], [(rx, .cells #[.slice pl l.length cl] 94 (0, 0))], ql, q13, q15, sb14]) Z ?_
     refine Za Z<|Ze<|Zg<|Zs<|Zs<|Zr<|?_
     have hsl := Le.setE_len l x
     refine Zm Z<|Zv (Y.lenSl Z Law12d_es67)<|Zm Z<|Zv (Y.lenSl Z Law12d_es67)<|Zv (Y.int Z Z Z)<|Ze<|Zg<|?_
     rcases Zsplit ((((((Le.setE l x).2)).length : Nat) : Int) != (((l).length : Nat) : Int)) with ⟨h16, g16⟩ | ⟨h16, g16⟩ <;> try simp only [kb] at g16
     ·refine Tr.cond_t Z h16<|Zs<|Zr<|Za Z<|Ze<|Zg<|Zu<|Zn<|Ex.keep []<|?_
      exact Ex.ret1 rfl rfl  (by exfalso; omega)
     ·refine Tr.cond_f Z h16<|Zt<|Zg<|Zs<|Zr<|Run.keepTo (H' := [[(b1, .cells #[.int .u32 x.addr, .int .i64 x.bind, .string x.client, .int .i64 x.till, .int .i64 x.acked, .int .i64 x.told, .int .i64 x.at_, .int .i64 x.ver] 69 (0, 0))], q13, q15]) [2, 4, 4] Z<|?_
      have hsz := Le.set_zero l x
      refine Za Z<|Ze<|Zg<|Zs<|Zs<|Zr<|Za Z<|Ze<|Zg<|Zb<|?_
      refine ZL (X := Nat × Bool) (fun z0 => V12) (fun z0 => [[(b1, .cells #[.int .u32 x.addr, .int .i64 x.bind, .string x.client, .int .i64 x.till, .int .i64 x.acked, .int .i64 x.told, .int .i64 x.at_, .int .i64 x.ver] 69 (0, 0))], q13, q15]) (fun z0 => [(5, .pointer (some ⟨b1, 0, none⟩)), (12, .slice p13 (l).length c13), (13, .int .i64 ((Le.setE l x).1)), (14, .slice p15 (((Le.setE l x).2)).length c15), (15, .bool z0.2), (16, .int .i64 (z0.1 : Int))]) (fun z0 => z0.2 = (l.take z0.1).any (fun y : Le => y.addr == x.addr) ∧ z0.1 ≤ l.length) (fun z0 => l.length - z0.1) (⟨0, false⟩ : Nat × Bool) ⟨rfl, Nat.zero_le _⟩ ?_
      rintro ⟨i1, in1⟩ ⟨hb, hi⟩
      try dsimp only at hb hi ⊢
      refine Zs<|Zs<|Zr<|Zm Z<|Zm Z<|Zv (Y.lenSl Z Law12d_es67)<|Zv (Y.int Z Z Z)<|Ze<|Zg<|?_
      rcases Zsplit (decide ((i1 : Int) < (((((Le.setE l x).2)).length : Nat) : Int))) with ⟨h17, g17⟩ | ⟨h17, g17⟩ <;> try simp only [kb] at g17
      ·refine Tr.cond_t Z h17<|Zt<|Zg<|Zs<|Zb<|Zs<|Zr<|Zm Z<|Zm Z<|Zv (Y.idxR i1 Z Z Law12d_es67 (ho13.rd 1 rfl) W W)<|Zv (Y.ldRA (vs := [.int .u32 ((l.getD i1 Le.dflt).addr), .int .i64 ((l.getD i1 Le.dflt).bind), .string ((l.getD i1 Le.dflt).client), .int .i64 ((l.getD i1 Le.dflt).till), .int .i64 ((l.getD i1 Le.dflt).acked), .int .i64 ((l.getD i1 Le.dflt).told), .int .i64 ((l.getD i1 Le.dflt).at_), .int .i64 ((l.getD i1 Le.dflt).ver)]) rfl Law12d_ag69 (ho13.rd 1 rfl) rfl WD (fun o ho => flatm_atA Le.len W Le.dflt o ho))<|?_
       refine Run.alloc Law12d_zo69 (lt rfl) (fun b18 => ?_)
       refine Run.store (s := [(b18, .cells #[.int .u32 ((l.getD i1 Le.dflt).addr), .int .i64 ((l.getD i1 Le.dflt).bind), .string ((l.getD i1 Le.dflt).client), .int .i64 ((l.getD i1 Le.dflt).till), .int .i64 ((l.getD i1 Le.dflt).acked), .int .i64 ((l.getD i1 Le.dflt).told), .int .i64 ((l.getD i1 Le.dflt).at_), .int .i64 ((l.getD i1 Le.dflt).ver)] 69 (0, 0))]) Z Z Law12d_sz69 (i := 0) Z Z (le Z) Z Z<|Ze<|Zg<|Zs<|Zs<|Tr.quiet Law12d_mo WK<|?_
       refine ZM Z<|ZV (Y.int Z Z Z)<|ZM Z<|?_
       rcases Zsplit (((Le.setE l x).1) == 0) with ⟨h19, g19⟩ | ⟨h19, g19⟩ <;> try simp only [kb] at g19
       ·refine ZP h19<|ZM Z<|ZP h19<|ZM Z<|ZP h19<|ZV (Y.idxR i1 Z Z Law12d_es67 (ho13.rd 2 rfl) W W)<|ZP h19<|ZV (Y.fieldR Z Law12d_fo69_0 (ho13.rd 2 rfl) W)<|ZP h19<|ZV (Y.ldR Z Law12d_ts30 (ho13.rd 2 rfl) (flatm_at Le.len W Le.dflt WD rfl))<|ZP h19<|ZV (Y.fieldAddr Z Law12d_fo69_0)<|ZP h19<|ZV (Y.load Z Law12d_ts30 (Kn.at 1 Z) Z)<|ZP h19<|ZV (Y.int Z Z Z)<|?_
        refine ZV (Y.pick_t Z h19 Z)<|ZE<|Zg<|?_
        rcases Zsplit (((l.getD i1 Le.dflt).addr) == x.addr) with ⟨h20, g20⟩ | ⟨h20, g20⟩ <;> try simp only [kb] at g20
        ·refine Tr.cond_t Z h20<|Zr<|Zv (Y.loadAgg Z Law12d_ag69 (Kn.at 1 Z) Z)<|Run.store (s := [(b18, .cells #[.int .u32 x.addr, .int .i64 x.bind, .string x.client, .int .i64 x.till, .int .i64 x.acked, .int .i64 x.told, .int .i64 x.at_, .int .i64 x.ver] 69 (0, 0))]) Z Z Law12d_sz69 (i := 0) Z Z (le Z) Z Z<|Ze<|Zg<|Zs<|Tr.quiet Law12d_mo WK<|ZM Z<|ZM Z<|?_
         rcases Zsplit (in1) with ⟨h21, g21⟩ | ⟨h21, g21⟩ <;> try simp only [kb] at g21
         ·refine ZO h21 Z<|ZO h21 Z<|ZO h21 Z<|ZO h21 Z<|ZO h21 Z<|ZO h21 Z<|ZO h21 Z<|ZO h21 Z<|ZV (Y.pick_t Z h21 Z)<|ZA Z<|ZE<|Zg<|Zs<|Tr.quiet Law12d_mo WK<|ZM Z<|ZM Z<|?_
          refine ZV (Y.idxR i1 Z Z Law12d_es67 (ho15.rd 3 rfl) W W)<|ZV (Y.ldRA (vs := [.int .u32 ((((Le.setE l x).2).getD i1 Le.dflt).addr), .int .i64 ((((Le.setE l x).2).getD i1 Le.dflt).bind), .string ((((Le.setE l x).2).getD i1 Le.dflt).client), .int .i64 ((((Le.setE l x).2).getD i1 Le.dflt).till), .int .i64 ((((Le.setE l x).2).getD i1 Le.dflt).acked), .int .i64 ((((Le.setE l x).2).getD i1 Le.dflt).told), .int .i64 ((((Le.setE l x).2).getD i1 Le.dflt).at_), .int .i64 ((((Le.setE l x).2).getD i1 Le.dflt).ver)]) rfl Law12d_ag69 (ho15.rd 3 rfl) rfl WD (fun o ho => flatm_atA Le.len W Le.dflt o ho))<|?_
          refine ZV (Y.loadAgg Z Law12d_ag69 (Kn.at 0 Z) Z)<|ZV (Y.neS Z Z Law12d_tgs69 Z Z)<|ZE<|Zg<|Tr.cond_f rfl (congrArg Bool.not (Le.same_of (Le.set_at1 W h19 W)))<|Zt<|Zc<|Zg<|Zr<|Zm Z<|Zv (Y.add Z Z W)<|Za Z<|Ze<|Ex.keep [1, 1, 1]<|?_
          exact ZR (⟨i1 + 1, true⟩ : Nat × Bool) ⟨by rw [Le.any_take _ W, ← hb, h21]; rfl, by omega⟩ (by dsimp only; omega)
         ·refine ZP h21<|ZM Z<|ZP h21<|ZM Z<|ZP h21<|ZV (Y.idxR i1 Z Z Law12d_es67 (ho13.rd 2 rfl) W W)<|ZP h21<|ZV (Y.fieldR Z Law12d_fo69_0 (ho13.rd 2 rfl) W)<|ZP h21<|ZV (Y.ldR Z Law12d_ts30 (ho13.rd 2 rfl) (flatm_at Le.len W Le.dflt WD rfl))<|ZP h21<|ZV (Y.fieldAddr Z Law12d_fo69_0)<|ZP h21<|ZV (Y.load Z Law12d_ts30 (Kn.at 1 Z) Z)<|ZP h21<|ZV (Y.int Z Z Z)<|?_
          refine ZV (Y.pick_f Z h21 Z)<|ZA Z<|ZE<|Zg<|Zs<|Tr.quiet Law12d_mo WK<|ZM Z<|ZM Z<|ZV (Y.idxR i1 Z Z Law12d_es67 (ho15.rd 3 rfl) W W)<|ZV (Y.ldRA (vs := [.int .u32 ((((Le.setE l x).2).getD i1 Le.dflt).addr), .int .i64 ((((Le.setE l x).2).getD i1 Le.dflt).bind), .string ((((Le.setE l x).2).getD i1 Le.dflt).client), .int .i64 ((((Le.setE l x).2).getD i1 Le.dflt).till), .int .i64 ((((Le.setE l x).2).getD i1 Le.dflt).acked), .int .i64 ((((Le.setE l x).2).getD i1 Le.dflt).told), .int .i64 ((((Le.setE l x).2).getD i1 Le.dflt).at_), .int .i64 ((((Le.setE l x).2).getD i1 Le.dflt).ver)]) rfl Law12d_ag69 (ho15.rd 3 rfl) rfl WD (fun o ho => flatm_atA Le.len W Le.dflt o ho))<|?_
          refine ZV (Y.loadAgg Z Law12d_ag69 (Kn.at 0 Z) Z)<|ZV (Y.neS Z Z Law12d_tgs69 Z Z)<|ZE<|Zg<|Tr.cond_f rfl (congrArg Bool.not (Le.same_of (Le.set_at1 W h19 W)))<|Zt<|Zc<|Zg<|Zr<|Zm Z<|Zv (Y.add Z Z W)<|Za Z<|Ze<|Ex.keep [1, 1, 1]<|?_
          exact ZR (⟨i1 + 1, ((l.getD i1 Le.dflt).addr) == x.addr⟩ : Nat × Bool) ⟨by rw [Le.any_take _ W, ← hb, h21]; first | rfl | exact (h20).symm, by omega⟩ (by dsimp only; omega)
        ·refine Tr.cond_f Z h20<|Zt<|Zg<|Zs<|Tr.quiet Law12d_mo WK<|ZM Z<|ZM Z<|?_
         rcases Zsplit (in1) with ⟨h22, g22⟩ | ⟨h22, g22⟩ <;> try simp only [kb] at g22
         ·refine ZO h22 Z<|ZO h22 Z<|ZO h22 Z<|ZO h22 Z<|ZO h22 Z<|ZO h22 Z<|ZO h22 Z<|ZO h22 Z<|ZV (Y.pick_t Z h22 Z)<|ZA Z<|ZE<|Zg<|Zs<|Tr.quiet Law12d_mo WK<|ZM Z<|ZM Z<|?_
          refine ZV (Y.idxR i1 Z Z Law12d_es67 (ho15.rd 3 rfl) W W)<|ZV (Y.ldRA (vs := [.int .u32 ((((Le.setE l x).2).getD i1 Le.dflt).addr), .int .i64 ((((Le.setE l x).2).getD i1 Le.dflt).bind), .string ((((Le.setE l x).2).getD i1 Le.dflt).client), .int .i64 ((((Le.setE l x).2).getD i1 Le.dflt).till), .int .i64 ((((Le.setE l x).2).getD i1 Le.dflt).acked), .int .i64 ((((Le.setE l x).2).getD i1 Le.dflt).told), .int .i64 ((((Le.setE l x).2).getD i1 Le.dflt).at_), .int .i64 ((((Le.setE l x).2).getD i1 Le.dflt).ver)]) rfl Law12d_ag69 (ho15.rd 3 rfl) rfl WD (fun o ho => flatm_atA Le.len W Le.dflt o ho))<|?_
          refine ZV (Y.loadAgg Z Law12d_ag69 (Kn.at 0 Z) Z)<|ZV (Y.neS Z Z Law12d_tgs69 Z Z)<|ZE<|Zg<|Tr.cond_f rfl (congrArg Bool.not (Le.same_of (Le.set_at0 W (.inr W))))<|Zt<|Zc<|Zg<|Zr<|Zm Z<|Zv (Y.add Z Z W)<|Za Z<|Ze<|Ex.keep [1, 1, 1]<|?_
          exact ZR (⟨i1 + 1, true⟩ : Nat × Bool) ⟨by rw [Le.any_take _ W, ← hb, h22]; rfl, by omega⟩ (by dsimp only; omega)
         ·refine ZP h22<|ZM Z<|ZP h22<|ZM Z<|ZP h22<|ZV (Y.idxR i1 Z Z Law12d_es67 (ho13.rd 2 rfl) W W)<|ZP h22<|ZV (Y.fieldR Z Law12d_fo69_0 (ho13.rd 2 rfl) W)<|ZP h22<|ZV (Y.ldR Z Law12d_ts30 (ho13.rd 2 rfl) (flatm_at Le.len W Le.dflt WD rfl))<|ZP h22<|ZV (Y.fieldAddr Z Law12d_fo69_0)<|ZP h22<|ZV (Y.load Z Law12d_ts30 (Kn.at 1 Z) Z)<|ZP h22<|ZV (Y.int Z Z Z)<|?_
          refine ZV (Y.pick_f Z h22 Z)<|ZA Z<|ZE<|Zg<|Zs<|Tr.quiet Law12d_mo WK<|ZM Z<|ZM Z<|ZV (Y.idxR i1 Z Z Law12d_es67 (ho15.rd 3 rfl) W W)<|ZV (Y.ldRA (vs := [.int .u32 ((((Le.setE l x).2).getD i1 Le.dflt).addr), .int .i64 ((((Le.setE l x).2).getD i1 Le.dflt).bind), .string ((((Le.setE l x).2).getD i1 Le.dflt).client), .int .i64 ((((Le.setE l x).2).getD i1 Le.dflt).till), .int .i64 ((((Le.setE l x).2).getD i1 Le.dflt).acked), .int .i64 ((((Le.setE l x).2).getD i1 Le.dflt).told), .int .i64 ((((Le.setE l x).2).getD i1 Le.dflt).at_), .int .i64 ((((Le.setE l x).2).getD i1 Le.dflt).ver)]) rfl Law12d_ag69 (ho15.rd 3 rfl) rfl WD (fun o ho => flatm_atA Le.len W Le.dflt o ho))<|?_
          refine ZV (Y.loadAgg Z Law12d_ag69 (Kn.at 0 Z) Z)<|ZV (Y.neS Z Z Law12d_tgs69 Z Z)<|ZE<|Zg<|Tr.cond_f rfl (congrArg Bool.not (Le.same_of (Le.set_at0 W (.inr W))))<|Zt<|Zc<|Zg<|Zr<|Zm Z<|Zv (Y.add Z Z W)<|Za Z<|Ze<|Ex.keep [1, 1, 1]<|?_
          exact ZR (⟨i1 + 1, ((l.getD i1 Le.dflt).addr) == x.addr⟩ : Nat × Bool) ⟨by rw [Le.any_take _ W, ← hb, h22]; first | rfl | exact (h20).symm, by omega⟩ (by dsimp only; omega)
       ·refine ZO h19 Z<|ZO h19 Z<|ZO h19 Z<|ZO h19 Z<|ZO h19 Z<|ZO h19 Z<|ZO h19 Z<|ZO h19 Z<|ZV (Y.pick_f Z h19 Z)<|ZE<|Zg<|Tr.cond_f Z Z<|Zt<|Zg<|Zs<|Tr.quiet Law12d_mo WK<|?_
        refine ZM Z<|ZM Z<|?_
        rcases Zsplit (in1) with ⟨h23, g23⟩ | ⟨h23, g23⟩ <;> try simp only [kb] at g23
        ·refine ZO h23 Z<|ZO h23 Z<|ZO h23 Z<|ZO h23 Z<|ZO h23 Z<|ZO h23 Z<|ZO h23 Z<|ZO h23 Z<|ZV (Y.pick_t Z h23 Z)<|ZA Z<|ZE<|Zg<|Zs<|Tr.quiet Law12d_mo WK<|ZM Z<|ZM Z<|?_
         refine ZV (Y.idxR i1 Z Z Law12d_es67 (ho15.rd 3 rfl) W W)<|ZV (Y.ldRA (vs := [.int .u32 ((((Le.setE l x).2).getD i1 Le.dflt).addr), .int .i64 ((((Le.setE l x).2).getD i1 Le.dflt).bind), .string ((((Le.setE l x).2).getD i1 Le.dflt).client), .int .i64 ((((Le.setE l x).2).getD i1 Le.dflt).till), .int .i64 ((((Le.setE l x).2).getD i1 Le.dflt).acked), .int .i64 ((((Le.setE l x).2).getD i1 Le.dflt).told), .int .i64 ((((Le.setE l x).2).getD i1 Le.dflt).at_), .int .i64 ((((Le.setE l x).2).getD i1 Le.dflt).ver)]) rfl Law12d_ag69 (ho15.rd 3 rfl) rfl WD (fun o ho => flatm_atA Le.len W Le.dflt o ho))<|?_
         refine ZV (Y.loadAgg Z Law12d_ag69 (Kn.at 0 Z) Z)<|ZV (Y.neS Z Z Law12d_tgs69 Z Z)<|ZE<|Zg<|Tr.cond_f rfl (congrArg Bool.not (Le.same_of (Le.set_at0 W (.inl h19))))<|Zt<|Zc<|Zg<|Zr<|Zm Z<|Zv (Y.add Z Z W)<|Za Z<|Ze<|Ex.keep [1, 1, 1]<|?_
         exact ZR (⟨i1 + 1, true⟩ : Nat × Bool) ⟨by rw [Le.any_take _ W, ← hb, h23]; rfl, by omega⟩ (by dsimp only; omega)
        ·refine ZP h23<|ZM Z<|ZP h23<|ZM Z<|ZP h23<|ZV (Y.idxR i1 Z Z Law12d_es67 (ho13.rd 2 rfl) W W)<|ZP h23<|ZV (Y.fieldR Z Law12d_fo69_0 (ho13.rd 2 rfl) W)<|ZP h23<|ZV (Y.ldR Z Law12d_ts30 (ho13.rd 2 rfl) (flatm_at Le.len W Le.dflt WD rfl))<|ZP h23<|ZV (Y.fieldAddr Z Law12d_fo69_0)<|ZP h23<|ZV (Y.load Z Law12d_ts30 (Kn.at 1 Z) Z)<|ZP h23<|ZV (Y.int Z Z Z)<|?_
         refine ZV (Y.pick_f Z h23 Z)<|ZA Z<|ZE<|Zg<|Zs<|Tr.quiet Law12d_mo WK<|ZM Z<|ZM Z<|ZV (Y.idxR i1 Z Z Law12d_es67 (ho15.rd 3 rfl) W W)<|ZV (Y.ldRA (vs := [.int .u32 ((((Le.setE l x).2).getD i1 Le.dflt).addr), .int .i64 ((((Le.setE l x).2).getD i1 Le.dflt).bind), .string ((((Le.setE l x).2).getD i1 Le.dflt).client), .int .i64 ((((Le.setE l x).2).getD i1 Le.dflt).till), .int .i64 ((((Le.setE l x).2).getD i1 Le.dflt).acked), .int .i64 ((((Le.setE l x).2).getD i1 Le.dflt).told), .int .i64 ((((Le.setE l x).2).getD i1 Le.dflt).at_), .int .i64 ((((Le.setE l x).2).getD i1 Le.dflt).ver)]) rfl Law12d_ag69 (ho15.rd 3 rfl) rfl WD (fun o ho => flatm_atA Le.len W Le.dflt o ho))<|?_
         refine ZV (Y.loadAgg Z Law12d_ag69 (Kn.at 0 Z) Z)<|ZV (Y.neS Z Z Law12d_tgs69 Z Z)<|ZE<|Zg<|Tr.cond_f rfl (congrArg Bool.not (Le.same_of (Le.set_at0 W (.inl h19))))<|Zt<|Zc<|Zg<|Zr<|Zm Z<|Zv (Y.add Z Z W)<|Za Z<|Ze<|Ex.keep [1, 1, 1]<|?_
         exact ZR (⟨i1 + 1, ((l.getD i1 Le.dflt).addr) == x.addr⟩ : Nat × Bool) ⟨by rw [Le.any_take _ W, ← hb, h23]; rfl, by omega⟩ (by dsimp only; omega)
      ·refine Tr.cond_f Z h17<|Zx<|Zy<|Zy<|Zi<|Zg<|Zs<|Zr<|?_
       obtain rfl : i1 = l.length := by omega
       rw [List.take_length] at hb
       refine Zm Z<|Zv (Y.int Z Z Z)<|Zm Z<|Zm Z<|?_
       rcases Zsplit (in1) with ⟨h24, g24⟩ | ⟨h24, g24⟩ <;> try simp only [kb] at g24
       ·refine Zp h24<|Zv (Y.loadAgg Z Law12d_ag69 (Kn.at 0 Z) Z)<|Zp h24<|Run.call0 (l := [.tmp 103]) Z Z Z (lt Z) (rright11_h (q := x) hs)<|Zv (Y.pick_t Z h24 Z)<|Zv (Y.eqB Z Z Law12d_tg4)<|Za Z<|Ze<|Zg<|Zu<|Ex.keep []<|?_
        exact Ex.ret1 rfl rfl  (congrArg Value.bool (by rw [hsz, ← hb, h24]; simp))
       ·refine Zo h24 Z<|Zo h24 Z<|Zv (Y.pick_f Z h24 Z)<|Zv (Y.eqB Z Z Law12d_tg4)<|Za Z<|Ze<|Zg<|Zu<|Ex.keep []<|?_
        exact Ex.ret1 rfl rfl  (congrArg Value.bool (by rw [hsz, ← hb, h24]; simp))
    ·refine Zm Z<|Zm Z<|?_
     refine Run.call [] (l := [.tmp 34, .tmp 35]) rfl rfl rfl (lt rfl) (made_c hv hok hv2 hcs W W) (fun v25 V25 H25 hle25 hR25 => ?_)
     obtain ⟨_, rfl, rfl⟩ := hR25.2.resolve_right fun h9 => hp0 h9.1
     replace hv := hv.le hle25
     replace hv2 := hv2.le hle25
     replace hVle := Vw.le_trans hVle hle25
     refine Run.heapTo (H' := [[(b7, .cells #[.int .u32 x.addr, .int .i64 x.bind, .string x.client, .int .i64 x.till, .int .i64 x.acked, .int .i64 x.told, .int .i64 x.at_, .int .i64 x.ver] 69 (0, 0))], s9, [(b1, .cells #[.int .u32 x.addr, .int .i64 x.bind, .string x.client, .int .i64 x.till, .int .i64 x.acked, .int .i64 x.told, .int .i64 x.at_, .int .i64 x.ver] 69 (0, 0))]]) Z<|Run.heapTo (H' := [[(b7, .cells #[.int .u32 x.addr, .int .i64 x.bind, .string x.client, .int .i64 x.till, .int .i64 x.acked, .int .i64 x.told, .int .i64 x.at_, .int .i64 x.ver] 69 (0, 0))], s9, [(b1, .cells #[.int .u32 x.addr, .int .i64 x.bind, .string x.client, .int .i64 x.till, .int .i64 x.acked, .int .i64 x.told, .int .i64 x.at_, .int .i64 x.ver] 69 (0, 0))]]) Z<|?_
     refine Zm Z<|Zv (Y.extract Z Z)<|Zv (Y.extract Z Z)<|Zv (Y.extract Z Z)<|Za Z<|Za Z<|Za Z<|Ze<|Zg<|Zs<|Zs<|Zr<|Zm Z<|Zv (Y.not Z)<|Zm Z<|Zp Z<|?_
     refine Zm Z<|Zp Z<|Zv (Y.eqNil Z Z Law12d_pt71)<|Zv (Y.pick_f Z Z Z)<|Ze<|Zg<|Tr.cond_t Z Z<|Zs<|Zr<|Zm Z<|Za Z<|Ze<|Zg<|Zu<|Zn<|Ex.keep []<|?_
     exact Ex.ret1 rfl rfl  rfl
  ·refine Run.buildSlice (l := [(0, .tmp 23)]) (r := [.int .u32 x.addr, .int .i64 x.bind, .string x.client, .int .i64 x.till, .int .i64 x.acked, .int .i64 x.told, .int .i64 x.at_, .int .i64 x.ver]) Law12d_es67 Law12d_zo69 rfl WD rfl rfl WD (lt rfl) (fun b26 => ?_)
   refine Ze<|Ex.anyD (ZK 2 Z)<|?_
   refine RunD.one (i := 3) WK rfl  ?_ 
   refine Run.append (n := 0) (m := ls.length) (xs := []) (ys := ls.flatMap Le.cells) rfl rfl Law12d_es67 Law12d_zi69 WD (j := 1) rfl (Ow.lit (cur := #[]) rfl WD) (Src.of_rd Law12d_es67 hv2.of_nil) W W (all_one_flat Le.enc1 _) (lt rfl) (fun v27 s28 ho29 hf => ?_)
   obtain ⟨p27, c27, rfl⟩ := hf
   replace ho29 := Ow.app (f := Le.cells) (l := []) (m := ls) ho29
   refine Ze<|Ex.anyD (ZK 2 Z)<|?_
   refine RunD.one (i := 6) WK rfl  ?_ 
   refine Run.append (n := 0 + ls.length) (m := 1) (xs := ([] ++ ls).flatMap Le.cells) (ys := [.int .u32 x.addr, .int .i64 x.bind, .string x.client, .int .i64 x.till, .int .i64 x.acked, .int .i64 x.told, .int .i64 x.at_, .int .i64 x.ver]) rfl rfl Law12d_es67 Law12d_zi69 WD (j := 1) rfl ho29 (Src.of_rd Law12d_es67 (Rd.one (Kn.at 0 rfl) rfl)) W W rfl (lt rfl) (fun v30 s31 ho32 hf => ?_)
   obtain ⟨p30, c30, rfl⟩ := hf
   replace ho32 := Ow.app1 (f := Le.cells) (l := [] ++ ls) (x := x) ho32
   refine Ze<|Ex.anyD (ZK 2 Z)<|?_
   refine RunD.one (i := 7) WK rfl  ?_ 
   refine Run.call0 (l := [.tmp 19, .tmp 25]) rfl rfl rfl (lt rfl) (long_x (n0 := rs.length) (b := (ls ++ [x])) (ho32.rd 1 rfl) (by simp <;> omega) (by simp) (by rw [List.length_append, List.length_singleton]; omega))<|Ze<|Ex.anyD (ZK 2 Z)<|RunD.pure (i := 8) rfl WK WK WK (fun _ _ _ h => h) (lt rfl) (ZK 2 Z) (fun _ => (Y.assign rfl))<|RunD.done WK<|Zg<|Zs<|Zs<|Zr<|Zm Z<|Zv (Y.not Z)<|?_
   refine Zm Z<|Zp Z<|Zm Z<|Zv (Y.pick_f Z Z Z)<|Ze<|Zg<|?_
   rcases Zsplit (Le.long rs.length (ls ++ [x])) with ⟨h33, g33⟩ | ⟨h33, g33⟩ <;> try simp only [kb] at g33
   ·refine Tr.cond_t Z h33<|Zs<|Zr<|Zm Z<|Za Z<|Ze<|Zg<|Zu<|Zn<|Ex.keep []<|?_
    exact Ex.ret1 rfl rfl  rfl
   ·obtain ⟨hlg1, hlg2⟩ := Le.long_f h33; rw [List.length_append, List.length_singleton] at hlg2
    refine Tr.cond_f Z h33<|Zt<|Zg<|Zs<|Zr<|?_
    by_cases hp0 : (Rg.pool rs).2 = 0
    ·refine Zm Z<|Zm Z<|?_
     refine Run.call [] (l := [.tmp 34, .tmp 35]) rfl rfl rfl (lt rfl) (made_c hv hok hv2 hcs W W) (fun v34 V34 H34 hle34 hR34 => ?_)
     rcases hR34 with ⟨_, ⟨hpn, _⟩ | ⟨_, l, tx, rx, s1, pl, cl, ql, rfl, hin, hl, hnl, rfl⟩⟩
     · exact absurd hp0 hpn
     replace hv := hv.le hle34
     replace hv2 := hv2.le hle34
     replace hVle := Vw.le_trans hVle hle34
     obtain ⟨hr, hlm, _⟩ := id hin
     refine Run.heapTo (H' := [[(b26, .cells #[.int .u32 x.addr, .int .i64 x.bind, .string x.client, .int .i64 x.till, .int .i64 x.acked, .int .i64 x.told, .int .i64 x.at_, .int .i64 x.ver] 69 (0, 0))], s31, [(b1, .cells #[.int .u32 x.addr, .int .i64 x.bind, .string x.client, .int .i64 x.till, .int .i64 x.acked, .int .i64 x.told, .int .i64 x.at_, .int .i64 x.ver] 69 (0, 0))], s1, [(rx, .cells #[.slice pl l.length cl] 94 (0, 0))], ql]) Z ?_
     refine Run.heapTo (H' := [[(b26, .cells #[.int .u32 x.addr, .int .i64 x.bind, .string x.client, .int .i64 x.till, .int .i64 x.acked, .int .i64 x.told, .int .i64 x.at_, .int .i64 x.ver] 69 (0, 0))], s31, [(b1, .cells #[.int .u32 x.addr, .int .i64 x.bind, .string x.client, .int .i64 x.till, .int .i64 x.acked, .int .i64 x.told, .int .i64 x.at_, .int .i64 x.ver] 69 (0, 0))], s1, [(rx, .cells #[.slice pl l.length cl] 94 (0, 0))], ql]) Z ?_
     refine Zm Z<|Zv (Y.extract Z Z)<|Zv (Y.extract Z Z)<|Zv (Y.extract Z Z)<|Za Z<|Za Z<|Za Z<|Ze<|Zg<|Zs<|Zs<|Zr<|Zm Z<|Zv (Y.not Z)<|Zm Z<|Zp Z<|?_
     refine Zm Z<|Zp Z<|Zv (Y.eqNil Z Z Law12d_pt71)<|Zv (Y.pick_f Z Z Z)<|Ze<|Zg<|Tr.cond_f Z Z<|Zt<|Zg<|Zs<|Zr<|Zm Z<|?_
     refine Run.call [3] (l := [.tmp 47]) rfl rfl rfl (lt rfl) (all_o hin) (fun v35 V35 H35 hle35 hR35 => ?_)
     obtain ⟨hV, q35, ho35, rfl⟩ := hR35; replace hV := hV.symm; subst hV
     obtain ⟨p35, c35, rfl⟩ := ho35.form
     refine Run.heapTo (H' := [[(b26, .cells #[.int .u32 x.addr, .int .i64 x.bind, .string x.client, .int .i64 x.till, .int .i64 x.acked, .int .i64 x.told, .int .i64 x.at_, .int .i64 x.ver] 69 (0, 0))], s31, [(b1, .cells #[.int .u32 x.addr, .int .i64 x.bind, .string x.client, .int .i64 x.till, .int .i64 x.acked, .int .i64 x.told, .int .i64 x.at_, .int .i64 x.ver] 69 (0, 0))], [(rx, .cells #[.slice pl l.length cl] 94 (0, 0))], ql, q35, s1]) Z ?_
     refine Run.heapTo (H' := [[(b26, .cells #[.int .u32 x.addr, .int .i64 x.bind, .string x.client, .int .i64 x.till, .int .i64 x.acked, .int .i64 x.told, .int .i64 x.at_, .int .i64 x.ver] 69 (0, 0))], s31, [(b1, .cells #[.int .u32 x.addr, .int .i64 x.bind, .string x.client, .int .i64 x.till, .int .i64 x.acked, .int .i64 x.told, .int .i64 x.at_, .int .i64 x.ver] 69 (0, 0))], [(rx, .cells #[.slice pl l.length cl] 94 (0, 0))], ql, q35, s1]) Z ?_
     refine Za Z<|Ze<|Zg<|Zs<|Zr<|Zm Z<|Zv (Y.loadAgg Z Law12d_ag69 (Kn.at 2 Z) Z)<|?_
     refine Run.call [6] (l := [.tmp 49, .tmp 50]) rfl rfl rfl (lt rfl) (set_o (q := x) hin hs) (fun v36 V36 H36 hle36 hR36 => ?_)
     obtain ⟨hV, rfl, sb36, hin36, rfl⟩ := hR36; replace hV := hV.symm; subst hV
     refine Run.heapTo (H' := [[(b26, .cells #[.int .u32 x.addr, .int .i64 x.bind, .string x.client, .int .i64 x.till, .int .i64 x.acked, .int .i64 x.told, .int .i64 x.at_, .int .i64 x.ver] 69 (0, 0))], s31, [(b1, .cells #[.int .u32 x.addr, .int .i64 x.bind, .string x.client, .int .i64 x.till, .int .i64 x.acked, .int .i64 x.told, .int .i64 x.at_, .int .i64 x.ver] 69 (0, 0))], [(rx, .cells #[.slice pl l.length cl] 94 (0, 0))], ql, q35, sb36]) Z ?_
     refine Run.heapTo (H' := [[(b26, .cells #[.int .u32 x.addr, .int .i64 x.bind, .string x.client, .int .i64 x.till, .int .i64 x.acked, .int .i64 x.told, .int .i64 x.at_, .int .i64 x.ver] 69 (0, 0))], s31, [(b1, .cells #[.int .u32 x.addr, .int .i64 x.bind, .string x.client, .int .i64 x.till, .int .i64 x.acked, .int .i64 x.told, .int .i64 x.at_, .int .i64 x.ver] 69 (0, 0))], [(rx, .cells #[.slice pl l.length cl] 94 (0, 0))], ql, q35, sb36]) Z ?_
     refine Za Z<|Ze<|Zg<|Zs<|Zr<|Zm Z<|?_
     refine Run.call [6] (l := [.tmp 52]) rfl rfl rfl (lt rfl) (all_o hin36) (fun v37 V37 H37 hle37 hR37 => ?_)
     obtain ⟨hV, q37, ho37, rfl⟩ := hR37; replace hV := hV.symm; subst hV
     obtain ⟨p37, c37, rfl⟩ := ho37.form
     refine Run.heapTo (H' := [[(b26, .cells #[.int .u32 x.addr, .int .i64 x.bind, .string x.client, .int .i64 x.till, .int .i64 x.acked, .int .i64 x.told, .int .i64 x.at_, .int .i64 x.ver] 69 (0, 0))], s31, [(b1, .cells #[.int .u32 x.addr, .int .i64 x.bind, .string x.client, .int .i64 x.till, .int .i64 x.acked, .int .i64 x.told, .int .i64 x.at_, .int .i64 x.ver] 69 (0, 0))], [(rx, .cells #[.slice pl l.length cl] 94 (0, 0))], ql, q35, q37, sb36]) Z ?_
     refine Run.heapTo (H' := [[(b26, .cells #[.int .u32 x.addr, .int .i64 x.bind, .string x.client, .int .i64 x.till, .int .i64 x.acked, .int .i64 x.told, .int .i64 x.at_, .int .i64 x.ver] 69 (0, 0))], s31, [(b1, .cells #[.int .u32 x.addr, .int .i64 x.bind, .string x.client, .int .i64 x.till, .int .i64 x.acked, .int .i64 x.told, .int .i64 x.at_, .int .i64 x.ver] 69 (0, 0))], [(rx, .cells #[.slice pl l.length cl] 94 (0, 0))], ql, q35, q37, sb36]) Z ?_
     refine Za Z<|Ze<|Zg<|Zs<|Zs<|Zr<|?_
     have hsl := Le.setE_len l x
     refine Zm Z<|Zv (Y.lenSl Z Law12d_es67)<|Zm Z<|Zv (Y.lenSl Z Law12d_es67)<|Zv (Y.int Z Z Z)<|Ze<|Zg<|?_
     rcases Zsplit ((((((Le.setE l x).2)).length : Nat) : Int) != (((l).length : Nat) : Int)) with ⟨h38, g38⟩ | ⟨h38, g38⟩ <;> try simp only [kb] at g38
     ·refine Tr.cond_t Z h38<|Zs<|Zr<|Za Z<|Ze<|Zg<|Zu<|Zn<|Ex.keep []<|?_
      exact Ex.ret1 rfl rfl  (by exfalso; omega)
     ·refine Tr.cond_f Z h38<|Zt<|Zg<|Zs<|Zr<|Run.keepTo (H' := [[(b1, .cells #[.int .u32 x.addr, .int .i64 x.bind, .string x.client, .int .i64 x.till, .int .i64 x.acked, .int .i64 x.told, .int .i64 x.at_, .int .i64 x.ver] 69 (0, 0))], q35, q37]) [2, 4, 4] Z<|?_
      have hsz := Le.set_zero l x
      refine Za Z<|Ze<|Zg<|Zs<|Zs<|Zr<|Za Z<|Ze<|Zg<|Zb<|?_
      refine ZL (X := Nat × Bool) (fun z0 => V34) (fun z0 => [[(b1, .cells #[.int .u32 x.addr, .int .i64 x.bind, .string x.client, .int .i64 x.till, .int .i64 x.acked, .int .i64 x.told, .int .i64 x.at_, .int .i64 x.ver] 69 (0, 0))], q35, q37]) (fun z0 => [(5, .pointer (some ⟨b1, 0, none⟩)), (12, .slice p35 (l).length c35), (13, .int .i64 ((Le.setE l x).1)), (14, .slice p37 (((Le.setE l x).2)).length c37), (15, .bool z0.2), (16, .int .i64 (z0.1 : Int))]) (fun z0 => z0.2 = (l.take z0.1).any (fun y : Le => y.addr == x.addr) ∧ z0.1 ≤ l.length) (fun z0 => l.length - z0.1) (⟨0, false⟩ : Nat × Bool) ⟨rfl, Nat.zero_le _⟩ ?_
      rintro ⟨i1, in1⟩ ⟨hb, hi⟩
      try dsimp only at hb hi ⊢
      refine Zs<|Zs<|Zr<|Zm Z<|Zm Z<|Zv (Y.lenSl Z Law12d_es67)<|Zv (Y.int Z Z Z)<|Ze<|Zg<|?_
      rcases Zsplit (decide ((i1 : Int) < (((((Le.setE l x).2)).length : Nat) : Int))) with ⟨h39, g39⟩ | ⟨h39, g39⟩ <;> try simp only [kb] at g39
      ·refine Tr.cond_t Z h39<|Zt<|Zg<|Zs<|Zb<|Zs<|Zr<|Zm Z<|Zm Z<|Zv (Y.idxR i1 Z Z Law12d_es67 (ho35.rd 1 rfl) W W)<|Zv (Y.ldRA (vs := [.int .u32 ((l.getD i1 Le.dflt).addr), .int .i64 ((l.getD i1 Le.dflt).bind), .string ((l.getD i1 Le.dflt).client), .int .i64 ((l.getD i1 Le.dflt).till), .int .i64 ((l.getD i1 Le.dflt).acked), .int .i64 ((l.getD i1 Le.dflt).told), .int .i64 ((l.getD i1 Le.dflt).at_), .int .i64 ((l.getD i1 Le.dflt).ver)]) rfl Law12d_ag69 (ho35.rd 1 rfl) rfl WD (fun o ho => flatm_atA Le.len W Le.dflt o ho))<|?_
       refine Run.alloc Law12d_zo69 (lt rfl) (fun b40 => ?_)
       refine Run.store (s := [(b40, .cells #[.int .u32 ((l.getD i1 Le.dflt).addr), .int .i64 ((l.getD i1 Le.dflt).bind), .string ((l.getD i1 Le.dflt).client), .int .i64 ((l.getD i1 Le.dflt).till), .int .i64 ((l.getD i1 Le.dflt).acked), .int .i64 ((l.getD i1 Le.dflt).told), .int .i64 ((l.getD i1 Le.dflt).at_), .int .i64 ((l.getD i1 Le.dflt).ver)] 69 (0, 0))]) Z Z Law12d_sz69 (i := 0) Z Z (le Z) Z Z<|Ze<|Zg<|Zs<|Zs<|Tr.quiet Law12d_mo WK<|?_
       refine ZM Z<|ZV (Y.int Z Z Z)<|ZM Z<|?_
       rcases Zsplit (((Le.setE l x).1) == 0) with ⟨h41, g41⟩ | ⟨h41, g41⟩ <;> try simp only [kb] at g41
       ·refine ZP h41<|ZM Z<|ZP h41<|ZM Z<|ZP h41<|ZV (Y.idxR i1 Z Z Law12d_es67 (ho35.rd 2 rfl) W W)<|ZP h41<|ZV (Y.fieldR Z Law12d_fo69_0 (ho35.rd 2 rfl) W)<|ZP h41<|ZV (Y.ldR Z Law12d_ts30 (ho35.rd 2 rfl) (flatm_at Le.len W Le.dflt WD rfl))<|ZP h41<|ZV (Y.fieldAddr Z Law12d_fo69_0)<|ZP h41<|ZV (Y.load Z Law12d_ts30 (Kn.at 1 Z) Z)<|ZP h41<|ZV (Y.int Z Z Z)<|?_
        refine ZV (Y.pick_t Z h41 Z)<|ZE<|Zg<|?_
        rcases Zsplit (((l.getD i1 Le.dflt).addr) == x.addr) with ⟨h42, g42⟩ | ⟨h42, g42⟩ <;> try simp only [kb] at g42
        ·refine Tr.cond_t Z h42<|Zr<|Zv (Y.loadAgg Z Law12d_ag69 (Kn.at 1 Z) Z)<|Run.store (s := [(b40, .cells #[.int .u32 x.addr, .int .i64 x.bind, .string x.client, .int .i64 x.till, .int .i64 x.acked, .int .i64 x.told, .int .i64 x.at_, .int .i64 x.ver] 69 (0, 0))]) Z Z Law12d_sz69 (i := 0) Z Z (le Z) Z Z<|Ze<|Zg<|Zs<|Tr.quiet Law12d_mo WK<|ZM Z<|ZM Z<|?_
         rcases Zsplit (in1) with ⟨h43, g43⟩ | ⟨h43, g43⟩ <;> try simp only [kb] at g43
         ·refine ZO h43 Z<|ZO h43 Z<|ZO h43 Z<|ZO h43 Z<|ZO h43 Z<|ZO h43 Z<|ZO h43 Z<|ZO h43 Z<|ZV (Y.pick_t Z h43 Z)<|ZA Z<|ZE<|Zg<|Zs<|Tr.quiet Law12d_mo WK<|ZM Z<|ZM Z<|?_
          refine ZV (Y.idxR i1 Z Z Law12d_es67 (ho37.rd 3 rfl) W W)<|ZV (Y.ldRA (vs := [.int .u32 ((((Le.setE l x).2).getD i1 Le.dflt).addr), .int .i64 ((((Le.setE l x).2).getD i1 Le.dflt).bind), .string ((((Le.setE l x).2).getD i1 Le.dflt).client), .int .i64 ((((Le.setE l x).2).getD i1 Le.dflt).till), .int .i64 ((((Le.setE l x).2).getD i1 Le.dflt).acked), .int .i64 ((((Le.setE l x).2).getD i1 Le.dflt).told), .int .i64 ((((Le.setE l x).2).getD i1 Le.dflt).at_), .int .i64 ((((Le.setE l x).2).getD i1 Le.dflt).ver)]) rfl Law12d_ag69 (ho37.rd 3 rfl) rfl WD (fun o ho => flatm_atA Le.len W Le.dflt o ho))<|?_
          refine ZV (Y.loadAgg Z Law12d_ag69 (Kn.at 0 Z) Z)<|ZV (Y.neS Z Z Law12d_tgs69 Z Z)<|ZE<|Zg<|Tr.cond_f rfl (congrArg Bool.not (Le.same_of (Le.set_at1 W h41 W)))<|Zt<|Zc<|Zg<|Zr<|Zm Z<|Zv (Y.add Z Z W)<|Za Z<|Ze<|Ex.keep [1, 1, 1]<|?_
          exact ZR (⟨i1 + 1, true⟩ : Nat × Bool) ⟨by rw [Le.any_take _ W, ← hb, h43]; rfl, by omega⟩ (by dsimp only; omega)
         ·refine ZP h43<|ZM Z<|ZP h43<|ZM Z<|ZP h43<|ZV (Y.idxR i1 Z Z Law12d_es67 (ho35.rd 2 rfl) W W)<|ZP h43<|ZV (Y.fieldR Z Law12d_fo69_0 (ho35.rd 2 rfl) W)<|ZP h43<|ZV (Y.ldR Z Law12d_ts30 (ho35.rd 2 rfl) (flatm_at Le.len W Le.dflt WD rfl))<|ZP h43<|ZV (Y.fieldAddr Z Law12d_fo69_0)<|ZP h43<|ZV (Y.load Z Law12d_ts30 (Kn.at 1 Z) Z)<|ZP h43<|ZV (Y.int Z Z Z)<|?_
          refine ZV (Y.pick_f Z h43 Z)<|ZA Z<|ZE<|Zg<|Zs<|Tr.quiet Law12d_mo WK<|ZM Z<|ZM Z<|ZV (Y.idxR i1 Z Z Law12d_es67 (ho37.rd 3 rfl) W W)<|ZV (Y.ldRA (vs := [.int .u32 ((((Le.setE l x).2).getD i1 Le.dflt).addr), .int .i64 ((((Le.setE l x).2).getD i1 Le.dflt).bind), .string ((((Le.setE l x).2).getD i1 Le.dflt).client), .int .i64 ((((Le.setE l x).2).getD i1 Le.dflt).till), .int .i64 ((((Le.setE l x).2).getD i1 Le.dflt).acked), .int .i64 ((((Le.setE l x).2).getD i1 Le.dflt).told), .int .i64 ((((Le.setE l x).2).getD i1 Le.dflt).at_), .int .i64 ((((Le.setE l x).2).getD i1 Le.dflt).ver)]) rfl Law12d_ag69 (ho37.rd 3 rfl) rfl WD (fun o ho => flatm_atA Le.len W Le.dflt o ho))<|?_
          refine ZV (Y.loadAgg Z Law12d_ag69 (Kn.at 0 Z) Z)<|ZV (Y.neS Z Z Law12d_tgs69 Z Z)<|ZE<|Zg<|Tr.cond_f rfl (congrArg Bool.not (Le.same_of (Le.set_at1 W h41 W)))<|Zt<|Zc<|Zg<|Zr<|Zm Z<|Zv (Y.add Z Z W)<|Za Z<|Ze<|Ex.keep [1, 1, 1]<|?_
          exact ZR (⟨i1 + 1, ((l.getD i1 Le.dflt).addr) == x.addr⟩ : Nat × Bool) ⟨by rw [Le.any_take _ W, ← hb, h43]; first | rfl | exact (h42).symm, by omega⟩ (by dsimp only; omega)
        ·refine Tr.cond_f Z h42<|Zt<|Zg<|Zs<|Tr.quiet Law12d_mo WK<|ZM Z<|ZM Z<|?_
         rcases Zsplit (in1) with ⟨h44, g44⟩ | ⟨h44, g44⟩ <;> try simp only [kb] at g44
         ·refine ZO h44 Z<|ZO h44 Z<|ZO h44 Z<|ZO h44 Z<|ZO h44 Z<|ZO h44 Z<|ZO h44 Z<|ZO h44 Z<|ZV (Y.pick_t Z h44 Z)<|ZA Z<|ZE<|Zg<|Zs<|Tr.quiet Law12d_mo WK<|ZM Z<|ZM Z<|?_
          refine ZV (Y.idxR i1 Z Z Law12d_es67 (ho37.rd 3 rfl) W W)<|ZV (Y.ldRA (vs := [.int .u32 ((((Le.setE l x).2).getD i1 Le.dflt).addr), .int .i64 ((((Le.setE l x).2).getD i1 Le.dflt).bind), .string ((((Le.setE l x).2).getD i1 Le.dflt).client), .int .i64 ((((Le.setE l x).2).getD i1 Le.dflt).till), .int .i64 ((((Le.setE l x).2).getD i1 Le.dflt).acked), .int .i64 ((((Le.setE l x).2).getD i1 Le.dflt).told), .int .i64 ((((Le.setE l x).2).getD i1 Le.dflt).at_), .int .i64 ((((Le.setE l x).2).getD i1 Le.dflt).ver)]) rfl Law12d_ag69 (ho37.rd 3 rfl) rfl WD (fun o ho => flatm_atA Le.len W Le.dflt o ho))<|?_
          refine ZV (Y.loadAgg Z Law12d_ag69 (Kn.at 0 Z) Z)<|ZV (Y.neS Z Z Law12d_tgs69 Z Z)<|ZE<|Zg<|Tr.cond_f rfl (congrArg Bool.not (Le.same_of (Le.set_at0 W (.inr W))))<|Zt<|Zc<|Zg<|Zr<|Zm Z<|Zv (Y.add Z Z W)<|Za Z<|Ze<|Ex.keep [1, 1, 1]<|?_
          exact ZR (⟨i1 + 1, true⟩ : Nat × Bool) ⟨by rw [Le.any_take _ W, ← hb, h44]; rfl, by omega⟩ (by dsimp only; omega)
         ·refine ZP h44<|ZM Z<|ZP h44<|ZM Z<|ZP h44<|ZV (Y.idxR i1 Z Z Law12d_es67 (ho35.rd 2 rfl) W W)<|ZP h44<|ZV (Y.fieldR Z Law12d_fo69_0 (ho35.rd 2 rfl) W)<|ZP h44<|ZV (Y.ldR Z Law12d_ts30 (ho35.rd 2 rfl) (flatm_at Le.len W Le.dflt WD rfl))<|ZP h44<|ZV (Y.fieldAddr Z Law12d_fo69_0)<|ZP h44<|ZV (Y.load Z Law12d_ts30 (Kn.at 1 Z) Z)<|ZP h44<|ZV (Y.int Z Z Z)<|?_
          refine ZV (Y.pick_f Z h44 Z)<|ZA Z<|ZE<|Zg<|Zs<|Tr.quiet Law12d_mo WK<|ZM Z<|ZM Z<|ZV (Y.idxR i1 Z Z Law12d_es67 (ho37.rd 3 rfl) W W)<|ZV (Y.ldRA (vs := [.int .u32 ((((Le.setE l x).2).getD i1 Le.dflt).addr), .int .i64 ((((Le.setE l x).2).getD i1 Le.dflt).bind), .string ((((Le.setE l x).2).getD i1 Le.dflt).client), .int .i64 ((((Le.setE l x).2).getD i1 Le.dflt).till), .int .i64 ((((Le.setE l x).2).getD i1 Le.dflt).acked), .int .i64 ((((Le.setE l x).2).getD i1 Le.dflt).told), .int .i64 ((((Le.setE l x).2).getD i1 Le.dflt).at_), .int .i64 ((((Le.setE l x).2).getD i1 Le.dflt).ver)]) rfl Law12d_ag69 (ho37.rd 3 rfl) rfl WD (fun o ho => flatm_atA Le.len W Le.dflt o ho))<|?_
          refine ZV (Y.loadAgg Z Law12d_ag69 (Kn.at 0 Z) Z)<|ZV (Y.neS Z Z Law12d_tgs69 Z Z)<|ZE<|Zg<|Tr.cond_f rfl (congrArg Bool.not (Le.same_of (Le.set_at0 W (.inr W))))<|Zt<|Zc<|Zg<|Zr<|Zm Z<|Zv (Y.add Z Z W)<|Za Z<|Ze<|Ex.keep [1, 1, 1]<|?_
          exact ZR (⟨i1 + 1, ((l.getD i1 Le.dflt).addr) == x.addr⟩ : Nat × Bool) ⟨by rw [Le.any_take _ W, ← hb, h44]; first | rfl | exact (h42).symm, by omega⟩ (by dsimp only; omega)
       ·refine ZO h41 Z<|ZO h41 Z<|ZO h41 Z<|ZO h41 Z<|ZO h41 Z<|ZO h41 Z<|ZO h41 Z<|ZO h41 Z<|ZV (Y.pick_f Z h41 Z)<|ZE<|Zg<|Tr.cond_f Z Z<|Zt<|Zg<|Zs<|Tr.quiet Law12d_mo WK<|?_
        refine ZM Z<|ZM Z<|?_
        rcases Zsplit (in1) with ⟨h45, g45⟩ | ⟨h45, g45⟩ <;> try simp only [kb] at g45
        ·refine ZO h45 Z<|ZO h45 Z<|ZO h45 Z<|ZO h45 Z<|ZO h45 Z<|ZO h45 Z<|ZO h45 Z<|ZO h45 Z<|ZV (Y.pick_t Z h45 Z)<|ZA Z<|ZE<|Zg<|Zs<|Tr.quiet Law12d_mo WK<|ZM Z<|ZM Z<|?_
         refine ZV (Y.idxR i1 Z Z Law12d_es67 (ho37.rd 3 rfl) W W)<|ZV (Y.ldRA (vs := [.int .u32 ((((Le.setE l x).2).getD i1 Le.dflt).addr), .int .i64 ((((Le.setE l x).2).getD i1 Le.dflt).bind), .string ((((Le.setE l x).2).getD i1 Le.dflt).client), .int .i64 ((((Le.setE l x).2).getD i1 Le.dflt).till), .int .i64 ((((Le.setE l x).2).getD i1 Le.dflt).acked), .int .i64 ((((Le.setE l x).2).getD i1 Le.dflt).told), .int .i64 ((((Le.setE l x).2).getD i1 Le.dflt).at_), .int .i64 ((((Le.setE l x).2).getD i1 Le.dflt).ver)]) rfl Law12d_ag69 (ho37.rd 3 rfl) rfl WD (fun o ho => flatm_atA Le.len W Le.dflt o ho))<|?_
         refine ZV (Y.loadAgg Z Law12d_ag69 (Kn.at 0 Z) Z)<|ZV (Y.neS Z Z Law12d_tgs69 Z Z)<|ZE<|Zg<|Tr.cond_f rfl (congrArg Bool.not (Le.same_of (Le.set_at0 W (.inl h41))))<|Zt<|Zc<|Zg<|Zr<|Zm Z<|Zv (Y.add Z Z W)<|Za Z<|Ze<|Ex.keep [1, 1, 1]<|?_
         exact ZR (⟨i1 + 1, true⟩ : Nat × Bool) ⟨by rw [Le.any_take _ W, ← hb, h45]; rfl, by omega⟩ (by dsimp only; omega)
        ·refine ZP h45<|ZM Z<|ZP h45<|ZM Z<|ZP h45<|ZV (Y.idxR i1 Z Z Law12d_es67 (ho35.rd 2 rfl) W W)<|ZP h45<|ZV (Y.fieldR Z Law12d_fo69_0 (ho35.rd 2 rfl) W)<|ZP h45<|ZV (Y.ldR Z Law12d_ts30 (ho35.rd 2 rfl) (flatm_at Le.len W Le.dflt WD rfl))<|ZP h45<|ZV (Y.fieldAddr Z Law12d_fo69_0)<|ZP h45<|ZV (Y.load Z Law12d_ts30 (Kn.at 1 Z) Z)<|ZP h45<|ZV (Y.int Z Z Z)<|?_
         refine ZV (Y.pick_f Z h45 Z)<|ZA Z<|ZE<|Zg<|Zs<|Tr.quiet Law12d_mo WK<|ZM Z<|ZM Z<|ZV (Y.idxR i1 Z Z Law12d_es67 (ho37.rd 3 rfl) W W)<|ZV (Y.ldRA (vs := [.int .u32 ((((Le.setE l x).2).getD i1 Le.dflt).addr), .int .i64 ((((Le.setE l x).2).getD i1 Le.dflt).bind), .string ((((Le.setE l x).2).getD i1 Le.dflt).client), .int .i64 ((((Le.setE l x).2).getD i1 Le.dflt).till), .int .i64 ((((Le.setE l x).2).getD i1 Le.dflt).acked), .int .i64 ((((Le.setE l x).2).getD i1 Le.dflt).told), .int .i64 ((((Le.setE l x).2).getD i1 Le.dflt).at_), .int .i64 ((((Le.setE l x).2).getD i1 Le.dflt).ver)]) rfl Law12d_ag69 (ho37.rd 3 rfl) rfl WD (fun o ho => flatm_atA Le.len W Le.dflt o ho))<|?_
         refine ZV (Y.loadAgg Z Law12d_ag69 (Kn.at 0 Z) Z)<|ZV (Y.neS Z Z Law12d_tgs69 Z Z)<|ZE<|Zg<|Tr.cond_f rfl (congrArg Bool.not (Le.same_of (Le.set_at0 W (.inl h41))))<|Zt<|Zc<|Zg<|Zr<|Zm Z<|Zv (Y.add Z Z W)<|Za Z<|Ze<|Ex.keep [1, 1, 1]<|?_
         exact ZR (⟨i1 + 1, ((l.getD i1 Le.dflt).addr) == x.addr⟩ : Nat × Bool) ⟨by rw [Le.any_take _ W, ← hb, h45]; rfl, by omega⟩ (by dsimp only; omega)
      ·refine Tr.cond_f Z h39<|Zx<|Zy<|Zy<|Zi<|Zg<|Zs<|Zr<|?_
       obtain rfl : i1 = l.length := by omega
       rw [List.take_length] at hb
       refine Zm Z<|Zv (Y.int Z Z Z)<|Zm Z<|Zm Z<|?_
       rcases Zsplit (in1) with ⟨h46, g46⟩ | ⟨h46, g46⟩ <;> try simp only [kb] at g46
       ·refine Zp h46<|Zv (Y.loadAgg Z Law12d_ag69 (Kn.at 0 Z) Z)<|Zp h46<|Run.call0 (l := [.tmp 103]) Z Z Z (lt Z) (rright11_h (q := x) hs)<|Zv (Y.pick_t Z h46 Z)<|Zv (Y.eqB Z Z Law12d_tg4)<|Za Z<|Ze<|Zg<|Zu<|Ex.keep []<|?_
        exact Ex.ret1 rfl rfl  (congrArg Value.bool (by rw [hsz, ← hb, h46]; simp))
       ·refine Zo h46 Z<|Zo h46 Z<|Zv (Y.pick_f Z h46 Z)<|Zv (Y.eqB Z Z Law12d_tg4)<|Za Z<|Ze<|Zg<|Zu<|Ex.keep []<|?_
        exact Ex.ret1 rfl rfl  (congrArg Value.bool (by rw [hsz, ← hb, h46]; simp))
    ·refine Zm Z<|Zm Z<|?_
     refine Run.call [] (l := [.tmp 34, .tmp 35]) rfl rfl rfl (lt rfl) (made_c hv hok hv2 hcs W W) (fun v47 V47 H47 hle47 hR47 => ?_)
     obtain ⟨_, rfl, rfl⟩ := hR47.2.resolve_right fun h9 => hp0 h9.1
     replace hv := hv.le hle47
     replace hv2 := hv2.le hle47
     replace hVle := Vw.le_trans hVle hle47
     refine Run.heapTo (H' := [[(b26, .cells #[.int .u32 x.addr, .int .i64 x.bind, .string x.client, .int .i64 x.till, .int .i64 x.acked, .int .i64 x.told, .int .i64 x.at_, .int .i64 x.ver] 69 (0, 0))], s31, [(b1, .cells #[.int .u32 x.addr, .int .i64 x.bind, .string x.client, .int .i64 x.till, .int .i64 x.acked, .int .i64 x.told, .int .i64 x.at_, .int .i64 x.ver] 69 (0, 0))]]) Z<|Run.heapTo (H' := [[(b26, .cells #[.int .u32 x.addr, .int .i64 x.bind, .string x.client, .int .i64 x.till, .int .i64 x.acked, .int .i64 x.told, .int .i64 x.at_, .int .i64 x.ver] 69 (0, 0))], s31, [(b1, .cells #[.int .u32 x.addr, .int .i64 x.bind, .string x.client, .int .i64 x.till, .int .i64 x.acked, .int .i64 x.told, .int .i64 x.at_, .int .i64 x.ver] 69 (0, 0))]]) Z<|?_
     refine Zm Z<|Zv (Y.extract Z Z)<|Zv (Y.extract Z Z)<|Zv (Y.extract Z Z)<|Za Z<|Za Z<|Za Z<|Ze<|Zg<|Zs<|Zs<|Zr<|Zm Z<|Zv (Y.not Z)<|Zm Z<|Zp Z<|?_
     refine Zm Z<|Zp Z<|Zv (Y.eqNil Z Z Law12d_pt71)<|Zv (Y.pick_f Z Z Z)<|Ze<|Zg<|Tr.cond_t Z Z<|Zs<|Zr<|Zm Z<|Za Z<|Ze<|Zg<|Zu<|Zn<|Ex.keep []<|?_
     exact Ex.ret1 rfl rfl  rfl
 ·refine Run.buildSlice (l := [(0, .tmp 23)]) (r := [.int .u32 x.addr, .int .i64 x.bind, .string x.client, .int .i64 x.till, .int .i64 x.acked, .int .i64 x.told, .int .i64 x.at_, .int .i64 x.ver]) Law12d_es67 Law12d_zo69 rfl WD rfl rfl WD (lt rfl) (fun b48 => ?_)
  refine Ze<|Ex.anyD (ZK 1 Z)<|?_
  refine RunD.one (i := 1) WK rfl  ?_ 
  refine Run.buildSlice0 Law12d_es67 (lt rfl) (fun b49 => ?_)
  refine Ze<|Ex.anyD (ZK 2 Z)<|?_
  refine RunD.one (i := 3) WK rfl  ?_ 
  refine Run.append (n := 0) (m := ls.length) (xs := []) (ys := ls.flatMap Le.cells) rfl rfl Law12d_es67 Law12d_zi69 WD (j := 0) rfl (Ow.lit (cur := #[]) rfl WD) (Src.of_rd Law12d_es67 hv2.of_nil) W W (all_one_flat Le.enc1 _) (lt rfl) (fun v50 s51 ho52 hf => ?_)
  obtain ⟨p50, c50, rfl⟩ := hf
  replace ho52 := Ow.app (f := Le.cells) (l := []) (m := ls) ho52
  refine Ze<|Ex.anyD (ZK 2 Z)<|?_
  refine RunD.one (i := 6) WK rfl  ?_ 
  refine Run.append (n := 0 + ls.length) (m := 1) (xs := ([] ++ ls).flatMap Le.cells) (ys := [.int .u32 x.addr, .int .i64 x.bind, .string x.client, .int .i64 x.till, .int .i64 x.acked, .int .i64 x.told, .int .i64 x.at_, .int .i64 x.ver]) rfl rfl Law12d_es67 Law12d_zi69 WD (j := 0) rfl ho52 (Src.of_rd Law12d_es67 (Rd.one (Kn.at 1 rfl) rfl)) W W rfl (lt rfl) (fun v53 s54 ho55 hf => ?_)
  obtain ⟨p53, c53, rfl⟩ := hf
  replace ho55 := Ow.app1 (f := Le.cells) (l := [] ++ ls) (x := x) ho55
  refine Ze<|Ex.anyD (ZK 2 Z)<|?_
  refine RunD.one (i := 7) WK rfl  ?_ 
  refine Run.call0 (l := [.tmp 19, .tmp 25]) rfl rfl rfl (lt rfl) (long_x (n0 := rs.length) (b := (ls ++ [x])) (ho55.rd 0 rfl) (by simp <;> omega) (by simp) (by rw [List.length_append, List.length_singleton]; omega))<|Ze<|Ex.anyD (ZK 2 Z)<|RunD.pure (i := 8) rfl WK WK WK (fun _ _ _ h => h) (lt rfl) (ZK 2 Z) (fun _ => (Y.assign rfl))<|RunD.done WK<|Zg<|Zs<|Zs<|Zr<|Zm Z<|Zv (Y.not Z)<|?_
  refine Zm Z<|Zp Z<|Zm Z<|Zv (Y.pick_f Z Z Z)<|Ze<|Zg<|?_
  rcases Zsplit (Le.long rs.length (ls ++ [x])) with ⟨h56, g56⟩ | ⟨h56, g56⟩ <;> try simp only [kb] at g56
  ·refine Tr.cond_t Z h56<|Zs<|Zr<|Zm Z<|Za Z<|Ze<|Zg<|Zu<|Zn<|Ex.keep []<|?_
   exact Ex.ret1 rfl rfl  rfl
  ·obtain ⟨hlg1, hlg2⟩ := Le.long_f h56; rw [List.length_append, List.length_singleton] at hlg2
   refine Tr.cond_f Z h56<|Zt<|Zg<|Zs<|Zr<|?_
   by_cases hp0 : (Rg.pool rs).2 = 0
   ·refine Zm Z<|Zm Z<|?_
    refine Run.call [] (l := [.tmp 34, .tmp 35]) rfl rfl rfl (lt rfl) (made_c hv hok hv2 hcs W W) (fun v57 V57 H57 hle57 hR57 => ?_)
    rcases hR57 with ⟨_, ⟨hpn, _⟩ | ⟨_, l, tx, rx, s1, pl, cl, ql, rfl, hin, hl, hnl, rfl⟩⟩
    · exact absurd hp0 hpn
    replace hv := hv.le hle57
    replace hv2 := hv2.le hle57
    replace hVle := Vw.le_trans hVle hle57
    obtain ⟨hr, hlm, _⟩ := id hin
    refine Run.heapTo (H' := [s54, [(b48, .cells #[.int .u32 x.addr, .int .i64 x.bind, .string x.client, .int .i64 x.till, .int .i64 x.acked, .int .i64 x.told, .int .i64 x.at_, .int .i64 x.ver] 69 (0, 0))], [(b1, .cells #[.int .u32 x.addr, .int .i64 x.bind, .string x.client, .int .i64 x.till, .int .i64 x.acked, .int .i64 x.told, .int .i64 x.at_, .int .i64 x.ver] 69 (0, 0))], s1, [(rx, .cells #[.slice pl l.length cl] 94 (0, 0))], ql]) Z ?_
    refine Run.heapTo (H' := [s54, [(b48, .cells #[.int .u32 x.addr, .int .i64 x.bind, .string x.client, .int .i64 x.till, .int .i64 x.acked, .int .i64 x.told, .int .i64 x.at_, .int .i64 x.ver] 69 (0, 0))], [(b1, .cells #[.int .u32 x.addr, .int .i64 x.bind, .string x.client, .int .i64 x.till, .int .i64 x.acked, .int .i64 x.told, .int .i64 x.at_, .int .i64 x.ver] 69 (0, 0))], s1, [(rx, .cells #[.slice pl l.length cl] 94 (0, 0))], ql]) Z ?_
    refine Zm Z<|Zv (Y.extract Z Z)<|Zv (Y.extract Z Z)<|Zv (Y.extract Z Z)<|Za Z<|Za Z<|Za Z<|Ze<|Zg<|Zs<|Zs<|Zr<|Zm Z<|Zv (Y.not Z)<|Zm Z<|Zp Z<|?_
    refine Zm Z<|Zp Z<|Zv (Y.eqNil Z Z Law12d_pt71)<|Zv (Y.pick_f Z Z Z)<|Ze<|Zg<|Tr.cond_f Z Z<|Zt<|Zg<|Zs<|Zr<|Zm Z<|?_
    refine Run.call [3] (l := [.tmp 47]) rfl rfl rfl (lt rfl) (all_o hin) (fun v58 V58 H58 hle58 hR58 => ?_)
    obtain ⟨hV, q58, ho58, rfl⟩ := hR58; replace hV := hV.symm; subst hV
    obtain ⟨p58, c58, rfl⟩ := ho58.form
    refine Run.heapTo (H' := [s54, [(b48, .cells #[.int .u32 x.addr, .int .i64 x.bind, .string x.client, .int .i64 x.till, .int .i64 x.acked, .int .i64 x.told, .int .i64 x.at_, .int .i64 x.ver] 69 (0, 0))], [(b1, .cells #[.int .u32 x.addr, .int .i64 x.bind, .string x.client, .int .i64 x.till, .int .i64 x.acked, .int .i64 x.told, .int .i64 x.at_, .int .i64 x.ver] 69 (0, 0))], [(rx, .cells #[.slice pl l.length cl] 94 (0, 0))], ql, q58, s1]) Z ?_
    refine Run.heapTo (H' := [s54, [(b48, .cells #[.int .u32 x.addr, .int .i64 x.bind, .string x.client, .int .i64 x.till, .int .i64 x.acked, .int .i64 x.told, .int .i64 x.at_, .int .i64 x.ver] 69 (0, 0))], [(b1, .cells #[.int .u32 x.addr, .int .i64 x.bind, .string x.client, .int .i64 x.till, .int .i64 x.acked, .int .i64 x.told, .int .i64 x.at_, .int .i64 x.ver] 69 (0, 0))], [(rx, .cells #[.slice pl l.length cl] 94 (0, 0))], ql, q58, s1]) Z ?_
    refine Za Z<|Ze<|Zg<|Zs<|Zr<|Zm Z<|Zv (Y.loadAgg Z Law12d_ag69 (Kn.at 2 Z) Z)<|?_
    refine Run.call [6] (l := [.tmp 49, .tmp 50]) rfl rfl rfl (lt rfl) (set_o (q := x) hin hs) (fun v59 V59 H59 hle59 hR59 => ?_)
    obtain ⟨hV, rfl, sb59, hin59, rfl⟩ := hR59; replace hV := hV.symm; subst hV
    refine Run.heapTo (H' := [s54, [(b48, .cells #[.int .u32 x.addr, .int .i64 x.bind, .string x.client, .int .i64 x.till, .int .i64 x.acked, .int .i64 x.told, .int .i64 x.at_, .int .i64 x.ver] 69 (0, 0))], [(b1, .cells #[.int .u32 x.addr, .int .i64 x.bind, .string x.client, .int .i64 x.till, .int .i64 x.acked, .int .i64 x.told, .int .i64 x.at_, .int .i64 x.ver] 69 (0, 0))], [(rx, .cells #[.slice pl l.length cl] 94 (0, 0))], ql, q58, sb59]) Z ?_
    refine Run.heapTo (H' := [s54, [(b48, .cells #[.int .u32 x.addr, .int .i64 x.bind, .string x.client, .int .i64 x.till, .int .i64 x.acked, .int .i64 x.told, .int .i64 x.at_, .int .i64 x.ver] 69 (0, 0))], [(b1, .cells #[.int .u32 x.addr, .int .i64 x.bind, .string x.client, .int .i64 x.till, .int .i64 x.acked, .int .i64 x.told, .int .i64 x.at_, .int .i64 x.ver] 69 (0, 0))], [(rx, .cells #[.slice pl l.length cl] 94 (0, 0))], ql, q58, sb59]) Z ?_
    refine Za Z<|Ze<|Zg<|Zs<|Zr<|Zm Z<|?_
    refine Run.call [6] (l := [.tmp 52]) rfl rfl rfl (lt rfl) (all_o hin59) (fun v60 V60 H60 hle60 hR60 => ?_)
    obtain ⟨hV, q60, ho60, rfl⟩ := hR60; replace hV := hV.symm; subst hV
    obtain ⟨p60, c60, rfl⟩ := ho60.form
    refine Run.heapTo (H' := [s54, [(b48, .cells #[.int .u32 x.addr, .int .i64 x.bind, .string x.client, .int .i64 x.till, .int .i64 x.acked, .int .i64 x.told, .int .i64 x.at_, .int .i64 x.ver] 69 (0, 0))], [(b1, .cells #[.int .u32 x.addr, .int .i64 x.bind, .string x.client, .int .i64 x.till, .int .i64 x.acked, .int .i64 x.told, .int .i64 x.at_, .int .i64 x.ver] 69 (0, 0))], [(rx, .cells #[.slice pl l.length cl] 94 (0, 0))], ql, q58, q60, sb59]) Z ?_
    refine Run.heapTo (H' := [s54, [(b48, .cells #[.int .u32 x.addr, .int .i64 x.bind, .string x.client, .int .i64 x.till, .int .i64 x.acked, .int .i64 x.told, .int .i64 x.at_, .int .i64 x.ver] 69 (0, 0))], [(b1, .cells #[.int .u32 x.addr, .int .i64 x.bind, .string x.client, .int .i64 x.till, .int .i64 x.acked, .int .i64 x.told, .int .i64 x.at_, .int .i64 x.ver] 69 (0, 0))], [(rx, .cells #[.slice pl l.length cl] 94 (0, 0))], ql, q58, q60, sb59]) Z ?_
    refine Za Z<|Ze<|Zg<|Zs<|Zs<|Zr<|?_
    have hsl := Le.setE_len l x
    refine Zm Z<|Zv (Y.lenSl Z Law12d_es67)<|Zm Z<|Zv (Y.lenSl Z Law12d_es67)<|Zv (Y.int Z Z Z)<|Ze<|Zg<|?_
    rcases Zsplit ((((((Le.setE l x).2)).length : Nat) : Int) != (((l).length : Nat) : Int)) with ⟨h61, g61⟩ | ⟨h61, g61⟩ <;> try simp only [kb] at g61
    ·refine Tr.cond_t Z h61<|Zs<|Zr<|Za Z<|Ze<|Zg<|Zu<|Zn<|Ex.keep []<|?_
     exact Ex.ret1 rfl rfl  (by exfalso; omega)
    ·refine Tr.cond_f Z h61<|Zt<|Zg<|Zs<|Zr<|Run.keepTo (H' := [[(b1, .cells #[.int .u32 x.addr, .int .i64 x.bind, .string x.client, .int .i64 x.till, .int .i64 x.acked, .int .i64 x.told, .int .i64 x.at_, .int .i64 x.ver] 69 (0, 0))], q58, q60]) [2, 4, 4] Z<|?_
     have hsz := Le.set_zero l x
     refine Za Z<|Ze<|Zg<|Zs<|Zs<|Zr<|Za Z<|Ze<|Zg<|Zb<|?_
     refine ZL (X := Nat × Bool) (fun z0 => V57) (fun z0 => [[(b1, .cells #[.int .u32 x.addr, .int .i64 x.bind, .string x.client, .int .i64 x.till, .int .i64 x.acked, .int .i64 x.told, .int .i64 x.at_, .int .i64 x.ver] 69 (0, 0))], q58, q60]) (fun z0 => [(5, .pointer (some ⟨b1, 0, none⟩)), (12, .slice p58 (l).length c58), (13, .int .i64 ((Le.setE l x).1)), (14, .slice p60 (((Le.setE l x).2)).length c60), (15, .bool z0.2), (16, .int .i64 (z0.1 : Int))]) (fun z0 => z0.2 = (l.take z0.1).any (fun y : Le => y.addr == x.addr) ∧ z0.1 ≤ l.length) (fun z0 => l.length - z0.1) (⟨0, false⟩ : Nat × Bool) ⟨rfl, Nat.zero_le _⟩ ?_
     rintro ⟨i1, in1⟩ ⟨hb, hi⟩
     try dsimp only at hb hi ⊢
     refine Zs<|Zs<|Zr<|Zm Z<|Zm Z<|Zv (Y.lenSl Z Law12d_es67)<|Zv (Y.int Z Z Z)<|Ze<|Zg<|?_
     rcases Zsplit (decide ((i1 : Int) < (((((Le.setE l x).2)).length : Nat) : Int))) with ⟨h62, g62⟩ | ⟨h62, g62⟩ <;> try simp only [kb] at g62
     ·refine Tr.cond_t Z h62<|Zt<|Zg<|Zs<|Zb<|Zs<|Zr<|Zm Z<|Zm Z<|Zv (Y.idxR i1 Z Z Law12d_es67 (ho58.rd 1 rfl) W W)<|Zv (Y.ldRA (vs := [.int .u32 ((l.getD i1 Le.dflt).addr), .int .i64 ((l.getD i1 Le.dflt).bind), .string ((l.getD i1 Le.dflt).client), .int .i64 ((l.getD i1 Le.dflt).till), .int .i64 ((l.getD i1 Le.dflt).acked), .int .i64 ((l.getD i1 Le.dflt).told), .int .i64 ((l.getD i1 Le.dflt).at_), .int .i64 ((l.getD i1 Le.dflt).ver)]) rfl Law12d_ag69 (ho58.rd 1 rfl) rfl WD (fun o ho => flatm_atA Le.len W Le.dflt o ho))<|?_
      refine Run.alloc Law12d_zo69 (lt rfl) (fun b63 => ?_)
      refine Run.store (s := [(b63, .cells #[.int .u32 ((l.getD i1 Le.dflt).addr), .int .i64 ((l.getD i1 Le.dflt).bind), .string ((l.getD i1 Le.dflt).client), .int .i64 ((l.getD i1 Le.dflt).till), .int .i64 ((l.getD i1 Le.dflt).acked), .int .i64 ((l.getD i1 Le.dflt).told), .int .i64 ((l.getD i1 Le.dflt).at_), .int .i64 ((l.getD i1 Le.dflt).ver)] 69 (0, 0))]) Z Z Law12d_sz69 (i := 0) Z Z (le Z) Z Z<|Ze<|Zg<|Zs<|Zs<|Tr.quiet Law12d_mo WK<|?_
      refine ZM Z<|ZV (Y.int Z Z Z)<|ZM Z<|?_
      rcases Zsplit (((Le.setE l x).1) == 0) with ⟨h64, g64⟩ | ⟨h64, g64⟩ <;> try simp only [kb] at g64
      ·refine ZP h64<|ZM Z<|ZP h64<|ZM Z<|ZP h64<|ZV (Y.idxR i1 Z Z Law12d_es67 (ho58.rd 2 rfl) W W)<|ZP h64<|ZV (Y.fieldR Z Law12d_fo69_0 (ho58.rd 2 rfl) W)<|ZP h64<|ZV (Y.ldR Z Law12d_ts30 (ho58.rd 2 rfl) (flatm_at Le.len W Le.dflt WD rfl))<|ZP h64<|ZV (Y.fieldAddr Z Law12d_fo69_0)<|ZP h64<|ZV (Y.load Z Law12d_ts30 (Kn.at 1 Z) Z)<|ZP h64<|ZV (Y.int Z Z Z)<|?_
       refine ZV (Y.pick_t Z h64 Z)<|ZE<|Zg<|?_
       rcases Zsplit (((l.getD i1 Le.dflt).addr) == x.addr) with ⟨h65, g65⟩ | ⟨h65, g65⟩ <;> try simp only [kb] at g65
       ·refine Tr.cond_t Z h65<|Zr<|Zv (Y.loadAgg Z Law12d_ag69 (Kn.at 1 Z) Z)<|Run.store (s := [(b63, .cells #[.int .u32 x.addr, .int .i64 x.bind, .string x.client, .int .i64 x.till, .int .i64 x.acked, .int .i64 x.told, .int .i64 x.at_, .int .i64 x.ver] 69 (0, 0))]) Z Z Law12d_sz69 (i := 0) Z Z (le Z) Z Z<|Ze<|Zg<|Zs<|Tr.quiet Law12d_mo WK<|ZM Z<|ZM Z<|?_
        rcases Zsplit (in1) with ⟨h66, g66⟩ | ⟨h66, g66⟩ <;> try simp only [kb] at g66
        ·refine ZO h66 Z<|ZO h66 Z<|ZO h66 Z<|ZO h66 Z<|ZO h66 Z<|ZO h66 Z<|ZO h66 Z<|ZO h66 Z<|ZV (Y.pick_t Z h66 Z)<|ZA Z<|ZE<|Zg<|Zs<|Tr.quiet Law12d_mo WK<|ZM Z<|ZM Z<|?_
         refine ZV (Y.idxR i1 Z Z Law12d_es67 (ho60.rd 3 rfl) W W)<|ZV (Y.ldRA (vs := [.int .u32 ((((Le.setE l x).2).getD i1 Le.dflt).addr), .int .i64 ((((Le.setE l x).2).getD i1 Le.dflt).bind), .string ((((Le.setE l x).2).getD i1 Le.dflt).client), .int .i64 ((((Le.setE l x).2).getD i1 Le.dflt).till), .int .i64 ((((Le.setE l x).2).getD i1 Le.dflt).acked), .int .i64 ((((Le.setE l x).2).getD i1 Le.dflt).told), .int .i64 ((((Le.setE l x).2).getD i1 Le.dflt).at_), .int .i64 ((((Le.setE l x).2).getD i1 Le.dflt).ver)]) rfl Law12d_ag69 (ho60.rd 3 rfl) rfl WD (fun o ho => flatm_atA Le.len W Le.dflt o ho))<|?_
         refine ZV (Y.loadAgg Z Law12d_ag69 (Kn.at 0 Z) Z)<|ZV (Y.neS Z Z Law12d_tgs69 Z Z)<|ZE<|Zg<|Tr.cond_f rfl (congrArg Bool.not (Le.same_of (Le.set_at1 W h64 W)))<|Zt<|Zc<|Zg<|Zr<|Zm Z<|Zv (Y.add Z Z W)<|Za Z<|Ze<|Ex.keep [1, 1, 1]<|?_
         exact ZR (⟨i1 + 1, true⟩ : Nat × Bool) ⟨by rw [Le.any_take _ W, ← hb, h66]; rfl, by omega⟩ (by dsimp only; omega)
        ·refine ZP h66<|ZM Z<|ZP h66<|ZM Z<|ZP h66<|ZV (Y.idxR i1 Z Z Law12d_es67 (ho58.rd 2 rfl) W W)<|ZP h66<|ZV (Y.fieldR Z Law12d_fo69_0 (ho58.rd 2 rfl) W)<|ZP h66<|ZV (Y.ldR Z Law12d_ts30 (ho58.rd 2 rfl) (flatm_at Le.len W Le.dflt WD rfl))<|ZP h66<|ZV (Y.fieldAddr Z Law12d_fo69_0)<|ZP h66<|ZV (Y.load Z Law12d_ts30 (Kn.at 1 Z) Z)<|ZP h66<|ZV (Y.int Z Z Z)<|?_
         refine ZV (Y.pick_f Z h66 Z)<|ZA Z<|ZE<|Zg<|Zs<|Tr.quiet Law12d_mo WK<|ZM Z<|ZM Z<|ZV (Y.idxR i1 Z Z Law12d_es67 (ho60.rd 3 rfl) W W)<|ZV (Y.ldRA (vs := [.int .u32 ((((Le.setE l x).2).getD i1 Le.dflt).addr), .int .i64 ((((Le.setE l x).2).getD i1 Le.dflt).bind), .string ((((Le.setE l x).2).getD i1 Le.dflt).client), .int .i64 ((((Le.setE l x).2).getD i1 Le.dflt).till), .int .i64 ((((Le.setE l x).2).getD i1 Le.dflt).acked), .int .i64 ((((Le.setE l x).2).getD i1 Le.dflt).told), .int .i64 ((((Le.setE l x).2).getD i1 Le.dflt).at_), .int .i64 ((((Le.setE l x).2).getD i1 Le.dflt).ver)]) rfl Law12d_ag69 (ho60.rd 3 rfl) rfl WD (fun o ho => flatm_atA Le.len W Le.dflt o ho))<|?_
         refine ZV (Y.loadAgg Z Law12d_ag69 (Kn.at 0 Z) Z)<|ZV (Y.neS Z Z Law12d_tgs69 Z Z)<|ZE<|Zg<|Tr.cond_f rfl (congrArg Bool.not (Le.same_of (Le.set_at1 W h64 W)))<|Zt<|Zc<|Zg<|Zr<|Zm Z<|Zv (Y.add Z Z W)<|Za Z<|Ze<|Ex.keep [1, 1, 1]<|?_
         exact ZR (⟨i1 + 1, ((l.getD i1 Le.dflt).addr) == x.addr⟩ : Nat × Bool) ⟨by rw [Le.any_take _ W, ← hb, h66]; first | rfl | exact (h65).symm, by omega⟩ (by dsimp only; omega)
       ·refine Tr.cond_f Z h65<|Zt<|Zg<|Zs<|Tr.quiet Law12d_mo WK<|ZM Z<|ZM Z<|?_
        rcases Zsplit (in1) with ⟨h67, g67⟩ | ⟨h67, g67⟩ <;> try simp only [kb] at g67
        ·refine ZO h67 Z<|ZO h67 Z<|ZO h67 Z<|ZO h67 Z<|ZO h67 Z<|ZO h67 Z<|ZO h67 Z<|ZO h67 Z<|ZV (Y.pick_t Z h67 Z)<|ZA Z<|ZE<|Zg<|Zs<|Tr.quiet Law12d_mo WK<|ZM Z<|ZM Z<|?_
         refine ZV (Y.idxR i1 Z Z Law12d_es67 (ho60.rd 3 rfl) W W)<|ZV (Y.ldRA (vs := [.int .u32 ((((Le.setE l x).2).getD i1 Le.dflt).addr), .int .i64 ((((Le.setE l x).2).getD i1 Le.dflt).bind), .string ((((Le.setE l x).2).getD i1 Le.dflt).client), .int .i64 ((((Le.setE l x).2).getD i1 Le.dflt).till), .int .i64 ((((Le.setE l x).2).getD i1 Le.dflt).acked), .int .i64 ((((Le.setE l x).2).getD i1 Le.dflt).told), .int .i64 ((((Le.setE l x).2).getD i1 Le.dflt).at_), .int .i64 ((((Le.setE l x).2).getD i1 Le.dflt).ver)]) rfl Law12d_ag69 (ho60.rd 3 rfl) rfl WD (fun o ho => flatm_atA Le.len W Le.dflt o ho))<|?_
         refine ZV (Y.loadAgg Z Law12d_ag69 (Kn.at 0 Z) Z)<|ZV (Y.neS Z Z Law12d_tgs69 Z Z)<|ZE<|Zg<|Tr.cond_f rfl (congrArg Bool.not (Le.same_of (Le.set_at0 W (.inr W))))<|Zt<|Zc<|Zg<|Zr<|Zm Z<|Zv (Y.add Z Z W)<|Za Z<|Ze<|Ex.keep [1, 1, 1]<|?_
         exact ZR (⟨i1 + 1, true⟩ : Nat × Bool) ⟨by rw [Le.any_take _ W, ← hb, h67]; rfl, by omega⟩ (by dsimp only; omega)
        ·refine ZP h67<|ZM Z<|ZP h67<|ZM Z<|ZP h67<|ZV (Y.idxR i1 Z Z Law12d_es67 (ho58.rd 2 rfl) W W)<|ZP h67<|ZV (Y.fieldR Z Law12d_fo69_0 (ho58.rd 2 rfl) W)<|ZP h67<|ZV (Y.ldR Z Law12d_ts30 (ho58.rd 2 rfl) (flatm_at Le.len W Le.dflt WD rfl))<|ZP h67<|ZV (Y.fieldAddr Z Law12d_fo69_0)<|ZP h67<|ZV (Y.load Z Law12d_ts30 (Kn.at 1 Z) Z)<|ZP h67<|ZV (Y.int Z Z Z)<|?_
         refine ZV (Y.pick_f Z h67 Z)<|ZA Z<|ZE<|Zg<|Zs<|Tr.quiet Law12d_mo WK<|ZM Z<|ZM Z<|ZV (Y.idxR i1 Z Z Law12d_es67 (ho60.rd 3 rfl) W W)<|ZV (Y.ldRA (vs := [.int .u32 ((((Le.setE l x).2).getD i1 Le.dflt).addr), .int .i64 ((((Le.setE l x).2).getD i1 Le.dflt).bind), .string ((((Le.setE l x).2).getD i1 Le.dflt).client), .int .i64 ((((Le.setE l x).2).getD i1 Le.dflt).till), .int .i64 ((((Le.setE l x).2).getD i1 Le.dflt).acked), .int .i64 ((((Le.setE l x).2).getD i1 Le.dflt).told), .int .i64 ((((Le.setE l x).2).getD i1 Le.dflt).at_), .int .i64 ((((Le.setE l x).2).getD i1 Le.dflt).ver)]) rfl Law12d_ag69 (ho60.rd 3 rfl) rfl WD (fun o ho => flatm_atA Le.len W Le.dflt o ho))<|?_
         refine ZV (Y.loadAgg Z Law12d_ag69 (Kn.at 0 Z) Z)<|ZV (Y.neS Z Z Law12d_tgs69 Z Z)<|ZE<|Zg<|Tr.cond_f rfl (congrArg Bool.not (Le.same_of (Le.set_at0 W (.inr W))))<|Zt<|Zc<|Zg<|Zr<|Zm Z<|Zv (Y.add Z Z W)<|Za Z<|Ze<|Ex.keep [1, 1, 1]<|?_
         exact ZR (⟨i1 + 1, ((l.getD i1 Le.dflt).addr) == x.addr⟩ : Nat × Bool) ⟨by rw [Le.any_take _ W, ← hb, h67]; first | rfl | exact (h65).symm, by omega⟩ (by dsimp only; omega)
      ·refine ZO h64 Z<|ZO h64 Z<|ZO h64 Z<|ZO h64 Z<|ZO h64 Z<|ZO h64 Z<|ZO h64 Z<|ZO h64 Z<|ZV (Y.pick_f Z h64 Z)<|ZE<|Zg<|Tr.cond_f Z Z<|Zt<|Zg<|Zs<|Tr.quiet Law12d_mo WK<|?_
       refine ZM Z<|ZM Z<|?_
       rcases Zsplit (in1) with ⟨h68, g68⟩ | ⟨h68, g68⟩ <;> try simp only [kb] at g68
       ·refine ZO h68 Z<|ZO h68 Z<|ZO h68 Z<|ZO h68 Z<|ZO h68 Z<|ZO h68 Z<|ZO h68 Z<|ZO h68 Z<|ZV (Y.pick_t Z h68 Z)<|ZA Z<|ZE<|Zg<|Zs<|Tr.quiet Law12d_mo WK<|ZM Z<|ZM Z<|?_
        refine ZV (Y.idxR i1 Z Z Law12d_es67 (ho60.rd 3 rfl) W W)<|ZV (Y.ldRA (vs := [.int .u32 ((((Le.setE l x).2).getD i1 Le.dflt).addr), .int .i64 ((((Le.setE l x).2).getD i1 Le.dflt).bind), .string ((((Le.setE l x).2).getD i1 Le.dflt).client), .int .i64 ((((Le.setE l x).2).getD i1 Le.dflt).till), .int .i64 ((((Le.setE l x).2).getD i1 Le.dflt).acked), .int .i64 ((((Le.setE l x).2).getD i1 Le.dflt).told), .int .i64 ((((Le.setE l x).2).getD i1 Le.dflt).at_), .int .i64 ((((Le.setE l x).2).getD i1 Le.dflt).ver)]) rfl Law12d_ag69 (ho60.rd 3 rfl) rfl WD (fun o ho => flatm_atA Le.len W Le.dflt o ho))<|?_
        refine ZV (Y.loadAgg Z Law12d_ag69 (Kn.at 0 Z) Z)<|ZV (Y.neS Z Z Law12d_tgs69 Z Z)<|ZE<|Zg<|Tr.cond_f rfl (congrArg Bool.not (Le.same_of (Le.set_at0 W (.inl h64))))<|Zt<|Zc<|Zg<|Zr<|Zm Z<|Zv (Y.add Z Z W)<|Za Z<|Ze<|Ex.keep [1, 1, 1]<|?_
        exact ZR (⟨i1 + 1, true⟩ : Nat × Bool) ⟨by rw [Le.any_take _ W, ← hb, h68]; rfl, by omega⟩ (by dsimp only; omega)
       ·refine ZP h68<|ZM Z<|ZP h68<|ZM Z<|ZP h68<|ZV (Y.idxR i1 Z Z Law12d_es67 (ho58.rd 2 rfl) W W)<|ZP h68<|ZV (Y.fieldR Z Law12d_fo69_0 (ho58.rd 2 rfl) W)<|ZP h68<|ZV (Y.ldR Z Law12d_ts30 (ho58.rd 2 rfl) (flatm_at Le.len W Le.dflt WD rfl))<|ZP h68<|ZV (Y.fieldAddr Z Law12d_fo69_0)<|ZP h68<|ZV (Y.load Z Law12d_ts30 (Kn.at 1 Z) Z)<|ZP h68<|ZV (Y.int Z Z Z)<|?_
        refine ZV (Y.pick_f Z h68 Z)<|ZA Z<|ZE<|Zg<|Zs<|Tr.quiet Law12d_mo WK<|ZM Z<|ZM Z<|ZV (Y.idxR i1 Z Z Law12d_es67 (ho60.rd 3 rfl) W W)<|ZV (Y.ldRA (vs := [.int .u32 ((((Le.setE l x).2).getD i1 Le.dflt).addr), .int .i64 ((((Le.setE l x).2).getD i1 Le.dflt).bind), .string ((((Le.setE l x).2).getD i1 Le.dflt).client), .int .i64 ((((Le.setE l x).2).getD i1 Le.dflt).till), .int .i64 ((((Le.setE l x).2).getD i1 Le.dflt).acked), .int .i64 ((((Le.setE l x).2).getD i1 Le.dflt).told), .int .i64 ((((Le.setE l x).2).getD i1 Le.dflt).at_), .int .i64 ((((Le.setE l x).2).getD i1 Le.dflt).ver)]) rfl Law12d_ag69 (ho60.rd 3 rfl) rfl WD (fun o ho => flatm_atA Le.len W Le.dflt o ho))<|?_
        refine ZV (Y.loadAgg Z Law12d_ag69 (Kn.at 0 Z) Z)<|ZV (Y.neS Z Z Law12d_tgs69 Z Z)<|ZE<|Zg<|Tr.cond_f rfl (congrArg Bool.not (Le.same_of (Le.set_at0 W (.inl h64))))<|Zt<|Zc<|Zg<|Zr<|Zm Z<|Zv (Y.add Z Z W)<|Za Z<|Ze<|Ex.keep [1, 1, 1]<|?_
        exact ZR (⟨i1 + 1, ((l.getD i1 Le.dflt).addr) == x.addr⟩ : Nat × Bool) ⟨by rw [Le.any_take _ W, ← hb, h68]; rfl, by omega⟩ (by dsimp only; omega)
     ·refine Tr.cond_f Z h62<|Zx<|Zy<|Zy<|Zi<|Zg<|Zs<|Zr<|?_
      obtain rfl : i1 = l.length := by omega
      rw [List.take_length] at hb
      refine Zm Z<|Zv (Y.int Z Z Z)<|Zm Z<|Zm Z<|?_
      rcases Zsplit (in1) with ⟨h69, g69⟩ | ⟨h69, g69⟩ <;> try simp only [kb] at g69
      ·refine Zp h69<|Zv (Y.loadAgg Z Law12d_ag69 (Kn.at 0 Z) Z)<|Zp h69<|Run.call0 (l := [.tmp 103]) Z Z Z (lt Z) (rright11_h (q := x) hs)<|Zv (Y.pick_t Z h69 Z)<|Zv (Y.eqB Z Z Law12d_tg4)<|Za Z<|Ze<|Zg<|Zu<|Ex.keep []<|?_
       exact Ex.ret1 rfl rfl  (congrArg Value.bool (by rw [hsz, ← hb, h69]; simp))
      ·refine Zo h69 Z<|Zo h69 Z<|Zv (Y.pick_f Z h69 Z)<|Zv (Y.eqB Z Z Law12d_tg4)<|Za Z<|Ze<|Zg<|Zu<|Ex.keep []<|?_
       exact Ex.ret1 rfl rfl  (congrArg Value.bool (by rw [hsz, ← hb, h69]; simp))
   ·refine Zm Z<|Zm Z<|?_
    refine Run.call [] (l := [.tmp 34, .tmp 35]) rfl rfl rfl (lt rfl) (made_c hv hok hv2 hcs W W) (fun v70 V70 H70 hle70 hR70 => ?_)
    obtain ⟨_, rfl, rfl⟩ := hR70.2.resolve_right fun h9 => hp0 h9.1
    replace hv := hv.le hle70
    replace hv2 := hv2.le hle70
    replace hVle := Vw.le_trans hVle hle70
    refine Run.heapTo (H' := [s54, [(b48, .cells #[.int .u32 x.addr, .int .i64 x.bind, .string x.client, .int .i64 x.till, .int .i64 x.acked, .int .i64 x.told, .int .i64 x.at_, .int .i64 x.ver] 69 (0, 0))], [(b1, .cells #[.int .u32 x.addr, .int .i64 x.bind, .string x.client, .int .i64 x.till, .int .i64 x.acked, .int .i64 x.told, .int .i64 x.at_, .int .i64 x.ver] 69 (0, 0))]]) Z<|Run.heapTo (H' := [s54, [(b48, .cells #[.int .u32 x.addr, .int .i64 x.bind, .string x.client, .int .i64 x.till, .int .i64 x.acked, .int .i64 x.told, .int .i64 x.at_, .int .i64 x.ver] 69 (0, 0))], [(b1, .cells #[.int .u32 x.addr, .int .i64 x.bind, .string x.client, .int .i64 x.till, .int .i64 x.acked, .int .i64 x.told, .int .i64 x.at_, .int .i64 x.ver] 69 (0, 0))]]) Z<|?_
    refine Zm Z<|Zv (Y.extract Z Z)<|Zv (Y.extract Z Z)<|Zv (Y.extract Z Z)<|Za Z<|Za Z<|Za Z<|Ze<|Zg<|Zs<|Zs<|Zr<|Zm Z<|Zv (Y.not Z)<|Zm Z<|Zp Z<|?_
    refine Zm Z<|Zp Z<|Zv (Y.eqNil Z Z Law12d_pt71)<|Zv (Y.pick_f Z Z Z)<|Ze<|Zg<|Tr.cond_t Z Z<|Zs<|Zr<|Zm Z<|Za Z<|Ze<|Zg<|Zu<|Zn<|Ex.keep []<|?_
    exact Ex.ret1 rfl rfl  rfl

theorem tablelast_h {V : Vw} {rs : List Rg} {v0 v1 : Value} (hv : Rd V [] 2 v0 rs.length (rs.map Rg.cells).flatten) (hok : ∀ r, r ∈ rs → Rg.Ok r) {ls : List Le} (hv2 : Rd V [] 8 v1 ls.length (ls.map Le.cells).flatten) (hcs : ∀ x, x ∈ ls → Le.Ok x) (hl9 : ls.length * 72 ≤ 140737488351232) {x : Le} (hs : x.client.size ≤ 9223372036854775807) : Does Try.prog 8 [v0, v1, .agg x.cells.toArray] V [] (fun v _ _ => v = .bool true) := by
  obtain ⟨p, c, rfl, _⟩ := hv.form
  obtain ⟨p2, c2, rfl, _⟩ := hv2.form
  rw [← List.flatMap_def] at hv hv2
  exact tlast_c hv hok hv2 (fun x hx => (hcs x hx).client) W hs hl9
end Go.Proofs.Ytpdnkhdmajmbiaa
