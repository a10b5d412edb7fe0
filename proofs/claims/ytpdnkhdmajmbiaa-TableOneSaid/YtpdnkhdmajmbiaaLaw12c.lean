/- TableOne, walked.
Conditions: as each theorem names them. -/
import Derived.Test.YtpdnkhdmajmbiaaProg
import Derived.Test.YtpdnkhdmajmbiaaLaw12
import Derived.Test.YtpdnkhdmajmbiaaAddr4
import Derived.Test.YtpdnkhdmajmbiaaZG
set_option linter.unusedSimpArgs false
set_option linter.unusedVariables false
set_option maxRecDepth 4000
namespace Go.Proofs.Ytpdnkhdmajmbiaa
open Go Go.K
attribute [local irreducible] Code.wp wpList Calls wpQuiet
theorem Law12c_pt71 : ptrT Try.prog 71 = true := by kernel_rfl
theorem Law12c_es67 : elemS Try.prog 67 = some (69, 8) := by kernel_rfl
theorem Law12c_ag69 : aggsz Try.prog 69 = some 8 := by kernel_rfl
theorem Law12c_fo69_1 : fieldOff Try.prog 69 1 = some 1 := by kernel_rfl
theorem Law12c_ts3 : scal Try.prog 3 = true := by kernel_rfl
theorem Law12c_fo69_0 : fieldOff Try.prog 69 0 = some 0 := by kernel_rfl
theorem Law12c_ts30 : scal Try.prog 30 = true := by kernel_rfl
theorem Law12c_tg4 : tagOf Try.prog 4 = some (1, .i64) := by kernel_rfl

set_option maxHeartbeats 1000000 in
theorem tone_c {V : Vw} {rs : List Rg} {p : Option Addr} {c : Nat} (hv : Rd V [] 2 (.slice p rs.length c) rs.length (rs.flatMap Rg.cells)) (hok : Rg.Oks rs) {ls : List Le} {p2 : Option Addr} {c2 : Nat} (hv2 : Rd V [] 8 (.slice p2 ls.length c2) ls.length (ls.flatMap Le.cells)) (hcs : ∀ x, x ∈ ls → x.client.size ≤ 9223372036854775807) (hl9 : ls.length ≤ 9223372036854775807)  : Does Try.prog 9 [.slice p rs.length c, .slice p2 ls.length c2] V [] (fun v _ _ => v = .bool true) := by
 refine Does.intro Try.func9 rfl rfl (le rfl) (fun B => ?_)
 refine Zs<|Zr<|Za Z<|Ze<|Zg<|Zs<|Zr<|?_
 refine Run.call [] (l := []) rfl rfl rfl (lt rfl) (awake12_c) (fun v1 V1 H1 hle1 hR1 => ?_)
 obtain ⟨_, rfl, rfl⟩ := hR1
 replace hv := hv.le hle1
 replace hv2 := hv2.le hle1
 have hVle := hle1
 refine Run.heapTo (H' := []) Z<|Run.heapTo (H' := []) Z<|Za Z<|Ze<|Zg<|Zs<|Zr<|Zm Z<|Zm Z<|Run.call0 (l := [.tmp 21, .tmp 22]) rfl rfl rfl (lt rfl) (long_c (n0 := rs.length) hv2.of_nil W)<|Za Z<|Ze<|Zg<|Zs<|Zs<|Zr<|?_
 refine Zm Z<|Zv (Y.not Z)<|Zm Z<|Zp Z<|Zm Z<|Zv (Y.pick_f Z Z Z)<|Ze<|Zg<|?_
 rcases Zsplit (Le.long rs.length ls) with ⟨h2, g2⟩ | ⟨h2, g2⟩ <;> try simp only [kb] at g2
 ·refine Tr.cond_t Z h2<|Zs<|Zr<|Zm Z<|Za Z<|Ze<|Zg<|Zu<|Zn<|Ex.keep []<|?_
  exact Ex.ret1 rfl rfl  rfl
 ·obtain ⟨hlg3, hlg4⟩ := Le.long_f h2
  refine Tr.cond_f Z h2<|Zt<|Zg<|Zs<|Zr<|Zm Z<|?_
  refine Run.call [] (l := [.tmp 31]) rfl rfl rfl (lt rfl) (rpool_h hv W hok) (fun v5 V5 H5 hle5 hR5 => ?_)
  obtain ⟨_, rfl, w5, rfl, hp3⟩ := hR5; obtain ⟨pp, pc, rfl, _⟩ := hp3.form
  replace hv := hv.le hle5
  replace hv2 := hv2.le hle5
  replace hVle := Vw.le_trans hVle hle5
  have hpl := Rg.pool_len rs
  have hpo := Rg.pool_oks hok
  refine Run.heapTo (H' := []) Z<|Run.heapTo (H' := []) Z<|Zm Z<|Zv (Y.extract Z Z)<|Zv (Y.extract Z Z)<|Za Z<|Za Z<|Ze<|Zg<|Zs<|Zr<|?_
  by_cases hp0 : (Rg.pool rs).2 = 0
  ·refine Zm Z ?_
   refine Run.call [] (l := [.tmp 36, .const (.slice none 0 0)]) rfl rfl rfl (lt rfl) (made_c hv hok (ls := []) (Rd.nil _ _ _) (fun _ h => by cases h) W (Nat.zero_le _)) (fun v6 V6 H6 hle6 hR6 => ?_)
   rcases hR6 with ⟨_, ⟨hpn, _⟩ | ⟨_, l, tx, rx, s1, pl, cl, ql, rfl, hin, hl, hnl, rfl⟩⟩
   · exact absurd hp0 hpn
   replace hv := hv.le hle6
   replace hv2 := hv2.le hle6
   replace hp3 := hp3.le hle6
   replace hVle := Vw.le_trans hVle hle6
   obtain ⟨hr, hlm, _⟩ := id hin
   refine Run.heapTo (H' := [s1, [(rx, .cells #[.slice pl l.length cl] 94 (0, 0))], ql]) Z<|Run.heapTo (H' := [s1, [(rx, .cells #[.slice pl l.length cl] 94 (0, 0))], ql]) Z<|Zm Z<|Zv (Y.extract Z Z)<|Zv (Y.extract Z Z)<|Zv (Y.extract Z Z)<|Za Z<|Za Z<|Za Z<|Ze<|Zg<|Zs<|Zs<|Zr<|Zm Z<|Zv (Y.not Z)<|?_
   refine Zm Z<|Zp Z<|Zm Z<|Zp Z<|Zv (Y.eqNil Z Z Law12c_pt71)<|Zv (Y.pick_f Z Z Z)<|Ze<|Zg<|Tr.cond_f Z Z<|Zt<|Zg<|Zs<|Zr<|?_
   obtain ⟨hcan, hcnt⟩ := Rg.pool_can hp0
   have hce := Rg.cnt_adr hcan.1
   have hlN := hnl rfl
   have hlM : l.length = (Rg.adr (Rg.pool rs).1).length := by rw [hlN, Le.new_len]
   have hb0 : (Le.bnd l 0).length = (Rg.adr (Rg.pool rs).1).length := by rw [hlN, Le.bnd_new]
   have hbs0 : Le.Bs l := by rw [hlN]; exact Le.new_bs _
   refine Zm Z<|Run.call0 (l := [.tmp 52]) rfl rfl rfl (lt rfl) (rcount_h hp3.of_nil W hpo)<|Za Z<|Ze<|Zg<|Zs<|Zs<|Zr<|Zm Z<|Run.call0 (l := [.tmp 54, .const (.int .i64 0)]) Z Z Z (lt Z) (Does.frame1 0 Z (count_o (bd := 0) hin))<|Zm Z<|Zv (Y.int Z Z Z)<|Zm Z<|?_
   rcases Zsplit ((((Le.bnd l 0).length : Nat) : Int) != (Rg.cnt (Rg.pool rs).1)) with ⟨h7, g7⟩ | ⟨h7, g7⟩ <;> try simp only [kb] at g7
   ·refine Zo h7 Z<|Zo h7 Z<|Zo h7 Z<|Zo h7 Z<|Zo h7 Z<|Zv (Y.pick_t Z h7 Z)<|Ze<|Zg<|Tr.cond_t Z Z<|Zs<|Zr<|Za Z<|Ze<|Zg<|Zu<|Zn<|?_
    refine Ex.keep [] ?_
    exact Ex.ret1 rfl rfl  (by exfalso; omega)
   ·refine Zp h7<|Zm Z<|Zp h7<|?_
    refine Run.call [0] (l := [.tmp 59]) rfl rfl rfl (lt rfl) (all_o hin) (fun v8 V8 H8 hle8 hR8 => ?_)
    obtain ⟨hV, q8, ho8, rfl⟩ := hR8; replace hV := hV.symm; subst hV
    obtain ⟨p8, c8, rfl⟩ := ho8.form
    refine Run.heapTo (H' := [[(rx, .cells #[.slice pl l.length cl] 94 (0, 0))], ql, q8, s1]) Z<|Run.heapTo (H' := [[(rx, .cells #[.slice pl l.length cl] 94 (0, 0))], ql, q8, s1]) Z<|Zp h7<|Zv (Y.lenSl Z Law12c_es67)<|Zp h7<|Zm Z<|Zp h7<|Zv (Y.int Z Z Z)<|Zv (Y.pick_f Z h7 Z)<|Ze<|Zg<|?_
    rcases Zsplit ((((l).length : Nat) : Int) != (Rg.cnt (Rg.pool rs).1)) with ⟨h9, g9⟩ | ⟨h9, g9⟩ <;> try simp only [kb] at g9
    ·refine Tr.cond_t Z h9<|Zs<|Zr<|Za Z<|Ze<|Zg<|Zu<|Zn<|Ex.keep []<|?_
     exact Ex.ret1 rfl rfl  (by exfalso; omega)
    ·refine Tr.cond_f Z h9<|Zt<|Zg<|Zs<|Zs<|Zr<|Run.keepTo (H' := [s1]) [3] Z<|Za Z<|Ze<|Zg<|Zb<|?_
     refine ZL (X := Nat × List Le × Sg) (fun z0 => V6) (fun z0 => [z0.2.2]) (fun z0 => [(1, .slice p2 ls.length c2), (9, .pointer (some ⟨tx, 0, none⟩)), (12, .int .i64 (Rg.cnt (Rg.pool rs).1)), (13, .int .i64 (z0.1 : Int))]) (fun z0 => Le.In 135 z0.2.1 tx z0.2.2 ∧ Le.Bs z0.2.1 ∧ z0.2.1.length = l.length ∧ z0.1 ≤ ls.length) (fun z0 => ls.length - z0.1) (⟨0, l, s1⟩ : Nat × List Le × Sg) ⟨hin, hbs0, rfl, Nat.zero_le _⟩ ?_
     rintro ⟨i1, m, s9⟩ ⟨hin9, hbs, hml, hi⟩
     try dsimp only at hin9 hbs hml hi ⊢
     refine Zs<|Zs<|Zr<|Zm Z<|Zm Z<|Zv (Y.lenSl Z Law12c_es67)<|Zv (Y.int Z Z Z)<|Ze<|Zg<|?_
     rcases Zsplit (decide ((i1 : Int) < ((ls.length : Nat) : Int))) with ⟨h10, g10⟩ | ⟨h10, g10⟩ <;> try simp only [kb] at g10
     ·refine Tr.cond_t Z h10<|Zt<|Zg<|Zs<|Zb<|Zr<|?_
      obtain ⟨hr9, hlm9, _⟩ := id hin9
      refine Zm Z<|Zm Z<|Zm Z<|Zv (Y.idxR i1 Z Z Law12c_es67 hv2.of_nil W W)<|Zv (Y.ldRA (vs := [.int .u32 ((ls.getD i1 Le.dflt).addr), .int .i64 ((ls.getD i1 Le.dflt).bind), .string ((ls.getD i1 Le.dflt).client), .int .i64 ((ls.getD i1 Le.dflt).till), .int .i64 ((ls.getD i1 Le.dflt).acked), .int .i64 ((ls.getD i1 Le.dflt).told), .int .i64 ((ls.getD i1 Le.dflt).at_), .int .i64 ((ls.getD i1 Le.dflt).ver)]) rfl Law12c_ag69 hv2.of_nil rfl WD (fun o ho => flatm_atA Le.len W Le.dflt o ho))<|?_
      refine Run.call [0] (l := [.tmp 71, .tmp 75]) rfl rfl rfl (lt rfl) (set_o (q := (ls.getD i1 Le.dflt)) hin9 (hcs _ (Le.mem_getD W))) (fun v11 V11 H11 hle11 hR11 => ?_)
      obtain ⟨hV, rfl, sb11, hin11, rfl⟩ := hR11; replace hV := hV.symm; subst hV
      refine Run.heapTo (H' := [sb11]) Z<|Run.heapTo (H' := [sb11]) Z<|Ze<|Zc<|Zg<|Zr<|Zm Z<|Zv (Y.add Z Z W)<|Za Z<|Ze<|Ex.keep [0]<|?_
      exact ZR (⟨i1 + 1, (Le.setE m (ls.getD i1 Le.dflt)).2, sb11⟩ : Nat × List Le × Sg) ⟨hin11, Le.setE_bs hbs _, (Le.setE_len _ _).trans hml, by omega⟩ (by dsimp only; omega)
     ·refine Tr.cond_f Z h10<|Zx<|Zy<|Zy<|Zi<|Zg<|Zs<|Zr<|?_
      obtain ⟨hr9, hlm9, _⟩ := id hin9
      refine Zm Z ?_
      refine Run.call [0] (l := [.tmp 77]) rfl rfl rfl (lt rfl) (all_o hin9) (fun v12 V12 H12 hle12 hR12 => ?_)
      obtain ⟨hV, q12, ho12, rfl⟩ := hR12; replace hV := hV.symm; subst hV
      obtain ⟨p12, c12, rfl⟩ := ho12.form
      refine Run.heapTo (H' := [q12, s9]) Z<|Run.heapTo (H' := [q12, s9]) Z<|Za Z<|Ze<|Zg<|Zs<|Zr<|Run.keepTo (H' := [s9, q12]) [1, 0] Z<|Za Z<|Ze<|Zg<|Zs<|Zs<|Zr<|Za Z<|Ze<|?_
      refine Zg<|Zb<|?_
      refine ZL (X := Nat × Int) (fun z0 => V6) (fun z0 => [s9, q12]) (fun z0 => [(9, .pointer (some ⟨tx, 0, none⟩)), (12, .int .i64 (Rg.cnt (Rg.pool rs).1)), (14, .slice p12 (m).length c12), (15, .int .i64 z0.2), (16, .int .i64 (z0.1 : Int))]) (fun z0 => z0.2 = ((Le.upTo m (z0.1 : Int) : Nat) : Int) ∧ z0.1 ≤ 6) (fun z0 => 6 - z0.1) (⟨0, 0⟩ : Nat × Int) ⟨by rw [show ((0 : Nat) : Int) = 0 from rfl, Le.upTo_zero hbs]; rfl, by decide⟩ ?_
      rintro ⟨b1, sum1⟩ ⟨hsum, hb6⟩
      try dsimp only at hsum hb6 ⊢
      refine Zs<|Zs<|Zr<|Zm Z<|Zv (Y.int Z Z Z)<|Ze<|Zg<|?_
      rcases Zsplit (decide ((b1 : Int) ≤ 5)) with ⟨h13, g13⟩ | ⟨h13, g13⟩ <;> try simp only [kb] at g13
      ·refine Tr.cond_t Z h13<|Zt<|Zg<|Zs<|Zb<|Zs<|Zr<|?_
       have hbl := Le.fil_le (fun x : Le => x.bind == (b1 : Int)) m
       have hul := Le.fil_le (fun x : Le => decide (x.bind < (b1 : Int))) m
       have hbl2 : (Le.bnd m (b1 : Int)).length ≤ m.length := hbl
       have hul2 : Le.upTo m (b1 : Int) ≤ m.length := hul
       have hfis := Le.first_is m (b1 : Int)
       refine Zm Z<|Zm Z<|Zm Z<|Run.call0 (l := [.tmp 84, .tmp 85]) Z Z Z (lt Z) (Does.frame1 0 Z (count_o (bd := (b1 : Int)) hin9))<|Zv (Y.add Z Z W)<|Za Z<|Ze<|Zg<|Zs<|Zr<|Zm Z<|Zm Z<|Run.call0 (l := [.tmp 89, .tmp 90]) Z Z Z (lt Z) (Does.frame1 0 Z (first_o (bd := (b1 : Int)) hin9))<|Zm Z<|Zv (Y.extract Z Z)<|Zv (Y.extract Z Z)<|?_
       refine Za Z<|Za Z<|Ze<|Zg<|Zs<|Zs<|Zr<|Za Z<|Ze<|Zg<|Zb<|?_
       refine ZL (X := Nat) (fun z0 => V6) (fun z0 => [s9, q12]) (fun z0 => [(9, .pointer (some ⟨tx, 0, none⟩)), (12, .int .i64 (Rg.cnt (Rg.pool rs).1)), (14, .slice p12 (m).length c12), (15, .int .i64 (sum1 + (((Le.bnd m (b1 : Int)).length : Nat) : Int))), (16, .int .i64 (b1 : Int)), (17, .int .u32 ((Le.first m (b1 : Int)).1)), (18, .bool ((Le.first m (b1 : Int)).2)), (19, .int .i64 (z0 : Int))]) (fun z0 => z0 ≤ m.length) (fun z0 => m.length - z0) (0 : Nat) (Nat.zero_le _) ?_
       rintro j1 hj
       refine Zs<|Zs<|Zr<|Zm Z<|Zm Z<|Zv (Y.lenSl Z Law12c_es67)<|Zv (Y.int Z Z Z)<|Zm Z<|?_
       rcases Zsplit (decide ((j1 : Int) < (((m).length : Nat) : Int))) with ⟨h14, g14⟩ | ⟨h14, g14⟩ <;> try simp only [kb] at g14
       ·refine Zp h14<|Zm Z<|Zv (Y.pick_t Z h14 Z)<|Ze<|Zg<|?_
        rcases Zsplit ((Le.first m (b1 : Int)).2) with ⟨h15, g15⟩ | ⟨h15, g15⟩ <;> try simp only [kb] at g15
        ·refine Tr.cond_t Z h15<|Zt<|Zg<|Zs<|Zb<|Zs<|Zr<|Zm Z<|Zm Z<|Zv (Y.idxR j1 Z Z Law12c_es67 (ho12.rd 1 rfl) W W)<|Zv (Y.fieldR Z Law12c_fo69_1 (ho12.rd 1 rfl) W)<|Zv (Y.ldR Z Law12c_ts3 (ho12.rd 1 rfl) (flatm_at Le.len W Le.dflt WD rfl))<|Zm Z<|Zv (Y.int Z Z Z)<|Zm Z<|?_
         rcases Zsplit (((m.getD j1 Le.dflt).bind) == (b1 : Int)) with ⟨h16, g16⟩ | ⟨h16, g16⟩ <;> try simp only [kb] at g16
         ·have hfl := Le.first_least (b := (b1 : Int)) hr9 (i := j1) W W
          refine Zp h16<|Zm Z<|Zp h16<|Zm Z<|Zp h16<|Zv (Y.idxR j1 Z Z Law12c_es67 (ho12.rd 1 rfl) W W)<|Zp h16<|Zv (Y.fieldR Z Law12c_fo69_0 (ho12.rd 1 rfl) W)<|Zp h16<|Zv (Y.ldR Z Law12c_ts30 (ho12.rd 1 rfl) (flatm_at Le.len W Le.dflt WD rfl))<|Zp h16<|Zm Z<|Zp h16<|Zv (Y.int Z Z Z)<|Zv (Y.pick_t Z h16 Z)<|Ze<|?_
          refine Zg ?_
          rcases Zsplit (decide (((m.getD j1 Le.dflt).addr) < ((Le.first m (b1 : Int)).1))) with ⟨h17, g17⟩ | ⟨h17, g17⟩ <;> try simp only [kb] at g17
          ·refine Tr.cond_t Z h17<|Zs<|Zr<|Za Z<|Ze<|Zg<|Zu<|Zk<|Zn<|Zn<|Zk<|Zn<|Zk<|Zn<|Zn<|Zk<|?_
           refine Zn<|Ex.keep []<|?_
           exact Ex.ret1 rfl rfl  (by exfalso; omega)
          ·refine Tr.cond_f Z h17<|Zt<|Zc<|Zg<|Zr<|Zm Z<|Zv (Y.add Z Z W)<|Za Z<|Ze<|Ex.keep [0, 0]<|?_
           exact ZR (j1 + 1 : Nat) W W
         ·refine Zo h16 Z<|Zo h16 Z<|Zo h16 Z<|Zo h16 Z<|Zo h16 Z<|Zo h16 Z<|Zo h16 Z<|Zv (Y.pick_f Z h16 Z)<|Ze<|Zg<|Tr.cond_f Z Z<|Zt<|Zc<|Zg<|Zr<|Zm Z<|?_
          refine Zv (Y.add Z Z W)<|Za Z<|Ze<|Ex.keep [0, 0]<|?_
          exact ZR (j1 + 1 : Nat) W W
        ·refine Tr.cond_f Z h15<|Zx<|Zy<|Zy<|Zi<|Zg<|Zs<|Zr<|Zm Z<|Zm Z<|Zm Z<|Run.call0 (l := [.tmp 120, .tmp 121]) Z Z Z (lt Z) (Does.frame1 0 Z (count_o (bd := (b1 : Int)) hin9))<|Zv (Y.int Z Z Z)<|Zv (Y.neB Z Z Law12c_tg4)<|Ze<|Zg<|?_
         refine Tr.cond_f rfl (by rw [hfis]; simp)<|Zt<|Zc<|Zg<|Zr<|Zm Z<|Zv (Y.add Z Z W)<|Za Z<|Ze<|Ex.keep [0, 0]<|?_
         exact ZR (⟨b1 + 1, sum1 + (((Le.bnd m (b1 : Int)).length : Nat) : Int)⟩ : Nat × Int) ⟨by rw [show ((b1 + 1 : Nat) : Int) = (b1 : Int) + 1 from by omega, Le.upTo_succ]; omega, by omega⟩ (by dsimp only; omega)
       ·refine Zo h14 Z<|Zv (Y.pick_f Z h14 Z)<|Ze<|Zg<|Tr.cond_f Z Z<|Zx<|Zy<|Zy<|Zi<|Zg<|Zs<|Zr<|Zm Z<|Zm Z<|Zm Z<|Run.call0 (l := [.tmp 120, .tmp 121]) Z Z Z (lt Z) (Does.frame1 0 Z (count_o (bd := (b1 : Int)) hin9))<|?_
        refine Zv (Y.int Z Z Z)<|Zv (Y.neB Z Z Law12c_tg4)<|Ze<|Zg<|Tr.cond_f rfl (by rw [hfis]; simp)<|Zt<|Zc<|Zg<|Zr<|Zm Z<|Zv (Y.add Z Z W)<|Za Z<|Ze<|Ex.keep [0, 0]<|?_
        exact ZR (⟨b1 + 1, sum1 + (((Le.bnd m (b1 : Int)).length : Nat) : Int)⟩ : Nat × Int) ⟨by rw [show ((b1 + 1 : Nat) : Int) = (b1 : Int) + 1 from by omega, Le.upTo_succ]; omega, by omega⟩ (by dsimp only; omega)
      ·refine Tr.cond_f Z h13<|Zx<|Zy<|Zy<|Zi<|Zg<|Zs<|Zr<|Zm Z<|Zm Z<|Zv (Y.int Z Z Z)<|Za Z<|Ze<|Zg<|Zu<|Ex.keep []<|?_
       have hua := Le.upTo_all hbs (b := (b1 : Int)) W
       exact Ex.ret1 rfl rfl  (congrArg Value.bool (beq_iff_eq.2 W))
  ·refine Zm Z ?_
   refine Run.call [] (l := [.tmp 36, .const (.slice none 0 0)]) rfl rfl rfl (lt rfl) (made_c hv hok (ls := []) (Rd.nil _ _ _) (fun _ h => by cases h) W (Nat.zero_le _)) (fun v18 V18 H18 hle18 hR18 => ?_)
   obtain ⟨_, rfl, rfl⟩ := hR18.2.resolve_right fun h9 => hp0 h9.1
   replace hv := hv.le hle18
   replace hv2 := hv2.le hle18
   replace hp3 := hp3.le hle18
   replace hVle := Vw.le_trans hVle hle18
   refine Run.heapTo (H' := []) Z<|Run.heapTo (H' := []) Z<|Zm Z<|Zv (Y.extract Z Z)<|Zv (Y.extract Z Z)<|Zv (Y.extract Z Z)<|Za Z<|Za Z<|Za Z<|Ze<|Zg<|Zs<|Zs<|Zr<|Zm Z<|Zv (Y.not Z)<|?_
   refine Zm Z<|Zp Z<|Zm Z<|Zp Z<|Zv (Y.eqNil Z Z Law12c_pt71)<|Zv (Y.pick_f Z Z Z)<|Ze<|Zg<|Tr.cond_t Z Z<|Zs<|Zr<|Zm Z<|Zm Z<|Zp Z<|Zm Z<|Zp Z<|?_
   refine Zv (Y.int Z Z Z)<|Zv (Y.pick_t Z Z Z)<|Za Z<|Ze<|Zg<|Zu<|Zn<|Ex.keep []<|?_
   exact Ex.ret1 rfl rfl  (congrArg Value.bool (by simp [hp0]))

theorem tableone_h {V : Vw} {rs : List Rg} {v0 v1 : Value} (hv : Rd V [] 2 v0 rs.length (rs.map Rg.cells).flatten) (hok : ∀ r, r ∈ rs → Rg.Ok r) {ls : List Le} (hv2 : Rd V [] 8 v1 ls.length (ls.map Le.cells).flatten) (hcs : ∀ x, x ∈ ls → Le.Ok x) (hl9 : ls.length ≤ 9223372036854775807) : Does Try.prog 9 [v0, v1] V [] (fun v _ _ => v = .bool true) := by
  obtain ⟨p, c, rfl, _⟩ := hv.form
  obtain ⟨p2, c2, rfl, _⟩ := hv2.form
  rw [← List.flatMap_def] at hv hv2
  exact tone_c hv hok hv2 (fun x hx => (hcs x hx).client) hl9
end Go.Proofs.Ytpdnkhdmajmbiaa
