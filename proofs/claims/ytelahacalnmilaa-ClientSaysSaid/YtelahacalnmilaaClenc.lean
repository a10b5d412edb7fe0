/- A packet as bytes.
Conditions: as each theorem names them. -/
import Derived.Test.YtelahacalnmilaaProg
import Derived.Test.YtelahacalnmilaaO8
import Derived.Test.YtelahacalnmilaaOpt3
import Derived.Test.YtelahacalnmilaaK14
import Derived.Test.YtelahacalnmilaaK17
set_option linter.unusedSimpArgs false
set_option linter.unusedVariables false
set_option maxRecDepth 4000
namespace Go.Proofs.Ytelahacalnmilaa
open Go Go.K
attribute [local irreducible] Code.wp wpList Calls wpQuiet
theorem Clenc_es22 : elemS Try.prog 22 = some (5, 1) := by kernel_rfl
theorem Clenc_zi5 : zeroInfo Try.prog 5 = some (1, 1, .int .u8 0) := by kernel_rfl
theorem Clenc_it3_5 : intT Try.prog 3 5 = some .u8 := by kernel_rfl
theorem Clenc_sz5 : sizeT Try.prog 5 = some 1 := by kernel_rfl
theorem Clenc_ts5 : scal Try.prog 5 = true := by kernel_rfl
theorem Clenc_it5_3 : intT Try.prog 5 3 = some .i64 := by kernel_rfl
theorem Clenc_es34 : elemS Try.prog 34 = some (76, 2) := by kernel_rfl
theorem Clenc_fo76_0 : fieldOff Try.prog 76 0 = some 0 := by kernel_rfl
theorem Clenc_ts3 : scal Try.prog 3 = true := by kernel_rfl
theorem Clenc_fo76_1 : fieldOff Try.prog 76 1 = some 1 := by kernel_rfl
theorem Clenc_ts22 : scal Try.prog 22 = true := by kernel_rfl
theorem Clenc_mo : Try.prog.follows .mixedOrders = true := by kernel_rfl
theorem Clenc_zo5 : zeroOf Try.prog 5 = some (.int .u8 0) := by kernel_rfl
theorem Clenc_ag36 : aggsz Try.prog 36 = some 10 := by kernel_rfl
theorem Clenc_fo36_0 : fieldOff Try.prog 36 0 = some 0 := by kernel_rfl
theorem Clenc_fo36_8 : fieldOff Try.prog 36 8 = some 8 := by kernel_rfl
theorem Clenc_fo36_1 : fieldOff Try.prog 36 1 = some 1 := by kernel_rfl
theorem Clenc_ts32 : scal Try.prog 32 = true := by kernel_rfl
theorem Clenc_it32_3 : intT Try.prog 32 3 = some .i64 := by kernel_rfl
theorem Clenc_fo36_2 : fieldOff Try.prog 36 2 = some 2 := by kernel_rfl
theorem Clenc_fo36_3 : fieldOff Try.prog 36 3 = some 3 := by kernel_rfl
theorem Clenc_fo36_4 : fieldOff Try.prog 36 4 = some 4 := by kernel_rfl
theorem Clenc_ts33 : scal Try.prog 33 = true := by kernel_rfl
theorem Clenc_it33_3 : intT Try.prog 33 3 = some .i64 := by kernel_rfl
theorem Clenc_fo36_5 : fieldOff Try.prog 36 5 = some 5 := by kernel_rfl
theorem Clenc_fo36_6 : fieldOff Try.prog 36 6 = some 6 := by kernel_rfl
theorem Clenc_fo36_7 : fieldOff Try.prog 36 7 = some 7 := by kernel_rfl
theorem Clenc_tg3 : tagOf Try.prog 3 = some (0, .i64) := by kernel_rfl
theorem Clenc_fo36_9 : fieldOff Try.prog 36 9 = some 9 := by kernel_rfl
theorem Clenc_ts34 : scal Try.prog 34 = true := by kernel_rfl

theorem num3_4 {V : Vw} {n : Int} (hn : 0 ≤ n ∧ n ≤ 4294967295)  : Does Try.prog 46 [.int .i64 n, .int .i64 4] V [] (fun u V' H' => V' = V ∧ ∃ s', H' = [s'] ∧ Ow 5 1 u 4 ((Msg.be 4 n).map byteV) s') := by
 refine Does.intro Try.func46 rfl rfl (le rfl) (fun B => ?_)
 refine Tr.seq ?_
 refine Tr.region ?_
 refine Run.val (lt rfl) (Y.assign rfl) ?_
 refine Run.to_end ?_
 refine Ex.go ?_
 refine Tr.seq ?_
 refine Tr.region ?_
 refine Run.val (lt rfl) (Y.move rfl) ?_
 refine Run.makeSlice (n := 4) rfl rfl Clenc_es22 Clenc_zi5 (by decide) (by omega) (by omega) (lt rfl) (fun b1 => ?_)
 rw [show rep (Value.int .u8 0).cells.toList 4 = Msg.row 4 0 n from Msg.row_zero 4 n]
 refine Run.val (lt rfl) (Y.assign rfl) ?_
 refine Run.to_end ?_
 refine Ex.go ?_
 refine Tr.seq ?_
 refine Tr.seq ?_
 refine Tr.region ?_
 refine Run.val (lt rfl) (Y.move rfl) ?_
 refine Run.val (lt rfl) (Y.sub rfl rfl (by omega)) ?_
 refine Run.val (lt rfl) (Y.assign rfl) ?_
 refine Run.to_end ?_
 refine Ex.go ?_
 refine Tr.block ?_
 refine Tr.loop (X := Nat) (fun x => V) (fun x => [[(b1, .cells (Msg.row 4 x n).toArray 5 (0, 0))]]) (fun x => [(0, .int .i64 (n / 256 ^ x)), (1, .int .i64 4), (5, .slice (some ⟨b1, 0, none⟩) 4 4), (6, .int .i64 (3 - (x : Int)))]) (fun x => x ≤ 4) (fun x => 4 - x) 0 (Nat.zero_le _) (fun a w i => ⟨i.1.sub (subB_cons (by first | rfl | exact congrArg (fun z => some (Value.int _ z)) (by omega)) (subB_cons (by first | rfl | exact congrArg (fun z => some (Value.int _ z)) (by omega)) (subB_cons (by first | rfl | exact congrArg (fun z => some (Value.int _ z)) (by omega)) (subB_cons (by first | rfl | exact congrArg (fun z => some (Value.int _ z)) (by omega)) (subB_nil _))))), i.2⟩) ?_
 rintro x hx
 refine Tr.seq ?_
 refine Tr.seq ?_
 refine Tr.region ?_
 refine Run.val (lt rfl) (Y.move rfl) ?_
 refine Run.val (lt rfl) (Y.int rfl rfl rfl) ?_
 refine Run.to_end ?_
 refine Ex.go ?_
 rcases Bool.eq_false_or_eq_true (decide ((3 - (x : Int)) ≥ 0)) with h2 | h2
 ·have g2 := h2
  try simp only [kb] at g2
  refine Tr.cond_t rfl h2 ?_
  refine Tr.to_end ?_
  refine Ex.go ?_
  refine Tr.seq ?_
  refine Tr.block ?_
  refine Tr.seq ?_
  refine Tr.region ?_
  refine Run.val (lt rfl) (Y.move rfl) ?_
  refine Run.val (lt rfl) (Y.move rfl) ?_
  refine Run.val (lt rfl) (Y.move rfl) ?_
  refine Run.val (lt rfl) (Y.rem (n / 256 ^ x % 256) rfl rfl (by decide) (Msg.tmod_256 hn.1 x)) ?_
  refine Run.val (lt rfl) (Y.conv (n / 256 ^ x % 256) rfl Clenc_it3_5 (wrap_u8 (by omega))) ?_
  refine Run.val (lt rfl) (Y.idxAddr rfl rfl Clenc_es22 (by omega) (by omega)) ?_
  refine Run.store (off := 0 + ((3 - (x : Int)).toNat * 1)) (z := 1) (c := Msg.row 4 x n) (s := [(b1, .cells (Msg.row 4 (x + 1) n).toArray 5 (0, 0))]) rfl rfl Clenc_sz5 (i := 0) rfl rfl (by rw [Msg.row_length (by omega)]; omega) rfl (by rw [show (3 : Int) - (x : Int) = ((4 : Nat) : Int) - 1 - (x : Int) from by omega, Msg.row_step (by omega) (by omega)]; rfl) ?_
  refine Run.to_end ?_
  refine Ex.go ?_
  refine Tr.region ?_
  refine Run.val (lt rfl) (Y.move rfl) ?_
  refine Run.val (lt rfl) (Y.quo (n / 256 ^ (x + 1)) rfl rfl (by decide) (Msg.tdiv_256 (show 0 ≤ n ∧ n ≤ 9223372036854775807 by omega) x)) ?_
  refine Run.val (lt rfl) (Y.assign rfl) ?_
  refine Run.to_end ?_
  refine Ex.end_block ?_
  refine Ex.go ?_
  refine Tr.region ?_
  refine Run.val (lt rfl) (Y.move rfl) ?_
  refine Run.val (lt rfl) (Y.sub rfl rfl (by omega)) ?_
  refine Run.val (lt rfl) (Y.assign rfl) ?_
  refine Run.to_end ?_
  exact Ex.round (x + 1) (by show x + 1 ≤ 4; omega) (by omega) rfl rfl (subB_cons (by first | rfl | exact congrArg (fun z => some (Value.int _ z)) (by omega)) (subB_cons (by first | rfl | exact congrArg (fun z => some (Value.int _ z)) (by omega)) (subB_cons (by first | rfl | exact congrArg (fun z => some (Value.int _ z)) (by omega)) (subB_cons (by first | rfl | exact congrArg (fun z => some (Value.int _ z)) (by omega)) (subB_nil _)))))
 ·have g2 := h2
  try simp only [kb] at g2
  refine Tr.cond_f rfl h2 ?_
  refine Tr.to_exit ?_
  refine Ex.exit_then ?_
  refine Ex.exit_then ?_
  refine Ex.exit_in ?_
  refine Ex.go ?_
  refine Tr.seq ?_
  refine Tr.region ?_
  refine Run.val (lt rfl) (Y.move rfl) ?_
  refine Run.val (lt rfl) (Y.assign rfl) ?_
  refine Run.to_end ?_
  refine Ex.go ?_
  refine Tr.to_ret ?_
  exact Ex.ret1 rfl rfl  ⟨rfl, _, rfl, by rw [show x = 4 from by omega]; exact Msg.row_ow 4 n _ _ (by omega)⟩

theorem num3_2 {V : Vw} {n : Int} (hn : 0 ≤ n ∧ n ≤ 4294967295)  : Does Try.prog 46 [.int .i64 n, .int .i64 2] V [] (fun u V' H' => V' = V ∧ ∃ s', H' = [s'] ∧ Ow 5 1 u 2 ((Msg.be 2 n).map byteV) s') := by
 refine Does.intro Try.func46 rfl rfl (le rfl) (fun B => ?_)
 refine Tr.seq ?_
 refine Tr.region ?_
 refine Run.val (lt rfl) (Y.assign rfl) ?_
 refine Run.to_end ?_
 refine Ex.go ?_
 refine Tr.seq ?_
 refine Tr.region ?_
 refine Run.val (lt rfl) (Y.move rfl) ?_
 refine Run.makeSlice (n := 2) rfl rfl Clenc_es22 Clenc_zi5 (by decide) (by omega) (by omega) (lt rfl) (fun b1 => ?_)
 rw [show rep (Value.int .u8 0).cells.toList 2 = Msg.row 2 0 n from Msg.row_zero 2 n]
 refine Run.val (lt rfl) (Y.assign rfl) ?_
 refine Run.to_end ?_
 refine Ex.go ?_
 refine Tr.seq ?_
 refine Tr.seq ?_
 refine Tr.region ?_
 refine Run.val (lt rfl) (Y.move rfl) ?_
 refine Run.val (lt rfl) (Y.sub rfl rfl (by omega)) ?_
 refine Run.val (lt rfl) (Y.assign rfl) ?_
 refine Run.to_end ?_
 refine Ex.go ?_
 refine Tr.block ?_
 refine Tr.loop (X := Nat) (fun x => V) (fun x => [[(b1, .cells (Msg.row 2 x n).toArray 5 (0, 0))]]) (fun x => [(0, .int .i64 (n / 256 ^ x)), (1, .int .i64 2), (5, .slice (some ⟨b1, 0, none⟩) 2 2), (6, .int .i64 (1 - (x : Int)))]) (fun x => x ≤ 2) (fun x => 2 - x) 0 (Nat.zero_le _) (fun a w i => ⟨i.1.sub (subB_cons (by first | rfl | exact congrArg (fun z => some (Value.int _ z)) (by omega)) (subB_cons (by first | rfl | exact congrArg (fun z => some (Value.int _ z)) (by omega)) (subB_cons (by first | rfl | exact congrArg (fun z => some (Value.int _ z)) (by omega)) (subB_cons (by first | rfl | exact congrArg (fun z => some (Value.int _ z)) (by omega)) (subB_nil _))))), i.2⟩) ?_
 rintro x hx
 refine Tr.seq ?_
 refine Tr.seq ?_
 refine Tr.region ?_
 refine Run.val (lt rfl) (Y.move rfl) ?_
 refine Run.val (lt rfl) (Y.int rfl rfl rfl) ?_
 refine Run.to_end ?_
 refine Ex.go ?_
 rcases Bool.eq_false_or_eq_true (decide ((1 - (x : Int)) ≥ 0)) with h2 | h2
 ·have g2 := h2
  try simp only [kb] at g2
  refine Tr.cond_t rfl h2 ?_
  refine Tr.to_end ?_
  refine Ex.go ?_
  refine Tr.seq ?_
  refine Tr.block ?_
  refine Tr.seq ?_
  refine Tr.region ?_
  refine Run.val (lt rfl) (Y.move rfl) ?_
  refine Run.val (lt rfl) (Y.move rfl) ?_
  refine Run.val (lt rfl) (Y.move rfl) ?_
  refine Run.val (lt rfl) (Y.rem (n / 256 ^ x % 256) rfl rfl (by decide) (Msg.tmod_256 hn.1 x)) ?_
  refine Run.val (lt rfl) (Y.conv (n / 256 ^ x % 256) rfl Clenc_it3_5 (wrap_u8 (by omega))) ?_
  refine Run.val (lt rfl) (Y.idxAddr rfl rfl Clenc_es22 (by omega) (by omega)) ?_
  refine Run.store (off := 0 + ((1 - (x : Int)).toNat * 1)) (z := 1) (c := Msg.row 2 x n) (s := [(b1, .cells (Msg.row 2 (x + 1) n).toArray 5 (0, 0))]) rfl rfl Clenc_sz5 (i := 0) rfl rfl (by rw [Msg.row_length (by omega)]; omega) rfl (by rw [show (1 : Int) - (x : Int) = ((2 : Nat) : Int) - 1 - (x : Int) from by omega, Msg.row_step (by omega) (by omega)]; rfl) ?_
  refine Run.to_end ?_
  refine Ex.go ?_
  refine Tr.region ?_
  refine Run.val (lt rfl) (Y.move rfl) ?_
  refine Run.val (lt rfl) (Y.quo (n / 256 ^ (x + 1)) rfl rfl (by decide) (Msg.tdiv_256 (show 0 ≤ n ∧ n ≤ 9223372036854775807 by omega) x)) ?_
  refine Run.val (lt rfl) (Y.assign rfl) ?_
  refine Run.to_end ?_
  refine Ex.end_block ?_
  refine Ex.go ?_
  refine Tr.region ?_
  refine Run.val (lt rfl) (Y.move rfl) ?_
  refine Run.val (lt rfl) (Y.sub rfl rfl (by omega)) ?_
  refine Run.val (lt rfl) (Y.assign rfl) ?_
  refine Run.to_end ?_
  exact Ex.round (x + 1) (by show x + 1 ≤ 2; omega) (by omega) rfl rfl (subB_cons (by first | rfl | exact congrArg (fun z => some (Value.int _ z)) (by omega)) (subB_cons (by first | rfl | exact congrArg (fun z => some (Value.int _ z)) (by omega)) (subB_cons (by first | rfl | exact congrArg (fun z => some (Value.int _ z)) (by omega)) (subB_cons (by first | rfl | exact congrArg (fun z => some (Value.int _ z)) (by omega)) (subB_nil _)))))
 ·have g2 := h2
  try simp only [kb] at g2
  refine Tr.cond_f rfl h2 ?_
  refine Tr.to_exit ?_
  refine Ex.exit_then ?_
  refine Ex.exit_then ?_
  refine Ex.exit_in ?_
  refine Ex.go ?_
  refine Tr.seq ?_
  refine Tr.region ?_
  refine Run.val (lt rfl) (Y.move rfl) ?_
  refine Run.val (lt rfl) (Y.assign rfl) ?_
  refine Run.to_end ?_
  refine Ex.go ?_
  refine Tr.to_ret ?_
  exact Ex.ret1 rfl rfl  ⟨rfl, _, rfl, by rw [show x = 2 from by omega]; exact Msg.row_ow 2 n _ _ (by omega)⟩

theorem of3_c {V : Vw} {H : Hp} {bs : List UInt8} {pb : Option Addr} {cb : Nat} (hvb : Rd V H 1 (.slice pb bs.length cb) bs.length (bs.map byteV)) (h4 : bs.length ≤ 4)  : Does Try.prog 48 [.slice pb bs.length cb] V H (Pv (.int .i64 (val bs)) V H) := by
 refine Does.intro Try.func48 rfl rfl (le rfl) (fun B => ?_)
 refine Tr.seq ?_
 refine Tr.region ?_
 refine Run.val (lt rfl) (Y.assign rfl) ?_
 refine Run.to_end ?_
 refine Ex.go ?_
 refine Tr.seq ?_
 refine Tr.region ?_
 refine Run.val (lt rfl) (Y.assign rfl) ?_
 refine Run.to_end ?_
 refine Ex.go ?_
 refine Tr.seq ?_
 refine Tr.seq ?_
 refine Tr.region ?_
 refine Run.val (lt rfl) (Y.assign rfl) ?_
 refine Run.to_end ?_
 refine Ex.go ?_
 refine Tr.block ?_
 refine Tr.loop (X := Nat) (fun i => V) (fun i => H) (fun i => [(0, .slice pb bs.length cb), (3, .int .i64 (val (bs.take i))), (4, .int .i64 (i : Int))]) (fun i => i ≤ bs.length) (fun i => bs.length - i) 0 (Nat.zero_le _) (fun a w i => ⟨i.1.sub (subB_cons (by first | rfl | exact congrArg (fun z => some (Value.int _ z)) (by omega) | exact congrArg (fun z => some (Value.int _ z)) (val_take (by omega)).symm) (subB_cons (by first | rfl | exact congrArg (fun z => some (Value.int _ z)) (by omega) | exact congrArg (fun z => some (Value.int _ z)) (val_take (by omega)).symm) (subB_cons (by first | rfl | exact congrArg (fun z => some (Value.int _ z)) (by omega) | exact congrArg (fun z => some (Value.int _ z)) (val_take (by omega)).symm) (subB_nil _)))), i.2⟩) ?_
 rintro i hi
 refine Tr.seq ?_
 refine Tr.seq ?_
 refine Tr.region ?_
 refine Run.val (lt rfl) (Y.move rfl) ?_
 refine Run.val (lt rfl) (Y.move rfl) ?_
 refine Run.val (lt rfl) (Y.lenSl rfl Clenc_es22) ?_
 refine Run.val (lt rfl) (Y.int rfl rfl rfl) ?_
 refine Run.to_end ?_
 refine Ex.go ?_
 rcases Bool.eq_false_or_eq_true (decide ((i : Int) < ((bs.length : Nat) : Int))) with h1 | h1
 ·have g1 := h1
  try simp only [kb] at g1
  obtain ⟨b, off, c2, cs, e, fz, hw, hc, hkb, hcs⟩ := hvb.opened (by omega)
  obtain ⟨rfl, rfl⟩ : pb = some ⟨b, off, none⟩ ∧ cb = c2 := by cases hw; exact ⟨rfl, rfl⟩
  clear hw
  have hs := val_small (l := bs.take i) (by simp; omega)
  have hb := u8_lt (bs.getD i 0)
  refine Tr.cond_t rfl h1 ?_
  refine Tr.to_end ?_
  refine Ex.go ?_
  refine Tr.seq ?_
  refine Tr.block ?_
  refine Tr.region ?_
  refine Run.val (lt rfl) (Y.move rfl) ?_
  refine Run.val (lt rfl) (Y.mul rfl rfl (by omega)) ?_
  refine Run.val (lt rfl) (Y.move rfl) ?_
  refine Run.val (lt rfl) (Y.move rfl) ?_
  refine Run.val (lt rfl) (Y.idxAddr rfl rfl Clenc_es22 (by omega) (by omega)) ?_
  refine Run.val (lt rfl) (Y.load rfl Clenc_ts5 hkb (at1 hcs (by omega) (map_at byteV 0 (by omega)))) ?_
  refine Run.val (lt rfl) (Y.conv (((bs.getD i 0).toNat : Int)) rfl Clenc_it5_3 (wrap_i64 (by omega))) ?_
  refine Run.val (lt rfl) (Y.add rfl rfl (by omega)) ?_
  refine Run.val (lt rfl) (Y.assign rfl) ?_
  refine Run.to_end ?_
  refine Ex.end_block ?_
  refine Ex.go ?_
  refine Tr.region ?_
  refine Run.val (lt rfl) (Y.move rfl) ?_
  refine Run.val (lt rfl) (Y.add rfl rfl (by omega)) ?_
  refine Run.val (lt rfl) (Y.assign rfl) ?_
  refine Run.to_end ?_
  exact Ex.round (i + 1) (by show i + 1 ≤ bs.length; omega) (by omega) rfl rfl (subB_cons (by first | rfl | exact congrArg (fun z => some (Value.int _ z)) (by omega) | exact congrArg (fun z => some (Value.int _ z)) (val_take (by omega)).symm) (subB_cons (by first | rfl | exact congrArg (fun z => some (Value.int _ z)) (by omega) | exact congrArg (fun z => some (Value.int _ z)) (val_take (by omega)).symm) (subB_cons (by first | rfl | exact congrArg (fun z => some (Value.int _ z)) (by omega) | exact congrArg (fun z => some (Value.int _ z)) (val_take (by omega)).symm) (subB_nil _))))
 ·have g1 := h1
  try simp only [kb] at g1
  refine Tr.cond_f rfl h1 ?_
  refine Tr.to_exit ?_
  refine Ex.exit_then ?_
  refine Ex.exit_then ?_
  refine Ex.exit_in ?_
  refine Ex.go ?_
  refine Tr.seq ?_
  refine Tr.region ?_
  refine Run.val (lt rfl) (Y.move rfl) ?_
  refine Run.val (lt rfl) (Y.assign rfl) ?_
  refine Run.to_end ?_
  refine Ex.go ?_
  refine Tr.to_ret ?_
  exact Ex.ret1 rfl rfl  ⟨by rw [List.take_of_length_le (by omega)], rfl, rfl⟩

theorem of3_h {V : Vw} {H : Hp} {v : Value} {bs : List UInt8} {n : Nat} (hv : Rd V H 1 v n (bs.map byteV)) (h4 : bs.length ≤ 4) : Does Try.prog 48 [v] V H (Pv (.int .i64 (val bs)) V H) := by
  obtain rfl : n = bs.length := by have := hv.len; rw [List.length_map, Nat.mul_one] at this; exact this.symm
  obtain ⟨p, c, rfl, _⟩ := hv.form
  exact of3_c hv h4

theorem rencb_c {V : Vw} {L : List Opn} {po : Option Addr} {co : Nat} (ho : Rd V [] 2 (.slice po L.length co) L.length (L.map Opn.cells).flatten) (hr : Opn.Rds V L) (hL : L.length ≤ 1000000) (hf : Oc.few (L.map Opn.c) = true) (hok : Oc.encE (L.map Opn.c) = 0)  : Does Try.prog 47 [.slice po L.length co] V [] (fun u V' H' => V' = V ∧ ∃ v s', u = .tuple #[v, .int .i64 0] ∧ H' = [s'] ∧ Ow 5 1 v (Oc.encO (L.map Opn.c)).length ((Oc.encO (L.map Opn.c)).map byteV) s') := by
 have hany : (L.map Opn.c).any Oc.odd = false := by cases h : (L.map Opn.c).any Oc.odd with | false => rfl | true => rw [Oc.encE_odd h] at hok; cases hok
 have hbig : ¬ Oc.tot (L.map Opn.c) + 1 > 1024 := fun h => by rw [Oc.encE_big hany h] at hok; cases hok
 refine Does.intro Try.func47 rfl rfl (le rfl) (fun B => ?_)
 refine Tr.seq ?_
 refine Tr.region ?_
 refine Run.val (lt rfl) (Y.assign rfl) ?_
 refine Run.val (lt rfl) (Y.assign rfl) ?_
 refine Run.to_end ?_
 refine Ex.go ?_
 refine Tr.seq ?_
 refine Tr.seq ?_
 refine Tr.region ?_
 refine Run.val (lt rfl) (Y.assign rfl) ?_
 refine Run.to_end ?_
 refine Ex.go ?_
 refine Tr.block ?_
 refine Tr.loop (X := Nat) (fun i => V) (fun i => []) (fun i => [(0, .slice po L.length co), (4, .int .i64 (i : Int))]) (fun i => i ≤ L.length ∧ ∀ j, j < i → Oc.odd (L.getD j Opn.dflt).c = false) (fun i => L.length - i) 0 ⟨Nat.zero_le _, fun j hj => absurd hj (Nat.not_lt_zero j)⟩ (fun a w i => ⟨i.1.sub (subB_cons (by first | rfl | exact congrArg (fun z => some (Value.int _ z)) (by omega)) (subB_cons (by first | rfl | exact congrArg (fun z => some (Value.int _ z)) (by omega)) (subB_nil _))), i.2⟩) ?_
 rintro i ⟨hi, hin⟩
 refine Tr.seq ?_
 refine Tr.seq ?_
 refine Tr.region ?_
 refine Run.val (lt rfl) (Y.move rfl) ?_
 refine Run.val (lt rfl) (Y.move rfl) ?_
 refine Run.val (lt rfl) (Y.lenSl rfl Clenc_es34) ?_
 refine Run.val (lt rfl) (Y.int rfl rfl rfl) ?_
 refine Run.to_end ?_
 refine Ex.go ?_
 rcases Bool.eq_false_or_eq_true (decide ((i : Int) < ((L.length : Nat) : Int))) with h1 | h1
 ·have g1 := h1
  try simp only [kb] at g1
  obtain ⟨b, off, c2, cs, e, fz, hw, hc, hko, hcs⟩ := ho.opened (by omega)
  obtain ⟨rfl, rfl⟩ : po = some ⟨b, off, none⟩ ∧ co = c2 := by cases hw; exact ⟨rfl, rfl⟩
  clear hw
  have hrow := row_at (f := Opn.cells) Opn.len hcs (i := i) (by omega) (Nat.le_refl _) Opn.dflt
  have hmem := getD_mem (l := L) (j := i) (by omega) Opn.dflt
  generalize hoe : L.getD i Opn.dflt = o at *
  have hro := hr o hmem
  obtain ⟨pd, cd, hov, _⟩ := hro.form
  rw [hov] at hro
  have hrow2 : ∀ j, j < 2 → cs[off + ((i : Nat) : Int).toNat * 2 + j]? = ([.int .i64 o.code, .slice pd o.d.length cd] : List Value)[j]? := fun j hj => by rw [hrow j hj]; simp only [Opn.cells, hov]
  refine Tr.cond_t rfl h1 ?_
  refine Tr.to_end ?_
  refine Ex.go ?_
  refine Tr.seq ?_
  refine Tr.block ?_
  refine Tr.seq ?_
  refine Tr.region ?_
  refine Run.val (lt rfl) (Y.move rfl) ?_
  refine Run.val (lt rfl) (Y.move rfl) ?_
  refine Run.val (lt rfl) (Y.idxAddr rfl rfl Clenc_es34 (by omega) (by omega)) ?_
  refine Run.val (lt rfl) (Y.fieldAddr rfl Clenc_fo76_0) ?_
  refine Run.val (lt rfl) (Y.load rfl Clenc_ts3 hko.of_nil (hrow 0 (by decide))) ?_
  refine Run.val (lt rfl) (Y.int rfl rfl rfl) ?_
  refine Run.val (lt rfl) (Y.move rfl) ?_
  rcases Bool.eq_false_or_eq_true (decide (o.code < 1)) with h2 | h2
  ·have g2 := h2
   try simp only [kb] at g2
   refine Run.off rfl rfl rfl h2 rfl (lt rfl) ?_
   refine Run.off rfl rfl rfl h2 rfl (lt rfl) ?_
   refine Run.off rfl rfl rfl h2 rfl (lt rfl) ?_
   refine Run.off rfl rfl rfl h2 rfl (lt rfl) ?_
   refine Run.off rfl rfl rfl h2 rfl (lt rfl) ?_
   refine Run.off rfl rfl rfl h2 rfl (lt rfl) ?_
   refine Run.val (lt rfl) (Y.pick_t rfl h2 rfl) ?_
   refine Run.val (lt rfl) (Y.move rfl) ?_
   refine Run.off rfl rfl rfl rfl rfl (lt rfl) ?_
   refine Run.off rfl rfl rfl rfl rfl (lt rfl) ?_
   refine Run.off rfl rfl rfl rfl rfl (lt rfl) ?_
   refine Run.off rfl rfl rfl rfl rfl (lt rfl) ?_
   refine Run.off rfl rfl rfl rfl rfl (lt rfl) ?_
   refine Run.off rfl rfl rfl rfl rfl (lt rfl) ?_
   refine Run.off rfl rfl rfl rfl rfl (lt rfl) ?_
   refine Run.val (lt rfl) (Y.pick_t rfl rfl rfl) ?_
   refine Run.to_end ?_
   refine Ex.go ?_
   refine Tr.cond_t rfl rfl ?_
   refine Tr.seq ?_
   refine Tr.region ?_
   refine Run.val (lt rfl) (Y.assign rfl) ?_
   refine Run.val (lt rfl) (Y.assign rfl) ?_
   refine Run.to_end ?_
   refine Ex.go ?_
   refine Tr.to_ret ?_
   refine Ex.ret_block ?_
   refine Ex.ret_then ?_
   refine Ex.ret_then ?_
   refine Ex.ret_block ?_
   refine Ex.ret_then ?_
   refine Ex.keep [] ?_
   exact Ex.ret2 rfl rfl rfl  (absurd (Oc.any_at (L := L) (i := i) (by omega) (by rw [hoe]; exact Oc.odd_yes (by omega))) (by rw [hany]; decide))
  ·have g2 := h2
   try simp only [kb] at g2
   refine Run.on rfl rfl rfl h2 ?_
   refine Run.val (lt rfl) (Y.move rfl) ?_
   refine Run.on rfl rfl rfl h2 ?_
   refine Run.val (lt rfl) (Y.move rfl) ?_
   refine Run.on rfl rfl rfl h2 ?_
   refine Run.val (lt rfl) (Y.idxAddr rfl rfl Clenc_es34 (by omega) (by omega)) ?_
   refine Run.on rfl rfl rfl h2 ?_
   refine Run.val (lt rfl) (Y.fieldAddr rfl Clenc_fo76_0) ?_
   refine Run.on rfl rfl rfl h2 ?_
   refine Run.val (lt rfl) (Y.load rfl Clenc_ts3 hko.of_nil (hrow 0 (by decide))) ?_
   refine Run.on rfl rfl rfl h2 ?_
   refine Run.val (lt rfl) (Y.int rfl rfl rfl) ?_
   refine Run.val (lt rfl) (Y.pick_f rfl h2 rfl) ?_
   refine Run.val (lt rfl) (Y.move rfl) ?_
   rcases Bool.eq_false_or_eq_true (decide (o.code > 254)) with h3 | h3
   ·have g3 := h3
    try simp only [kb] at g3
    refine Run.off rfl rfl rfl h3 rfl (lt rfl) ?_
    refine Run.off rfl rfl rfl h3 rfl (lt rfl) ?_
    refine Run.off rfl rfl rfl h3 rfl (lt rfl) ?_
    refine Run.off rfl rfl rfl h3 rfl (lt rfl) ?_
    refine Run.off rfl rfl rfl h3 rfl (lt rfl) ?_
    refine Run.off rfl rfl rfl h3 rfl (lt rfl) ?_
    refine Run.off rfl rfl rfl h3 rfl (lt rfl) ?_
    refine Run.val (lt rfl) (Y.pick_t rfl h3 rfl) ?_
    refine Run.to_end ?_
    refine Ex.go ?_
    refine Tr.cond_t rfl rfl ?_
    refine Tr.seq ?_
    refine Tr.region ?_
    refine Run.val (lt rfl) (Y.assign rfl) ?_
    refine Run.val (lt rfl) (Y.assign rfl) ?_
    refine Run.to_end ?_
    refine Ex.go ?_
    refine Tr.to_ret ?_
    refine Ex.ret_block ?_
    refine Ex.ret_then ?_
    refine Ex.ret_then ?_
    refine Ex.ret_block ?_
    refine Ex.ret_then ?_
    refine Ex.keep [] ?_
    exact Ex.ret2 rfl rfl rfl  (absurd (Oc.any_at (L := L) (i := i) (by omega) (by rw [hoe]; exact Oc.odd_yes (by omega))) (by rw [hany]; decide))
   ·have g3 := h3
    try simp only [kb] at g3
    refine Run.on rfl rfl rfl h3 ?_
    refine Run.val (lt rfl) (Y.move rfl) ?_
    refine Run.on rfl rfl rfl h3 ?_
    refine Run.val (lt rfl) (Y.move rfl) ?_
    refine Run.on rfl rfl rfl h3 ?_
    refine Run.val (lt rfl) (Y.idxAddr rfl rfl Clenc_es34 (by omega) (by omega)) ?_
    refine Run.on rfl rfl rfl h3 ?_
    refine Run.val (lt rfl) (Y.fieldAddr rfl Clenc_fo76_1) ?_
    refine Run.on rfl rfl rfl h3 ?_
    refine Run.val (lt rfl) (Y.load rfl Clenc_ts22 hko.of_nil (hrow2 1 (by decide))) ?_
    refine Run.on rfl rfl rfl h3 ?_
    refine Run.val (lt rfl) (Y.lenSl rfl Clenc_es22) ?_
    refine Run.on rfl rfl rfl h3 ?_
    refine Run.val (lt rfl) (Y.int rfl rfl rfl) ?_
    refine Run.val (lt rfl) (Y.pick_f rfl h3 rfl) ?_
    refine Run.to_end ?_
    refine Ex.go ?_
    rcases Bool.eq_false_or_eq_true (decide (((o.d.length : Nat) : Int) > 255)) with h4 | h4
    ·have g4 := h4
     try simp only [kb] at g4
     refine Tr.cond_t rfl h4 ?_
     refine Tr.seq ?_
     refine Tr.region ?_
     refine Run.val (lt rfl) (Y.assign rfl) ?_
     refine Run.val (lt rfl) (Y.assign rfl) ?_
     refine Run.to_end ?_
     refine Ex.go ?_
     refine Tr.to_ret ?_
     refine Ex.ret_block ?_
     refine Ex.ret_then ?_
     refine Ex.ret_then ?_
     refine Ex.ret_block ?_
     refine Ex.ret_then ?_
     refine Ex.keep [] ?_
     exact Ex.ret2 rfl rfl rfl  (absurd (Oc.any_at (L := L) (i := i) (by omega) (by rw [hoe]; exact Oc.odd_yes (by omega))) (by rw [hany]; decide))
    ·have g4 := h4
     try simp only [kb] at g4
     refine Tr.cond_f rfl h4 ?_
     refine Tr.to_end ?_
     refine Ex.end_block ?_
     refine Ex.go ?_
     refine Tr.region ?_
     refine Run.val (lt rfl) (Y.move rfl) ?_
     refine Run.val (lt rfl) (Y.add rfl rfl (by omega)) ?_
     refine Run.val (lt rfl) (Y.assign rfl) ?_
     refine Run.to_end ?_
     exact Ex.round (i + 1) ⟨by omega, upto hin (by rw [hoe]; exact Oc.odd_no (by omega) (by omega) (by omega))⟩ (by omega) rfl rfl (subB_cons (by first | rfl | exact congrArg (fun z => some (Value.int _ z)) (by omega)) (subB_cons (by first | rfl | exact congrArg (fun z => some (Value.int _ z)) (by omega)) (subB_nil _)))
 ·have g1 := h1
  try simp only [kb] at g1
  refine Tr.cond_f rfl h1 ?_
  refine Tr.to_exit ?_
  refine Ex.exit_then ?_
  refine Ex.exit_then ?_
  refine Ex.exit_in ?_
  refine Ex.go ?_
  refine Tr.seq ?_
  refine Tr.region ?_
  clear hin
  refine Run.nilseg ?_
  refine Run.val (lt rfl) (Y.assign rfl) ?_
  refine Run.to_end ?_
  refine Ex.go ?_
  refine Tr.seq ?_
  refine Tr.seq ?_
  refine Tr.region ?_
  refine Run.val (lt rfl) (Y.assign rfl) ?_
  refine Run.to_end ?_
  refine Ex.go ?_
  refine Tr.block ?_
  refine Tr.loop (X := Gr) (fun x => V) (fun x => [x.q]) (fun x => [(0, .slice po L.length co), (5, .slice x.p x.n x.k), (6, .int .i64 (x.i : Int))]) (fun x => Ow 5 1 (.slice x.p x.n x.k) x.n x.xs x.q ∧ x.i ≤ L.length ∧ x.n = Oc.tot ((L.map Opn.c).take x.i) ∧ x.n < 1024 ∧ x.xs = (Oc.encL ((L.map Opn.c).take x.i)).map byteV) (fun x => L.length - x.i) ⟨none, 0, 0, [], [], 0⟩ ⟨Ow.nil _ _, Nat.zero_le _, rfl, (by decide : 0 < 1024), rfl⟩ (fun a w i => ⟨i.1.sub (subB_cons (by first | rfl | exact congrArg (fun z => some (Value.int _ z)) (by omega)) (subB_cons (by first | rfl | exact congrArg (fun z => some (Value.int _ z)) (by omega)) (subB_cons (by first | rfl | exact congrArg (fun z => some (Value.int _ z)) (by omega)) (subB_nil _)))), i.2⟩) ?_
  rintro ⟨p, n, k, q, xs, i⟩ ⟨how, hi, hn, hlt, hxs⟩
  dsimp only at hxs
  dsimp only at hlt
  dsimp only at how hi hn ⊢
  refine Tr.seq ?_
  refine Tr.seq ?_
  refine Tr.region ?_
  refine Run.val (lt rfl) (Y.move rfl) ?_
  refine Run.val (lt rfl) (Y.move rfl) ?_
  refine Run.val (lt rfl) (Y.lenSl rfl Clenc_es34) ?_
  refine Run.val (lt rfl) (Y.int rfl rfl rfl) ?_
  refine Run.to_end ?_
  refine Ex.go ?_
  rcases Bool.eq_false_or_eq_true (decide ((i : Int) < ((L.length : Nat) : Int))) with h5 | h5
  ·have g5 := h5
   try simp only [kb] at g5
   have hel := Oc.encL_take (L := L) (i := i) (by omega)
   have hd := Oc.few_data hf (i := i) (by omega)
   have ht := Oc.tot_take (L := L) (i := i) (by omega)
   have htl := Oc.tot_le (L.map Opn.c) (i + 1)
   obtain ⟨b, off, c2, cs, e, fz, hw, hc, hko, hcs⟩ := ho.opened (by omega)
   obtain ⟨rfl, rfl⟩ : po = some ⟨b, off, none⟩ ∧ co = c2 := by cases hw; exact ⟨rfl, rfl⟩
   clear hw
   have hrow := row_at (f := Opn.cells) Opn.len hcs (i := i) (by omega) (Nat.le_refl _) Opn.dflt
   have hmem := getD_mem (l := L) (j := i) (by omega) Opn.dflt
   generalize hoe : L.getD i Opn.dflt = o at *
   have hro := hr o hmem
   obtain ⟨pd, cd, hov, _⟩ := hro.form
   rw [hov] at hro
   have hrow2 : ∀ j, j < 2 → cs[off + ((i : Nat) : Int).toNat * 2 + j]? = ([.int .i64 o.code, .slice pd o.d.length cd] : List Value)[j]? := fun j hj => by rw [hrow j hj]; simp only [Opn.cells, hov]
   refine Tr.cond_t rfl h5 ?_
   refine Tr.to_end ?_
   refine Ex.go ?_
   refine Tr.seq ?_
   refine Tr.block ?_
   refine Tr.seq ?_
   refine Tr.anyD [(b, .cells cs e fz)] Clenc_mo ?_
   refine RunD.pure (i := 0) rfl (by kernel_rfl) (by kernel_rfl) (by kernel_rfl) (fun _ _ _ h => h) (lt rfl) (KnAll.cons hko.of_nil KnAll.nil) (fun _ => (Y.move rfl)) ?_
   refine RunD.pure (i := 1) rfl (by kernel_rfl) (by kernel_rfl) (by kernel_rfl) (fun _ _ _ h => h) (lt rfl) (KnAll.cons hko.of_nil KnAll.nil) (fun _ => (Y.move rfl)) ?_
   refine RunD.pure (i := 2) rfl (by kernel_rfl) (by kernel_rfl) (by kernel_rfl) (fun _ _ _ h => h) (lt rfl) (KnAll.cons hko.of_nil KnAll.nil) (fun _ => (Y.move rfl)) ?_
   refine RunD.pure (i := 3) rfl (by kernel_rfl) (by kernel_rfl) (by kernel_rfl) (fun _ _ _ h => h) (lt rfl) (KnAll.cons hko.of_nil KnAll.nil) (fun _ => (Y.idxAddr rfl rfl Clenc_es34 (by omega) (by omega))) ?_
   refine RunD.pure (i := 4) rfl (by kernel_rfl) (by kernel_rfl) (by kernel_rfl) (fun _ _ _ h => h) (lt rfl) (KnAll.cons hko.of_nil KnAll.nil) (fun _ => (Y.fieldAddr rfl Clenc_fo76_0)) ?_
   refine RunD.take (i := 5) 0 rfl rfl (by kernel_rfl) (by kernel_rfl) (by kernel_rfl) (fun _ _ _ h => h) (lt rfl) (KnAll.cons hko.of_nil KnAll.nil) (fun _ => (Y.load rfl Clenc_ts3 Kn.vk1 (hrow 0 (by decide)))) ?_
   refine RunD.pure (i := 6) rfl (by kernel_rfl) (by kernel_rfl) (by kernel_rfl) (fun _ _ _ h => h) (lt rfl) (KnAll.cons hko.of_nil KnAll.nil) (fun _ => (Y.conv (o.code % 256) rfl Clenc_it3_5 (wrap_u8m _))) ?_
   refine RunD.pure (i := 7) rfl (by kernel_rfl) (by kernel_rfl) (by kernel_rfl) (fun _ _ _ h => h) (lt rfl) (KnAll.cons hko.of_nil KnAll.nil) (fun _ => (Y.move rfl)) ?_
   refine RunD.pure (i := 8) rfl (by kernel_rfl) (by kernel_rfl) (by kernel_rfl) (fun _ _ _ h => h) (lt rfl) (KnAll.cons hko.of_nil KnAll.nil) (fun _ => (Y.move rfl)) ?_
   refine RunD.pure (i := 9) rfl (by kernel_rfl) (by kernel_rfl) (by kernel_rfl) (fun _ _ _ h => h) (lt rfl) (KnAll.cons hko.of_nil KnAll.nil) (fun _ => (Y.idxAddr rfl rfl Clenc_es34 (by omega) (by omega))) ?_
   refine RunD.pure (i := 10) rfl (by kernel_rfl) (by kernel_rfl) (by kernel_rfl) (fun _ _ _ h => h) (lt rfl) (KnAll.cons hko.of_nil KnAll.nil) (fun _ => (Y.fieldAddr rfl Clenc_fo76_1)) ?_
   refine RunD.take (i := 11) 0 rfl rfl (by kernel_rfl) (by kernel_rfl) (by kernel_rfl) (fun _ _ _ h => h) (lt rfl) (KnAll.cons hko.of_nil KnAll.nil) (fun _ => (Y.load rfl Clenc_ts22 Kn.vk1 (hrow2 1 (by decide)))) ?_
   refine RunD.pure (i := 12) rfl (by kernel_rfl) (by kernel_rfl) (by kernel_rfl) (fun _ _ _ h => h) (lt rfl) (KnAll.cons hko.of_nil KnAll.nil) (fun _ => (Y.lenSl rfl Clenc_es22)) ?_
   refine RunD.pure (i := 13) rfl (by kernel_rfl) (by kernel_rfl) (by kernel_rfl) (fun _ _ _ h => h) (lt rfl) (KnAll.cons hko.of_nil KnAll.nil) (fun _ => (Y.conv (((o.d.length : Nat) : Int) % 256) rfl Clenc_it3_5 (wrap_u8m _))) ?_
   refine RunD.one (i := 14) (by kernel_rfl) rfl  ?_ 
   refine Run.buildSlice (l := [(0, .tmp 48), (1, .tmp 55)]) Clenc_es22 Clenc_zo5 rfl (by decide) rfl rfl (by decide) (lt rfl) (fun b6 => ?_)
   refine Run.to_end ?_
   refine Ex.anyD (KnAll.cons hko.of_nil KnAll.nil) ?_
   refine RunD.one (i := 15) (by kernel_rfl) rfl  ?_ 
   refine Run.append (n := n) (m := 2) (xs := xs) (ys := [.int .u8 (o.code % 256), .int .u8 (((o.d.length : Nat) : Int) % 256)]) rfl rfl Clenc_es22 Clenc_zi5 (by decide) (j := 1) rfl how (Src.of_rd Clenc_es22 (Rd.one (Kn.at 0 rfl) rfl)) (by omega) (by omega) rfl (lt rfl) (fun v7 s8 ho9 hf => ?_)
   obtain ⟨p7, c7, rfl⟩ := hf
   refine Run.to_end ?_
   refine Ex.anyD (KnAll.cons hko.of_nil KnAll.nil) ?_
   refine RunD.pure (i := 16) rfl (by kernel_rfl) (by kernel_rfl) (by kernel_rfl) (fun _ _ _ h => h) (lt rfl) (KnAll.cons hko.of_nil KnAll.nil) (fun _ => (Y.assign rfl)) ?_
   refine RunD.done (by kernel_rfl) ?_
   refine Ex.go ?_
   refine Tr.seq ?_
   refine Tr.region ?_
   refine Run.val (lt rfl) (Y.move rfl) ?_
   refine Run.val (lt rfl) (Y.move rfl) ?_
   refine Run.val (lt rfl) (Y.move rfl) ?_
   refine Run.val (lt rfl) (Y.idxAddr rfl rfl Clenc_es34 (by omega) (by omega)) ?_
   refine Run.val (lt rfl) (Y.fieldAddr rfl Clenc_fo76_1) ?_
   refine Run.val (lt rfl) (Y.load rfl Clenc_ts22 hko.of_nil (hrow2 1 (by decide))) ?_
   refine Run.append (n := n + 2) (m := o.d.length) (xs := xs ++ [.int .u8 (o.code % 256), .int .u8 (((o.d.length : Nat) : Int) % 256)]) (ys := o.d.map byteV) rfl rfl Clenc_es22 Clenc_zi5 (by decide) (j := 1) rfl ho9 (Src.of_rd Clenc_es22 hro.of_nil) (by omega) (by omega) (all_one_bytes _) (lt rfl) (fun v10 s11 ho12 hf => ?_)
   obtain ⟨p10, c10, rfl⟩ := hf
   refine Run.val (lt rfl) (Y.assign rfl) ?_
   refine Run.to_end ?_
   refine Ex.go ?_
   refine Tr.seq ?_
   refine Tr.region ?_
   refine Run.val (lt rfl) (Y.move rfl) ?_
   refine Run.val (lt rfl) (Y.lenSl rfl Clenc_es22) ?_
   refine Run.val (lt rfl) (Y.int rfl rfl rfl) ?_
   refine Run.to_end ?_
   refine Ex.go ?_
   rcases Bool.eq_false_or_eq_true (decide ((((n + 2 + o.d.length) : Nat) : Int) ≥ 1024)) with h13 | h13
   ·have g13 := h13
    try simp only [kb] at g13
    refine Tr.cond_t rfl h13 ?_
    refine Tr.seq ?_
    refine Tr.region ?_
    refine Run.val (lt rfl) (Y.assign rfl) ?_
    refine Run.val (lt rfl) (Y.assign rfl) ?_
    refine Run.to_end ?_
    refine Ex.go ?_
    refine Tr.to_ret ?_
    refine Ex.ret_block ?_
    refine Ex.ret_then ?_
    refine Ex.ret_then ?_
    refine Ex.ret_block ?_
    refine Ex.ret_then ?_
    refine Ex.keep [] ?_
    exact Ex.ret2 rfl rfl rfl  (absurd hbig (by omega))
   ·have g13 := h13
    try simp only [kb] at g13
    refine Tr.cond_f rfl h13 ?_
    refine Tr.to_end ?_
    refine Ex.end_block ?_
    refine Ex.go ?_
    refine Tr.region ?_
    refine Run.val (lt rfl) (Y.move rfl) ?_
    refine Run.val (lt rfl) (Y.add rfl rfl (by omega)) ?_
    refine Run.val (lt rfl) (Y.assign rfl) ?_
    refine Run.to_end ?_
    refine Ex.keep [1] ?_
    exact Ex.round (⟨p10, (n + 2 + o.d.length), c10, s11, (xs ++ [.int .u8 (o.code % 256), .int .u8 (((o.d.length : Nat) : Int) % 256)]) ++ (o.d.map byteV), i + 1⟩ : Gr) ⟨ho12, by show i + 1 ≤ L.length; omega, by show (n + 2 + o.d.length) = Oc.tot ((L.map Opn.c).take (i + 1)); omega, by show (n + 2 + o.d.length) < 1024; omega, by show _ = (Oc.encL ((L.map Opn.c).take (i + 1))).map byteV; rw [hel, hxs]; simp only [List.map_append, List.map_cons, ← Oc.bc_row, List.append_assoc, List.cons_append, List.nil_append]⟩ (by show L.length - (i + 1) < L.length - i; omega) rfl rfl (subB_cons (by first | rfl | exact congrArg (fun z => some (Value.int _ z)) (by omega)) (subB_cons (by first | rfl | exact congrArg (fun z => some (Value.int _ z)) (by omega)) (subB_cons (by first | rfl | exact congrArg (fun z => some (Value.int _ z)) (by omega)) (subB_nil _))))
  ·have g5 := h5
   try simp only [kb] at g5
   have hall : n = Oc.tot (L.map Opn.c) := by rw [hn, List.take_of_length_le (by rw [List.length_map]; omega)]
   refine Tr.cond_f rfl h5 ?_
   refine Tr.to_exit ?_
   refine Ex.exit_then ?_
   refine Ex.exit_then ?_
   refine Ex.exit_in ?_
   refine Ex.go ?_
   refine Tr.seq ?_
   refine Tr.region ?_
   refine Run.val (lt rfl) (Y.move rfl) ?_
   refine Run.buildSlice (l := [(0, .const (.int .u8 255))]) Clenc_es22 Clenc_zo5 rfl (by decide) rfl rfl (by decide) (lt rfl) (fun b14 => ?_)
   refine Run.append (n := n) (m := 1) (xs := xs) (ys := [.int .u8 255]) rfl rfl Clenc_es22 Clenc_zi5 (by decide) (j := 1) rfl how (Src.of_rd Clenc_es22 (Rd.one (Kn.at 0 rfl) rfl)) (by omega) (by omega) rfl (lt rfl) (fun v15 s16 ho17 hf => ?_)
   obtain ⟨p15, c15, rfl⟩ := hf
   refine Run.val (lt rfl) (Y.assign rfl) ?_
   refine Run.val (lt rfl) (Y.assign rfl) ?_
   refine Run.to_end ?_
   refine Ex.go ?_
   refine Tr.to_ret ?_
   refine Ex.keep [1] ?_
   have hob := Ow.bytes (bs := Oc.encO (L.map Opn.c)) ho17 (by rw [hxs, List.take_of_length_le (by rw [List.length_map]; omega)]; simp only [Oc.encO, List.map_append]; rfl)
   exact Ex.ret2 rfl rfl rfl  ⟨rfl, _, s16, rfl, rfl, hob⟩

set_option maxHeartbeats 1000000 in
theorem enc3_c {V : Vw} {L : List Opn} {po : Option Addr} {co : Nat} (ho : Rd V [] 2 (.slice po L.length co) L.length (L.map Opn.cells).flatten) (hr : Opn.Rds V L) (hL : L.length ≤ 1000000) {p : Pc} {ph : Option Addr} {ch : Nat} (hh : Rd V [] 1 (.slice ph p.hw.length ch) p.hw.length (p.hw.map byteV)) (hLp : L.map Opn.c = p.os) (hf : Oc.few (L.map Opn.c) = true) (hrt : Pc.right p = true) (hx : 0 ≤ p.xid ∧ p.xid ≤ 4294967295) (hci : 0 ≤ p.ci ∧ p.ci ≤ 4294967295) (hyi : 0 ≤ p.yi ∧ p.yi ≤ 4294967295) (hsi : 0 ≤ p.si ∧ p.si ≤ 4294967295) (hgi : 0 ≤ p.gi ∧ p.gi ≤ 4294967295)  : Does Try.prog 18 [.agg #[.int .i64 p.op, .int .u32 p.xid, .int .i64 p.secs, .int .i64 p.flags, .int .u32 p.ci, .int .u32 p.yi, .int .u32 p.si, .int .u32 p.gi, .slice ph p.hw.length ch, .slice po L.length co]] V [] (fun u V' H' => V' = V ∧ ∃ v s', u = .tuple #[v, .int .i64 0] ∧ H' = [s'] ∧ Ow 5 1 v (Pc.encP p).length ((Pc.encP p).map byteV) s') := by
 have hb := Pc.right_facts hrt
 have hok : Oc.encE (L.map Opn.c) = 0 := by rw [hLp]; exact hb.2.2.2.2
 have htl : Oc.tot (L.map Opn.c) ≤ 1023 := Oc.encE_small hok
 have hel := Oc.encO_len (L.map Opn.c)
 refine Does.intro Try.func18 rfl rfl (le rfl) (fun B => ?_)
 refine Tr.seq ?_
 refine Tr.region ?_
 refine Run.box rfl (lt rfl) (fun b1 => ?_)
 refine Run.val (lt rfl) (Y.assign rfl) ?_
 refine Run.val (lt rfl) (Y.assign rfl) ?_
 refine Run.to_end ?_
 refine Ex.go ?_
 refine Tr.seq ?_
 refine Tr.region ?_
 refine Run.val (lt rfl) (Y.loadAgg rfl Clenc_ag36 (Kn.at 0 rfl) rfl) ?_
 refine Run.call0 (l := [.tmp 8]) rfl rfl rfl (lt rfl) ((rright_c ho hr hL hh hLp hf).frame) ?_
 refine Run.val (lt rfl) (Y.assign rfl) ?_
 refine Run.to_end ?_
 refine Ex.go ?_
 refine Tr.seq ?_
 refine Tr.seq ?_
 refine Tr.region ?_
 refine Run.val (lt rfl) (Y.move rfl) ?_
 refine Run.val (lt rfl) (Y.not rfl) ?_
 refine Run.to_end ?_
 refine Ex.go ?_
 refine Tr.cond_f rfl (congrArg Bool.not hrt) ?_
 refine Tr.to_end ?_
 refine Ex.go ?_
 refine Tr.seq ?_
 refine Tr.region ?_
 refine Run.val (lt rfl) (Y.fieldAddr rfl Clenc_fo36_0) ?_
 refine Run.val (lt rfl) (Y.load rfl Clenc_ts3 (Kn.at 0 rfl) rfl) ?_
 refine Run.val (lt rfl) (Y.conv (p.op % 256) rfl Clenc_it3_5 (wrap_u8m _)) ?_
 refine Run.val (lt rfl) (Y.fieldAddr rfl Clenc_fo36_8) ?_
 refine Run.val (lt rfl) (Y.load rfl Clenc_ts22 (Kn.at 0 rfl) rfl) ?_
 refine Run.val (lt rfl) (Y.lenSl rfl Clenc_es22) ?_
 refine Run.val (lt rfl) (Y.conv (((p.hw.length : Nat) : Int) % 256) rfl Clenc_it3_5 (wrap_u8m _)) ?_
 refine Run.buildSlice (l := [(0, .tmp 14), (1, .const (.int .u8 1)), (2, .tmp 18), (3, .const (.int .u8 0))]) (r := [.int .u8 (p.op % 256), .int .u8 1, .int .u8 (((p.hw.length : Nat) : Int) % 256), .int .u8 0]) Clenc_es22 Clenc_zo5 rfl (by decide) rfl rfl (by decide) (lt rfl) (fun b2 => ?_)
 refine Run.val (lt rfl) (Y.assign rfl) ?_
 refine Run.to_end ?_
 refine Ex.go ?_
 refine Tr.seq ?_
 refine Tr.region ?_
 refine Run.val (lt rfl) (Y.move rfl) ?_
 refine Run.val (lt rfl) (Y.fieldAddr rfl Clenc_fo36_1) ?_
 refine Run.val (lt rfl) (Y.load rfl Clenc_ts32 (Kn.at 1 rfl) rfl) ?_
 refine Run.val (lt rfl) (Y.conv (p.xid) rfl Clenc_it32_3 (wrap_i64 (by omega))) ?_
 refine Run.call [] (l := [.tmp 23, .const (.int .i64 4)]) rfl rfl rfl (lt rfl) (num3_4 (n := p.xid) (by omega)) (fun v3 V2 H2 _ hR => ?_)
 obtain ⟨hV, s4, rfl, hon5⟩ := hR; replace hV := hV.symm; subst hV; obtain ⟨p6, c7, rfl⟩ := hon5.form
 refine Run.heapTo (H' := [[(b2, .cells #[.int .u8 (p.op % 256), .int .u8 1, .int .u8 (((p.hw.length : Nat) : Int) % 256), .int .u8 0] 5 (0, 0))], [(b1, .cells #[.int .i64 p.op, .int .u32 p.xid, .int .i64 p.secs, .int .i64 p.flags, .int .u32 p.ci, .int .u32 p.yi, .int .u32 p.si, .int .u32 p.gi, .slice ph p.hw.length ch, .slice po L.length co] 36 (0, 0))], s4]) rfl ?_
 refine Run.append (n := 4) (m := 4) (xs := [.int .u8 (p.op % 256), .int .u8 1, .int .u8 (((p.hw.length : Nat) : Int) % 256), .int .u8 0]) (ys := (Msg.be 4 p.xid).map byteV) rfl rfl Clenc_es22 Clenc_zi5 (by decide) (j := 0) rfl (Ow.lit (cur := #[.int .u8 (p.op % 256), .int .u8 1, .int .u8 (((p.hw.length : Nat) : Int) % 256), .int .u8 0]) rfl (by decide)) (Src.of_rd Clenc_es22 (hon5.rd 2 rfl)) (by omega) (by omega) (all_one_bytes _) (lt rfl) (fun v8 s9 ho10 hf => ?_)
 obtain ⟨p8, c8, rfl⟩ := hf
 refine Run.val (lt rfl) (Y.assign rfl) ?_
 refine Run.to_end ?_
 refine Ex.go ?_
 refine Tr.seq ?_
 refine Tr.region ?_
 refine Run.val (lt rfl) (Y.move rfl) ?_
 refine Run.val (lt rfl) (Y.fieldAddr rfl Clenc_fo36_2) ?_
 refine Run.val (lt rfl) (Y.load rfl Clenc_ts3 (Kn.at 1 rfl) rfl) ?_
 refine Run.call [] (l := [.tmp 28, .const (.int .i64 2)]) rfl rfl rfl (lt rfl) (num3_2 (n := p.secs) (by omega)) (fun v11 V2 H2 _ hR => ?_)
 obtain ⟨hV, s12, rfl, hon13⟩ := hR; replace hV := hV.symm; subst hV; obtain ⟨p14, c15, rfl⟩ := hon13.form
 refine Run.heapTo (H' := [s9, [(b1, .cells #[.int .i64 p.op, .int .u32 p.xid, .int .i64 p.secs, .int .i64 p.flags, .int .u32 p.ci, .int .u32 p.yi, .int .u32 p.si, .int .u32 p.gi, .slice ph p.hw.length ch, .slice po L.length co] 36 (0, 0))], s4, s12]) rfl ?_
 refine Run.append (n := 4 + 4) (m := 2) (xs := [.int .u8 (p.op % 256), .int .u8 1, .int .u8 (((p.hw.length : Nat) : Int) % 256), .int .u8 0] ++ ((Msg.be 4 p.xid).map byteV)) (ys := (Msg.be 2 p.secs).map byteV) rfl rfl Clenc_es22 Clenc_zi5 (by decide) (j := 0) rfl ho10 (Src.of_rd Clenc_es22 (hon13.rd 3 rfl)) (by omega) (by omega) (all_one_bytes _) (lt rfl) (fun v16 s17 ho18 hf => ?_)
 obtain ⟨p16, c16, rfl⟩ := hf
 refine Run.val (lt rfl) (Y.assign rfl) ?_
 refine Run.to_end ?_
 refine Ex.go ?_
 refine Tr.seq ?_
 refine Tr.region ?_
 refine Run.val (lt rfl) (Y.move rfl) ?_
 refine Run.val (lt rfl) (Y.fieldAddr rfl Clenc_fo36_3) ?_
 refine Run.val (lt rfl) (Y.load rfl Clenc_ts3 (Kn.at 1 rfl) rfl) ?_
 refine Run.call [] (l := [.tmp 33, .const (.int .i64 2)]) rfl rfl rfl (lt rfl) (num3_2 (n := p.flags) (by omega)) (fun v19 V2 H2 _ hR => ?_)
 obtain ⟨hV, s20, rfl, hon21⟩ := hR; replace hV := hV.symm; subst hV; obtain ⟨p22, c23, rfl⟩ := hon21.form
 refine Run.heapTo (H' := [s17, [(b1, .cells #[.int .i64 p.op, .int .u32 p.xid, .int .i64 p.secs, .int .i64 p.flags, .int .u32 p.ci, .int .u32 p.yi, .int .u32 p.si, .int .u32 p.gi, .slice ph p.hw.length ch, .slice po L.length co] 36 (0, 0))], s4, s12, s20]) rfl ?_
 refine Run.append (n := 4 + 4 + 2) (m := 2) (xs := ([.int .u8 (p.op % 256), .int .u8 1, .int .u8 (((p.hw.length : Nat) : Int) % 256), .int .u8 0] ++ ((Msg.be 4 p.xid).map byteV)) ++ ((Msg.be 2 p.secs).map byteV)) (ys := (Msg.be 2 p.flags).map byteV) rfl rfl Clenc_es22 Clenc_zi5 (by decide) (j := 0) rfl ho18 (Src.of_rd Clenc_es22 (hon21.rd 4 rfl)) (by omega) (by omega) (all_one_bytes _) (lt rfl) (fun v24 s25 ho26 hf => ?_)
 obtain ⟨p24, c24, rfl⟩ := hf
 refine Run.val (lt rfl) (Y.assign rfl) ?_
 refine Run.to_end ?_
 refine Ex.go ?_
 refine Tr.seq ?_
 refine Tr.region ?_
 refine Run.val (lt rfl) (Y.move rfl) ?_
 refine Run.val (lt rfl) (Y.fieldAddr rfl Clenc_fo36_4) ?_
 refine Run.val (lt rfl) (Y.load rfl Clenc_ts33 (Kn.at 1 rfl) rfl) ?_
 refine Run.val (lt rfl) (Y.conv (p.ci) rfl Clenc_it33_3 (wrap_i64 (by omega))) ?_
 refine Run.call [] (l := [.tmp 39, .const (.int .i64 4)]) rfl rfl rfl (lt rfl) (num3_4 (n := p.ci) (by omega)) (fun v27 V2 H2 _ hR => ?_)
 obtain ⟨hV, s28, rfl, hon29⟩ := hR; replace hV := hV.symm; subst hV; obtain ⟨p30, c31, rfl⟩ := hon29.form
 refine Run.heapTo (H' := [s25, [(b1, .cells #[.int .i64 p.op, .int .u32 p.xid, .int .i64 p.secs, .int .i64 p.flags, .int .u32 p.ci, .int .u32 p.yi, .int .u32 p.si, .int .u32 p.gi, .slice ph p.hw.length ch, .slice po L.length co] 36 (0, 0))], s4, s12, s20, s28]) rfl ?_
 refine Run.append (n := 4 + 4 + 2 + 2) (m := 4) (xs := (([.int .u8 (p.op % 256), .int .u8 1, .int .u8 (((p.hw.length : Nat) : Int) % 256), .int .u8 0] ++ ((Msg.be 4 p.xid).map byteV)) ++ ((Msg.be 2 p.secs).map byteV)) ++ ((Msg.be 2 p.flags).map byteV)) (ys := (Msg.be 4 p.ci).map byteV) rfl rfl Clenc_es22 Clenc_zi5 (by decide) (j := 0) rfl ho26 (Src.of_rd Clenc_es22 (hon29.rd 5 rfl)) (by omega) (by omega) (all_one_bytes _) (lt rfl) (fun v32 s33 ho34 hf => ?_)
 obtain ⟨p32, c32, rfl⟩ := hf
 refine Run.val (lt rfl) (Y.assign rfl) ?_
 refine Run.to_end ?_
 refine Ex.go ?_
 refine Tr.seq ?_
 refine Tr.region ?_
 refine Run.val (lt rfl) (Y.move rfl) ?_
 refine Run.val (lt rfl) (Y.fieldAddr rfl Clenc_fo36_5) ?_
 refine Run.val (lt rfl) (Y.load rfl Clenc_ts33 (Kn.at 1 rfl) rfl) ?_
 refine Run.val (lt rfl) (Y.conv (p.yi) rfl Clenc_it33_3 (wrap_i64 (by omega))) ?_
 refine Run.call [] (l := [.tmp 45, .const (.int .i64 4)]) rfl rfl rfl (lt rfl) (num3_4 (n := p.yi) (by omega)) (fun v35 V2 H2 _ hR => ?_)
 obtain ⟨hV, s36, rfl, hon37⟩ := hR; replace hV := hV.symm; subst hV; obtain ⟨p38, c39, rfl⟩ := hon37.form
 refine Run.heapTo (H' := [s33, [(b1, .cells #[.int .i64 p.op, .int .u32 p.xid, .int .i64 p.secs, .int .i64 p.flags, .int .u32 p.ci, .int .u32 p.yi, .int .u32 p.si, .int .u32 p.gi, .slice ph p.hw.length ch, .slice po L.length co] 36 (0, 0))], s4, s12, s20, s28, s36]) rfl ?_
 refine Run.append (n := 4 + 4 + 2 + 2 + 4) (m := 4) (xs := ((([.int .u8 (p.op % 256), .int .u8 1, .int .u8 (((p.hw.length : Nat) : Int) % 256), .int .u8 0] ++ ((Msg.be 4 p.xid).map byteV)) ++ ((Msg.be 2 p.secs).map byteV)) ++ ((Msg.be 2 p.flags).map byteV)) ++ ((Msg.be 4 p.ci).map byteV)) (ys := (Msg.be 4 p.yi).map byteV) rfl rfl Clenc_es22 Clenc_zi5 (by decide) (j := 0) rfl ho34 (Src.of_rd Clenc_es22 (hon37.rd 6 rfl)) (by omega) (by omega) (all_one_bytes _) (lt rfl) (fun v40 s41 ho42 hf => ?_)
 obtain ⟨p40, c40, rfl⟩ := hf
 refine Run.val (lt rfl) (Y.assign rfl) ?_
 refine Run.to_end ?_
 refine Ex.go ?_
 refine Tr.seq ?_
 refine Tr.region ?_
 refine Run.val (lt rfl) (Y.move rfl) ?_
 refine Run.val (lt rfl) (Y.fieldAddr rfl Clenc_fo36_6) ?_
 refine Run.val (lt rfl) (Y.load rfl Clenc_ts33 (Kn.at 1 rfl) rfl) ?_
 refine Run.val (lt rfl) (Y.conv (p.si) rfl Clenc_it33_3 (wrap_i64 (by omega))) ?_
 refine Run.call [] (l := [.tmp 51, .const (.int .i64 4)]) rfl rfl rfl (lt rfl) (num3_4 (n := p.si) (by omega)) (fun v43 V2 H2 _ hR => ?_)
 obtain ⟨hV, s44, rfl, hon45⟩ := hR; replace hV := hV.symm; subst hV; obtain ⟨p46, c47, rfl⟩ := hon45.form
 refine Run.heapTo (H' := [s41, [(b1, .cells #[.int .i64 p.op, .int .u32 p.xid, .int .i64 p.secs, .int .i64 p.flags, .int .u32 p.ci, .int .u32 p.yi, .int .u32 p.si, .int .u32 p.gi, .slice ph p.hw.length ch, .slice po L.length co] 36 (0, 0))], s4, s12, s20, s28, s36, s44]) rfl ?_
 refine Run.append (n := 4 + 4 + 2 + 2 + 4 + 4) (m := 4) (xs := (((([.int .u8 (p.op % 256), .int .u8 1, .int .u8 (((p.hw.length : Nat) : Int) % 256), .int .u8 0] ++ ((Msg.be 4 p.xid).map byteV)) ++ ((Msg.be 2 p.secs).map byteV)) ++ ((Msg.be 2 p.flags).map byteV)) ++ ((Msg.be 4 p.ci).map byteV)) ++ ((Msg.be 4 p.yi).map byteV)) (ys := (Msg.be 4 p.si).map byteV) rfl rfl Clenc_es22 Clenc_zi5 (by decide) (j := 0) rfl ho42 (Src.of_rd Clenc_es22 (hon45.rd 7 rfl)) (by omega) (by omega) (all_one_bytes _) (lt rfl) (fun v48 s49 ho50 hf => ?_)
 obtain ⟨p48, c48, rfl⟩ := hf
 refine Run.val (lt rfl) (Y.assign rfl) ?_
 refine Run.to_end ?_
 refine Ex.go ?_
 refine Tr.seq ?_
 refine Tr.region ?_
 refine Run.val (lt rfl) (Y.move rfl) ?_
 refine Run.val (lt rfl) (Y.fieldAddr rfl Clenc_fo36_7) ?_
 refine Run.val (lt rfl) (Y.load rfl Clenc_ts33 (Kn.at 1 rfl) rfl) ?_
 refine Run.val (lt rfl) (Y.conv (p.gi) rfl Clenc_it33_3 (wrap_i64 (by omega))) ?_
 refine Run.call [] (l := [.tmp 57, .const (.int .i64 4)]) rfl rfl rfl (lt rfl) (num3_4 (n := p.gi) (by omega)) (fun v51 V2 H2 _ hR => ?_)
 obtain ⟨hV, s52, rfl, hon53⟩ := hR; replace hV := hV.symm; subst hV; obtain ⟨p54, c55, rfl⟩ := hon53.form
 refine Run.heapTo (H' := [s49, [(b1, .cells #[.int .i64 p.op, .int .u32 p.xid, .int .i64 p.secs, .int .i64 p.flags, .int .u32 p.ci, .int .u32 p.yi, .int .u32 p.si, .int .u32 p.gi, .slice ph p.hw.length ch, .slice po L.length co] 36 (0, 0))], s4, s12, s20, s28, s36, s44, s52]) rfl ?_
 refine Run.append (n := 4 + 4 + 2 + 2 + 4 + 4 + 4) (m := 4) (xs := ((((([.int .u8 (p.op % 256), .int .u8 1, .int .u8 (((p.hw.length : Nat) : Int) % 256), .int .u8 0] ++ ((Msg.be 4 p.xid).map byteV)) ++ ((Msg.be 2 p.secs).map byteV)) ++ ((Msg.be 2 p.flags).map byteV)) ++ ((Msg.be 4 p.ci).map byteV)) ++ ((Msg.be 4 p.yi).map byteV)) ++ ((Msg.be 4 p.si).map byteV)) (ys := (Msg.be 4 p.gi).map byteV) rfl rfl Clenc_es22 Clenc_zi5 (by decide) (j := 0) rfl ho50 (Src.of_rd Clenc_es22 (hon53.rd 8 rfl)) (by omega) (by omega) (all_one_bytes _) (lt rfl) (fun v56 s57 ho58 hf => ?_)
 obtain ⟨p56, c56, rfl⟩ := hf
 refine Run.val (lt rfl) (Y.assign rfl) ?_
 refine Run.to_end ?_
 refine Ex.go ?_
 refine Tr.seq ?_
 refine Tr.region ?_
 refine Run.val (lt rfl) (Y.move rfl) ?_
 refine Run.val (lt rfl) (Y.fieldAddr rfl Clenc_fo36_8) ?_
 refine Run.val (lt rfl) (Y.load rfl Clenc_ts22 (Kn.at 1 rfl) rfl) ?_
 refine Run.append (n := 4 + 4 + 2 + 2 + 4 + 4 + 4 + 4) (m := p.hw.length) (xs := (((((([.int .u8 (p.op % 256), .int .u8 1, .int .u8 (((p.hw.length : Nat) : Int) % 256), .int .u8 0] ++ ((Msg.be 4 p.xid).map byteV)) ++ ((Msg.be 2 p.secs).map byteV)) ++ ((Msg.be 2 p.flags).map byteV)) ++ ((Msg.be 4 p.ci).map byteV)) ++ ((Msg.be 4 p.yi).map byteV)) ++ ((Msg.be 4 p.si).map byteV)) ++ ((Msg.be 4 p.gi).map byteV)) (ys := p.hw.map byteV) rfl rfl Clenc_es22 Clenc_zi5 (by decide) (j := 0) rfl ho58 (Src.of_rd Clenc_es22 hh.of_nil) (by omega) (by omega) (all_one_bytes _) (lt rfl) (fun v59 s60 ho61 hf => ?_)
 obtain ⟨p59, c59, rfl⟩ := hf
 refine Run.val (lt rfl) (Y.assign rfl) ?_
 refine Run.to_end ?_
 refine Ex.go ?_
 refine Tr.seq ?_
 refine Tr.region ?_
 refine Run.val (lt rfl) (Y.move rfl) ?_
 refine Run.val (lt rfl) (Y.fieldAddr rfl Clenc_fo36_8) ?_
 refine Run.val (lt rfl) (Y.load rfl Clenc_ts22 (Kn.at 1 rfl) rfl) ?_
 refine Run.val (lt rfl) (Y.lenSl rfl Clenc_es22) ?_
 refine Run.val (lt rfl) (Y.sub rfl rfl (by omega)) ?_
 refine Run.val (lt rfl) (Y.add rfl rfl (by omega)) ?_
 rw [show (16 - ((p.hw.length : Nat) : Int)) + 192 = ((208 - p.hw.length : Nat) : Int) from by omega]
 refine Run.appendZeros (n := 4 + 4 + 2 + 2 + 4 + 4 + 4 + 4 + p.hw.length) (m := 208 - p.hw.length) (xs := ((((((([.int .u8 (p.op % 256), .int .u8 1, .int .u8 (((p.hw.length : Nat) : Int) % 256), .int .u8 0] ++ ((Msg.be 4 p.xid).map byteV)) ++ ((Msg.be 2 p.secs).map byteV)) ++ ((Msg.be 2 p.flags).map byteV)) ++ ((Msg.be 4 p.ci).map byteV)) ++ ((Msg.be 4 p.yi).map byteV)) ++ ((Msg.be 4 p.si).map byteV)) ++ ((Msg.be 4 p.gi).map byteV)) ++ (p.hw.map byteV)) rfl rfl Clenc_es22 Clenc_tg3 Clenc_zi5 (by decide) (by omega) (j := 0) rfl ho61 (by omega) (by omega) (rep_one _) (lt rfl) (fun v62 s63 ho64 hf2 => ?_)
 obtain ⟨p65, c66, rfl⟩ := hf2
 refine Run.val (lt rfl) (Y.assign rfl) ?_
 refine Run.to_end ?_
 refine Ex.go ?_
 refine Tr.seq ?_
 refine Tr.region ?_
 refine Run.val (lt rfl) (Y.move rfl) ?_
 refine Run.buildSlice (l := [(0, .const (.int .u8 99)), (1, .const (.int .u8 130)), (2, .const (.int .u8 83)), (3, .const (.int .u8 99))]) (r := [.int .u8 99, .int .u8 130, .int .u8 83, .int .u8 99]) Clenc_es22 Clenc_zo5 rfl (by decide) rfl rfl (by decide) (lt rfl) (fun b67 => ?_)
 refine Run.append (n := 4 + 4 + 2 + 2 + 4 + 4 + 4 + 4 + p.hw.length + (208 - p.hw.length)) (m := 4) (xs := (((((((([.int .u8 (p.op % 256), .int .u8 1, .int .u8 (((p.hw.length : Nat) : Int) % 256), .int .u8 0] ++ ((Msg.be 4 p.xid).map byteV)) ++ ((Msg.be 2 p.secs).map byteV)) ++ ((Msg.be 2 p.flags).map byteV)) ++ ((Msg.be 4 p.ci).map byteV)) ++ ((Msg.be 4 p.yi).map byteV)) ++ ((Msg.be 4 p.si).map byteV)) ++ ((Msg.be 4 p.gi).map byteV)) ++ (p.hw.map byteV)) ++ rep (Value.int .u8 0).cells.toList (208 - p.hw.length)) (ys := [.int .u8 99, .int .u8 130, .int .u8 83, .int .u8 99]) rfl rfl Clenc_es22 Clenc_zi5 (by decide) (j := 1) rfl ho64 (Src.of_rd Clenc_es22 (Rd.one (Kn.at 0 rfl) rfl)) (by omega) (by omega) rfl (lt rfl) (fun v68 s69 ho70 hf => ?_)
 obtain ⟨p68, c68, rfl⟩ := hf
 refine Run.val (lt rfl) (Y.assign rfl) ?_
 refine Run.to_end ?_
 refine Ex.go ?_
 refine Tr.seq ?_
 refine Tr.region ?_
 refine Run.val (lt rfl) (Y.fieldAddr rfl Clenc_fo36_9) ?_
 refine Run.val (lt rfl) (Y.load rfl Clenc_ts34 (Kn.at 2 rfl) rfl) ?_
 refine Run.call [] (l := [.tmp 76]) rfl rfl rfl (lt rfl) (rencb_c ho hr hL hf hok) (fun v71 V2 H2 _ hR => ?_)
 obtain ⟨hV, z72, s73, rfl, rfl, hoe74⟩ := hR; replace hV := hV.symm; subst hV; obtain ⟨p75, c76, rfl⟩ := hoe74.form
 refine Run.heapTo (H' := [[(b67, .cells #[.int .u8 99, .int .u8 130, .int .u8 83, .int .u8 99] 5 (0, 0))], s69, [(b1, .cells #[.int .i64 p.op, .int .u32 p.xid, .int .i64 p.secs, .int .i64 p.flags, .int .u32 p.ci, .int .u32 p.yi, .int .u32 p.si, .int .u32 p.gi, .slice ph p.hw.length ch, .slice po L.length co] 36 (0, 0))], s4, s12, s20, s28, s36, s44, s52, s73]) rfl ?_
 refine Run.val (lt rfl) (Y.move rfl) ?_
 refine Run.val (lt rfl) (Y.extract rfl rfl) ?_
 refine Run.val (lt rfl) (Y.extract rfl rfl) ?_
 refine Run.val (lt rfl) (Y.assign rfl) ?_
 refine Run.val (lt rfl) (Y.assign rfl) ?_
 refine Run.to_end ?_
 refine Ex.go ?_
 refine Tr.seq ?_
 refine Tr.region ?_
 refine Run.val (lt rfl) (Y.move rfl) ?_
 refine Run.val (lt rfl) (Y.move rfl) ?_
 refine Run.append (n := 4 + 4 + 2 + 2 + 4 + 4 + 4 + 4 + p.hw.length + (208 - p.hw.length) + 4) (m := (Oc.encO (L.map Opn.c)).length) (xs := ((((((((([.int .u8 (p.op % 256), .int .u8 1, .int .u8 (((p.hw.length : Nat) : Int) % 256), .int .u8 0] ++ ((Msg.be 4 p.xid).map byteV)) ++ ((Msg.be 2 p.secs).map byteV)) ++ ((Msg.be 2 p.flags).map byteV)) ++ ((Msg.be 4 p.ci).map byteV)) ++ ((Msg.be 4 p.yi).map byteV)) ++ ((Msg.be 4 p.si).map byteV)) ++ ((Msg.be 4 p.gi).map byteV)) ++ (p.hw.map byteV)) ++ rep (Value.int .u8 0).cells.toList (208 - p.hw.length)) ++ [.int .u8 99, .int .u8 130, .int .u8 83, .int .u8 99]) (ys := (Oc.encO (L.map Opn.c)).map byteV) rfl rfl Clenc_es22 Clenc_zi5 (by decide) (j := 1) rfl ho70 (Src.of_rd Clenc_es22 (hoe74.rd 10 rfl)) (by omega) (by omega) (all_one_bytes _) (lt rfl) (fun v77 s78 ho79 hf => ?_)
 obtain ⟨p77, c77, rfl⟩ := hf
 refine Run.val (lt rfl) (Y.assign rfl) ?_
 refine Run.val (lt rfl) (Y.assign rfl) ?_
 refine Run.to_end ?_
 refine Ex.go ?_
 refine Tr.to_ret ?_
 refine Ex.keep [1] ?_
 have hob := Ow.bytes (bs := Pc.encP p) ho79 (by rw [Pc.encP_row, ← hLp]; simp only [List.append_assoc, List.cons_append, List.nil_append])
 exact Ex.ret2 rfl rfl rfl  ⟨rfl, _, s78, rfl, rfl, hob⟩
end Go.Proofs.Ytelahacalnmilaa
