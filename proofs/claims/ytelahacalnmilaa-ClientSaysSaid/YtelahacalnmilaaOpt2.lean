/- What options and packets are asked for: the rest.
Conditions: as each theorem names them. -/
import Derived.Test.YtelahacalnmilaaProg
import Derived.Test.YtelahacalnmilaaOpt
import Derived.Test.YtelahacalnmilaaM6
set_option linter.unusedSimpArgs false
set_option linter.unusedVariables false
set_option maxRecDepth 4000
namespace Go.Proofs.Ytelahacalnmilaa
open Go Go.K
attribute [local irreducible] Code.wp wpList Calls wpQuiet
theorem Opt2_es22 : elemS Try.prog 22 = some (5, 1) := by kernel_rfl
theorem Opt2_ts5 : scal Try.prog 5 = true := by kernel_rfl
theorem Opt2_it5_3 : intT Try.prog 5 3 = some .i64 := by kernel_rfl
theorem Opt2_fo36_9 : fieldOff Try.prog 36 9 = some 9 := by kernel_rfl
theorem Opt2_ts34 : scal Try.prog 34 = true := by kernel_rfl

theorem number_c {V : Vw} {H : Hp} {bs : List UInt8} {pb : Option Addr} {cb : Nat} (hvb : Rd V H 1 (.slice pb bs.length cb) bs.length (bs.map byteV)) (h4 : bs.length = 4)  : Does Try.prog 69 [.slice pb bs.length cb] V H (Pv (.tuple #[.int .i64 (val bs), .int .i64 0]) V H) := by
 refine Does.intro Try.func69 rfl rfl (le rfl) (fun B => ?_)
 refine Tr.seq ?_
 refine Tr.region ?_
 refine Run.val (lt rfl) (Y.assign rfl) ?_
 refine Run.val (lt rfl) (Y.assign rfl) ?_
 refine Run.to_end ?_
 refine Ex.go ?_
 refine Tr.seq ?_
 refine Tr.seq ?_
 refine Tr.region ?_
 refine Run.val (lt rfl) (Y.move rfl) ?_
 refine Run.val (lt rfl) (Y.lenSl rfl Opt2_es22) ?_
 refine Run.to_end ?_
 refine Ex.go ?_
 refine Tr.block ?_
 refine Tr.seq ?_
 refine Tr.seq ?_
 refine Tr.region ?_
 refine Run.val (lt rfl) (Y.int rfl rfl rfl) ?_
 refine Run.val (lt rfl) (Y.assign rfl) ?_
 refine Run.to_end ?_
 refine Ex.go ?_
 refine Tr.cond_f rfl (by rw [h4]; rfl) ?_
 refine Tr.seq ?_
 refine Tr.region ?_
 refine Run.val (lt rfl) (Y.int rfl rfl rfl) ?_
 refine Run.val (lt rfl) (Y.assign rfl) ?_
 refine Run.to_end ?_
 refine Ex.go ?_
 refine Tr.cond_f rfl (by rw [h4]; rfl) ?_
 refine Tr.region ?_
 refine Run.val (lt rfl) (Y.int rfl rfl rfl) ?_
 refine Run.val (lt rfl) (Y.assign rfl) ?_
 refine Run.to_end ?_
 refine Ex.go ?_
 refine Tr.cond_t rfl (by rw [h4]; rfl) ?_
 refine Tr.to_end ?_
 refine Ex.end_block ?_
 refine Ex.go ?_
 refine Tr.seq ?_
 refine Tr.region ?_
 refine Run.val (lt rfl) (Y.assign rfl) ?_
 refine Run.to_end ?_
 refine Ex.go ?_
 refine Tr.seq ?_
 refine Tr.seq ?_
 refine Tr.region ?_
 refine Run.val (lt rfl) (Y.move rfl) ?_
 refine Run.val (lt rfl) (Y.lenSl rfl Opt2_es22) ?_
 refine Run.val (lt rfl) (Y.move rfl) ?_
 refine Run.to_end ?_
 refine Ex.go ?_
 refine Tr.block ?_
 refine Tr.loop (X := Nat) (fun i => V) (fun i => H) (fun i => [(13, .slice pb bs.length cb), (14, .int .i64 ((bs.length : Nat) : Int)), (4, .int .i64 (val (bs.take i))), (15, .int .i64 (i : Int))]) (fun i => i ≤ bs.length) (fun i => bs.length - i) 0 (Nat.zero_le _) (fun a w i => ⟨i.1.sub (subB_cons (by first | rfl | exact congrArg (fun z => some (Value.int _ z)) (by omega) | exact congrArg (fun z => some (Value.int _ z)) (val_take (by omega)).symm) (subB_cons (by first | rfl | exact congrArg (fun z => some (Value.int _ z)) (by omega) | exact congrArg (fun z => some (Value.int _ z)) (val_take (by omega)).symm) (subB_cons (by first | rfl | exact congrArg (fun z => some (Value.int _ z)) (by omega) | exact congrArg (fun z => some (Value.int _ z)) (val_take (by omega)).symm) (subB_cons (by first | rfl | exact congrArg (fun z => some (Value.int _ z)) (by omega) | exact congrArg (fun z => some (Value.int _ z)) (val_take (by omega)).symm) (subB_nil _))))), i.2⟩) ?_
 rintro i hi
 refine Tr.seq ?_
 refine Tr.region ?_
 refine Run.val (lt rfl) (Y.int rfl rfl rfl) ?_
 refine Run.to_end ?_
 refine Ex.go ?_
 refine Tr.seq ?_
 rcases Bool.eq_false_or_eq_true (decide ((i : Int) < ((bs.length : Nat) : Int))) with h1 | h1
 ·have g1 := h1
  try simp only [kb] at g1
  obtain ⟨b, off, c2, cs, e, fz, hw, hc, hkb, hcs⟩ := hvb.opened (by omega)
  obtain ⟨rfl, rfl⟩ : pb = some ⟨b, off, none⟩ ∧ cb = c2 := by cases hw; exact ⟨rfl, rfl⟩
  clear hw
  have hs := val_small (l := bs.take i) (by simp; omega)
  have hb := u8_lt (bs.getD i 0)
  refine Tr.cond_t rfl h1 ?_
  refine Tr.to_end ?_
  refine Ex.go ?_
  refine Tr.seq ?_
  refine Tr.block ?_
  refine Tr.seq ?_
  refine Tr.region ?_
  refine Run.val (lt rfl) (Y.idxAddr rfl rfl Opt2_es22 (by omega) (by omega)) ?_
  refine Run.val (lt rfl) (Y.load rfl Opt2_ts5 hkb (at1 hcs (by omega) (map_at byteV 0 (by omega)))) ?_
  refine Run.val (lt rfl) (Y.assign rfl) ?_
  refine Run.to_end ?_
  refine Ex.go ?_
  refine Tr.region ?_
  refine Run.val (lt rfl) (Y.move rfl) ?_
  refine Run.val (lt rfl) (Y.shl (val (bs.take i) * 256) rfl rfl (by decide) (shl_byte hs.1 hs.2)) ?_
  refine Run.val (lt rfl) (Y.move rfl) ?_
  refine Run.val (lt rfl) (Y.conv (((bs.getD i 0).toNat : Int)) rfl Opt2_it5_3 (wrap_i64 (by omega))) ?_
  refine Run.val (lt rfl) (Y.int (r := .int .i64 (val (bs.take i) * 256 + ((bs.getD i 0).toNat : Int))) rfl rfl (by simp only [intRes]; rw [or_byte hs.1 hs.2 (by omega) (by omega)])) ?_
  refine Run.val (lt rfl) (Y.assign rfl) ?_
  refine Run.to_end ?_
  refine Ex.end_block ?_
  refine Ex.go ?_
  refine Tr.region ?_
  refine Run.val (lt rfl) (Y.add rfl rfl (by omega)) ?_
  refine Run.val (lt rfl) (Y.move rfl) ?_
  refine Run.to_end ?_
  exact Ex.round (i + 1) (by show i + 1 ≤ bs.length; omega) (by omega) rfl rfl (subB_cons (by first | rfl | exact congrArg (fun z => some (Value.int _ z)) (by omega) | exact congrArg (fun z => some (Value.int _ z)) (val_take (by omega)).symm) (subB_cons (by first | rfl | exact congrArg (fun z => some (Value.int _ z)) (by omega) | exact congrArg (fun z => some (Value.int _ z)) (val_take (by omega)).symm) (subB_cons (by first | rfl | exact congrArg (fun z => some (Value.int _ z)) (by omega) | exact congrArg (fun z => some (Value.int _ z)) (val_take (by omega)).symm) (subB_cons (by first | rfl | exact congrArg (fun z => some (Value.int _ z)) (by omega) | exact congrArg (fun z => some (Value.int _ z)) (val_take (by omega)).symm) (subB_nil _)))))
 ·have g1 := h1
  try simp only [kb] at g1
  refine Tr.cond_f rfl h1 ?_
  refine Tr.to_exit ?_
  refine Ex.exit_then ?_
  refine Ex.exit_then ?_
  refine Ex.exit_in ?_
  refine Ex.go ?_
  refine Tr.seq ?_
  refine Tr.region ?_
  refine Run.val (lt rfl) (Y.move rfl) ?_
  refine Run.val (lt rfl) (Y.assign rfl) ?_
  refine Run.val (lt rfl) (Y.assign rfl) ?_
  refine Run.to_end ?_
  refine Ex.go ?_
  refine Tr.to_ret ?_
  exact Ex.ret2 rfl rfl rfl  ⟨by rw [List.take_of_length_le (by omega)], rfl, rfl⟩

theorem rnumber_c {V : Vw} {H : Hp} {bs : List UInt8} {pb : Option Addr} {cb : Nat} (hvb : Rd V H 1 (.slice pb bs.length cb) bs.length (bs.map byteV)) (h4 : bs.length = 4)  : Does Try.prog 70 [.slice pb bs.length cb] V H (Pv (.tuple #[.int .i64 (val bs), .int .i64 0]) V H) := by
 refine Does.intro Try.func70 rfl rfl (le rfl) (fun B => ?_)
 refine Tr.seq ?_
 refine Tr.region ?_
 refine Run.val (lt rfl) (Y.assign rfl) ?_
 refine Run.val (lt rfl) (Y.assign rfl) ?_
 refine Run.to_end ?_
 refine Ex.go ?_
 refine Tr.seq ?_
 refine Tr.seq ?_
 refine Tr.region ?_
 refine Run.val (lt rfl) (Y.move rfl) ?_
 refine Run.val (lt rfl) (Y.lenSl rfl Opt2_es22) ?_
 refine Run.val (lt rfl) (Y.int rfl rfl rfl) ?_
 refine Run.val (lt rfl) (Y.move rfl) ?_
 refine Run.on rfl rfl rfl (by rw [h4]; rfl) ?_
 refine Run.val (lt rfl) (Y.move rfl) ?_
 refine Run.on rfl rfl rfl (by rw [h4]; rfl) ?_
 refine Run.val (lt rfl) (Y.lenSl rfl Opt2_es22) ?_
 refine Run.on rfl rfl rfl (by rw [h4]; rfl) ?_
 refine Run.val (lt rfl) (Y.int rfl rfl rfl) ?_
 refine Run.val (lt rfl) (Y.pick_t rfl (by rw [h4]; rfl) rfl) ?_
 refine Run.val (lt rfl) (Y.move rfl) ?_
 refine Run.on rfl rfl rfl (by rw [h4]; rfl) ?_
 refine Run.val (lt rfl) (Y.move rfl) ?_
 refine Run.on rfl rfl rfl (by rw [h4]; rfl) ?_
 refine Run.val (lt rfl) (Y.lenSl rfl Opt2_es22) ?_
 refine Run.on rfl rfl rfl (by rw [h4]; rfl) ?_
 refine Run.val (lt rfl) (Y.int rfl rfl rfl) ?_
 refine Run.val (lt rfl) (Y.pick_t rfl (by rw [h4]; rfl) rfl) ?_
 refine Run.to_end ?_
 refine Ex.go ?_
 refine Tr.cond_f rfl (by rw [h4]; rfl) ?_
 refine Tr.to_end ?_
 refine Ex.go ?_
 refine Tr.seq ?_
 refine Tr.region ?_
 refine Run.val (lt rfl) (Y.assign rfl) ?_
 refine Run.to_end ?_
 refine Ex.go ?_
 refine Tr.seq ?_
 refine Tr.seq ?_
 refine Tr.region ?_
 refine Run.val (lt rfl) (Y.assign rfl) ?_
 refine Run.to_end ?_
 refine Ex.go ?_
 refine Tr.block ?_
 refine Tr.loop (X := Nat) (fun i => V) (fun i => H) (fun i => [(0, .slice pb bs.length cb), (4, .int .i64 (val (bs.take i))), (5, .int .i64 (i : Int))]) (fun i => i ≤ bs.length) (fun i => bs.length - i) 0 (Nat.zero_le _) (fun a w i => ⟨i.1.sub (subB_cons (by first | rfl | exact congrArg (fun z => some (Value.int _ z)) (by omega) | exact congrArg (fun z => some (Value.int _ z)) (val_take (by omega)).symm) (subB_cons (by first | rfl | exact congrArg (fun z => some (Value.int _ z)) (by omega) | exact congrArg (fun z => some (Value.int _ z)) (val_take (by omega)).symm) (subB_cons (by first | rfl | exact congrArg (fun z => some (Value.int _ z)) (by omega) | exact congrArg (fun z => some (Value.int _ z)) (val_take (by omega)).symm) (subB_nil _)))), i.2⟩) ?_
 rintro i hi
 refine Tr.seq ?_
 refine Tr.seq ?_
 refine Tr.region ?_
 refine Run.val (lt rfl) (Y.move rfl) ?_
 refine Run.val (lt rfl) (Y.move rfl) ?_
 refine Run.val (lt rfl) (Y.lenSl rfl Opt2_es22) ?_
 refine Run.val (lt rfl) (Y.int rfl rfl rfl) ?_
 refine Run.to_end ?_
 refine Ex.go ?_
 rcases Bool.eq_false_or_eq_true (decide ((i : Int) < ((bs.length : Nat) : Int))) with h1 | h1
 ·have g1 := h1
  try simp only [kb] at g1
  obtain ⟨b, off, c2, cs, e, fz, hw, hc, hkb, hcs⟩ := hvb.opened (by omega)
  obtain ⟨rfl, rfl⟩ : pb = some ⟨b, off, none⟩ ∧ cb = c2 := by cases hw; exact ⟨rfl, rfl⟩
  clear hw
  have hs := val_small (l := bs.take i) (by simp; omega)
  have hb := u8_lt (bs.getD i 0)
  refine Tr.cond_t rfl h1 ?_
  refine Tr.to_end ?_
  refine Ex.go ?_
  refine Tr.seq ?_
  refine Tr.block ?_
  refine Tr.region ?_
  refine Run.val (lt rfl) (Y.move rfl) ?_
  refine Run.val (lt rfl) (Y.mul rfl rfl (by omega)) ?_
  refine Run.val (lt rfl) (Y.move rfl) ?_
  refine Run.val (lt rfl) (Y.move rfl) ?_
  refine Run.val (lt rfl) (Y.idxAddr rfl rfl Opt2_es22 (by omega) (by omega)) ?_
  refine Run.val (lt rfl) (Y.load rfl Opt2_ts5 hkb (at1 hcs (by omega) (map_at byteV 0 (by omega)))) ?_
  refine Run.val (lt rfl) (Y.conv (((bs.getD i 0).toNat : Int)) rfl Opt2_it5_3 (wrap_i64 (by omega))) ?_
  refine Run.val (lt rfl) (Y.add rfl rfl (by omega)) ?_
  refine Run.val (lt rfl) (Y.assign rfl) ?_
  refine Run.to_end ?_
  refine Ex.end_block ?_
  refine Ex.go ?_
  refine Tr.region ?_
  refine Run.val (lt rfl) (Y.move rfl) ?_
  refine Run.val (lt rfl) (Y.add rfl rfl (by omega)) ?_
  refine Run.val (lt rfl) (Y.assign rfl) ?_
  refine Run.to_end ?_
  exact Ex.round (i + 1) (by show i + 1 ≤ bs.length; omega) (by omega) rfl rfl (subB_cons (by first | rfl | exact congrArg (fun z => some (Value.int _ z)) (by omega) | exact congrArg (fun z => some (Value.int _ z)) (val_take (by omega)).symm) (subB_cons (by first | rfl | exact congrArg (fun z => some (Value.int _ z)) (by omega) | exact congrArg (fun z => some (Value.int _ z)) (val_take (by omega)).symm) (subB_cons (by first | rfl | exact congrArg (fun z => some (Value.int _ z)) (by omega) | exact congrArg (fun z => some (Value.int _ z)) (val_take (by omega)).symm) (subB_nil _))))
 ·have g1 := h1
  try simp only [kb] at g1
  refine Tr.cond_f rfl h1 ?_
  refine Tr.to_exit ?_
  refine Ex.exit_then ?_
  refine Ex.exit_then ?_
  refine Ex.exit_in ?_
  refine Ex.go ?_
  refine Tr.seq ?_
  refine Tr.region ?_
  refine Run.val (lt rfl) (Y.move rfl) ?_
  refine Run.val (lt rfl) (Y.assign rfl) ?_
  refine Run.val (lt rfl) (Y.assign rfl) ?_
  refine Run.to_end ?_
  refine Ex.go ?_
  refine Tr.to_ret ?_
  exact Ex.ret2 rfl rfl rfl  ⟨by rw [List.take_of_length_le (by omega)], rfl, rfl⟩

theorem rnumber_o {V : Vw} {H : Hp} {bs : List UInt8} {pb : Option Addr} {cb : Nat} (hvb : Rd V H 1 (.slice pb bs.length cb) bs.length (bs.map byteV)) (h4 : ¬ bs.length = 4)  : Does Try.prog 70 [.slice pb bs.length cb] V H (fun u V' H' => V' = V ∧ H' = H ∧ ∃ n e, u = .tuple #[.int .i64 n, .int .i64 e]) := by
 refine Does.intro Try.func70 rfl rfl (le rfl) (fun B => ?_)
 refine Tr.seq ?_
 refine Tr.region ?_
 refine Run.val (lt rfl) (Y.assign rfl) ?_
 refine Run.val (lt rfl) (Y.assign rfl) ?_
 refine Run.to_end ?_
 refine Ex.go ?_
 refine Tr.seq ?_
 refine Tr.seq ?_
 refine Tr.region ?_
 refine Run.val (lt rfl) (Y.move rfl) ?_
 refine Run.val (lt rfl) (Y.lenSl rfl Opt2_es22) ?_
 refine Run.val (lt rfl) (Y.int rfl rfl rfl) ?_
 refine Run.val (lt rfl) (Y.move rfl) ?_
 rcases Bool.eq_false_or_eq_true (((bs.length : Nat) : Int) != 1) with h1 | h1
 ·have g1 := h1
  try simp only [kb] at g1
  refine Run.on rfl rfl rfl h1 ?_
  refine Run.val (lt rfl) (Y.move rfl) ?_
  refine Run.on rfl rfl rfl h1 ?_
  refine Run.val (lt rfl) (Y.lenSl rfl Opt2_es22) ?_
  refine Run.on rfl rfl rfl h1 ?_
  refine Run.val (lt rfl) (Y.int rfl rfl rfl) ?_
  refine Run.val (lt rfl) (Y.pick_t rfl h1 rfl) ?_
  refine Run.val (lt rfl) (Y.move rfl) ?_
  rcases Bool.eq_false_or_eq_true (((bs.length : Nat) : Int) != 2) with h2 | h2
  ·have g2 := h2
   try simp only [kb] at g2
   refine Run.on rfl rfl rfl h2 ?_
   refine Run.val (lt rfl) (Y.move rfl) ?_
   refine Run.on rfl rfl rfl h2 ?_
   refine Run.val (lt rfl) (Y.lenSl rfl Opt2_es22) ?_
   refine Run.on rfl rfl rfl h2 ?_
   refine Run.val (lt rfl) (Y.int rfl rfl rfl) ?_
   refine Run.val (lt rfl) (Y.pick_t rfl h2 rfl) ?_
   refine Run.to_end ?_
   refine Ex.go ?_
   refine Tr.cond_t rfl (bne_iff_ne.2 (by omega)) ?_
   refine Tr.seq ?_
   refine Tr.region ?_
   refine Run.val (lt rfl) (Y.assign rfl) ?_
   refine Run.val (lt rfl) (Y.assign rfl) ?_
   refine Run.to_end ?_
   refine Ex.go ?_
   refine Tr.to_ret ?_
   refine Ex.ret_then ?_
   exact Ex.ret2 rfl rfl rfl  ⟨rfl, rfl, _, _, rfl⟩
  ·have g2 := h2
   try simp only [kb] at g2
   refine Run.off rfl rfl rfl h2 rfl (lt rfl) ?_
   refine Run.off rfl rfl rfl h2 rfl (lt rfl) ?_
   refine Run.off rfl rfl rfl h2 rfl (lt rfl) ?_
   refine Run.val (lt rfl) (Y.pick_f rfl h2 rfl) ?_
   refine Run.to_end ?_
   refine Ex.go ?_
   refine Tr.cond_f rfl rfl ?_
   refine Tr.to_end ?_
   refine Ex.go ?_
   refine Tr.seq ?_
   refine Tr.region ?_
   refine Run.val (lt rfl) (Y.assign rfl) ?_
   refine Run.to_end ?_
   refine Ex.go ?_
   refine Tr.seq ?_
   refine Tr.seq ?_
   refine Tr.region ?_
   refine Run.val (lt rfl) (Y.assign rfl) ?_
   refine Run.to_end ?_
   refine Ex.go ?_
   refine Tr.block ?_
   refine Tr.loop (X := Nat) (fun i => V) (fun i => H) (fun i => [(0, .slice pb bs.length cb), (4, .int .i64 (val (bs.take i))), (5, .int .i64 (i : Int))]) (fun i => i ≤ bs.length) (fun i => bs.length - i) 0 (Nat.zero_le _) (fun a w i => ⟨i.1.sub (subB_cons (by first | rfl | exact congrArg (fun z => some (Value.int _ z)) (by omega) | exact congrArg (fun z => some (Value.int _ z)) (val_take (by omega)).symm) (subB_cons (by first | rfl | exact congrArg (fun z => some (Value.int _ z)) (by omega) | exact congrArg (fun z => some (Value.int _ z)) (val_take (by omega)).symm) (subB_cons (by first | rfl | exact congrArg (fun z => some (Value.int _ z)) (by omega) | exact congrArg (fun z => some (Value.int _ z)) (val_take (by omega)).symm) (subB_nil _)))), i.2⟩) ?_
   rintro i hi
   refine Tr.seq ?_
   refine Tr.seq ?_
   refine Tr.region ?_
   refine Run.val (lt rfl) (Y.move rfl) ?_
   refine Run.val (lt rfl) (Y.move rfl) ?_
   refine Run.val (lt rfl) (Y.lenSl rfl Opt2_es22) ?_
   refine Run.val (lt rfl) (Y.int rfl rfl rfl) ?_
   refine Run.to_end ?_
   refine Ex.go ?_
   rcases Bool.eq_false_or_eq_true (decide ((i : Int) < ((bs.length : Nat) : Int))) with h3 | h3
   ·have g3 := h3
    try simp only [kb] at g3
    obtain ⟨b, off, c2, cs, e, fz, hw, hc, hkb, hcs⟩ := hvb.opened (by omega)
    obtain ⟨rfl, rfl⟩ : pb = some ⟨b, off, none⟩ ∧ cb = c2 := by cases hw; exact ⟨rfl, rfl⟩
    clear hw
    have hs := val_small (l := bs.take i) (by simp; omega)
    have hb := u8_lt (bs.getD i 0)
    refine Tr.cond_t rfl h3 ?_
    refine Tr.to_end ?_
    refine Ex.go ?_
    refine Tr.seq ?_
    refine Tr.block ?_
    refine Tr.region ?_
    refine Run.val (lt rfl) (Y.move rfl) ?_
    refine Run.val (lt rfl) (Y.mul rfl rfl (by omega)) ?_
    refine Run.val (lt rfl) (Y.move rfl) ?_
    refine Run.val (lt rfl) (Y.move rfl) ?_
    refine Run.val (lt rfl) (Y.idxAddr rfl rfl Opt2_es22 (by omega) (by omega)) ?_
    refine Run.val (lt rfl) (Y.load rfl Opt2_ts5 hkb (at1 hcs (by omega) (map_at byteV 0 (by omega)))) ?_
    refine Run.val (lt rfl) (Y.conv (((bs.getD i 0).toNat : Int)) rfl Opt2_it5_3 (wrap_i64 (by omega))) ?_
    refine Run.val (lt rfl) (Y.add rfl rfl (by omega)) ?_
    refine Run.val (lt rfl) (Y.assign rfl) ?_
    refine Run.to_end ?_
    refine Ex.end_block ?_
    refine Ex.go ?_
    refine Tr.region ?_
    refine Run.val (lt rfl) (Y.move rfl) ?_
    refine Run.val (lt rfl) (Y.add rfl rfl (by omega)) ?_
    refine Run.val (lt rfl) (Y.assign rfl) ?_
    refine Run.to_end ?_
    exact Ex.round (i + 1) (by show i + 1 ≤ bs.length; omega) (by omega) rfl rfl (subB_cons (by first | rfl | exact congrArg (fun z => some (Value.int _ z)) (by omega) | exact congrArg (fun z => some (Value.int _ z)) (val_take (by omega)).symm) (subB_cons (by first | rfl | exact congrArg (fun z => some (Value.int _ z)) (by omega) | exact congrArg (fun z => some (Value.int _ z)) (val_take (by omega)).symm) (subB_cons (by first | rfl | exact congrArg (fun z => some (Value.int _ z)) (by omega) | exact congrArg (fun z => some (Value.int _ z)) (val_take (by omega)).symm) (subB_nil _))))
   ·have g3 := h3
    try simp only [kb] at g3
    refine Tr.cond_f rfl h3 ?_
    refine Tr.to_exit ?_
    refine Ex.exit_then ?_
    refine Ex.exit_then ?_
    refine Ex.exit_in ?_
    refine Ex.go ?_
    refine Tr.seq ?_
    refine Tr.region ?_
    refine Run.val (lt rfl) (Y.move rfl) ?_
    refine Run.val (lt rfl) (Y.assign rfl) ?_
    refine Run.val (lt rfl) (Y.assign rfl) ?_
    refine Run.to_end ?_
    refine Ex.go ?_
    refine Tr.to_ret ?_
    exact Ex.ret2 rfl rfl rfl  ⟨rfl, rfl, _, _, rfl⟩
 ·have g1 := h1
  try simp only [kb] at g1
  refine Run.off rfl rfl rfl h1 rfl (lt rfl) ?_
  refine Run.off rfl rfl rfl h1 rfl (lt rfl) ?_
  refine Run.off rfl rfl rfl h1 rfl (lt rfl) ?_
  refine Run.val (lt rfl) (Y.pick_f rfl h1 rfl) ?_
  refine Run.val (lt rfl) (Y.move rfl) ?_
  refine Run.off rfl rfl rfl rfl rfl (lt rfl) ?_
  refine Run.off rfl rfl rfl rfl rfl (lt rfl) ?_
  refine Run.off rfl rfl rfl rfl rfl (lt rfl) ?_
  refine Run.val (lt rfl) (Y.pick_f rfl rfl rfl) ?_
  refine Run.to_end ?_
  refine Ex.go ?_
  refine Tr.cond_f rfl rfl ?_
  refine Tr.to_end ?_
  refine Ex.go ?_
  refine Tr.seq ?_
  refine Tr.region ?_
  refine Run.val (lt rfl) (Y.assign rfl) ?_
  refine Run.to_end ?_
  refine Ex.go ?_
  refine Tr.seq ?_
  refine Tr.seq ?_
  refine Tr.region ?_
  refine Run.val (lt rfl) (Y.assign rfl) ?_
  refine Run.to_end ?_
  refine Ex.go ?_
  refine Tr.block ?_
  refine Tr.loop (X := Nat) (fun i => V) (fun i => H) (fun i => [(0, .slice pb bs.length cb), (4, .int .i64 (val (bs.take i))), (5, .int .i64 (i : Int))]) (fun i => i ≤ bs.length) (fun i => bs.length - i) 0 (Nat.zero_le _) (fun a w i => ⟨i.1.sub (subB_cons (by first | rfl | exact congrArg (fun z => some (Value.int _ z)) (by omega) | exact congrArg (fun z => some (Value.int _ z)) (val_take (by omega)).symm) (subB_cons (by first | rfl | exact congrArg (fun z => some (Value.int _ z)) (by omega) | exact congrArg (fun z => some (Value.int _ z)) (val_take (by omega)).symm) (subB_cons (by first | rfl | exact congrArg (fun z => some (Value.int _ z)) (by omega) | exact congrArg (fun z => some (Value.int _ z)) (val_take (by omega)).symm) (subB_nil _)))), i.2⟩) ?_
  rintro i hi
  refine Tr.seq ?_
  refine Tr.seq ?_
  refine Tr.region ?_
  refine Run.val (lt rfl) (Y.move rfl) ?_
  refine Run.val (lt rfl) (Y.move rfl) ?_
  refine Run.val (lt rfl) (Y.lenSl rfl Opt2_es22) ?_
  refine Run.val (lt rfl) (Y.int rfl rfl rfl) ?_
  refine Run.to_end ?_
  refine Ex.go ?_
  rcases Bool.eq_false_or_eq_true (decide ((i : Int) < ((bs.length : Nat) : Int))) with h4 | h4
  ·have g4 := h4
   try simp only [kb] at g4
   obtain ⟨b, off, c2, cs, e, fz, hw, hc, hkb, hcs⟩ := hvb.opened (by omega)
   obtain ⟨rfl, rfl⟩ : pb = some ⟨b, off, none⟩ ∧ cb = c2 := by cases hw; exact ⟨rfl, rfl⟩
   clear hw
   have hs := val_small (l := bs.take i) (by simp; omega)
   have hb := u8_lt (bs.getD i 0)
   refine Tr.cond_t rfl h4 ?_
   refine Tr.to_end ?_
   refine Ex.go ?_
   refine Tr.seq ?_
   refine Tr.block ?_
   refine Tr.region ?_
   refine Run.val (lt rfl) (Y.move rfl) ?_
   refine Run.val (lt rfl) (Y.mul rfl rfl (by omega)) ?_
   refine Run.val (lt rfl) (Y.move rfl) ?_
   refine Run.val (lt rfl) (Y.move rfl) ?_
   refine Run.val (lt rfl) (Y.idxAddr rfl rfl Opt2_es22 (by omega) (by omega)) ?_
   refine Run.val (lt rfl) (Y.load rfl Opt2_ts5 hkb (at1 hcs (by omega) (map_at byteV 0 (by omega)))) ?_
   refine Run.val (lt rfl) (Y.conv (((bs.getD i 0).toNat : Int)) rfl Opt2_it5_3 (wrap_i64 (by omega))) ?_
   refine Run.val (lt rfl) (Y.add rfl rfl (by omega)) ?_
   refine Run.val (lt rfl) (Y.assign rfl) ?_
   refine Run.to_end ?_
   refine Ex.end_block ?_
   refine Ex.go ?_
   refine Tr.region ?_
   refine Run.val (lt rfl) (Y.move rfl) ?_
   refine Run.val (lt rfl) (Y.add rfl rfl (by omega)) ?_
   refine Run.val (lt rfl) (Y.assign rfl) ?_
   refine Run.to_end ?_
   exact Ex.round (i + 1) (by show i + 1 ≤ bs.length; omega) (by omega) rfl rfl (subB_cons (by first | rfl | exact congrArg (fun z => some (Value.int _ z)) (by omega) | exact congrArg (fun z => some (Value.int _ z)) (val_take (by omega)).symm) (subB_cons (by first | rfl | exact congrArg (fun z => some (Value.int _ z)) (by omega) | exact congrArg (fun z => some (Value.int _ z)) (val_take (by omega)).symm) (subB_cons (by first | rfl | exact congrArg (fun z => some (Value.int _ z)) (by omega) | exact congrArg (fun z => some (Value.int _ z)) (val_take (by omega)).symm) (subB_nil _))))
  ·have g4 := h4
   try simp only [kb] at g4
   refine Tr.cond_f rfl h4 ?_
   refine Tr.to_exit ?_
   refine Ex.exit_then ?_
   refine Ex.exit_then ?_
   refine Ex.exit_in ?_
   refine Ex.go ?_
   refine Tr.seq ?_
   refine Tr.region ?_
   refine Run.val (lt rfl) (Y.move rfl) ?_
   refine Run.val (lt rfl) (Y.assign rfl) ?_
   refine Run.val (lt rfl) (Y.assign rfl) ?_
   refine Run.to_end ?_
   refine Ex.go ?_
   refine Tr.to_ret ?_
   exact Ex.ret2 rfl rfl rfl  ⟨rfl, rfl, _, _, rfl⟩

theorem number_h {V : Vw} {H : Hp} {v : Value} {bs : List UInt8} (hv : Rd V H 1 v bs.length (bs.map byteV)) (h4 : bs.length = 4) : Does Try.prog 69 [v] V H (Pv (.tuple #[.int .i64 (val bs), .int .i64 0]) V H) := by
  obtain ⟨p, c, rfl, _⟩ := hv.form
  exact number_c hv h4
theorem rnumber_h {V : Vw} {H : Hp} {v : Value} {bs : List UInt8} (hv : Rd V H 1 v bs.length (bs.map byteV)) (h4 : bs.length = 4) : Does Try.prog 70 [v] V H (Pv (.tuple #[.int .i64 (val bs), .int .i64 0]) V H) := by
  obtain ⟨p, c, rfl, _⟩ := hv.form
  exact rnumber_c hv h4
theorem rnumber_oh {V : Vw} {H : Hp} {v : Value} {bs : List UInt8} (hv : Rd V H 1 v bs.length (bs.map byteV)) (h4 : ¬ bs.length = 4) : Does Try.prog 70 [v] V H (fun u V' H' => V' = V ∧ H' = H ∧ ∃ n e, u = .tuple #[.int .i64 n, .int .i64 e]) := by
  obtain ⟨p, c, rfl, _⟩ := hv.form
  exact rnumber_o hv h4

theorem num_c {V : Vw} {L : List Opn} {po : Option Addr} {co : Nat} (ho : Rd V [] 2 (.slice po L.length co) L.length (L.map Opn.cells).flatten) (hr : Opn.Rds V L) (hL : L.length ≤ 1000000) {p : Pc} {ph : Option Addr} {ch : Nat} (hh : Rd V [] 1 (.slice ph p.hw.length ch) p.hw.length (p.hw.map byteV)) (hLp : L.map Opn.c = p.os) {code other : Int} (hf : Oc.few (L.map Opn.c) = true)  : Does Try.prog 55 [.agg #[.int .i64 p.op, .int .u32 p.xid, .int .i64 p.secs, .int .i64 p.flags, .int .u32 p.ci, .int .u32 p.yi, .int .u32 p.si, .int .u32 p.gi, .slice ph p.hw.length ch, .slice po L.length co], .int .i64 code, .int .i64 other] V [] (Pv (.int .i64 (Pc.num p code other)) V []) := by
 refine Does.intro Try.func55 rfl rfl (le rfl) (fun B => ?_)
 refine Tr.seq ?_
 refine Tr.region ?_
 refine Run.box rfl (lt rfl) (fun b1 => ?_)
 refine Run.val (lt rfl) (Y.assign rfl) ?_
 refine Run.to_end ?_
 refine Ex.go ?_
 refine Tr.seq ?_
 refine Tr.region ?_
 refine Run.val (lt rfl) (Y.fieldAddr rfl Opt2_fo36_9) ?_
 refine Run.val (lt rfl) (Y.load rfl Opt2_ts34 (Kn.at 0 rfl) rfl) ?_
 refine Run.val (lt rfl) (Y.move rfl) ?_
 refine Run.call [] (l := [.tmp 13, .tmp 14]) rfl rfl rfl (lt rfl) (find_c (code := code) ho hr hL hf) (fun v2 V2 H2 _ hR => ?_)
 obtain ⟨hV, z3, s4, rfl, rfl, ho5⟩ := hR; replace hV := hV.symm; subst hV; obtain ⟨p6, c7, rfl⟩ := ho5.form
 refine Run.val (lt rfl) (Y.move rfl) ?_
 refine Run.val (lt rfl) (Y.extract rfl rfl) ?_
 refine Run.val (lt rfl) (Y.extract rfl rfl) ?_
 refine Run.val (lt rfl) (Y.assign rfl) ?_
 refine Run.val (lt rfl) (Y.assign rfl) ?_
 refine Run.to_end ?_
 refine Ex.go ?_
 refine Tr.seq ?_
 refine Tr.seq ?_
 refine Tr.region ?_
 refine Run.val (lt rfl) (Y.move rfl) ?_
 refine Run.val (lt rfl) (Y.lenSl rfl Opt2_es22) ?_
 refine Run.val (lt rfl) (Y.int rfl rfl rfl) ?_
 refine Run.to_end ?_
 refine Ex.go ?_
 rcases Bool.eq_false_or_eq_true ((((Oc.fd code (L.map Opn.c)).length : Nat) : Int) != 4) with h8 | h8
 ·have g8 := h8
  try simp only [kb] at g8
  refine Tr.cond_t rfl h8 ?_
  refine Tr.seq ?_
  refine Tr.region ?_
  refine Run.val (lt rfl) (Y.move rfl) ?_
  refine Run.val (lt rfl) (Y.assign rfl) ?_
  refine Run.to_end ?_
  refine Ex.go ?_
  refine Tr.to_ret ?_
  refine Ex.ret_then ?_
  refine Ex.keep [] ?_
  exact Ex.ret1 rfl rfl  ⟨congrArg (Value.int _) (by unfold Pc.num; rw [← hLp, if_neg (by omega)]), rfl, rfl⟩
 ·have g8 := h8
  try simp only [kb] at g8
  refine Tr.cond_f rfl h8 ?_
  refine Tr.to_end ?_
  refine Ex.go ?_
  refine Tr.seq ?_
  refine Tr.region ?_
  refine Run.val (lt rfl) (Y.move rfl) ?_
  refine Run.call0 (l := [.tmp 23]) rfl rfl rfl (lt rfl) (number_h (bs := (Oc.fd code (L.map Opn.c))) (ho5.rd 1 rfl) (by omega)) ?_
  refine Run.val (lt rfl) (Y.move rfl) ?_
  refine Run.val (lt rfl) (Y.extract rfl rfl) ?_
  refine Run.val (lt rfl) (Y.extract rfl rfl) ?_
  refine Run.val (lt rfl) (Y.assign rfl) ?_
  refine Run.val (lt rfl) (Y.assign rfl) ?_
  refine Run.to_end ?_
  refine Ex.go ?_
  refine Tr.seq ?_
  refine Tr.region ?_
  refine Run.val (lt rfl) (Y.move rfl) ?_
  refine Run.val (lt rfl) (Y.assign rfl) ?_
  refine Run.to_end ?_
  refine Ex.go ?_
  refine Tr.to_ret ?_
  refine Ex.keep [] ?_
  exact Ex.ret1 rfl rfl  ⟨congrArg (Value.int _) (by unfold Pc.num; rw [← hLp, if_pos (by omega)]), rfl, rfl⟩

theorem rnum_y {V : Vw} {L : List Opn} {po : Option Addr} {co : Nat} (ho : Rd V [] 2 (.slice po L.length co) L.length (L.map Opn.cells).flatten) (hr : Opn.Rds V L) (hL : L.length ≤ 1000000) {p : Pc} {ph : Option Addr} {ch : Nat} (hh : Rd V [] 1 (.slice ph p.hw.length ch) p.hw.length (p.hw.map byteV)) (hLp : L.map Opn.c = p.os) {code other : Int} (h4 : (Oc.fd code (L.map Opn.c)).length = 4)  : Does Try.prog 61 [.agg #[.int .i64 p.op, .int .u32 p.xid, .int .i64 p.secs, .int .i64 p.flags, .int .u32 p.ci, .int .u32 p.yi, .int .u32 p.si, .int .u32 p.gi, .slice ph p.hw.length ch, .slice po L.length co], .int .i64 code, .int .i64 other] V [] (Pv (.int .i64 (Pc.num p code other)) V []) := by
 refine Does.intro Try.func61 rfl rfl (le rfl) (fun B => ?_)
 refine Tr.seq ?_
 refine Tr.region ?_
 refine Run.box rfl (lt rfl) (fun b1 => ?_)
 refine Run.val (lt rfl) (Y.assign rfl) ?_
 refine Run.to_end ?_
 refine Ex.go ?_
 refine Tr.seq ?_
 refine Tr.region ?_
 refine Run.val (lt rfl) (Y.fieldAddr rfl Opt2_fo36_9) ?_
 refine Run.val (lt rfl) (Y.load rfl Opt2_ts34 (Kn.at 0 rfl) rfl) ?_
 refine Run.val (lt rfl) (Y.move rfl) ?_
 refine Run.call [] (l := [.tmp 13, .tmp 14]) rfl rfl rfl (lt rfl) (rfind_c (code := code) ho hr hL) (fun v2 V2 H2 _ hR => ?_)
 obtain ⟨hV, rfl, z3, rfl, hd4⟩ := hR; replace hV := hV.symm; subst hV; obtain ⟨p5, c6, rfl, _⟩ := hd4.form
 refine Run.val (lt rfl) (Y.move rfl) ?_
 refine Run.val (lt rfl) (Y.extract rfl rfl) ?_
 refine Run.val (lt rfl) (Y.extract rfl rfl) ?_
 refine Run.val (lt rfl) (Y.assign rfl) ?_
 refine Run.val (lt rfl) (Y.assign rfl) ?_
 refine Run.to_end ?_
 refine Ex.go ?_
 refine Tr.seq ?_
 refine Tr.region ?_
 refine Run.val (lt rfl) (Y.move rfl) ?_
 refine Run.call0 (l := [.tmp 19]) rfl rfl rfl (lt rfl) (rnumber_h (bs := (Oc.fd code (L.map Opn.c))) hd4.of_nil h4) ?_
 refine Run.val (lt rfl) (Y.move rfl) ?_
 refine Run.val (lt rfl) (Y.extract rfl rfl) ?_
 refine Run.val (lt rfl) (Y.extract rfl rfl) ?_
 refine Run.val (lt rfl) (Y.assign rfl) ?_
 refine Run.val (lt rfl) (Y.assign rfl) ?_
 refine Run.to_end ?_
 refine Ex.go ?_
 refine Tr.seq ?_
 refine Tr.seq ?_
 refine Tr.region ?_
 refine Run.val (lt rfl) (Y.move rfl) ?_
 refine Run.val (lt rfl) (Y.int (r := .bool false) rfl rfl rfl) ?_
 refine Run.val (lt rfl) (Y.move rfl) ?_
 refine Run.on rfl rfl rfl rfl ?_
 refine Run.val (lt rfl) (Y.move rfl) ?_
 refine Run.on rfl rfl rfl rfl ?_
 refine Run.val (lt rfl) (Y.lenSl rfl Opt2_es22) ?_
 refine Run.on rfl rfl rfl rfl ?_
 refine Run.val (lt rfl) (Y.int rfl rfl rfl) ?_
 refine Run.val (lt rfl) (Y.pick_f rfl rfl rfl) ?_
 refine Run.to_end ?_
 refine Ex.go ?_
 refine Tr.cond_f rfl (by rw [h4]; rfl) ?_
 refine Tr.to_end ?_
 refine Ex.go ?_
 refine Tr.seq ?_
 refine Tr.region ?_
 refine Run.val (lt rfl) (Y.move rfl) ?_
 refine Run.val (lt rfl) (Y.assign rfl) ?_
 refine Run.to_end ?_
 refine Ex.go ?_
 refine Tr.to_ret ?_
 refine Ex.keep [] ?_
 exact Ex.ret1 rfl rfl  ⟨congrArg (Value.int _) (by unfold Pc.num; rw [← hLp, if_pos h4]), rfl, rfl⟩

theorem rnum_n {V : Vw} {L : List Opn} {po : Option Addr} {co : Nat} (ho : Rd V [] 2 (.slice po L.length co) L.length (L.map Opn.cells).flatten) (hr : Opn.Rds V L) (hL : L.length ≤ 1000000) {p : Pc} {ph : Option Addr} {ch : Nat} (hh : Rd V [] 1 (.slice ph p.hw.length ch) p.hw.length (p.hw.map byteV)) (hLp : L.map Opn.c = p.os) {code other : Int} (h4 : ¬ (Oc.fd code (L.map Opn.c)).length = 4)  : Does Try.prog 61 [.agg #[.int .i64 p.op, .int .u32 p.xid, .int .i64 p.secs, .int .i64 p.flags, .int .u32 p.ci, .int .u32 p.yi, .int .u32 p.si, .int .u32 p.gi, .slice ph p.hw.length ch, .slice po L.length co], .int .i64 code, .int .i64 other] V [] (Pv (.int .i64 (Pc.num p code other)) V []) := by
 refine Does.intro Try.func61 rfl rfl (le rfl) (fun B => ?_)
 refine Tr.seq ?_
 refine Tr.region ?_
 refine Run.box rfl (lt rfl) (fun b1 => ?_)
 refine Run.val (lt rfl) (Y.assign rfl) ?_
 refine Run.to_end ?_
 refine Ex.go ?_
 refine Tr.seq ?_
 refine Tr.region ?_
 refine Run.val (lt rfl) (Y.fieldAddr rfl Opt2_fo36_9) ?_
 refine Run.val (lt rfl) (Y.load rfl Opt2_ts34 (Kn.at 0 rfl) rfl) ?_
 refine Run.val (lt rfl) (Y.move rfl) ?_
 refine Run.call [] (l := [.tmp 13, .tmp 14]) rfl rfl rfl (lt rfl) (rfind_c (code := code) ho hr hL) (fun v2 V2 H2 _ hR => ?_)
 obtain ⟨hV, rfl, z3, rfl, hd4⟩ := hR; replace hV := hV.symm; subst hV; obtain ⟨p5, c6, rfl, _⟩ := hd4.form
 refine Run.val (lt rfl) (Y.move rfl) ?_
 refine Run.val (lt rfl) (Y.extract rfl rfl) ?_
 refine Run.val (lt rfl) (Y.extract rfl rfl) ?_
 refine Run.val (lt rfl) (Y.assign rfl) ?_
 refine Run.val (lt rfl) (Y.assign rfl) ?_
 refine Run.to_end ?_
 refine Ex.go ?_
 refine Tr.seq ?_
 refine Tr.region ?_
 refine Run.val (lt rfl) (Y.move rfl) ?_
 refine Run.call [] (l := [.tmp 19]) rfl rfl rfl (lt rfl) (rnumber_oh (bs := (Oc.fd code (L.map Opn.c))) hd4 h4) (fun v7 V2 H2 _ hR => ?_)
 obtain ⟨hV, rfl, n8, e9, rfl⟩ := hR; replace hV := hV.symm; subst hV
 refine Run.val (lt rfl) (Y.move rfl) ?_
 refine Run.val (lt rfl) (Y.extract rfl rfl) ?_
 refine Run.val (lt rfl) (Y.extract rfl rfl) ?_
 refine Run.val (lt rfl) (Y.assign rfl) ?_
 refine Run.val (lt rfl) (Y.assign rfl) ?_
 refine Run.to_end ?_
 refine Ex.go ?_
 refine Tr.seq ?_
 refine Tr.seq ?_
 refine Tr.region ?_
 refine Run.val (lt rfl) (Y.move rfl) ?_
 refine Run.val (lt rfl) (Y.int rfl rfl rfl) ?_
 refine Run.val (lt rfl) (Y.move rfl) ?_
 rcases Bool.eq_false_or_eq_true (e9 != 0) with h10 | h10
 ·have g10 := h10
  try simp only [kb] at g10
  refine Run.off rfl rfl rfl h10 rfl (lt rfl) ?_
  refine Run.off rfl rfl rfl h10 rfl (lt rfl) ?_
  refine Run.off rfl rfl rfl h10 rfl (lt rfl) ?_
  refine Run.val (lt rfl) (Y.pick_t rfl h10 rfl) ?_
  refine Run.to_end ?_
  refine Ex.go ?_
  refine Tr.cond_t rfl rfl ?_
  refine Tr.seq ?_
  refine Tr.region ?_
  refine Run.val (lt rfl) (Y.move rfl) ?_
  refine Run.val (lt rfl) (Y.assign rfl) ?_
  refine Run.to_end ?_
  refine Ex.go ?_
  refine Tr.to_ret ?_
  refine Ex.ret_then ?_
  refine Ex.keep [] ?_
  exact Ex.ret1 rfl rfl  ⟨congrArg (Value.int _) (by unfold Pc.num; rw [← hLp, if_neg h4]), rfl, rfl⟩
 ·have g10 := h10
  try simp only [kb] at g10
  refine Run.on rfl rfl rfl h10 ?_
  refine Run.val (lt rfl) (Y.move rfl) ?_
  refine Run.on rfl rfl rfl h10 ?_
  refine Run.val (lt rfl) (Y.lenSl rfl Opt2_es22) ?_
  refine Run.on rfl rfl rfl h10 ?_
  refine Run.val (lt rfl) (Y.int rfl rfl rfl) ?_
  refine Run.val (lt rfl) (Y.pick_f rfl h10 rfl) ?_
  refine Run.to_end ?_
  refine Ex.go ?_
  refine Tr.cond_t rfl (bne_iff_ne.2 (by omega)) ?_
  refine Tr.seq ?_
  refine Tr.region ?_
  refine Run.val (lt rfl) (Y.move rfl) ?_
  refine Run.val (lt rfl) (Y.assign rfl) ?_
  refine Run.to_end ?_
  refine Ex.go ?_
  refine Tr.to_ret ?_
  refine Ex.ret_then ?_
  refine Ex.keep [] ?_
  exact Ex.ret1 rfl rfl  ⟨congrArg (Value.int _) (by unfold Pc.num; rw [← hLp, if_neg h4]), rfl, rfl⟩

theorem num_h {V : Vw} {H : Hp} {p : Pc} {hv ov : Value} (hp : Pc.R V p hv ov) {code other : Int} (hf : Pc.few p = true) : Does Try.prog 55 [.agg (p.cells hv ov), .int .i64 code, .int .i64 other] V H (Pv (.int .i64 (Pc.num p code other)) V H) := by
  obtain ⟨ph, ch, rfl, _⟩ := hp.hw.form
  obtain ⟨L, hLp, ho, hr⟩ := hp.os
  obtain ⟨po, co, rfl, _⟩ := ho.form
  have hf' : Oc.few (L.map Opn.c) = true := by rw [hLp]; simp only [Pc.few, Bool.and_eq_true] at hf; exact hf.1
  have hL : L.length ≤ 1000000 := by have := (Oc.few_iff.1 hf').1; rw [List.length_map] at this; omega
  exact (num_c ho hr hL hp.hw hLp hf').frame
theorem rnum_h {V : Vw} {H : Hp} {p : Pc} {hv ov : Value} (hp : Pc.R V p hv ov) {code other : Int} (hf : Pc.few p = true) : Does Try.prog 61 [.agg (p.cells hv ov), .int .i64 code, .int .i64 other] V H (Pv (.int .i64 (Pc.num p code other)) V H) := by
  obtain ⟨ph, ch, rfl, _⟩ := hp.hw.form
  obtain ⟨L, hLp, ho, hr⟩ := hp.os
  obtain ⟨po, co, rfl, _⟩ := ho.form
  have hf' : Oc.few (L.map Opn.c) = true := by rw [hLp]; simp only [Pc.few, Bool.and_eq_true] at hf; exact hf.1
  have hL : L.length ≤ 1000000 := by have := (Oc.few_iff.1 hf').1; rw [List.length_map] at this; omega
  by_cases h4 : (Oc.fd code (L.map Opn.c)).length = 4
  · exact (rnum_y ho hr hL hp.hw hLp h4).frame
  · exact (rnum_n ho hr hL hp.hw hLp h4).frame

theorem kind_c {V : Vw} {L : List Opn} {po : Option Addr} {co : Nat} (ho : Rd V [] 2 (.slice po L.length co) L.length (L.map Opn.cells).flatten) (hr : Opn.Rds V L) (hL : L.length ≤ 1000000) {p : Pc} {ph : Option Addr} {ch : Nat} (hh : Rd V [] 1 (.slice ph p.hw.length ch) p.hw.length (p.hw.map byteV)) (hLp : L.map Opn.c = p.os) (hf : Oc.few (L.map Opn.c) = true)  : Does Try.prog 56 [.agg #[.int .i64 p.op, .int .u32 p.xid, .int .i64 p.secs, .int .i64 p.flags, .int .u32 p.ci, .int .u32 p.yi, .int .u32 p.si, .int .u32 p.gi, .slice ph p.hw.length ch, .slice po L.length co]] V [] (Pv (.int .i64 (Pc.kind p)) V []) := by
 refine Does.intro Try.func56 rfl rfl (le rfl) (fun B => ?_)
 refine Tr.seq ?_
 refine Tr.region ?_
 refine Run.box rfl (lt rfl) (fun b1 => ?_)
 refine Run.val (lt rfl) (Y.assign rfl) ?_
 refine Run.to_end ?_
 refine Ex.go ?_
 refine Tr.seq ?_
 refine Tr.region ?_
 refine Run.val (lt rfl) (Y.fieldAddr rfl Opt2_fo36_9) ?_
 refine Run.val (lt rfl) (Y.load rfl Opt2_ts34 (Kn.at 0 rfl) rfl) ?_
 refine Run.call [] (l := [.tmp 7, .const (.int .i64 53)]) rfl rfl rfl (lt rfl) (find_c (code := 53) ho hr hL hf) (fun v2 V2 H2 _ hR => ?_)
 obtain ⟨hV, z3, s4, rfl, rfl, ho5⟩ := hR; replace hV := hV.symm; subst hV; obtain ⟨p6, c7, rfl⟩ := ho5.form
 refine Run.val (lt rfl) (Y.move rfl) ?_
 refine Run.val (lt rfl) (Y.extract rfl rfl) ?_
 refine Run.val (lt rfl) (Y.extract rfl rfl) ?_
 refine Run.val (lt rfl) (Y.assign rfl) ?_
 refine Run.val (lt rfl) (Y.assign rfl) ?_
 refine Run.to_end ?_
 refine Ex.go ?_
 refine Tr.seq ?_
 refine Tr.seq ?_
 refine Tr.region ?_
 refine Run.val (lt rfl) (Y.move rfl) ?_
 refine Run.val (lt rfl) (Y.lenSl rfl Opt2_es22) ?_
 refine Run.val (lt rfl) (Y.int rfl rfl rfl) ?_
 refine Run.to_end ?_
 refine Ex.go ?_
 rcases Bool.eq_false_or_eq_true ((((Oc.fd 53 (L.map Opn.c)).length : Nat) : Int) != 1) with h8 | h8
 ·have g8 := h8
  try simp only [kb] at g8
  refine Tr.cond_t rfl h8 ?_
  refine Tr.seq ?_
  refine Tr.region ?_
  refine Run.val (lt rfl) (Y.assign rfl) ?_
  refine Run.to_end ?_
  refine Ex.go ?_
  refine Tr.to_ret ?_
  refine Ex.ret_then ?_
  refine Ex.keep [] ?_
  exact Ex.ret1 rfl rfl  ⟨congrArg (Value.int _) (by unfold Pc.kind; rw [← hLp, if_neg (by omega)]), rfl, rfl⟩
 ·have g8 := h8
  try simp only [kb] at g8
  refine Tr.cond_f rfl h8 ?_
  refine Tr.to_end ?_
  refine Ex.go ?_
  refine Tr.seq ?_
  refine Tr.region ?_
  obtain ⟨b5, off5, c5, cs5, e5, fz5, hw5, _, hk5, hcs5⟩ := (show Rd V [[(b1, .cells #[.int .i64 p.op, .int .u32 p.xid, .int .i64 p.secs, .int .i64 p.flags, .int .u32 p.ci, .int .u32 p.yi, .int .u32 p.si, .int .u32 p.gi, .slice ph p.hw.length ch, .slice po L.length co] 36 (0, 0))], s4] 1 (.slice p6 (Oc.fd 53 (L.map Opn.c)).length c7) (Oc.fd 53 (L.map Opn.c)).length ((Oc.fd 53 (L.map Opn.c)).map byteV) from (ho5.rd 1 rfl)).opened (by omega)
  obtain ⟨rfl, rfl⟩ : p6 = some ⟨b5, off5, none⟩ ∧ c7 = c5 := by cases hw5; exact ⟨rfl, rfl⟩
  have hb := u8_lt ((Oc.fd 53 (L.map Opn.c)).getD 0 0)
  refine Run.val (lt rfl) (Y.move rfl) ?_
  refine Run.val (lt rfl) (Y.idxAddr rfl rfl Opt2_es22 (by omega) (by omega)) ?_
  refine Run.val (lt rfl) (Y.load rfl Opt2_ts5 hk5 (at1 (i := 0) hcs5 (by omega) (map_at byteV 0 (by omega)))) ?_
  refine Run.val (lt rfl) (Y.conv ((((Oc.fd 53 (L.map Opn.c)).getD 0 0).toNat : Int)) rfl Opt2_it5_3 (wrap_i64 (by omega))) ?_
  refine Run.val (lt rfl) (Y.assign rfl) ?_
  refine Run.to_end ?_
  refine Ex.go ?_
  refine Tr.to_ret ?_
  refine Ex.keep [] ?_
  exact Ex.ret1 rfl rfl  ⟨congrArg (Value.int _) (by unfold Pc.kind; rw [← hLp, if_pos (by omega), val_of1 (by omega)]), rfl, rfl⟩

theorem rkind_c {V : Vw} {L : List Opn} {po : Option Addr} {co : Nat} (ho : Rd V [] 2 (.slice po L.length co) L.length (L.map Opn.cells).flatten) (hr : Opn.Rds V L) (hL : L.length ≤ 1000000) {p : Pc} {ph : Option Addr} {ch : Nat} (hh : Rd V [] 1 (.slice ph p.hw.length ch) p.hw.length (p.hw.map byteV)) (hLp : L.map Opn.c = p.os)  : Does Try.prog 23 [.agg #[.int .i64 p.op, .int .u32 p.xid, .int .i64 p.secs, .int .i64 p.flags, .int .u32 p.ci, .int .u32 p.yi, .int .u32 p.si, .int .u32 p.gi, .slice ph p.hw.length ch, .slice po L.length co]] V [] (Pv (.int .i64 (Pc.kind p)) V []) := by
 refine Does.intro Try.func23 rfl rfl (le rfl) (fun B => ?_)
 refine Tr.seq ?_
 refine Tr.region ?_
 refine Run.box rfl (lt rfl) (fun b1 => ?_)
 refine Run.val (lt rfl) (Y.assign rfl) ?_
 refine Run.to_end ?_
 refine Ex.go ?_
 refine Tr.seq ?_
 refine Tr.region ?_
 refine Run.val (lt rfl) (Y.fieldAddr rfl Opt2_fo36_9) ?_
 refine Run.val (lt rfl) (Y.load rfl Opt2_ts34 (Kn.at 0 rfl) rfl) ?_
 refine Run.call [] (l := [.tmp 7, .const (.int .i64 53)]) rfl rfl rfl (lt rfl) (rfind_c (code := 53) ho hr hL) (fun v2 V2 H2 _ hR => ?_)
 obtain ⟨hV, rfl, z3, rfl, hd4⟩ := hR; replace hV := hV.symm; subst hV; obtain ⟨p5, c6, rfl, _⟩ := hd4.form
 refine Run.val (lt rfl) (Y.move rfl) ?_
 refine Run.val (lt rfl) (Y.extract rfl rfl) ?_
 refine Run.val (lt rfl) (Y.extract rfl rfl) ?_
 refine Run.val (lt rfl) (Y.assign rfl) ?_
 refine Run.val (lt rfl) (Y.assign rfl) ?_
 refine Run.to_end ?_
 refine Ex.go ?_
 refine Tr.seq ?_
 refine Tr.seq ?_
 refine Tr.region ?_
 refine Run.val (lt rfl) (Y.move rfl) ?_
 refine Run.val (lt rfl) (Y.lenSl rfl Opt2_es22) ?_
 refine Run.val (lt rfl) (Y.int rfl rfl rfl) ?_
 refine Run.to_end ?_
 refine Ex.go ?_
 rcases Bool.eq_false_or_eq_true ((((Oc.fd 53 (L.map Opn.c)).length : Nat) : Int) != 1) with h7 | h7
 ·have g7 := h7
  try simp only [kb] at g7
  refine Tr.cond_t rfl h7 ?_
  refine Tr.seq ?_
  refine Tr.region ?_
  refine Run.val (lt rfl) (Y.assign rfl) ?_
  refine Run.to_end ?_
  refine Ex.go ?_
  refine Tr.to_ret ?_
  refine Ex.ret_then ?_
  refine Ex.keep [] ?_
  exact Ex.ret1 rfl rfl  ⟨congrArg (Value.int _) (by unfold Pc.kind; rw [← hLp, if_neg (by omega)]), rfl, rfl⟩
 ·have g7 := h7
  try simp only [kb] at g7
  refine Tr.cond_f rfl h7 ?_
  refine Tr.to_end ?_
  refine Ex.go ?_
  refine Tr.seq ?_
  refine Tr.region ?_
  obtain ⟨b5, off5, c5, cs5, e5, fz5, hw5, _, hk5, hcs5⟩ := (show Rd V [] 1 (.slice p5 (Oc.fd 53 (L.map Opn.c)).length c6) (Oc.fd 53 (L.map Opn.c)).length ((Oc.fd 53 (L.map Opn.c)).map byteV) from hd4).opened (by omega)
  obtain ⟨rfl, rfl⟩ : p5 = some ⟨b5, off5, none⟩ ∧ c6 = c5 := by cases hw5; exact ⟨rfl, rfl⟩
  have hb := u8_lt ((Oc.fd 53 (L.map Opn.c)).getD 0 0)
  refine Run.val (lt rfl) (Y.move rfl) ?_
  refine Run.val (lt rfl) (Y.idxAddr rfl rfl Opt2_es22 (by omega) (by omega)) ?_
  refine Run.val (lt rfl) (Y.load rfl Opt2_ts5 hk5.of_nil (at1 (i := 0) hcs5 (by omega) (map_at byteV 0 (by omega)))) ?_
  refine Run.val (lt rfl) (Y.conv ((((Oc.fd 53 (L.map Opn.c)).getD 0 0).toNat : Int)) rfl Opt2_it5_3 (wrap_i64 (by omega))) ?_
  refine Run.val (lt rfl) (Y.assign rfl) ?_
  refine Run.to_end ?_
  refine Ex.go ?_
  refine Tr.to_ret ?_
  refine Ex.keep [] ?_
  exact Ex.ret1 rfl rfl  ⟨congrArg (Value.int _) (by unfold Pc.kind; rw [← hLp, if_pos (by omega), val_of1 (by omega)]), rfl, rfl⟩

theorem kind_h {V : Vw} {H : Hp} {p : Pc} {hv ov : Value} (hp : Pc.R V p hv ov) (hf : Pc.few p = true) : Does Try.prog 56 [.agg (p.cells hv ov)] V H (Pv (.int .i64 (Pc.kind p)) V H) := by
  obtain ⟨ph, ch, rfl, _⟩ := hp.hw.form
  obtain ⟨L, hLp, ho, hr⟩ := hp.os
  obtain ⟨po, co, rfl, _⟩ := ho.form
  have hf' : Oc.few (L.map Opn.c) = true := by rw [hLp]; simp only [Pc.few, Bool.and_eq_true] at hf; exact hf.1
  have hL : L.length ≤ 1000000 := by have := (Oc.few_iff.1 hf').1; rw [List.length_map] at this; omega
  exact (kind_c ho hr hL hp.hw hLp hf').frame
theorem rkind_h {V : Vw} {H : Hp} {p : Pc} {hv ov : Value} (hp : Pc.R V p hv ov) (hf : Pc.few p = true) : Does Try.prog 23 [.agg (p.cells hv ov)] V H (Pv (.int .i64 (Pc.kind p)) V H) := by
  obtain ⟨ph, ch, rfl, _⟩ := hp.hw.form
  obtain ⟨L, hLp, ho, hr⟩ := hp.os
  obtain ⟨po, co, rfl, _⟩ := ho.form
  have hf' : Oc.few (L.map Opn.c) = true := by rw [hLp]; simp only [Pc.few, Bool.and_eq_true] at hf; exact hf.1
  have hL : L.length ≤ 1000000 := by have := (Oc.few_iff.1 hf').1; rw [List.length_map] at this; omega
  exact (rkind_c ho hr hL hp.hw hLp).frame
end Go.Proofs.Ytelahacalnmilaa
