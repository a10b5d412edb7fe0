/- New clients, and what they say.
Conditions: as each theorem names them. -/
import Derived.Test.YtelahacalnmilaaProg
import Derived.Test.YtelahacalnmilaaO3
import Derived.Test.YtelahacalnmilaaClient
set_option linter.unusedSimpArgs false
set_option linter.unusedVariables false
set_option maxRecDepth 4000
namespace Go.Proofs.Ytelahacalnmilaa
open Go Go.K
attribute [local irreducible] Code.wp wpList Calls wpQuiet
theorem Clsay_st9 : strT Try.prog 9 = true := by kernel_rfl
theorem Clsay_es22 : elemS Try.prog 22 = some (5, 1) := by kernel_rfl
theorem Clsay_zo67 : zeroOf Try.prog 67 = some (.agg #[.string ⟨#[]⟩, .slice none 0 0, .int .i64 0, .int .u32 0, .int .u32 0, .int .u32 0, .int .i64 0, .int .i64 0, .int .i64 0, .bool false, .int .i64 0, .int .i64 0, .int .i64 0]) := by kernel_rfl
theorem Clsay_pl67 : placesS Try.prog 67 = some [(0, 1), (1, 1), (2, 1), (3, 1), (4, 1), (5, 1), (6, 1), (7, 1), (8, 1), (9, 1), (10, 1), (11, 1), (12, 1)] := by kernel_rfl
theorem Clsay_zi5 : zeroInfo Try.prog 5 = some (1, 1, .int .u8 0) := by kernel_rfl
theorem Clsay_zo44 : zeroOf Try.prog 44 = some (.agg #[.string ⟨#[]⟩, .slice none 0 0, .int .i64 0, .int .u32 0, .int .u32 0, .int .u32 0, .int .i64 0, .int .i64 0, .int .i64 0, .bool false, .int .i64 0, .int .i64 0, .int .i64 0]) := by kernel_rfl
theorem Clsay_pl44 : placesS Try.prog 44 = some [(0, 1), (1, 1), (2, 1), (3, 1), (4, 1), (5, 1), (6, 1), (7, 1), (8, 1), (9, 1), (10, 1), (11, 1), (12, 1)] := by kernel_rfl
theorem Clsay_fo36_9 : fieldOff Try.prog 36 9 = some 9 := by kernel_rfl
theorem Clsay_ts34 : scal Try.prog 34 = true := by kernel_rfl
theorem Clsay_es34 : elemS Try.prog 34 = some (76, 2) := by kernel_rfl
theorem Clsay_zi76 : zeroInfo Try.prog 76 = some (2, 32, .agg #[.int .i64 0, .slice none 0 0]) := by kernel_rfl
theorem Clsay_sz34 : sizeT Try.prog 34 = some 1 := by kernel_rfl
theorem Clsay_zo36 : zeroOf Try.prog 36 = some (.agg #[.int .i64 0, .int .u32 0, .int .i64 0, .int .i64 0, .int .u32 0, .int .u32 0, .int .u32 0, .int .u32 0, .slice none 0 0, .slice none 0 0]) := by kernel_rfl
theorem Clsay_mo : Try.prog.follows .mixedOrders = true := by kernel_rfl
theorem Clsay_fo67_3 : fieldOff Try.prog 67 3 = some 3 := by kernel_rfl
theorem Clsay_ts32 : scal Try.prog 32 = true := by kernel_rfl
theorem Clsay_fo67_1 : fieldOff Try.prog 67 1 = some 1 := by kernel_rfl
theorem Clsay_ts22 : scal Try.prog 22 = true := by kernel_rfl
theorem Clsay_pl36 : placesS Try.prog 36 = some [(0, 1), (1, 1), (2, 1), (3, 1), (4, 1), (5, 1), (6, 1), (7, 1), (8, 1), (9, 1)] := by kernel_rfl
theorem Clsay_sz36 : sizeT Try.prog 36 = some 10 := by kernel_rfl
theorem Clsay_it3_5 : intT Try.prog 3 5 = some .u8 := by kernel_rfl
theorem Clsay_zo5 : zeroOf Try.prog 5 = some (.int .u8 0) := by kernel_rfl
theorem Clsay_zo76 : zeroOf Try.prog 76 = some (.agg #[.int .i64 0, .slice none 0 0]) := by kernel_rfl
theorem Clsay_pl76 : placesS Try.prog 76 = some [(0, 1), (1, 1)] := by kernel_rfl
theorem Clsay_fo67_0 : fieldOff Try.prog 67 0 = some 0 := by kernel_rfl
theorem Clsay_ts9 : scal Try.prog 9 = true := by kernel_rfl
theorem Clsay_tg5 : tagOf Try.prog 5 = some (0, .u8) := by kernel_rfl
theorem Clsay_ag36 : aggsz Try.prog 36 = some 10 := by kernel_rfl
theorem Clsay_fo44_3 : fieldOff Try.prog 44 3 = some 3 := by kernel_rfl
theorem Clsay_fo44_1 : fieldOff Try.prog 44 1 = some 1 := by kernel_rfl
theorem Clsay_fo44_0 : fieldOff Try.prog 44 0 = some 0 := by kernel_rfl

theorem new_c_y {V : Vw} {s : ByteArray} {hw : List UInt8} {pb : Option Addr} {cb : Nat} (hvb : Rd V [] 1 (.slice pb hw.length cb) hw.length (hw.map byteV)) (hf : Cli.fine s hw)  : Does Try.prog 8 [.string s, .slice pb hw.length cb] V [] (fun u V' H' => V.le V' ∧ ∃ b hv, u = .tuple #[.pointer (some ⟨b, 0, none⟩), .int .i64 0] ∧ H' = [[(b, .cells (Cli.cells (Cli.new s hw) hv) 67 (0, 0))]] ∧ Rd V' [] 1 hv hw.length (hw.map byteV)) := by
 have hf2 := hf
 unfold Cli.fine at hf2
 refine Does.intro Try.func8 rfl rfl (le rfl) (fun B => ?_)
 refine Tr.seq ?_
 refine Tr.region ?_
 refine Run.val (lt rfl) (Y.assign rfl) ?_
 refine Run.val (lt rfl) (Y.assign rfl) ?_
 refine Run.to_end ?_
 refine Ex.go ?_
 refine Tr.seq ?_
 refine Tr.seq ?_
 refine Tr.region ?_
 refine Run.val (lt rfl) (Y.move rfl) ?_
 refine Run.val (lt rfl) (Y.eqStr rfl rfl) ?_
 refine Run.val (lt rfl) (Y.move rfl) ?_
 refine Run.on rfl rfl rfl (of_size hf.1) ?_
 refine Run.val (lt rfl) (Y.move rfl) ?_
 refine Run.on rfl rfl rfl (of_size hf.1) ?_
 refine Run.val (lt rfl) (Y.lenStr rfl Clsay_st9) ?_
 refine Run.on rfl rfl rfl (of_size hf.1) ?_
 refine Run.val (lt rfl) (Y.int rfl rfl rfl) ?_
 refine Run.val (lt rfl) (Y.pick_f rfl (of_size hf.1) rfl) ?_
 refine Run.val (lt rfl) (Y.move rfl) ?_
 rcases Bool.eq_false_or_eq_true (decide ((s.size : Int) > 32)) with h1 | h1
 ·have g1 := h1
  try simp only [kb] at g1
  refine Run.off rfl rfl rfl h1 rfl (lt rfl) ?_
  refine Run.off rfl rfl rfl h1 rfl (lt rfl) ?_
  refine Run.off rfl rfl rfl h1 rfl (lt rfl) ?_
  refine Run.val (lt rfl) (Y.pick_t rfl h1 rfl) ?_
  refine Run.val (lt rfl) (Y.move rfl) ?_
  refine Run.off rfl rfl rfl rfl rfl (lt rfl) ?_
  refine Run.off rfl rfl rfl rfl rfl (lt rfl) ?_
  refine Run.off rfl rfl rfl rfl rfl (lt rfl) ?_
  refine Run.val (lt rfl) (Y.pick_t rfl rfl rfl) ?_
  refine Run.to_end ?_
  refine Ex.go ?_
  refine Tr.cond_t rfl rfl ?_
  refine Tr.seq ?_
  refine Tr.region ?_
  refine Run.val (lt rfl) (Y.assign rfl) ?_
  refine Run.val (lt rfl) (Y.assign rfl) ?_
  refine Run.to_end ?_
  refine Ex.go ?_
  refine Tr.to_ret ?_
  refine Ex.ret_then ?_
  refine Ex.keep [] ?_
  exact Ex.ret2 rfl rfl rfl  (absurd hf (by unfold Cli.fine; omega))
 ·have g1 := h1
  try simp only [kb] at g1
  refine Run.on rfl rfl rfl h1 ?_
  refine Run.val (lt rfl) (Y.move rfl) ?_
  refine Run.on rfl rfl rfl h1 ?_
  refine Run.val (lt rfl) (Y.lenSl rfl Clsay_es22) ?_
  refine Run.on rfl rfl rfl h1 ?_
  refine Run.val (lt rfl) (Y.int rfl rfl rfl) ?_
  refine Run.val (lt rfl) (Y.pick_f rfl h1 rfl) ?_
  refine Run.val (lt rfl) (Y.move rfl) ?_
  rcases Bool.eq_false_or_eq_true (decide (((hw.length : Nat) : Int) < 1)) with h2 | h2
  ·have g2 := h2
   try simp only [kb] at g2
   refine Run.off rfl rfl rfl h2 rfl (lt rfl) ?_
   refine Run.off rfl rfl rfl h2 rfl (lt rfl) ?_
   refine Run.off rfl rfl rfl h2 rfl (lt rfl) ?_
   refine Run.val (lt rfl) (Y.pick_t rfl h2 rfl) ?_
   refine Run.to_end ?_
   refine Ex.go ?_
   refine Tr.cond_t rfl rfl ?_
   refine Tr.seq ?_
   refine Tr.region ?_
   refine Run.val (lt rfl) (Y.assign rfl) ?_
   refine Run.val (lt rfl) (Y.assign rfl) ?_
   refine Run.to_end ?_
   refine Ex.go ?_
   refine Tr.to_ret ?_
   refine Ex.ret_then ?_
   refine Ex.keep [] ?_
   exact Ex.ret2 rfl rfl rfl  (absurd hf (by unfold Cli.fine; omega))
  ·have g2 := h2
   try simp only [kb] at g2
   refine Run.on rfl rfl rfl h2 ?_
   refine Run.val (lt rfl) (Y.move rfl) ?_
   refine Run.on rfl rfl rfl h2 ?_
   refine Run.val (lt rfl) (Y.lenSl rfl Clsay_es22) ?_
   refine Run.on rfl rfl rfl h2 ?_
   refine Run.val (lt rfl) (Y.int rfl rfl rfl) ?_
   refine Run.val (lt rfl) (Y.pick_f rfl h2 rfl) ?_
   refine Run.to_end ?_
   refine Ex.go ?_
   rcases Bool.eq_false_or_eq_true (decide (((hw.length : Nat) : Int) > 16)) with h3 | h3
   ·have g3 := h3
    try simp only [kb] at g3
    refine Tr.cond_t rfl h3 ?_
    refine Tr.seq ?_
    refine Tr.region ?_
    refine Run.val (lt rfl) (Y.assign rfl) ?_
    refine Run.val (lt rfl) (Y.assign rfl) ?_
    refine Run.to_end ?_
    refine Ex.go ?_
    refine Tr.to_ret ?_
    refine Ex.ret_then ?_
    refine Ex.keep [] ?_
    exact Ex.ret2 rfl rfl rfl  (absurd hf (by unfold Cli.fine; omega))
   ·have g3 := h3
    try simp only [kb] at g3
    refine Tr.cond_f rfl h3 ?_
    refine Tr.to_end ?_
    refine Ex.go ?_
    refine Tr.seq ?_
    refine Tr.region ?_
    refine Run.val (lt rfl) (Y.move rfl) ?_
    refine Run.val (lt rfl) (Y.move rfl) ?_
    refine Run.call [] (l := [.tmp 24]) rfl rfl rfl (lt rfl) (clone_h hvb (by omega)) (fun v4 V2 H2 _ hR => ?_)
    obtain ⟨hV, s5, rfl, ho6⟩ := hR; replace hV := hV.symm; subst hV; obtain ⟨p7, c8, rfl⟩ := ho6.form
    refine Run.val (lt rfl) (Y.buildS (l := [(0, .tmp 23), (1, .tmp 25)]) Clsay_zo67 Clsay_pl67 rfl rfl) ?_
    refine Run.box rfl (lt rfl) (fun b9 => ?_)
    refine Run.val (lt rfl) (Y.assign rfl) ?_
    refine Run.val (lt rfl) (Y.assign rfl) ?_
    refine Run.to_end ?_
    refine Ex.go ?_
    refine Tr.to_ret ?_
    refine Ex.keepTo (H' := [s5, [(b9, .cells #[.string s, .slice p7 hw.length c8, .int .i64 0, .int .u32 0, .int .u32 0, .int .u32 0, .int .i64 0, .int .i64 0, .int .i64 0, .bool false, .int .i64 0, .int .i64 0, .int .i64 0] 67 (0, 0))]]) [1, 0] rfl ?_
    refine Ex.show (fun V10 hleV10 hshV10 => ?_)
    have hvs := ho6.shows _ hshV10
    have hVle := hleV10
    refine Ex.keep [0] ?_
    exact Ex.ret2 rfl rfl rfl  ⟨hVle, _, _, rfl, rfl, by have h := hvs; simpa using h⟩

theorem new_c_n {V : Vw} {s : ByteArray} {hw : List UInt8} {pb : Option Addr} {cb : Nat} (hvb : Rd V [] 1 (.slice pb hw.length cb) hw.length (hw.map byteV)) (hf : ¬ Cli.fine s hw)  : Does Try.prog 8 [.string s, .slice pb hw.length cb] V [] (Pv (.tuple #[.pointer none, .int .i64 1]) V []) := by
 refine Does.intro Try.func8 rfl rfl (le rfl) (fun B => ?_)
 refine Tr.seq ?_
 refine Tr.region ?_
 refine Run.val (lt rfl) (Y.assign rfl) ?_
 refine Run.val (lt rfl) (Y.assign rfl) ?_
 refine Run.to_end ?_
 refine Ex.go ?_
 refine Tr.seq ?_
 refine Tr.seq ?_
 refine Tr.region ?_
 refine Run.val (lt rfl) (Y.move rfl) ?_
 refine Run.val (lt rfl) (Y.eqStr rfl rfl) ?_
 refine Run.val (lt rfl) (Y.move rfl) ?_
 rcases Bool.eq_false_or_eq_true (s.toList == (⟨#[]⟩ : ByteArray).toList) with h1 | h1
 ·have g1 := h1
  try simp only [kb] at g1
  refine Run.off rfl rfl rfl h1 rfl (lt rfl) ?_
  refine Run.off rfl rfl rfl h1 rfl (lt rfl) ?_
  refine Run.off rfl rfl rfl h1 rfl (lt rfl) ?_
  refine Run.val (lt rfl) (Y.pick_t rfl h1 rfl) ?_
  refine Run.val (lt rfl) (Y.move rfl) ?_
  refine Run.off rfl rfl rfl rfl rfl (lt rfl) ?_
  refine Run.off rfl rfl rfl rfl rfl (lt rfl) ?_
  refine Run.off rfl rfl rfl rfl rfl (lt rfl) ?_
  refine Run.val (lt rfl) (Y.pick_t rfl rfl rfl) ?_
  refine Run.val (lt rfl) (Y.move rfl) ?_
  refine Run.off rfl rfl rfl rfl rfl (lt rfl) ?_
  refine Run.off rfl rfl rfl rfl rfl (lt rfl) ?_
  refine Run.off rfl rfl rfl rfl rfl (lt rfl) ?_
  refine Run.val (lt rfl) (Y.pick_t rfl rfl rfl) ?_
  refine Run.to_end ?_
  refine Ex.go ?_
  refine Tr.cond_t rfl rfl ?_
  refine Tr.seq ?_
  refine Tr.region ?_
  refine Run.val (lt rfl) (Y.assign rfl) ?_
  refine Run.val (lt rfl) (Y.assign rfl) ?_
  refine Run.to_end ?_
  refine Ex.go ?_
  refine Tr.to_ret ?_
  refine Ex.ret_then ?_
  refine Ex.keep [] ?_
  exact Ex.ret2 rfl rfl rfl  ⟨rfl, rfl, rfl⟩
 ·have g1 := h1
  try simp only [kb] at g1
  refine Run.on rfl rfl rfl h1 ?_
  refine Run.val (lt rfl) (Y.move rfl) ?_
  refine Run.on rfl rfl rfl h1 ?_
  refine Run.val (lt rfl) (Y.lenStr rfl Clsay_st9) ?_
  refine Run.on rfl rfl rfl h1 ?_
  refine Run.val (lt rfl) (Y.int rfl rfl rfl) ?_
  refine Run.val (lt rfl) (Y.pick_f rfl h1 rfl) ?_
  refine Run.val (lt rfl) (Y.move rfl) ?_
  rcases Bool.eq_false_or_eq_true (decide ((s.size : Int) > 32)) with h2 | h2
  ·have g2 := h2
   try simp only [kb] at g2
   refine Run.off rfl rfl rfl h2 rfl (lt rfl) ?_
   refine Run.off rfl rfl rfl h2 rfl (lt rfl) ?_
   refine Run.off rfl rfl rfl h2 rfl (lt rfl) ?_
   refine Run.val (lt rfl) (Y.pick_t rfl h2 rfl) ?_
   refine Run.val (lt rfl) (Y.move rfl) ?_
   refine Run.off rfl rfl rfl rfl rfl (lt rfl) ?_
   refine Run.off rfl rfl rfl rfl rfl (lt rfl) ?_
   refine Run.off rfl rfl rfl rfl rfl (lt rfl) ?_
   refine Run.val (lt rfl) (Y.pick_t rfl rfl rfl) ?_
   refine Run.to_end ?_
   refine Ex.go ?_
   refine Tr.cond_t rfl rfl ?_
   refine Tr.seq ?_
   refine Tr.region ?_
   refine Run.val (lt rfl) (Y.assign rfl) ?_
   refine Run.val (lt rfl) (Y.assign rfl) ?_
   refine Run.to_end ?_
   refine Ex.go ?_
   refine Tr.to_ret ?_
   refine Ex.ret_then ?_
   refine Ex.keep [] ?_
   exact Ex.ret2 rfl rfl rfl  ⟨rfl, rfl, rfl⟩
  ·have g2 := h2
   try simp only [kb] at g2
   refine Run.on rfl rfl rfl h2 ?_
   refine Run.val (lt rfl) (Y.move rfl) ?_
   refine Run.on rfl rfl rfl h2 ?_
   refine Run.val (lt rfl) (Y.lenSl rfl Clsay_es22) ?_
   refine Run.on rfl rfl rfl h2 ?_
   refine Run.val (lt rfl) (Y.int rfl rfl rfl) ?_
   refine Run.val (lt rfl) (Y.pick_f rfl h2 rfl) ?_
   refine Run.val (lt rfl) (Y.move rfl) ?_
   rcases Bool.eq_false_or_eq_true (decide (((hw.length : Nat) : Int) < 1)) with h3 | h3
   ·have g3 := h3
    try simp only [kb] at g3
    refine Run.off rfl rfl rfl h3 rfl (lt rfl) ?_
    refine Run.off rfl rfl rfl h3 rfl (lt rfl) ?_
    refine Run.off rfl rfl rfl h3 rfl (lt rfl) ?_
    refine Run.val (lt rfl) (Y.pick_t rfl h3 rfl) ?_
    refine Run.to_end ?_
    refine Ex.go ?_
    refine Tr.cond_t rfl rfl ?_
    refine Tr.seq ?_
    refine Tr.region ?_
    refine Run.val (lt rfl) (Y.assign rfl) ?_
    refine Run.val (lt rfl) (Y.assign rfl) ?_
    refine Run.to_end ?_
    refine Ex.go ?_
    refine Tr.to_ret ?_
    refine Ex.ret_then ?_
    refine Ex.keep [] ?_
    exact Ex.ret2 rfl rfl rfl  ⟨rfl, rfl, rfl⟩
   ·have g3 := h3
    try simp only [kb] at g3
    refine Run.on rfl rfl rfl h3 ?_
    refine Run.val (lt rfl) (Y.move rfl) ?_
    refine Run.on rfl rfl rfl h3 ?_
    refine Run.val (lt rfl) (Y.lenSl rfl Clsay_es22) ?_
    refine Run.on rfl rfl rfl h3 ?_
    refine Run.val (lt rfl) (Y.int rfl rfl rfl) ?_
    refine Run.val (lt rfl) (Y.pick_f rfl h3 rfl) ?_
    refine Run.to_end ?_
    refine Ex.go ?_
    rcases Bool.eq_false_or_eq_true (decide (((hw.length : Nat) : Int) > 16)) with h4 | h4
    ·have g4 := h4
     try simp only [kb] at g4
     refine Tr.cond_t rfl h4 ?_
     refine Tr.seq ?_
     refine Tr.region ?_
     refine Run.val (lt rfl) (Y.assign rfl) ?_
     refine Run.val (lt rfl) (Y.assign rfl) ?_
     refine Run.to_end ?_
     refine Ex.go ?_
     refine Tr.to_ret ?_
     refine Ex.ret_then ?_
     refine Ex.keep [] ?_
     exact Ex.ret2 rfl rfl rfl  ⟨rfl, rfl, rfl⟩
    ·have g4 := h4
     try simp only [kb] at g4
     refine Tr.cond_f rfl h4 ?_
     refine Tr.to_end ?_
     refine Ex.go ?_
     refine Tr.seq ?_
     refine Tr.region ?_
     refine Run.val (lt rfl) (Y.move rfl) ?_
     refine Run.val (lt rfl) (Y.move rfl) ?_
     refine Run.call [] (l := [.tmp 24]) rfl rfl rfl (lt rfl) (clone_h hvb (by omega)) (fun v5 V2 H2 _ hR => ?_)
     obtain ⟨hV, s6, rfl, ho7⟩ := hR; replace hV := hV.symm; subst hV; obtain ⟨p8, c9, rfl⟩ := ho7.form
     refine Run.val (lt rfl) (Y.buildS (l := [(0, .tmp 23), (1, .tmp 25)]) Clsay_zo67 Clsay_pl67 rfl rfl) ?_
     refine Run.box rfl (lt rfl) (fun b10 => ?_)
     refine Run.val (lt rfl) (Y.assign rfl) ?_
     refine Run.val (lt rfl) (Y.assign rfl) ?_
     refine Run.to_end ?_
     refine Ex.go ?_
     refine Tr.to_ret ?_
     refine Ex.keep [] ?_
     exact Ex.ret2 rfl rfl rfl  (absurd (show Cli.fine s hw from ⟨ne_empty (by assumption), by omega, by omega, by omega⟩) hf)

theorem rnew_c_y {V : Vw} {s : ByteArray} {hw : List UInt8} {pb : Option Addr} {cb : Nat} (hvb : Rd V [] 1 (.slice pb hw.length cb) hw.length (hw.map byteV)) (hf : Cli.fine s hw)  : Does Try.prog 9 [.string s, .slice pb hw.length cb] V [] (fun u V' H' => V.le V' ∧ ∃ b hv, u = .tuple #[.pointer (some ⟨b, 0, none⟩), .int .i64 0] ∧ H' = [[(b, .cells (Cli.cells (Cli.new s hw) hv) 44 (0, 0))]] ∧ Rd V' [] 1 hv hw.length (hw.map byteV)) := by
 have hf2 := hf
 unfold Cli.fine at hf2
 refine Does.intro Try.func9 rfl rfl (le rfl) (fun B => ?_)
 refine Tr.seq ?_
 refine Tr.region ?_
 refine Run.val (lt rfl) (Y.assign rfl) ?_
 refine Run.val (lt rfl) (Y.assign rfl) ?_
 refine Run.to_end ?_
 refine Ex.go ?_
 refine Tr.seq ?_
 refine Tr.seq ?_
 refine Tr.region ?_
 refine Run.val (lt rfl) (Y.move rfl) ?_
 refine Run.val (lt rfl) (Y.lenStr rfl Clsay_st9) ?_
 refine Run.val (lt rfl) (Y.int rfl rfl rfl) ?_
 refine Run.val (lt rfl) (Y.move rfl) ?_
 rcases Bool.eq_false_or_eq_true (decide ((s.size : Int) < 1)) with h1 | h1
 ·have g1 := h1
  try simp only [kb] at g1
  refine Run.off rfl rfl rfl h1 rfl (lt rfl) ?_
  refine Run.off rfl rfl rfl h1 rfl (lt rfl) ?_
  refine Run.off rfl rfl rfl h1 rfl (lt rfl) ?_
  refine Run.val (lt rfl) (Y.pick_t rfl h1 rfl) ?_
  refine Run.val (lt rfl) (Y.move rfl) ?_
  refine Run.off rfl rfl rfl rfl rfl (lt rfl) ?_
  refine Run.off rfl rfl rfl rfl rfl (lt rfl) ?_
  refine Run.off rfl rfl rfl rfl rfl (lt rfl) ?_
  refine Run.val (lt rfl) (Y.pick_t rfl rfl rfl) ?_
  refine Run.val (lt rfl) (Y.move rfl) ?_
  refine Run.off rfl rfl rfl rfl rfl (lt rfl) ?_
  refine Run.off rfl rfl rfl rfl rfl (lt rfl) ?_
  refine Run.off rfl rfl rfl rfl rfl (lt rfl) ?_
  refine Run.val (lt rfl) (Y.pick_t rfl rfl rfl) ?_
  refine Run.to_end ?_
  refine Ex.go ?_
  refine Tr.cond_t rfl rfl ?_
  refine Tr.seq ?_
  refine Tr.region ?_
  refine Run.val (lt rfl) (Y.assign rfl) ?_
  refine Run.val (lt rfl) (Y.assign rfl) ?_
  refine Run.to_end ?_
  refine Ex.go ?_
  refine Tr.to_ret ?_
  refine Ex.ret_then ?_
  refine Ex.keep [] ?_
  exact Ex.ret2 rfl rfl rfl  (absurd hf (by unfold Cli.fine; omega))
 ·have g1 := h1
  try simp only [kb] at g1
  refine Run.on rfl rfl rfl h1 ?_
  refine Run.val (lt rfl) (Y.move rfl) ?_
  refine Run.on rfl rfl rfl h1 ?_
  refine Run.val (lt rfl) (Y.lenStr rfl Clsay_st9) ?_
  refine Run.on rfl rfl rfl h1 ?_
  refine Run.val (lt rfl) (Y.int rfl rfl rfl) ?_
  refine Run.val (lt rfl) (Y.pick_f rfl h1 rfl) ?_
  refine Run.val (lt rfl) (Y.move rfl) ?_
  rcases Bool.eq_false_or_eq_true (decide ((s.size : Int) > 32)) with h2 | h2
  ·have g2 := h2
   try simp only [kb] at g2
   refine Run.off rfl rfl rfl h2 rfl (lt rfl) ?_
   refine Run.off rfl rfl rfl h2 rfl (lt rfl) ?_
   refine Run.off rfl rfl rfl h2 rfl (lt rfl) ?_
   refine Run.val (lt rfl) (Y.pick_t rfl h2 rfl) ?_
   refine Run.val (lt rfl) (Y.move rfl) ?_
   refine Run.off rfl rfl rfl rfl rfl (lt rfl) ?_
   refine Run.off rfl rfl rfl rfl rfl (lt rfl) ?_
   refine Run.off rfl rfl rfl rfl rfl (lt rfl) ?_
   refine Run.val (lt rfl) (Y.pick_t rfl rfl rfl) ?_
   refine Run.to_end ?_
   refine Ex.go ?_
   refine Tr.cond_t rfl rfl ?_
   refine Tr.seq ?_
   refine Tr.region ?_
   refine Run.val (lt rfl) (Y.assign rfl) ?_
   refine Run.val (lt rfl) (Y.assign rfl) ?_
   refine Run.to_end ?_
   refine Ex.go ?_
   refine Tr.to_ret ?_
   refine Ex.ret_then ?_
   refine Ex.keep [] ?_
   exact Ex.ret2 rfl rfl rfl  (absurd hf (by unfold Cli.fine; omega))
  ·have g2 := h2
   try simp only [kb] at g2
   refine Run.on rfl rfl rfl h2 ?_
   refine Run.val (lt rfl) (Y.move rfl) ?_
   refine Run.on rfl rfl rfl h2 ?_
   refine Run.val (lt rfl) (Y.lenSl rfl Clsay_es22) ?_
   refine Run.on rfl rfl rfl h2 ?_
   refine Run.val (lt rfl) (Y.int rfl rfl rfl) ?_
   refine Run.val (lt rfl) (Y.pick_f rfl h2 rfl) ?_
   refine Run.val (lt rfl) (Y.move rfl) ?_
   rcases Bool.eq_false_or_eq_true (decide (((hw.length : Nat) : Int) < 1)) with h3 | h3
   ·have g3 := h3
    try simp only [kb] at g3
    refine Run.off rfl rfl rfl h3 rfl (lt rfl) ?_
    refine Run.off rfl rfl rfl h3 rfl (lt rfl) ?_
    refine Run.off rfl rfl rfl h3 rfl (lt rfl) ?_
    refine Run.val (lt rfl) (Y.pick_t rfl h3 rfl) ?_
    refine Run.to_end ?_
    refine Ex.go ?_
    refine Tr.cond_t rfl rfl ?_
    refine Tr.seq ?_
    refine Tr.region ?_
    refine Run.val (lt rfl) (Y.assign rfl) ?_
    refine Run.val (lt rfl) (Y.assign rfl) ?_
    refine Run.to_end ?_
    refine Ex.go ?_
    refine Tr.to_ret ?_
    refine Ex.ret_then ?_
    refine Ex.keep [] ?_
    exact Ex.ret2 rfl rfl rfl  (absurd hf (by unfold Cli.fine; omega))
   ·have g3 := h3
    try simp only [kb] at g3
    refine Run.on rfl rfl rfl h3 ?_
    refine Run.val (lt rfl) (Y.move rfl) ?_
    refine Run.on rfl rfl rfl h3 ?_
    refine Run.val (lt rfl) (Y.lenSl rfl Clsay_es22) ?_
    refine Run.on rfl rfl rfl h3 ?_
    refine Run.val (lt rfl) (Y.int rfl rfl rfl) ?_
    refine Run.val (lt rfl) (Y.pick_f rfl h3 rfl) ?_
    refine Run.to_end ?_
    refine Ex.go ?_
    rcases Bool.eq_false_or_eq_true (decide (((hw.length : Nat) : Int) > 16)) with h4 | h4
    ·have g4 := h4
     try simp only [kb] at g4
     refine Tr.cond_t rfl h4 ?_
     refine Tr.seq ?_
     refine Tr.region ?_
     refine Run.val (lt rfl) (Y.assign rfl) ?_
     refine Run.val (lt rfl) (Y.assign rfl) ?_
     refine Run.to_end ?_
     refine Ex.go ?_
     refine Tr.to_ret ?_
     refine Ex.ret_then ?_
     refine Ex.keep [] ?_
     exact Ex.ret2 rfl rfl rfl  (absurd hf (by unfold Cli.fine; omega))
    ·have g4 := h4
     try simp only [kb] at g4
     refine Tr.cond_f rfl h4 ?_
     refine Tr.to_end ?_
     refine Ex.go ?_
     refine Tr.seq ?_
     refine Tr.region ?_
     refine Run.val (lt rfl) (Y.move rfl) ?_
     refine Run.buildSlice0 Clsay_es22 (lt rfl) (fun b5 => ?_)
     refine Run.val (lt rfl) (Y.move rfl) ?_
     refine Run.append (n := 0) (m := hw.length) (xs := []) (ys := hw.map byteV) rfl rfl Clsay_es22 Clsay_zi5 (by decide) (j := 0) rfl (Ow.lit (cur := #[]) rfl (by decide)) (Src.of_rd Clsay_es22 hvb.of_nil) (by omega) (by omega) (all_one_bytes _) (lt rfl) (fun v6 s7 ho8 hf => ?_)
     obtain ⟨p6, c6, rfl⟩ := hf
     refine Run.val (lt rfl) (Y.buildS (l := [(0, .tmp 24), (1, .tmp 27)]) Clsay_zo44 Clsay_pl44 rfl rfl) ?_
     refine Run.box rfl (lt rfl) (fun b9 => ?_)
     refine Run.val (lt rfl) (Y.assign rfl) ?_
     refine Run.val (lt rfl) (Y.assign rfl) ?_
     refine Run.to_end ?_
     refine Ex.go ?_
     refine Tr.to_ret ?_
     refine Ex.keepTo (H' := [s7, [(b9, .cells #[.string s, .slice p6 (0 + hw.length) c6, .int .i64 0, .int .u32 0, .int .u32 0, .int .u32 0, .int .i64 0, .int .i64 0, .int .i64 0, .bool false, .int .i64 0, .int .i64 0, .int .i64 0] 44 (0, 0))]]) [1, 0] rfl ?_
     refine Ex.show (fun V10 hleV10 hshV10 => ?_)
     have hvs := ho8.shows _ hshV10
     have hVle := hleV10
     refine Ex.keep [0] ?_
     exact Ex.ret2 rfl rfl rfl  ⟨hVle, _, _, rfl, rfl, by have h := hvs; simpa using h⟩

theorem rnew_c_n {V : Vw} {s : ByteArray} {hw : List UInt8} {pb : Option Addr} {cb : Nat} (hvb : Rd V [] 1 (.slice pb hw.length cb) hw.length (hw.map byteV)) (hf : ¬ Cli.fine s hw)  : Does Try.prog 9 [.string s, .slice pb hw.length cb] V [] (Pv (.tuple #[.pointer none, .int .i64 1]) V []) := by
 refine Does.intro Try.func9 rfl rfl (le rfl) (fun B => ?_)
 refine Tr.seq ?_
 refine Tr.region ?_
 refine Run.val (lt rfl) (Y.assign rfl) ?_
 refine Run.val (lt rfl) (Y.assign rfl) ?_
 refine Run.to_end ?_
 refine Ex.go ?_
 refine Tr.seq ?_
 refine Tr.seq ?_
 refine Tr.region ?_
 refine Run.val (lt rfl) (Y.move rfl) ?_
 refine Run.val (lt rfl) (Y.lenStr rfl Clsay_st9) ?_
 refine Run.val (lt rfl) (Y.int rfl rfl rfl) ?_
 refine Run.val (lt rfl) (Y.move rfl) ?_
 rcases Bool.eq_false_or_eq_true (decide ((s.size : Int) < 1)) with h1 | h1
 ·have g1 := h1
  try simp only [kb] at g1
  refine Run.off rfl rfl rfl h1 rfl (lt rfl) ?_
  refine Run.off rfl rfl rfl h1 rfl (lt rfl) ?_
  refine Run.off rfl rfl rfl h1 rfl (lt rfl) ?_
  refine Run.val (lt rfl) (Y.pick_t rfl h1 rfl) ?_
  refine Run.val (lt rfl) (Y.move rfl) ?_
  refine Run.off rfl rfl rfl rfl rfl (lt rfl) ?_
  refine Run.off rfl rfl rfl rfl rfl (lt rfl) ?_
  refine Run.off rfl rfl rfl rfl rfl (lt rfl) ?_
  refine Run.val (lt rfl) (Y.pick_t rfl rfl rfl) ?_
  refine Run.val (lt rfl) (Y.move rfl) ?_
  refine Run.off rfl rfl rfl rfl rfl (lt rfl) ?_
  refine Run.off rfl rfl rfl rfl rfl (lt rfl) ?_
  refine Run.off rfl rfl rfl rfl rfl (lt rfl) ?_
  refine Run.val (lt rfl) (Y.pick_t rfl rfl rfl) ?_
  refine Run.to_end ?_
  refine Ex.go ?_
  refine Tr.cond_t rfl rfl ?_
  refine Tr.seq ?_
  refine Tr.region ?_
  refine Run.val (lt rfl) (Y.assign rfl) ?_
  refine Run.val (lt rfl) (Y.assign rfl) ?_
  refine Run.to_end ?_
  refine Ex.go ?_
  refine Tr.to_ret ?_
  refine Ex.ret_then ?_
  refine Ex.keep [] ?_
  exact Ex.ret2 rfl rfl rfl  ⟨rfl, rfl, rfl⟩
 ·have g1 := h1
  try simp only [kb] at g1
  refine Run.on rfl rfl rfl h1 ?_
  refine Run.val (lt rfl) (Y.move rfl) ?_
  refine Run.on rfl rfl rfl h1 ?_
  refine Run.val (lt rfl) (Y.lenStr rfl Clsay_st9) ?_
  refine Run.on rfl rfl rfl h1 ?_
  refine Run.val (lt rfl) (Y.int rfl rfl rfl) ?_
  refine Run.val (lt rfl) (Y.pick_f rfl h1 rfl) ?_
  refine Run.val (lt rfl) (Y.move rfl) ?_
  rcases Bool.eq_false_or_eq_true (decide ((s.size : Int) > 32)) with h2 | h2
  ·have g2 := h2
   try simp only [kb] at g2
   refine Run.off rfl rfl rfl h2 rfl (lt rfl) ?_
   refine Run.off rfl rfl rfl h2 rfl (lt rfl) ?_
   refine Run.off rfl rfl rfl h2 rfl (lt rfl) ?_
   refine Run.val (lt rfl) (Y.pick_t rfl h2 rfl) ?_
   refine Run.val (lt rfl) (Y.move rfl) ?_
   refine Run.off rfl rfl rfl rfl rfl (lt rfl) ?_
   refine Run.off rfl rfl rfl rfl rfl (lt rfl) ?_
   refine Run.off rfl rfl rfl rfl rfl (lt rfl) ?_
   refine Run.val (lt rfl) (Y.pick_t rfl rfl rfl) ?_
   refine Run.to_end ?_
   refine Ex.go ?_
   refine Tr.cond_t rfl rfl ?_
   refine Tr.seq ?_
   refine Tr.region ?_
   refine Run.val (lt rfl) (Y.assign rfl) ?_
   refine Run.val (lt rfl) (Y.assign rfl) ?_
   refine Run.to_end ?_
   refine Ex.go ?_
   refine Tr.to_ret ?_
   refine Ex.ret_then ?_
   refine Ex.keep [] ?_
   exact Ex.ret2 rfl rfl rfl  ⟨rfl, rfl, rfl⟩
  ·have g2 := h2
   try simp only [kb] at g2
   refine Run.on rfl rfl rfl h2 ?_
   refine Run.val (lt rfl) (Y.move rfl) ?_
   refine Run.on rfl rfl rfl h2 ?_
   refine Run.val (lt rfl) (Y.lenSl rfl Clsay_es22) ?_
   refine Run.on rfl rfl rfl h2 ?_
   refine Run.val (lt rfl) (Y.int rfl rfl rfl) ?_
   refine Run.val (lt rfl) (Y.pick_f rfl h2 rfl) ?_
   refine Run.val (lt rfl) (Y.move rfl) ?_
   rcases Bool.eq_false_or_eq_true (decide (((hw.length : Nat) : Int) < 1)) with h3 | h3
   ·have g3 := h3
    try simp only [kb] at g3
    refine Run.off rfl rfl rfl h3 rfl (lt rfl) ?_
    refine Run.off rfl rfl rfl h3 rfl (lt rfl) ?_
    refine Run.off rfl rfl rfl h3 rfl (lt rfl) ?_
    refine Run.val (lt rfl) (Y.pick_t rfl h3 rfl) ?_
    refine Run.to_end ?_
    refine Ex.go ?_
    refine Tr.cond_t rfl rfl ?_
    refine Tr.seq ?_
    refine Tr.region ?_
    refine Run.val (lt rfl) (Y.assign rfl) ?_
    refine Run.val (lt rfl) (Y.assign rfl) ?_
    refine Run.to_end ?_
    refine Ex.go ?_
    refine Tr.to_ret ?_
    refine Ex.ret_then ?_
    refine Ex.keep [] ?_
    exact Ex.ret2 rfl rfl rfl  ⟨rfl, rfl, rfl⟩
   ·have g3 := h3
    try simp only [kb] at g3
    refine Run.on rfl rfl rfl h3 ?_
    refine Run.val (lt rfl) (Y.move rfl) ?_
    refine Run.on rfl rfl rfl h3 ?_
    refine Run.val (lt rfl) (Y.lenSl rfl Clsay_es22) ?_
    refine Run.on rfl rfl rfl h3 ?_
    refine Run.val (lt rfl) (Y.int rfl rfl rfl) ?_
    refine Run.val (lt rfl) (Y.pick_f rfl h3 rfl) ?_
    refine Run.to_end ?_
    refine Ex.go ?_
    rcases Bool.eq_false_or_eq_true (decide (((hw.length : Nat) : Int) > 16)) with h4 | h4
    ·have g4 := h4
     try simp only [kb] at g4
     refine Tr.cond_t rfl h4 ?_
     refine Tr.seq ?_
     refine Tr.region ?_
     refine Run.val (lt rfl) (Y.assign rfl) ?_
     refine Run.val (lt rfl) (Y.assign rfl) ?_
     refine Run.to_end ?_
     refine Ex.go ?_
     refine Tr.to_ret ?_
     refine Ex.ret_then ?_
     refine Ex.keep [] ?_
     exact Ex.ret2 rfl rfl rfl  ⟨rfl, rfl, rfl⟩
    ·have g4 := h4
     try simp only [kb] at g4
     refine Tr.cond_f rfl h4 ?_
     refine Tr.to_end ?_
     refine Ex.go ?_
     refine Tr.seq ?_
     refine Tr.region ?_
     refine Run.val (lt rfl) (Y.move rfl) ?_
     refine Run.buildSlice0 Clsay_es22 (lt rfl) (fun b5 => ?_)
     refine Run.val (lt rfl) (Y.move rfl) ?_
     refine Run.append (n := 0) (m := hw.length) (xs := []) (ys := hw.map byteV) rfl rfl Clsay_es22 Clsay_zi5 (by decide) (j := 0) rfl (Ow.lit (cur := #[]) rfl (by decide)) (Src.of_rd Clsay_es22 hvb.of_nil) (by omega) (by omega) (all_one_bytes _) (lt rfl) (fun v6 s7 ho8 hf => ?_)
     obtain ⟨p6, c6, rfl⟩ := hf
     refine Run.val (lt rfl) (Y.buildS (l := [(0, .tmp 24), (1, .tmp 27)]) Clsay_zo44 Clsay_pl44 rfl rfl) ?_
     refine Run.box rfl (lt rfl) (fun b9 => ?_)
     refine Run.val (lt rfl) (Y.assign rfl) ?_
     refine Run.val (lt rfl) (Y.assign rfl) ?_
     refine Run.to_end ?_
     refine Ex.go ?_
     refine Tr.to_ret ?_
     refine Ex.keep [] ?_
     exact Ex.ret2 rfl rfl rfl  (absurd (show Cli.fine s hw from ⟨by omega, by omega, by omega, by omega⟩) hf)

theorem new_c_h {V : Vw} {s : ByteArray} {v : Value} {hw : List UInt8} (hv : Rd V [] 1 v hw.length (hw.map byteV)) (hf : Cli.fine s hw) : Does Try.prog 8 [.string s, v] V [] (fun u V' H' => V.le V' ∧ ∃ b hv, u = .tuple #[.pointer (some ⟨b, 0, none⟩), .int .i64 0] ∧ H' = [[(b, .cells (Cli.cells (Cli.new s hw) hv) 67 (0, 0))]] ∧ Rd V' [] 1 hv hw.length (hw.map byteV)) := by
  obtain ⟨p, c, rfl, _⟩ := hv.form
  exact new_c_y hv hf
theorem new_c_hn {V : Vw} {s : ByteArray} {v : Value} {hw : List UInt8} (hv : Rd V [] 1 v hw.length (hw.map byteV)) (hf : ¬ Cli.fine s hw) : Does Try.prog 8 [.string s, v] V [] (Pv (.tuple #[.pointer none, .int .i64 1]) V []) := by
  obtain ⟨p, c, rfl, _⟩ := hv.form
  exact new_c_n hv hf
theorem rnew_c_h {V : Vw} {s : ByteArray} {v : Value} {hw : List UInt8} (hv : Rd V [] 1 v hw.length (hw.map byteV)) (hf : Cli.fine s hw) : Does Try.prog 9 [.string s, v] V [] (fun u V' H' => V.le V' ∧ ∃ b hv, u = .tuple #[.pointer (some ⟨b, 0, none⟩), .int .i64 0] ∧ H' = [[(b, .cells (Cli.cells (Cli.new s hw) hv) 44 (0, 0))]] ∧ Rd V' [] 1 hv hw.length (hw.map byteV)) := by
  obtain ⟨p, c, rfl, _⟩ := hv.form
  exact rnew_c_y hv hf
theorem rnew_c_hn {V : Vw} {s : ByteArray} {v : Value} {hw : List UInt8} (hv : Rd V [] 1 v hw.length (hw.map byteV)) (hf : ¬ Cli.fine s hw) : Does Try.prog 9 [.string s, v] V [] (Pv (.tuple #[.pointer none, .int .i64 1]) V []) := by
  obtain ⟨p, c, rfl, _⟩ := hv.form
  exact rnew_c_n hv hf

theorem put_c {V : Vw} {bp bl n k e1 f1 e2 f2 : Nat} {po r1 r2 : Option Addr} {q : Sg} {xs : List Value} {a1 a2 : Int} {x0 x1 x2 x3 x4 x5 x6 x7 x8 : Value} (ho : Ow 76 2 (.slice po n k) n xs q) (hn : n ≤ 100)  : Does Try.prog 39 [.pointer (some ⟨bp, 0, none⟩), .slice (some ⟨bl, 0, none⟩) 2 2] V [[(bp, .cells #[x0, x1, x2, x3, x4, x5, x6, x7, x8, .slice po n k] 36 (0, 0))], q, [(bl, .cells #[.int .i64 a1, .slice r1 e1 f1, .int .i64 a2, .slice r2 e2 f2] 76 (0, 0))]] (fun u V' H' => V' = V ∧ u = .tuple #[] ∧ ∃ po' k' q', H' = [[(bp, .cells #[x0, x1, x2, x3, x4, x5, x6, x7, x8, .slice po' (n + 2) k'] 36 (0, 0))], q'] ∧ Ow 76 2 (.slice po' (n + 2) k') (n + 2) (xs ++ [.int .i64 a1, .slice r1 e1 f1, .int .i64 a2, .slice r2 e2 f2]) q') := by
 refine Does.intro Try.func39 rfl rfl (le rfl) (fun B => ?_)
 refine Tr.region ?_
 refine Run.val (lt rfl) (Y.move rfl) ?_
 refine Run.val (lt rfl) (Y.move rfl) ?_
 refine Run.val (lt rfl) (Y.nilCheck rfl) ?_
 refine Run.val (lt rfl) (Y.fieldAddr rfl Clsay_fo36_9) ?_
 refine Run.val (lt rfl) (Y.load rfl Clsay_ts34 (Kn.at 0 rfl) rfl) ?_
 refine Run.val (lt rfl) (Y.move rfl) ?_
 refine Run.append (n := n) (m := 2) (xs := xs) (ys := [.int .i64 a1, .slice r1 e1 f1, .int .i64 a2, .slice r2 e2 f2]) rfl rfl Clsay_es34 Clsay_zi76 (by decide) (j := 1) rfl ho (Src.of_rd Clsay_es34 (Rd.one (Kn.at 2 rfl) rfl)) (by omega) (by omega) rfl (lt rfl) (fun v1 s2 ho3 hf => ?_)
 obtain ⟨p1, c1, rfl⟩ := hf
 refine Run.val (lt rfl) (Y.nilCheck rfl) ?_
 refine Run.val (lt rfl) (Y.fieldAddr rfl Clsay_fo36_9) ?_
 refine Run.store (s := [(bp, .cells #[x0, x1, x2, x3, x4, x5, x6, x7, x8, .slice p1 (n + 2) c1] 36 (0, 0))]) rfl rfl Clsay_sz34 (i := 0) rfl rfl (le rfl) rfl rfl ?_
 refine Run.to_end ?_
 refine Ex.keep [0, 0] ?_
 exact Ex.end0 rfl ⟨rfl, rfl, p1, c1, s2, rfl, ho3⟩

set_option maxHeartbeats 400000 in
theorem says_c {V : Vw} {bc : Nat} {c : Cli} {ph : Option Addr} {ch : Nat} {kind : Int} (hh : Rd V [] 1 (.slice ph c.hw.length ch) c.hw.length (c.hw.map byteV)) (hl : c.hw.length ≤ 16)  : Does Try.prog 38 [.pointer (some ⟨bc, 0, none⟩), .int .i64 kind] V [[(bc, .cells (Cli.cells c (.slice ph c.hw.length ch)) 67 (0, 0))]] (fun u V' H' => V.le V' ∧ ∃ q, H' = [[(bc, .cells (Cli.cells c (.slice ph c.hw.length ch)) 67 (0, 0))], q] ∧ Cli.Said 76 V' c kind u q) := by
 refine Does.intro Try.func38 rfl rfl (le rfl) (fun B => ?_)
 refine Tr.seq ?_
 refine Tr.region ?_
 refine Run.alloc Clsay_zo36 (lt rfl) (fun b1 => ?_)
 refine Run.to_end ?_
 refine Ex.go ?_
 refine Tr.seq ?_
 refine Tr.anyL [(bc, .cells #[.string c.name, .slice ph c.hw.length ch, .int .i64 c.state, .int .u32 c.xid, .int .u32 c.addr, .int .u32 c.server, .int .i64 c.until_, .int .i64 c.one, .int .i64 c.two, .bool c.due, .int .i64 c.tries, .int .i64 c.said, .int .i64 c.asks] 67 (0, 0))] 11 Clsay_mo ?_
 refine RunL.pure (i := 0) rfl (by kernel_rfl) (by kernel_rfl) (by kernel_rfl) (by kernel_rfl) (fun _ _ _ h => h) (lt rfl) (KnAll.cons (Kn.at 1 rfl) KnAll.nil) (fun _ => (Y.move rfl)) ?_
 refine RunL.pure (i := 1) rfl (by kernel_rfl) (by kernel_rfl) (by kernel_rfl) (by kernel_rfl) (fun _ _ _ h => h) (lt rfl) (KnAll.cons (Kn.at 1 rfl) KnAll.nil) (fun _ => (Y.nilCheck rfl)) ?_
 refine RunL.pure (i := 2) rfl (by kernel_rfl) (by kernel_rfl) (by kernel_rfl) (by kernel_rfl) (fun _ _ _ h => h) (lt rfl) (KnAll.cons (Kn.at 1 rfl) KnAll.nil) (fun _ => (Y.fieldAddr rfl Clsay_fo67_3)) ?_
 refine RunL.take (i := 3) 0 rfl rfl (by kernel_rfl) (by kernel_rfl) (by kernel_rfl) (by kernel_rfl) (fun _ _ _ h => h) (lt rfl) (KnAll.cons (Kn.at 1 rfl) KnAll.nil) (fun _ => (Y.load rfl Clsay_ts32 Kn.vk1 rfl)) ?_
 refine RunL.pure (i := 4) rfl (by kernel_rfl) (by kernel_rfl) (by kernel_rfl) (by kernel_rfl) (fun _ _ _ h => h) (lt rfl) (KnAll.cons (Kn.at 1 rfl) KnAll.nil) (fun _ => (Y.move rfl)) ?_
 refine RunL.pure (i := 5) rfl (by kernel_rfl) (by kernel_rfl) (by kernel_rfl) (by kernel_rfl) (fun _ _ _ h => h) (lt rfl) (KnAll.cons (Kn.at 1 rfl) KnAll.nil) (fun _ => (Y.nilCheck rfl)) ?_
 refine RunL.pure (i := 6) rfl (by kernel_rfl) (by kernel_rfl) (by kernel_rfl) (by kernel_rfl) (fun _ _ _ h => h) (lt rfl) (KnAll.cons (Kn.at 1 rfl) KnAll.nil) (fun _ => (Y.fieldAddr rfl Clsay_fo67_1)) ?_
 refine RunL.take (i := 7) 0 rfl rfl (by kernel_rfl) (by kernel_rfl) (by kernel_rfl) (by kernel_rfl) (fun _ _ _ h => h) (lt rfl) (KnAll.cons (Kn.at 1 rfl) KnAll.nil) (fun _ => (Y.load rfl Clsay_ts22 Kn.vk1 rfl)) ?_
 refine RunL.two (i := 8) (j := 10) (by kernel_rfl) rfl rfl  ?_ ?_ 
 ·refine Run.call [] (l := [.tmp 13]) rfl rfl rfl (lt rfl) (clone_h hh (by omega)) (fun v2 V2 H2 _ hR => ?_)
  obtain ⟨hV, s3, rfl, ho4⟩ := hR; replace hV := hV.symm; subst hV; obtain ⟨p5, c6, rfl⟩ := ho4.form
  refine Run.to_end ?_
  refine Ex.anyL (KnAll.cons (Kn.at 1 rfl) KnAll.nil) ?_
  refine RunL.pure (i := 9) rfl (by kernel_rfl) (by kernel_rfl) (by kernel_rfl) (by kernel_rfl) (fun _ _ _ h => h) (lt rfl) (KnAll.cons (Kn.at 1 rfl) KnAll.nil) (fun _ => (Y.buildS (l := [(0, .const (.int .i64 1)), (1, .tmp 9), (8, .tmp 14)]) Clsay_zo36 Clsay_pl36 rfl rfl)) ?_
  refine RunL.one (i := 10) (by kernel_rfl) rfl  ?_ 
  refine Run.alloc Clsay_zo36 (lt rfl) (fun b7 => ?_)
  refine Run.to_end ?_
  refine Ex.anyL (KnAll.cons (Kn.at 2 rfl) KnAll.nil) ?_
  refine RunL.one (i := 11) (by kernel_rfl) rfl  ?_ 
  refine Run.store (s := [(b7, .cells #[.int .i64 1, .int .u32 c.xid, .int .i64 0, .int .i64 0, .int .u32 0, .int .u32 0, .int .u32 0, .int .u32 0, .slice p5 c.hw.length c6, .slice none 0 0] 36 (0, 0))]) rfl rfl Clsay_sz36 (i := 0) rfl rfl (le rfl) rfl rfl ?_
  refine Run.to_end ?_
  refine Ex.anyLz rfl ?_
  refine RunL.done (by kernel_rfl) ?_
  refine Ex.go ?_
  refine Tr.seq ?_
  refine Tr.region ?_
  refine Run.val (lt rfl) (Y.move rfl) ?_
  refine Run.val (lt rfl) (Y.conv (kind % 256) rfl Clsay_it3_5 (wrap_u8m _)) ?_
  refine Run.buildSlice (l := [(0, .tmp 17)]) Clsay_es22 Clsay_zo5 rfl (by decide) rfl rfl (by decide) (lt rfl) (fun b8 => ?_)
  refine Run.val (lt rfl) (Y.buildS (l := [(0, .const (.int .i64 53)), (1, .tmp 18)]) Clsay_zo76 Clsay_pl76 rfl rfl) ?_
  refine Run.val (lt rfl) (Y.move rfl) ?_
  refine Run.val (lt rfl) (Y.nilCheck rfl) ?_
  refine Run.val (lt rfl) (Y.fieldAddr rfl Clsay_fo67_0) ?_
  refine Run.val (lt rfl) (Y.load rfl Clsay_ts9 (Kn.at 3 rfl) rfl) ?_
  refine Run.strBytes (str := c.name) rfl Clsay_es22 Clsay_tg5 Clsay_st9 (lt rfl) (fun v9 s10 hsw11 hf => ?_)
  obtain ⟨p12, c13, rfl⟩ := hf
  refine Run.val (lt rfl) (Y.buildS (l := [(0, .const (.int .i64 61)), (1, .tmp 24)]) Clsay_zo76 Clsay_pl76 rfl rfl) ?_
  refine Run.buildSlice (l := [(0, .tmp 19), (1, .tmp 25)]) (r := [.int .i64 53, .slice (some ⟨b8, 0, none⟩) 1 1, .int .i64 61, .slice p12 c.name.size c13]) Clsay_es34 Clsay_zo76 rfl (by decide) rfl rfl (by decide) (lt rfl) (fun b14 => ?_)
  refine Run.nilseg ?_
  refine Run.call [4, 0, 0] (l := [.tmp 5, .tmp 26]) rfl rfl rfl (lt rfl) (put_c (n := 0) (xs := []) (Ow.nil 76 2) (by omega)) (fun v15 V2 H2 _ hR => ?_)
  obtain ⟨hV, rfl, p16, c17, s18, rfl, ho19⟩ := hR; replace hV := hV.symm; subst hV
  refine Run.to_end ?_
  refine Ex.go ?_
  refine Tr.seq ?_
  refine Tr.region ?_
  refine Run.val (lt rfl) (Y.loadAgg rfl Clsay_ag36 (Kn.at 5 rfl) rfl) ?_
  refine Run.store (s := [(b1, .cells #[.int .i64 1, .int .u32 c.xid, .int .i64 0, .int .i64 0, .int .u32 0, .int .u32 0, .int .u32 0, .int .u32 0, .slice p5 c.hw.length c6, .slice p16 (0 + 2) c17] 36 (0, 0))]) rfl rfl Clsay_sz36 (i := 2) rfl rfl (le rfl) rfl rfl ?_
  refine Run.to_end ?_
  refine Ex.go ?_
  refine Tr.to_ret ?_
  refine Ex.keepTo (H' := [s3, s10, [(b8, .cells #[.int .u8 (kind % 256)] 5 (0, 0))], [(b1, .cells #[.int .i64 1, .int .u32 c.xid, .int .i64 0, .int .i64 0, .int .u32 0, .int .u32 0, .int .u32 0, .int .u32 0, .slice p5 c.hw.length c6, .slice p16 (0 + 2) c17] 36 (0, 0))], [(bc, .cells #[.string c.name, .slice ph c.hw.length ch, .int .i64 c.state, .int .u32 c.xid, .int .u32 c.addr, .int .u32 c.server, .int .i64 c.until_, .int .i64 c.one, .int .i64 c.two, .bool c.due, .int .i64 c.tries, .int .i64 c.said, .int .i64 c.asks] 67 (0, 0))], [(b7, .cells #[.int .i64 1, .int .u32 c.xid, .int .i64 0, .int .i64 0, .int .u32 0, .int .u32 0, .int .u32 0, .int .u32 0, .slice p5 c.hw.length c6, .slice p16 (0 + 2) c17] 36 (0, 0))], s18]) [4, 0, 0, 0, 0, 0, 0] rfl ?_
  refine Ex.show (fun V20 hleV20 hshV20 => ?_)
  have hsh := ho4.shows _ hshV20
  have hVle := hleV20
  refine Ex.keepTo (H' := [[(b8, .cells #[.int .u8 (kind % 256)] 5 (0, 0))], s10, [(b1, .cells #[.int .i64 1, .int .u32 c.xid, .int .i64 0, .int .i64 0, .int .u32 0, .int .u32 0, .int .u32 0, .int .u32 0, .slice p5 c.hw.length c6, .slice p16 (0 + 2) c17] 36 (0, 0))], [(bc, .cells #[.string c.name, .slice ph c.hw.length ch, .int .i64 c.state, .int .u32 c.xid, .int .u32 c.addr, .int .u32 c.server, .int .i64 c.until_, .int .i64 c.one, .int .i64 c.two, .bool c.due, .int .i64 c.tries, .int .i64 c.said, .int .i64 c.asks] 67 (0, 0))], [(b7, .cells #[.int .i64 1, .int .u32 c.xid, .int .i64 0, .int .i64 0, .int .u32 0, .int .u32 0, .int .u32 0, .int .u32 0, .slice p5 c.hw.length c6, .slice p16 (0 + 2) c17] 36 (0, 0))], s18]) [1, 0, 0, 0, 0, 0] rfl ?_
  refine Ex.show (fun V21 hleV21 hshV21 => ?_)
  have hsd1 := (Ow.lit (e := 5) (k := 1) (b := b8) (n := 1) (cur := #[.int .u8 (kind % 256)]) rfl (by decide)).shows _ hshV21
  replace hsh := hsh.le hleV21
  replace hVle := Vw.le_trans hVle hleV21
  refine Ex.keepTo (H' := [s10, [(b1, .cells #[.int .i64 1, .int .u32 c.xid, .int .i64 0, .int .i64 0, .int .u32 0, .int .u32 0, .int .u32 0, .int .u32 0, .slice p5 c.hw.length c6, .slice p16 (0 + 2) c17] 36 (0, 0))], [(bc, .cells #[.string c.name, .slice ph c.hw.length ch, .int .i64 c.state, .int .u32 c.xid, .int .u32 c.addr, .int .u32 c.server, .int .i64 c.until_, .int .i64 c.one, .int .i64 c.two, .bool c.due, .int .i64 c.tries, .int .i64 c.said, .int .i64 c.asks] 67 (0, 0))], [(b7, .cells #[.int .i64 1, .int .u32 c.xid, .int .i64 0, .int .i64 0, .int .u32 0, .int .u32 0, .int .u32 0, .int .u32 0, .slice p5 c.hw.length c6, .slice p16 (0 + 2) c17] 36 (0, 0))], s18]) [0, 0, 0, 0, 0] rfl ?_
  refine Ex.show (fun V22 hleV22 hshV22 => ?_)
  have hsd2 := hsw11 _ hshV22
  replace hsh := hsh.le hleV22
  replace hsd1 := hsd1.le hleV22
  replace hVle := Vw.le_trans hVle hleV22
  have hsO : Ow 76 2 (.slice p16 2 c17) 2 [.int .i64 53, .slice (some ⟨b8, 0, none⟩) 1 1, .int .i64 61, .slice p12 c.name.size c13] s18 := ho19
  have hsH : Rd V22 [] 1 (.slice p5 c.hw.length c6) c.hw.length (c.hw.map byteV) := by have h := hsh; simpa using h
  have hsA : Rd V22 [] 1 (.slice (some ⟨b8, 0, none⟩) 1 1) 1 [.int .u8 (kind % 256)] := hsd1
  have hsB : Rd V22 [] 1 (.slice p12 c.name.size c13) c.name.size (c.name.toList.map byteV) := hsd2
  exact Ex.retCell [1, 2] rfl rfl Clsay_ag36 (Kn.at 0 rfl) rfl ⟨hVle, s18, rfl, .slice p5 c.hw.length c6, p16, c17, .slice (some ⟨b8, 0, none⟩) 1 1, .slice p12 c.name.size c13, rfl, hsH, hsO, hsA, hsB⟩
 ·refine Run.alloc Clsay_zo36 (lt rfl) (fun b23 => ?_)
  refine Run.to_end ?_
  refine Ex.anyL (KnAll.cons (Kn.at 2 rfl) KnAll.nil) ?_
  refine RunL.one (i := 8) (by kernel_rfl) rfl  ?_ 
  refine Run.call [] (l := [.tmp 13]) rfl rfl rfl (lt rfl) (clone_h hh (by omega)) (fun v24 V2 H2 _ hR => ?_)
  obtain ⟨hV, s25, rfl, ho26⟩ := hR; replace hV := hV.symm; subst hV; obtain ⟨p27, c28, rfl⟩ := ho26.form
  refine Run.to_end ?_
  refine Ex.anyL (KnAll.cons (Kn.at 2 rfl) KnAll.nil) ?_
  refine RunL.pure (i := 9) rfl (by kernel_rfl) (by kernel_rfl) (by kernel_rfl) (by kernel_rfl) (fun _ _ _ h => h) (lt rfl) (KnAll.cons (Kn.at 2 rfl) KnAll.nil) (fun _ => (Y.buildS (l := [(0, .const (.int .i64 1)), (1, .tmp 9), (8, .tmp 14)]) Clsay_zo36 Clsay_pl36 rfl rfl)) ?_
  refine RunL.one (i := 11) (by kernel_rfl) rfl  ?_ 
  refine Run.store (s := [(b23, .cells #[.int .i64 1, .int .u32 c.xid, .int .i64 0, .int .i64 0, .int .u32 0, .int .u32 0, .int .u32 0, .int .u32 0, .slice p27 c.hw.length c28, .slice none 0 0] 36 (0, 0))]) rfl rfl Clsay_sz36 (i := 0) rfl rfl (le rfl) rfl rfl ?_
  refine Run.to_end ?_
  refine Ex.anyLz rfl ?_
  refine RunL.done (by kernel_rfl) ?_
  refine Ex.go ?_
  refine Tr.seq ?_
  refine Tr.region ?_
  refine Run.val (lt rfl) (Y.move rfl) ?_
  refine Run.val (lt rfl) (Y.conv (kind % 256) rfl Clsay_it3_5 (wrap_u8m _)) ?_
  refine Run.buildSlice (l := [(0, .tmp 17)]) Clsay_es22 Clsay_zo5 rfl (by decide) rfl rfl (by decide) (lt rfl) (fun b29 => ?_)
  refine Run.val (lt rfl) (Y.buildS (l := [(0, .const (.int .i64 53)), (1, .tmp 18)]) Clsay_zo76 Clsay_pl76 rfl rfl) ?_
  refine Run.val (lt rfl) (Y.move rfl) ?_
  refine Run.val (lt rfl) (Y.nilCheck rfl) ?_
  refine Run.val (lt rfl) (Y.fieldAddr rfl Clsay_fo67_0) ?_
  refine Run.val (lt rfl) (Y.load rfl Clsay_ts9 (Kn.at 3 rfl) rfl) ?_
  refine Run.strBytes (str := c.name) rfl Clsay_es22 Clsay_tg5 Clsay_st9 (lt rfl) (fun v30 s31 hsw32 hf => ?_)
  obtain ⟨p33, c34, rfl⟩ := hf
  refine Run.val (lt rfl) (Y.buildS (l := [(0, .const (.int .i64 61)), (1, .tmp 24)]) Clsay_zo76 Clsay_pl76 rfl rfl) ?_
  refine Run.buildSlice (l := [(0, .tmp 19), (1, .tmp 25)]) (r := [.int .i64 53, .slice (some ⟨b29, 0, none⟩) 1 1, .int .i64 61, .slice p33 c.name.size c34]) Clsay_es34 Clsay_zo76 rfl (by decide) rfl rfl (by decide) (lt rfl) (fun b35 => ?_)
  refine Run.nilseg ?_
  refine Run.call [4, 0, 0] (l := [.tmp 5, .tmp 26]) rfl rfl rfl (lt rfl) (put_c (n := 0) (xs := []) (Ow.nil 76 2) (by omega)) (fun v36 V2 H2 _ hR => ?_)
  obtain ⟨hV, rfl, p37, c38, s39, rfl, ho40⟩ := hR; replace hV := hV.symm; subst hV
  refine Run.to_end ?_
  refine Ex.go ?_
  refine Tr.seq ?_
  refine Tr.region ?_
  refine Run.val (lt rfl) (Y.loadAgg rfl Clsay_ag36 (Kn.at 5 rfl) rfl) ?_
  refine Run.store (s := [(b1, .cells #[.int .i64 1, .int .u32 c.xid, .int .i64 0, .int .i64 0, .int .u32 0, .int .u32 0, .int .u32 0, .int .u32 0, .slice p27 c.hw.length c28, .slice p37 (0 + 2) c38] 36 (0, 0))]) rfl rfl Clsay_sz36 (i := 2) rfl rfl (le rfl) rfl rfl ?_
  refine Run.to_end ?_
  refine Ex.go ?_
  refine Tr.to_ret ?_
  refine Ex.keepTo (H' := [s25, s31, [(b29, .cells #[.int .u8 (kind % 256)] 5 (0, 0))], [(b1, .cells #[.int .i64 1, .int .u32 c.xid, .int .i64 0, .int .i64 0, .int .u32 0, .int .u32 0, .int .u32 0, .int .u32 0, .slice p27 c.hw.length c28, .slice p37 (0 + 2) c38] 36 (0, 0))], [(bc, .cells #[.string c.name, .slice ph c.hw.length ch, .int .i64 c.state, .int .u32 c.xid, .int .u32 c.addr, .int .u32 c.server, .int .i64 c.until_, .int .i64 c.one, .int .i64 c.two, .bool c.due, .int .i64 c.tries, .int .i64 c.said, .int .i64 c.asks] 67 (0, 0))], [(b23, .cells #[.int .i64 1, .int .u32 c.xid, .int .i64 0, .int .i64 0, .int .u32 0, .int .u32 0, .int .u32 0, .int .u32 0, .slice p27 c.hw.length c28, .slice p37 (0 + 2) c38] 36 (0, 0))], s39]) [4, 0, 0, 0, 0, 0, 0] rfl ?_
  refine Ex.show (fun V41 hleV41 hshV41 => ?_)
  have hsh := ho26.shows _ hshV41
  have hVle := hleV41
  refine Ex.keepTo (H' := [[(b29, .cells #[.int .u8 (kind % 256)] 5 (0, 0))], s31, [(b1, .cells #[.int .i64 1, .int .u32 c.xid, .int .i64 0, .int .i64 0, .int .u32 0, .int .u32 0, .int .u32 0, .int .u32 0, .slice p27 c.hw.length c28, .slice p37 (0 + 2) c38] 36 (0, 0))], [(bc, .cells #[.string c.name, .slice ph c.hw.length ch, .int .i64 c.state, .int .u32 c.xid, .int .u32 c.addr, .int .u32 c.server, .int .i64 c.until_, .int .i64 c.one, .int .i64 c.two, .bool c.due, .int .i64 c.tries, .int .i64 c.said, .int .i64 c.asks] 67 (0, 0))], [(b23, .cells #[.int .i64 1, .int .u32 c.xid, .int .i64 0, .int .i64 0, .int .u32 0, .int .u32 0, .int .u32 0, .int .u32 0, .slice p27 c.hw.length c28, .slice p37 (0 + 2) c38] 36 (0, 0))], s39]) [1, 0, 0, 0, 0, 0] rfl ?_
  refine Ex.show (fun V42 hleV42 hshV42 => ?_)
  have hsd1 := (Ow.lit (e := 5) (k := 1) (b := b29) (n := 1) (cur := #[.int .u8 (kind % 256)]) rfl (by decide)).shows _ hshV42
  replace hsh := hsh.le hleV42
  replace hVle := Vw.le_trans hVle hleV42
  refine Ex.keepTo (H' := [s31, [(b1, .cells #[.int .i64 1, .int .u32 c.xid, .int .i64 0, .int .i64 0, .int .u32 0, .int .u32 0, .int .u32 0, .int .u32 0, .slice p27 c.hw.length c28, .slice p37 (0 + 2) c38] 36 (0, 0))], [(bc, .cells #[.string c.name, .slice ph c.hw.length ch, .int .i64 c.state, .int .u32 c.xid, .int .u32 c.addr, .int .u32 c.server, .int .i64 c.until_, .int .i64 c.one, .int .i64 c.two, .bool c.due, .int .i64 c.tries, .int .i64 c.said, .int .i64 c.asks] 67 (0, 0))], [(b23, .cells #[.int .i64 1, .int .u32 c.xid, .int .i64 0, .int .i64 0, .int .u32 0, .int .u32 0, .int .u32 0, .int .u32 0, .slice p27 c.hw.length c28, .slice p37 (0 + 2) c38] 36 (0, 0))], s39]) [0, 0, 0, 0, 0] rfl ?_
  refine Ex.show (fun V43 hleV43 hshV43 => ?_)
  have hsd2 := hsw32 _ hshV43
  replace hsh := hsh.le hleV43
  replace hsd1 := hsd1.le hleV43
  replace hVle := Vw.le_trans hVle hleV43
  have hsO : Ow 76 2 (.slice p37 2 c38) 2 [.int .i64 53, .slice (some ⟨b29, 0, none⟩) 1 1, .int .i64 61, .slice p33 c.name.size c34] s39 := ho40
  have hsH : Rd V43 [] 1 (.slice p27 c.hw.length c28) c.hw.length (c.hw.map byteV) := by have h := hsh; simpa using h
  have hsA : Rd V43 [] 1 (.slice (some ⟨b29, 0, none⟩) 1 1) 1 [.int .u8 (kind % 256)] := hsd1
  have hsB : Rd V43 [] 1 (.slice p33 c.name.size c34) c.name.size (c.name.toList.map byteV) := hsd2
  exact Ex.retCell [1, 2] rfl rfl Clsay_ag36 (Kn.at 0 rfl) rfl ⟨hVle, s39, rfl, .slice p27 c.hw.length c28, p37, c38, .slice (some ⟨b29, 0, none⟩) 1 1, .slice p33 c.name.size c34, rfl, hsH, hsO, hsA, hsB⟩

set_option maxHeartbeats 400000 in
theorem rsays_c {V : Vw} {bc : Nat} {c : Cli} {ph : Option Addr} {ch : Nat} {kind : Int} (hh : Rd V [] 1 (.slice ph c.hw.length ch) c.hw.length (c.hw.map byteV)) (hl : c.hw.length ≤ 16)  : Does Try.prog 43 [.pointer (some ⟨bc, 0, none⟩), .int .i64 kind] V [[(bc, .cells (Cli.cells c (.slice ph c.hw.length ch)) 44 (0, 0))]] (fun u V' H' => V.le V' ∧ ∃ q, H' = [[(bc, .cells (Cli.cells c (.slice ph c.hw.length ch)) 44 (0, 0))], q] ∧ Cli.Said 76 V' c kind u q) := by
 refine Does.intro Try.func43 rfl rfl (le rfl) (fun B => ?_)
 refine Tr.seq ?_
 refine Tr.region ?_
 refine Run.alloc Clsay_zo36 (lt rfl) (fun b1 => ?_)
 refine Run.to_end ?_
 refine Ex.go ?_
 refine Tr.seq ?_
 refine Tr.anyL [(bc, .cells #[.string c.name, .slice ph c.hw.length ch, .int .i64 c.state, .int .u32 c.xid, .int .u32 c.addr, .int .u32 c.server, .int .i64 c.until_, .int .i64 c.one, .int .i64 c.two, .bool c.due, .int .i64 c.tries, .int .i64 c.said, .int .i64 c.asks] 44 (0, 0))] 22 Clsay_mo ?_
 refine RunL.pure (i := 0) rfl (by kernel_rfl) (by kernel_rfl) (by kernel_rfl) (by kernel_rfl) (fun _ _ _ h => h) (lt rfl) (KnAll.cons (Kn.at 1 rfl) KnAll.nil) (fun _ => (Y.move rfl)) ?_
 refine RunL.pure (i := 1) rfl (by kernel_rfl) (by kernel_rfl) (by kernel_rfl) (by kernel_rfl) (fun _ _ _ h => h) (lt rfl) (KnAll.cons (Kn.at 1 rfl) KnAll.nil) (fun _ => (Y.nilCheck rfl)) ?_
 refine RunL.pure (i := 2) rfl (by kernel_rfl) (by kernel_rfl) (by kernel_rfl) (by kernel_rfl) (fun _ _ _ h => h) (lt rfl) (KnAll.cons (Kn.at 1 rfl) KnAll.nil) (fun _ => (Y.fieldAddr rfl Clsay_fo44_3)) ?_
 refine RunL.take (i := 3) 0 rfl rfl (by kernel_rfl) (by kernel_rfl) (by kernel_rfl) (by kernel_rfl) (fun _ _ _ h => h) (lt rfl) (KnAll.cons (Kn.at 1 rfl) KnAll.nil) (fun _ => (Y.load rfl Clsay_ts32 Kn.vk1 rfl)) ?_
 refine RunL.pure (i := 5) rfl (by kernel_rfl) (by kernel_rfl) (by kernel_rfl) (by kernel_rfl) (fun _ _ _ h => h) (lt rfl) (KnAll.cons (Kn.at 1 rfl) KnAll.nil) (fun _ => (Y.move rfl)) ?_
 refine RunL.pure (i := 6) rfl (by kernel_rfl) (by kernel_rfl) (by kernel_rfl) (by kernel_rfl) (fun _ _ _ h => h) (lt rfl) (KnAll.cons (Kn.at 1 rfl) KnAll.nil) (fun _ => (Y.nilCheck rfl)) ?_
 refine RunL.pure (i := 7) rfl (by kernel_rfl) (by kernel_rfl) (by kernel_rfl) (by kernel_rfl) (fun _ _ _ h => h) (lt rfl) (KnAll.cons (Kn.at 1 rfl) KnAll.nil) (fun _ => (Y.fieldAddr rfl Clsay_fo44_1)) ?_
 refine RunL.take (i := 8) 0 rfl rfl (by kernel_rfl) (by kernel_rfl) (by kernel_rfl) (by kernel_rfl) (fun _ _ _ h => h) (lt rfl) (KnAll.cons (Kn.at 1 rfl) KnAll.nil) (fun _ => (Y.load rfl Clsay_ts22 Kn.vk1 rfl)) ?_
 refine RunL.pure (i := 10) rfl (by kernel_rfl) (by kernel_rfl) (by kernel_rfl) (by kernel_rfl) (fun _ _ _ h => h) (lt rfl) (KnAll.cons (Kn.at 1 rfl) KnAll.nil) (fun _ => (Y.move rfl)) ?_
 refine RunL.pure (i := 11) rfl (by kernel_rfl) (by kernel_rfl) (by kernel_rfl) (by kernel_rfl) (fun _ _ _ h => h) (lt rfl) (KnAll.cons (Kn.at 1 rfl) KnAll.nil) (fun _ => (Y.conv (kind % 256) rfl Clsay_it3_5 (wrap_u8m _))) ?_
 refine RunL.pure (i := 14) rfl (by kernel_rfl) (by kernel_rfl) (by kernel_rfl) (by kernel_rfl) (fun _ _ _ h => h) (lt rfl) (KnAll.cons (Kn.at 1 rfl) KnAll.nil) (fun _ => (Y.move rfl)) ?_
 refine RunL.pure (i := 15) rfl (by kernel_rfl) (by kernel_rfl) (by kernel_rfl) (by kernel_rfl) (fun _ _ _ h => h) (lt rfl) (KnAll.cons (Kn.at 1 rfl) KnAll.nil) (fun _ => (Y.nilCheck rfl)) ?_
 refine RunL.pure (i := 16) rfl (by kernel_rfl) (by kernel_rfl) (by kernel_rfl) (by kernel_rfl) (fun _ _ _ h => h) (lt rfl) (KnAll.cons (Kn.at 1 rfl) KnAll.nil) (fun _ => (Y.fieldAddr rfl Clsay_fo44_0)) ?_
 refine RunL.take (i := 17) 0 rfl rfl (by kernel_rfl) (by kernel_rfl) (by kernel_rfl) (by kernel_rfl) (fun _ _ _ h => h) (lt rfl) (KnAll.cons (Kn.at 1 rfl) KnAll.nil) (fun _ => (Y.load rfl Clsay_ts9 Kn.vk1 rfl)) ?_
 refine RunL.three (i := 4) (j := 12) (k := 18) (by kernel_rfl) rfl rfl rfl  ?_ ?_ ?_ 
 ·refine Run.buildSlice0 Clsay_es22 (lt rfl) (fun b2 => ?_)
  refine Run.to_end ?_
  refine Ex.anyL (KnAll.cons (Kn.at 2 rfl) KnAll.nil) ?_
  refine RunL.three (i := 9) (j := 12) (k := 18) (by kernel_rfl) rfl rfl rfl  ?_ ?_ ?_ 
  ·refine Run.append (n := 0) (m := c.hw.length) (xs := []) (ys := c.hw.map byteV) rfl rfl Clsay_es22 Clsay_zi5 (by decide) (j := 0) rfl (Ow.lit (cur := #[]) rfl (by decide)) (Src.of_rd Clsay_es22 hh.of_nil) (by omega) (by omega) (all_one_bytes _) (lt rfl) (fun v3 s4 ho5 hf => ?_)
   obtain ⟨p3, c3, rfl⟩ := hf
   refine Run.to_end ?_
   refine Ex.anyL (KnAll.cons (Kn.at 2 rfl) KnAll.nil) ?_
   refine RunL.two (i := 12) (j := 18) (by kernel_rfl) rfl rfl  ?_ ?_ 
   ·refine Run.buildSlice (l := [(0, .tmp 16)]) Clsay_es22 Clsay_zo5 rfl (by decide) rfl rfl (by decide) (lt rfl) (fun b6 => ?_)
    refine Run.to_end ?_
    refine Ex.anyL (KnAll.cons (Kn.at 3 rfl) KnAll.nil) ?_
    refine RunL.pure (i := 13) rfl (by kernel_rfl) (by kernel_rfl) (by kernel_rfl) (by kernel_rfl) (fun _ _ _ h => h) (lt rfl) (KnAll.cons (Kn.at 3 rfl) KnAll.nil) (fun _ => (Y.buildS (l := [(0, .const (.int .i64 53)), (1, .tmp 17)]) Clsay_zo76 Clsay_pl76 rfl rfl)) ?_
    refine RunL.one (i := 18) (by kernel_rfl) rfl  ?_ 
    refine Run.strBytes (str := c.name) rfl Clsay_es22 Clsay_tg5 Clsay_st9 (lt rfl) (fun v7 s8 hsw9 hf => ?_)
    obtain ⟨p10, c11, rfl⟩ := hf
    refine Run.to_end ?_
    refine Ex.anyL (KnAll.cons (Kn.at 4 rfl) KnAll.nil) ?_
    refine RunL.pure (i := 19) rfl (by kernel_rfl) (by kernel_rfl) (by kernel_rfl) (by kernel_rfl) (fun _ _ _ h => h) (lt rfl) (KnAll.cons (Kn.at 4 rfl) KnAll.nil) (fun _ => (Y.buildS (l := [(0, .const (.int .i64 61)), (1, .tmp 23)]) Clsay_zo76 Clsay_pl76 rfl rfl)) ?_
    refine RunL.one (i := 20) (by kernel_rfl) rfl  ?_ 
    refine Run.buildSlice (l := [(0, .tmp 18), (1, .tmp 24)]) (r := [.int .i64 53, .slice (some ⟨b6, 0, none⟩) 1 1, .int .i64 61, .slice p10 c.name.size c11]) Clsay_es34 Clsay_zo76 rfl (by decide) rfl rfl (by decide) (lt rfl) (fun b12 => ?_)
    refine Run.to_end ?_
    refine Ex.anyL (KnAll.cons (Kn.at 5 rfl) KnAll.nil) ?_
    refine RunL.pure (i := 21) rfl (by kernel_rfl) (by kernel_rfl) (by kernel_rfl) (by kernel_rfl) (fun _ _ _ h => h) (lt rfl) (KnAll.cons (Kn.at 5 rfl) KnAll.nil) (fun _ => (Y.buildS (l := [(0, .const (.int .i64 1)), (1, .tmp 8), (8, .tmp 14), (9, .tmp 25)]) Clsay_zo36 Clsay_pl36 rfl rfl)) ?_
    refine RunL.one (i := 22) (by kernel_rfl) rfl  ?_ 
    refine Run.store (s := [(b1, .cells #[.int .i64 1, .int .u32 c.xid, .int .i64 0, .int .i64 0, .int .u32 0, .int .u32 0, .int .u32 0, .int .u32 0, .slice p3 (0 + c.hw.length) c3, .slice (some ⟨b12, 0, none⟩) 2 2] 36 (0, 0))]) rfl rfl Clsay_sz36 (i := 4) rfl rfl (le rfl) rfl rfl ?_
    refine Run.to_end ?_
    refine Ex.anyLz rfl ?_
    refine RunL.done (by kernel_rfl) ?_
    refine Ex.go ?_
    refine Tr.to_ret ?_
    refine Ex.keepTo (H' := [s4, [(b12, .cells #[.int .i64 53, .slice (some ⟨b6, 0, none⟩) 1 1, .int .i64 61, .slice p10 c.name.size c11] 76 (0, 0))], s8, [(b6, .cells #[.int .u8 (kind % 256)] 5 (0, 0))], [(b1, .cells #[.int .i64 1, .int .u32 c.xid, .int .i64 0, .int .i64 0, .int .u32 0, .int .u32 0, .int .u32 0, .int .u32 0, .slice p3 (0 + c.hw.length) c3, .slice (some ⟨b12, 0, none⟩) 2 2] 36 (0, 0))], [(bc, .cells #[.string c.name, .slice ph c.hw.length ch, .int .i64 c.state, .int .u32 c.xid, .int .u32 c.addr, .int .u32 c.server, .int .i64 c.until_, .int .i64 c.one, .int .i64 c.two, .bool c.due, .int .i64 c.tries, .int .i64 c.said, .int .i64 c.asks] 44 (0, 0))]]) [3, 0, 0, 0, 0, 0] rfl ?_
    refine Ex.show (fun V13 hleV13 hshV13 => ?_)
    have hsh := ho5.shows _ hshV13
    have hVle := hleV13
    refine Ex.keepTo (H' := [[(b6, .cells #[.int .u8 (kind % 256)] 5 (0, 0))], [(b12, .cells #[.int .i64 53, .slice (some ⟨b6, 0, none⟩) 1 1, .int .i64 61, .slice p10 c.name.size c11] 76 (0, 0))], s8, [(b1, .cells #[.int .i64 1, .int .u32 c.xid, .int .i64 0, .int .i64 0, .int .u32 0, .int .u32 0, .int .u32 0, .int .u32 0, .slice p3 (0 + c.hw.length) c3, .slice (some ⟨b12, 0, none⟩) 2 2] 36 (0, 0))], [(bc, .cells #[.string c.name, .slice ph c.hw.length ch, .int .i64 c.state, .int .u32 c.xid, .int .u32 c.addr, .int .u32 c.server, .int .i64 c.until_, .int .i64 c.one, .int .i64 c.two, .bool c.due, .int .i64 c.tries, .int .i64 c.said, .int .i64 c.asks] 44 (0, 0))]]) [2, 0, 0, 0, 0] rfl ?_
    refine Ex.show (fun V14 hleV14 hshV14 => ?_)
    have hsd1 := (Ow.lit (e := 5) (k := 1) (b := b6) (n := 1) (cur := #[.int .u8 (kind % 256)]) rfl (by decide)).shows _ hshV14
    replace hsh := hsh.le hleV14
    replace hVle := Vw.le_trans hVle hleV14
    refine Ex.keepTo (H' := [s8, [(b12, .cells #[.int .i64 53, .slice (some ⟨b6, 0, none⟩) 1 1, .int .i64 61, .slice p10 c.name.size c11] 76 (0, 0))], [(b1, .cells #[.int .i64 1, .int .u32 c.xid, .int .i64 0, .int .i64 0, .int .u32 0, .int .u32 0, .int .u32 0, .int .u32 0, .slice p3 (0 + c.hw.length) c3, .slice (some ⟨b12, 0, none⟩) 2 2] 36 (0, 0))], [(bc, .cells #[.string c.name, .slice ph c.hw.length ch, .int .i64 c.state, .int .u32 c.xid, .int .u32 c.addr, .int .u32 c.server, .int .i64 c.until_, .int .i64 c.one, .int .i64 c.two, .bool c.due, .int .i64 c.tries, .int .i64 c.said, .int .i64 c.asks] 44 (0, 0))]]) [1, 0, 0, 0] rfl ?_
    refine Ex.show (fun V15 hleV15 hshV15 => ?_)
    have hsd2 := hsw9 _ hshV15
    replace hsh := hsh.le hleV15
    replace hsd1 := hsd1.le hleV15
    replace hVle := Vw.le_trans hVle hleV15
    have hsO : Ow 76 2 (.slice (some ⟨b12, 0, none⟩) 2 2) 2 [.int .i64 53, .slice (some ⟨b6, 0, none⟩) 1 1, .int .i64 61, .slice p10 c.name.size c11] [(b12, .cells #[.int .i64 53, .slice (some ⟨b6, 0, none⟩) 1 1, .int .i64 61, .slice p10 c.name.size c11] 76 (0, 0))] := (Ow.lit rfl (by decide))
    have hsH : Rd V15 [] 1 (.slice p3 (0 + c.hw.length) c3) c.hw.length (c.hw.map byteV) := by have h := hsh; simpa using h
    have hsA : Rd V15 [] 1 (.slice (some ⟨b6, 0, none⟩) 1 1) 1 [.int .u8 (kind % 256)] := hsd1
    have hsB : Rd V15 [] 1 (.slice p10 c.name.size c11) c.name.size (c.name.toList.map byteV) := hsd2
    exact Ex.retCell [2, 0] rfl rfl Clsay_ag36 (Kn.at 1 rfl) rfl ⟨hVle, [(b12, .cells #[.int .i64 53, .slice (some ⟨b6, 0, none⟩) 1 1, .int .i64 61, .slice p10 c.name.size c11] 76 (0, 0))], rfl, .slice p3 (0 + c.hw.length) c3, (some ⟨b12, 0, none⟩), 2, .slice (some ⟨b6, 0, none⟩) 1 1, .slice p10 c.name.size c11, rfl, hsH, hsO, hsA, hsB⟩
   ·refine Run.strBytes (str := c.name) rfl Clsay_es22 Clsay_tg5 Clsay_st9 (lt rfl) (fun v16 s17 hsw18 hf => ?_)
    obtain ⟨p19, c20, rfl⟩ := hf
    refine Run.to_end ?_
    refine Ex.anyL (KnAll.cons (Kn.at 3 rfl) KnAll.nil) ?_
    refine RunL.pure (i := 19) rfl (by kernel_rfl) (by kernel_rfl) (by kernel_rfl) (by kernel_rfl) (fun _ _ _ h => h) (lt rfl) (KnAll.cons (Kn.at 3 rfl) KnAll.nil) (fun _ => (Y.buildS (l := [(0, .const (.int .i64 61)), (1, .tmp 23)]) Clsay_zo76 Clsay_pl76 rfl rfl)) ?_
    refine RunL.one (i := 12) (by kernel_rfl) rfl  ?_ 
    refine Run.buildSlice (l := [(0, .tmp 16)]) Clsay_es22 Clsay_zo5 rfl (by decide) rfl rfl (by decide) (lt rfl) (fun b21 => ?_)
    refine Run.to_end ?_
    refine Ex.anyL (KnAll.cons (Kn.at 4 rfl) KnAll.nil) ?_
    refine RunL.pure (i := 13) rfl (by kernel_rfl) (by kernel_rfl) (by kernel_rfl) (by kernel_rfl) (fun _ _ _ h => h) (lt rfl) (KnAll.cons (Kn.at 4 rfl) KnAll.nil) (fun _ => (Y.buildS (l := [(0, .const (.int .i64 53)), (1, .tmp 17)]) Clsay_zo76 Clsay_pl76 rfl rfl)) ?_
    refine RunL.one (i := 20) (by kernel_rfl) rfl  ?_ 
    refine Run.buildSlice (l := [(0, .tmp 18), (1, .tmp 24)]) (r := [.int .i64 53, .slice (some ⟨b21, 0, none⟩) 1 1, .int .i64 61, .slice p19 c.name.size c20]) Clsay_es34 Clsay_zo76 rfl (by decide) rfl rfl (by decide) (lt rfl) (fun b22 => ?_)
    refine Run.to_end ?_
    refine Ex.anyL (KnAll.cons (Kn.at 5 rfl) KnAll.nil) ?_
    refine RunL.pure (i := 21) rfl (by kernel_rfl) (by kernel_rfl) (by kernel_rfl) (by kernel_rfl) (fun _ _ _ h => h) (lt rfl) (KnAll.cons (Kn.at 5 rfl) KnAll.nil) (fun _ => (Y.buildS (l := [(0, .const (.int .i64 1)), (1, .tmp 8), (8, .tmp 14), (9, .tmp 25)]) Clsay_zo36 Clsay_pl36 rfl rfl)) ?_
    refine RunL.one (i := 22) (by kernel_rfl) rfl  ?_ 
    refine Run.store (s := [(b1, .cells #[.int .i64 1, .int .u32 c.xid, .int .i64 0, .int .i64 0, .int .u32 0, .int .u32 0, .int .u32 0, .int .u32 0, .slice p3 (0 + c.hw.length) c3, .slice (some ⟨b22, 0, none⟩) 2 2] 36 (0, 0))]) rfl rfl Clsay_sz36 (i := 4) rfl rfl (le rfl) rfl rfl ?_
    refine Run.to_end ?_
    refine Ex.anyLz rfl ?_
    refine RunL.done (by kernel_rfl) ?_
    refine Ex.go ?_
    refine Tr.to_ret ?_
    refine Ex.keepTo (H' := [s4, [(b22, .cells #[.int .i64 53, .slice (some ⟨b21, 0, none⟩) 1 1, .int .i64 61, .slice p19 c.name.size c20] 76 (0, 0))], [(b21, .cells #[.int .u8 (kind % 256)] 5 (0, 0))], s17, [(b1, .cells #[.int .i64 1, .int .u32 c.xid, .int .i64 0, .int .i64 0, .int .u32 0, .int .u32 0, .int .u32 0, .int .u32 0, .slice p3 (0 + c.hw.length) c3, .slice (some ⟨b22, 0, none⟩) 2 2] 36 (0, 0))], [(bc, .cells #[.string c.name, .slice ph c.hw.length ch, .int .i64 c.state, .int .u32 c.xid, .int .u32 c.addr, .int .u32 c.server, .int .i64 c.until_, .int .i64 c.one, .int .i64 c.two, .bool c.due, .int .i64 c.tries, .int .i64 c.said, .int .i64 c.asks] 44 (0, 0))]]) [3, 0, 0, 0, 0, 0] rfl ?_
    refine Ex.show (fun V23 hleV23 hshV23 => ?_)
    have hsh := ho5.shows _ hshV23
    have hVle := hleV23
    refine Ex.keepTo (H' := [[(b21, .cells #[.int .u8 (kind % 256)] 5 (0, 0))], [(b22, .cells #[.int .i64 53, .slice (some ⟨b21, 0, none⟩) 1 1, .int .i64 61, .slice p19 c.name.size c20] 76 (0, 0))], s17, [(b1, .cells #[.int .i64 1, .int .u32 c.xid, .int .i64 0, .int .i64 0, .int .u32 0, .int .u32 0, .int .u32 0, .int .u32 0, .slice p3 (0 + c.hw.length) c3, .slice (some ⟨b22, 0, none⟩) 2 2] 36 (0, 0))], [(bc, .cells #[.string c.name, .slice ph c.hw.length ch, .int .i64 c.state, .int .u32 c.xid, .int .u32 c.addr, .int .u32 c.server, .int .i64 c.until_, .int .i64 c.one, .int .i64 c.two, .bool c.due, .int .i64 c.tries, .int .i64 c.said, .int .i64 c.asks] 44 (0, 0))]]) [1, 0, 0, 0, 0] rfl ?_
    refine Ex.show (fun V24 hleV24 hshV24 => ?_)
    have hsd1 := (Ow.lit (e := 5) (k := 1) (b := b21) (n := 1) (cur := #[.int .u8 (kind % 256)]) rfl (by decide)).shows _ hshV24
    replace hsh := hsh.le hleV24
    replace hVle := Vw.le_trans hVle hleV24
    refine Ex.keepTo (H' := [s17, [(b22, .cells #[.int .i64 53, .slice (some ⟨b21, 0, none⟩) 1 1, .int .i64 61, .slice p19 c.name.size c20] 76 (0, 0))], [(b1, .cells #[.int .i64 1, .int .u32 c.xid, .int .i64 0, .int .i64 0, .int .u32 0, .int .u32 0, .int .u32 0, .int .u32 0, .slice p3 (0 + c.hw.length) c3, .slice (some ⟨b22, 0, none⟩) 2 2] 36 (0, 0))], [(bc, .cells #[.string c.name, .slice ph c.hw.length ch, .int .i64 c.state, .int .u32 c.xid, .int .u32 c.addr, .int .u32 c.server, .int .i64 c.until_, .int .i64 c.one, .int .i64 c.two, .bool c.due, .int .i64 c.tries, .int .i64 c.said, .int .i64 c.asks] 44 (0, 0))]]) [1, 0, 0, 0] rfl ?_
    refine Ex.show (fun V25 hleV25 hshV25 => ?_)
    have hsd2 := hsw18 _ hshV25
    replace hsh := hsh.le hleV25
    replace hsd1 := hsd1.le hleV25
    replace hVle := Vw.le_trans hVle hleV25
    have hsO : Ow 76 2 (.slice (some ⟨b22, 0, none⟩) 2 2) 2 [.int .i64 53, .slice (some ⟨b21, 0, none⟩) 1 1, .int .i64 61, .slice p19 c.name.size c20] [(b22, .cells #[.int .i64 53, .slice (some ⟨b21, 0, none⟩) 1 1, .int .i64 61, .slice p19 c.name.size c20] 76 (0, 0))] := (Ow.lit rfl (by decide))
    have hsH : Rd V25 [] 1 (.slice p3 (0 + c.hw.length) c3) c.hw.length (c.hw.map byteV) := by have h := hsh; simpa using h
    have hsA : Rd V25 [] 1 (.slice (some ⟨b21, 0, none⟩) 1 1) 1 [.int .u8 (kind % 256)] := hsd1
    have hsB : Rd V25 [] 1 (.slice p19 c.name.size c20) c.name.size (c.name.toList.map byteV) := hsd2
    exact Ex.retCell [2, 0] rfl rfl Clsay_ag36 (Kn.at 1 rfl) rfl ⟨hVle, [(b22, .cells #[.int .i64 53, .slice (some ⟨b21, 0, none⟩) 1 1, .int .i64 61, .slice p19 c.name.size c20] 76 (0, 0))], rfl, .slice p3 (0 + c.hw.length) c3, (some ⟨b22, 0, none⟩), 2, .slice (some ⟨b21, 0, none⟩) 1 1, .slice p19 c.name.size c20, rfl, hsH, hsO, hsA, hsB⟩
  ·refine Run.buildSlice (l := [(0, .tmp 16)]) Clsay_es22 Clsay_zo5 rfl (by decide) rfl rfl (by decide) (lt rfl) (fun b26 => ?_)
   refine Run.to_end ?_
   refine Ex.anyL (KnAll.cons (Kn.at 3 rfl) KnAll.nil) ?_
   refine RunL.pure (i := 13) rfl (by kernel_rfl) (by kernel_rfl) (by kernel_rfl) (by kernel_rfl) (fun _ _ _ h => h) (lt rfl) (KnAll.cons (Kn.at 3 rfl) KnAll.nil) (fun _ => (Y.buildS (l := [(0, .const (.int .i64 53)), (1, .tmp 17)]) Clsay_zo76 Clsay_pl76 rfl rfl)) ?_
   refine RunL.two (i := 9) (j := 18) (by kernel_rfl) rfl rfl  ?_ ?_ 
   ·refine Run.append (n := 0) (m := c.hw.length) (xs := []) (ys := c.hw.map byteV) rfl rfl Clsay_es22 Clsay_zi5 (by decide) (j := 1) rfl (Ow.lit (cur := #[]) rfl (by decide)) (Src.of_rd Clsay_es22 hh.of_nil) (by omega) (by omega) (all_one_bytes _) (lt rfl) (fun v27 s28 ho29 hf => ?_)
    obtain ⟨p27, c27, rfl⟩ := hf
    refine Run.to_end ?_
    refine Ex.anyL (KnAll.cons (Kn.at 3 rfl) KnAll.nil) ?_
    refine RunL.one (i := 18) (by kernel_rfl) rfl  ?_ 
    refine Run.strBytes (str := c.name) rfl Clsay_es22 Clsay_tg5 Clsay_st9 (lt rfl) (fun v30 s31 hsw32 hf => ?_)
    obtain ⟨p33, c34, rfl⟩ := hf
    refine Run.to_end ?_
    refine Ex.anyL (KnAll.cons (Kn.at 4 rfl) KnAll.nil) ?_
    refine RunL.pure (i := 19) rfl (by kernel_rfl) (by kernel_rfl) (by kernel_rfl) (by kernel_rfl) (fun _ _ _ h => h) (lt rfl) (KnAll.cons (Kn.at 4 rfl) KnAll.nil) (fun _ => (Y.buildS (l := [(0, .const (.int .i64 61)), (1, .tmp 23)]) Clsay_zo76 Clsay_pl76 rfl rfl)) ?_
    refine RunL.one (i := 20) (by kernel_rfl) rfl  ?_ 
    refine Run.buildSlice (l := [(0, .tmp 18), (1, .tmp 24)]) (r := [.int .i64 53, .slice (some ⟨b26, 0, none⟩) 1 1, .int .i64 61, .slice p33 c.name.size c34]) Clsay_es34 Clsay_zo76 rfl (by decide) rfl rfl (by decide) (lt rfl) (fun b35 => ?_)
    refine Run.to_end ?_
    refine Ex.anyL (KnAll.cons (Kn.at 5 rfl) KnAll.nil) ?_
    refine RunL.pure (i := 21) rfl (by kernel_rfl) (by kernel_rfl) (by kernel_rfl) (by kernel_rfl) (fun _ _ _ h => h) (lt rfl) (KnAll.cons (Kn.at 5 rfl) KnAll.nil) (fun _ => (Y.buildS (l := [(0, .const (.int .i64 1)), (1, .tmp 8), (8, .tmp 14), (9, .tmp 25)]) Clsay_zo36 Clsay_pl36 rfl rfl)) ?_
    refine RunL.one (i := 22) (by kernel_rfl) rfl  ?_ 
    refine Run.store (s := [(b1, .cells #[.int .i64 1, .int .u32 c.xid, .int .i64 0, .int .i64 0, .int .u32 0, .int .u32 0, .int .u32 0, .int .u32 0, .slice p27 (0 + c.hw.length) c27, .slice (some ⟨b35, 0, none⟩) 2 2] 36 (0, 0))]) rfl rfl Clsay_sz36 (i := 4) rfl rfl (le rfl) rfl rfl ?_
    refine Run.to_end ?_
    refine Ex.anyLz rfl ?_
    refine RunL.done (by kernel_rfl) ?_
    refine Ex.go ?_
    refine Tr.to_ret ?_
    refine Ex.keepTo (H' := [s28, [(b35, .cells #[.int .i64 53, .slice (some ⟨b26, 0, none⟩) 1 1, .int .i64 61, .slice p33 c.name.size c34] 76 (0, 0))], s31, [(b26, .cells #[.int .u8 (kind % 256)] 5 (0, 0))], [(b1, .cells #[.int .i64 1, .int .u32 c.xid, .int .i64 0, .int .i64 0, .int .u32 0, .int .u32 0, .int .u32 0, .int .u32 0, .slice p27 (0 + c.hw.length) c27, .slice (some ⟨b35, 0, none⟩) 2 2] 36 (0, 0))], [(bc, .cells #[.string c.name, .slice ph c.hw.length ch, .int .i64 c.state, .int .u32 c.xid, .int .u32 c.addr, .int .u32 c.server, .int .i64 c.until_, .int .i64 c.one, .int .i64 c.two, .bool c.due, .int .i64 c.tries, .int .i64 c.said, .int .i64 c.asks] 44 (0, 0))]]) [3, 0, 0, 0, 0, 0] rfl ?_
    refine Ex.show (fun V36 hleV36 hshV36 => ?_)
    have hsh := ho29.shows _ hshV36
    have hVle := hleV36
    refine Ex.keepTo (H' := [[(b26, .cells #[.int .u8 (kind % 256)] 5 (0, 0))], [(b35, .cells #[.int .i64 53, .slice (some ⟨b26, 0, none⟩) 1 1, .int .i64 61, .slice p33 c.name.size c34] 76 (0, 0))], s31, [(b1, .cells #[.int .i64 1, .int .u32 c.xid, .int .i64 0, .int .i64 0, .int .u32 0, .int .u32 0, .int .u32 0, .int .u32 0, .slice p27 (0 + c.hw.length) c27, .slice (some ⟨b35, 0, none⟩) 2 2] 36 (0, 0))], [(bc, .cells #[.string c.name, .slice ph c.hw.length ch, .int .i64 c.state, .int .u32 c.xid, .int .u32 c.addr, .int .u32 c.server, .int .i64 c.until_, .int .i64 c.one, .int .i64 c.two, .bool c.due, .int .i64 c.tries, .int .i64 c.said, .int .i64 c.asks] 44 (0, 0))]]) [2, 0, 0, 0, 0] rfl ?_
    refine Ex.show (fun V37 hleV37 hshV37 => ?_)
    have hsd1 := (Ow.lit (e := 5) (k := 1) (b := b26) (n := 1) (cur := #[.int .u8 (kind % 256)]) rfl (by decide)).shows _ hshV37
    replace hsh := hsh.le hleV37
    replace hVle := Vw.le_trans hVle hleV37
    refine Ex.keepTo (H' := [s31, [(b35, .cells #[.int .i64 53, .slice (some ⟨b26, 0, none⟩) 1 1, .int .i64 61, .slice p33 c.name.size c34] 76 (0, 0))], [(b1, .cells #[.int .i64 1, .int .u32 c.xid, .int .i64 0, .int .i64 0, .int .u32 0, .int .u32 0, .int .u32 0, .int .u32 0, .slice p27 (0 + c.hw.length) c27, .slice (some ⟨b35, 0, none⟩) 2 2] 36 (0, 0))], [(bc, .cells #[.string c.name, .slice ph c.hw.length ch, .int .i64 c.state, .int .u32 c.xid, .int .u32 c.addr, .int .u32 c.server, .int .i64 c.until_, .int .i64 c.one, .int .i64 c.two, .bool c.due, .int .i64 c.tries, .int .i64 c.said, .int .i64 c.asks] 44 (0, 0))]]) [1, 0, 0, 0] rfl ?_
    refine Ex.show (fun V38 hleV38 hshV38 => ?_)
    have hsd2 := hsw32 _ hshV38
    replace hsh := hsh.le hleV38
    replace hsd1 := hsd1.le hleV38
    replace hVle := Vw.le_trans hVle hleV38
    have hsO : Ow 76 2 (.slice (some ⟨b35, 0, none⟩) 2 2) 2 [.int .i64 53, .slice (some ⟨b26, 0, none⟩) 1 1, .int .i64 61, .slice p33 c.name.size c34] [(b35, .cells #[.int .i64 53, .slice (some ⟨b26, 0, none⟩) 1 1, .int .i64 61, .slice p33 c.name.size c34] 76 (0, 0))] := (Ow.lit rfl (by decide))
    have hsH : Rd V38 [] 1 (.slice p27 (0 + c.hw.length) c27) c.hw.length (c.hw.map byteV) := by have h := hsh; simpa using h
    have hsA : Rd V38 [] 1 (.slice (some ⟨b26, 0, none⟩) 1 1) 1 [.int .u8 (kind % 256)] := hsd1
    have hsB : Rd V38 [] 1 (.slice p33 c.name.size c34) c.name.size (c.name.toList.map byteV) := hsd2
    exact Ex.retCell [2, 0] rfl rfl Clsay_ag36 (Kn.at 1 rfl) rfl ⟨hVle, [(b35, .cells #[.int .i64 53, .slice (some ⟨b26, 0, none⟩) 1 1, .int .i64 61, .slice p33 c.name.size c34] 76 (0, 0))], rfl, .slice p27 (0 + c.hw.length) c27, (some ⟨b35, 0, none⟩), 2, .slice (some ⟨b26, 0, none⟩) 1 1, .slice p33 c.name.size c34, rfl, hsH, hsO, hsA, hsB⟩
   ·refine Run.strBytes (str := c.name) rfl Clsay_es22 Clsay_tg5 Clsay_st9 (lt rfl) (fun v39 s40 hsw41 hf => ?_)
    obtain ⟨p42, c43, rfl⟩ := hf
    refine Run.to_end ?_
    refine Ex.anyL (KnAll.cons (Kn.at 4 rfl) KnAll.nil) ?_
    refine RunL.pure (i := 19) rfl (by kernel_rfl) (by kernel_rfl) (by kernel_rfl) (by kernel_rfl) (fun _ _ _ h => h) (lt rfl) (KnAll.cons (Kn.at 4 rfl) KnAll.nil) (fun _ => (Y.buildS (l := [(0, .const (.int .i64 61)), (1, .tmp 23)]) Clsay_zo76 Clsay_pl76 rfl rfl)) ?_
    refine RunL.two (i := 9) (j := 20) (by kernel_rfl) rfl rfl  ?_ ?_ 
    ·refine Run.append (n := 0) (m := c.hw.length) (xs := []) (ys := c.hw.map byteV) rfl rfl Clsay_es22 Clsay_zi5 (by decide) (j := 2) rfl (Ow.lit (cur := #[]) rfl (by decide)) (Src.of_rd Clsay_es22 hh.of_nil) (by omega) (by omega) (all_one_bytes _) (lt rfl) (fun v44 s45 ho46 hf => ?_)
     obtain ⟨p44, c44, rfl⟩ := hf
     refine Run.to_end ?_
     refine Ex.anyL (KnAll.cons (Kn.at 4 rfl) KnAll.nil) ?_
     refine RunL.one (i := 20) (by kernel_rfl) rfl  ?_ 
     refine Run.buildSlice (l := [(0, .tmp 18), (1, .tmp 24)]) (r := [.int .i64 53, .slice (some ⟨b26, 0, none⟩) 1 1, .int .i64 61, .slice p42 c.name.size c43]) Clsay_es34 Clsay_zo76 rfl (by decide) rfl rfl (by decide) (lt rfl) (fun b47 => ?_)
     refine Run.to_end ?_
     refine Ex.anyL (KnAll.cons (Kn.at 5 rfl) KnAll.nil) ?_
     refine RunL.pure (i := 21) rfl (by kernel_rfl) (by kernel_rfl) (by kernel_rfl) (by kernel_rfl) (fun _ _ _ h => h) (lt rfl) (KnAll.cons (Kn.at 5 rfl) KnAll.nil) (fun _ => (Y.buildS (l := [(0, .const (.int .i64 1)), (1, .tmp 8), (8, .tmp 14), (9, .tmp 25)]) Clsay_zo36 Clsay_pl36 rfl rfl)) ?_
     refine RunL.one (i := 22) (by kernel_rfl) rfl  ?_ 
     refine Run.store (s := [(b1, .cells #[.int .i64 1, .int .u32 c.xid, .int .i64 0, .int .i64 0, .int .u32 0, .int .u32 0, .int .u32 0, .int .u32 0, .slice p44 (0 + c.hw.length) c44, .slice (some ⟨b47, 0, none⟩) 2 2] 36 (0, 0))]) rfl rfl Clsay_sz36 (i := 4) rfl rfl (le rfl) rfl rfl ?_
     refine Run.to_end ?_
     refine Ex.anyLz rfl ?_
     refine RunL.done (by kernel_rfl) ?_
     refine Ex.go ?_
     refine Tr.to_ret ?_
     refine Ex.keepTo (H' := [s45, [(b47, .cells #[.int .i64 53, .slice (some ⟨b26, 0, none⟩) 1 1, .int .i64 61, .slice p42 c.name.size c43] 76 (0, 0))], s40, [(b26, .cells #[.int .u8 (kind % 256)] 5 (0, 0))], [(b1, .cells #[.int .i64 1, .int .u32 c.xid, .int .i64 0, .int .i64 0, .int .u32 0, .int .u32 0, .int .u32 0, .int .u32 0, .slice p44 (0 + c.hw.length) c44, .slice (some ⟨b47, 0, none⟩) 2 2] 36 (0, 0))], [(bc, .cells #[.string c.name, .slice ph c.hw.length ch, .int .i64 c.state, .int .u32 c.xid, .int .u32 c.addr, .int .u32 c.server, .int .i64 c.until_, .int .i64 c.one, .int .i64 c.two, .bool c.due, .int .i64 c.tries, .int .i64 c.said, .int .i64 c.asks] 44 (0, 0))]]) [3, 0, 0, 0, 0, 0] rfl ?_
     refine Ex.show (fun V48 hleV48 hshV48 => ?_)
     have hsh := ho46.shows _ hshV48
     have hVle := hleV48
     refine Ex.keepTo (H' := [[(b26, .cells #[.int .u8 (kind % 256)] 5 (0, 0))], [(b47, .cells #[.int .i64 53, .slice (some ⟨b26, 0, none⟩) 1 1, .int .i64 61, .slice p42 c.name.size c43] 76 (0, 0))], s40, [(b1, .cells #[.int .i64 1, .int .u32 c.xid, .int .i64 0, .int .i64 0, .int .u32 0, .int .u32 0, .int .u32 0, .int .u32 0, .slice p44 (0 + c.hw.length) c44, .slice (some ⟨b47, 0, none⟩) 2 2] 36 (0, 0))], [(bc, .cells #[.string c.name, .slice ph c.hw.length ch, .int .i64 c.state, .int .u32 c.xid, .int .u32 c.addr, .int .u32 c.server, .int .i64 c.until_, .int .i64 c.one, .int .i64 c.two, .bool c.due, .int .i64 c.tries, .int .i64 c.said, .int .i64 c.asks] 44 (0, 0))]]) [2, 0, 0, 0, 0] rfl ?_
     refine Ex.show (fun V49 hleV49 hshV49 => ?_)
     have hsd1 := (Ow.lit (e := 5) (k := 1) (b := b26) (n := 1) (cur := #[.int .u8 (kind % 256)]) rfl (by decide)).shows _ hshV49
     replace hsh := hsh.le hleV49
     replace hVle := Vw.le_trans hVle hleV49
     refine Ex.keepTo (H' := [s40, [(b47, .cells #[.int .i64 53, .slice (some ⟨b26, 0, none⟩) 1 1, .int .i64 61, .slice p42 c.name.size c43] 76 (0, 0))], [(b1, .cells #[.int .i64 1, .int .u32 c.xid, .int .i64 0, .int .i64 0, .int .u32 0, .int .u32 0, .int .u32 0, .int .u32 0, .slice p44 (0 + c.hw.length) c44, .slice (some ⟨b47, 0, none⟩) 2 2] 36 (0, 0))], [(bc, .cells #[.string c.name, .slice ph c.hw.length ch, .int .i64 c.state, .int .u32 c.xid, .int .u32 c.addr, .int .u32 c.server, .int .i64 c.until_, .int .i64 c.one, .int .i64 c.two, .bool c.due, .int .i64 c.tries, .int .i64 c.said, .int .i64 c.asks] 44 (0, 0))]]) [1, 0, 0, 0] rfl ?_
     refine Ex.show (fun V50 hleV50 hshV50 => ?_)
     have hsd2 := hsw41 _ hshV50
     replace hsh := hsh.le hleV50
     replace hsd1 := hsd1.le hleV50
     replace hVle := Vw.le_trans hVle hleV50
     have hsO : Ow 76 2 (.slice (some ⟨b47, 0, none⟩) 2 2) 2 [.int .i64 53, .slice (some ⟨b26, 0, none⟩) 1 1, .int .i64 61, .slice p42 c.name.size c43] [(b47, .cells #[.int .i64 53, .slice (some ⟨b26, 0, none⟩) 1 1, .int .i64 61, .slice p42 c.name.size c43] 76 (0, 0))] := (Ow.lit rfl (by decide))
     have hsH : Rd V50 [] 1 (.slice p44 (0 + c.hw.length) c44) c.hw.length (c.hw.map byteV) := by have h := hsh; simpa using h
     have hsA : Rd V50 [] 1 (.slice (some ⟨b26, 0, none⟩) 1 1) 1 [.int .u8 (kind % 256)] := hsd1
     have hsB : Rd V50 [] 1 (.slice p42 c.name.size c43) c.name.size (c.name.toList.map byteV) := hsd2
     exact Ex.retCell [2, 0] rfl rfl Clsay_ag36 (Kn.at 1 rfl) rfl ⟨hVle, [(b47, .cells #[.int .i64 53, .slice (some ⟨b26, 0, none⟩) 1 1, .int .i64 61, .slice p42 c.name.size c43] 76 (0, 0))], rfl, .slice p44 (0 + c.hw.length) c44, (some ⟨b47, 0, none⟩), 2, .slice (some ⟨b26, 0, none⟩) 1 1, .slice p42 c.name.size c43, rfl, hsH, hsO, hsA, hsB⟩
    ·refine Run.buildSlice (l := [(0, .tmp 18), (1, .tmp 24)]) (r := [.int .i64 53, .slice (some ⟨b26, 0, none⟩) 1 1, .int .i64 61, .slice p42 c.name.size c43]) Clsay_es34 Clsay_zo76 rfl (by decide) rfl rfl (by decide) (lt rfl) (fun b51 => ?_)
     refine Run.to_end ?_
     refine Ex.anyL (KnAll.cons (Kn.at 5 rfl) KnAll.nil) ?_
     refine RunL.one (i := 9) (by kernel_rfl) rfl  ?_ 
     refine Run.append (n := 0) (m := c.hw.length) (xs := []) (ys := c.hw.map byteV) rfl rfl Clsay_es22 Clsay_zi5 (by decide) (j := 3) rfl (Ow.lit (cur := #[]) rfl (by decide)) (Src.of_rd Clsay_es22 hh.of_nil) (by omega) (by omega) (all_one_bytes _) (lt rfl) (fun v52 s53 ho54 hf => ?_)
     obtain ⟨p52, c52, rfl⟩ := hf
     refine Run.to_end ?_
     refine Ex.anyL (KnAll.cons (Kn.at 5 rfl) KnAll.nil) ?_
     refine RunL.pure (i := 21) rfl (by kernel_rfl) (by kernel_rfl) (by kernel_rfl) (by kernel_rfl) (fun _ _ _ h => h) (lt rfl) (KnAll.cons (Kn.at 5 rfl) KnAll.nil) (fun _ => (Y.buildS (l := [(0, .const (.int .i64 1)), (1, .tmp 8), (8, .tmp 14), (9, .tmp 25)]) Clsay_zo36 Clsay_pl36 rfl rfl)) ?_
     refine RunL.one (i := 22) (by kernel_rfl) rfl  ?_ 
     refine Run.store (s := [(b1, .cells #[.int .i64 1, .int .u32 c.xid, .int .i64 0, .int .i64 0, .int .u32 0, .int .u32 0, .int .u32 0, .int .u32 0, .slice p52 (0 + c.hw.length) c52, .slice (some ⟨b51, 0, none⟩) 2 2] 36 (0, 0))]) rfl rfl Clsay_sz36 (i := 4) rfl rfl (le rfl) rfl rfl ?_
     refine Run.to_end ?_
     refine Ex.anyLz rfl ?_
     refine RunL.done (by kernel_rfl) ?_
     refine Ex.go ?_
     refine Tr.to_ret ?_
     refine Ex.keepTo (H' := [s53, [(b51, .cells #[.int .i64 53, .slice (some ⟨b26, 0, none⟩) 1 1, .int .i64 61, .slice p42 c.name.size c43] 76 (0, 0))], s40, [(b26, .cells #[.int .u8 (kind % 256)] 5 (0, 0))], [(b1, .cells #[.int .i64 1, .int .u32 c.xid, .int .i64 0, .int .i64 0, .int .u32 0, .int .u32 0, .int .u32 0, .int .u32 0, .slice p52 (0 + c.hw.length) c52, .slice (some ⟨b51, 0, none⟩) 2 2] 36 (0, 0))], [(bc, .cells #[.string c.name, .slice ph c.hw.length ch, .int .i64 c.state, .int .u32 c.xid, .int .u32 c.addr, .int .u32 c.server, .int .i64 c.until_, .int .i64 c.one, .int .i64 c.two, .bool c.due, .int .i64 c.tries, .int .i64 c.said, .int .i64 c.asks] 44 (0, 0))]]) [3, 0, 0, 0, 0, 0] rfl ?_
     refine Ex.show (fun V55 hleV55 hshV55 => ?_)
     have hsh := ho54.shows _ hshV55
     have hVle := hleV55
     refine Ex.keepTo (H' := [[(b26, .cells #[.int .u8 (kind % 256)] 5 (0, 0))], [(b51, .cells #[.int .i64 53, .slice (some ⟨b26, 0, none⟩) 1 1, .int .i64 61, .slice p42 c.name.size c43] 76 (0, 0))], s40, [(b1, .cells #[.int .i64 1, .int .u32 c.xid, .int .i64 0, .int .i64 0, .int .u32 0, .int .u32 0, .int .u32 0, .int .u32 0, .slice p52 (0 + c.hw.length) c52, .slice (some ⟨b51, 0, none⟩) 2 2] 36 (0, 0))], [(bc, .cells #[.string c.name, .slice ph c.hw.length ch, .int .i64 c.state, .int .u32 c.xid, .int .u32 c.addr, .int .u32 c.server, .int .i64 c.until_, .int .i64 c.one, .int .i64 c.two, .bool c.due, .int .i64 c.tries, .int .i64 c.said, .int .i64 c.asks] 44 (0, 0))]]) [2, 0, 0, 0, 0] rfl ?_
     refine Ex.show (fun V56 hleV56 hshV56 => ?_)
     have hsd1 := (Ow.lit (e := 5) (k := 1) (b := b26) (n := 1) (cur := #[.int .u8 (kind % 256)]) rfl (by decide)).shows _ hshV56
     replace hsh := hsh.le hleV56
     replace hVle := Vw.le_trans hVle hleV56
     refine Ex.keepTo (H' := [s40, [(b51, .cells #[.int .i64 53, .slice (some ⟨b26, 0, none⟩) 1 1, .int .i64 61, .slice p42 c.name.size c43] 76 (0, 0))], [(b1, .cells #[.int .i64 1, .int .u32 c.xid, .int .i64 0, .int .i64 0, .int .u32 0, .int .u32 0, .int .u32 0, .int .u32 0, .slice p52 (0 + c.hw.length) c52, .slice (some ⟨b51, 0, none⟩) 2 2] 36 (0, 0))], [(bc, .cells #[.string c.name, .slice ph c.hw.length ch, .int .i64 c.state, .int .u32 c.xid, .int .u32 c.addr, .int .u32 c.server, .int .i64 c.until_, .int .i64 c.one, .int .i64 c.two, .bool c.due, .int .i64 c.tries, .int .i64 c.said, .int .i64 c.asks] 44 (0, 0))]]) [1, 0, 0, 0] rfl ?_
     refine Ex.show (fun V57 hleV57 hshV57 => ?_)
     have hsd2 := hsw41 _ hshV57
     replace hsh := hsh.le hleV57
     replace hsd1 := hsd1.le hleV57
     replace hVle := Vw.le_trans hVle hleV57
     have hsO : Ow 76 2 (.slice (some ⟨b51, 0, none⟩) 2 2) 2 [.int .i64 53, .slice (some ⟨b26, 0, none⟩) 1 1, .int .i64 61, .slice p42 c.name.size c43] [(b51, .cells #[.int .i64 53, .slice (some ⟨b26, 0, none⟩) 1 1, .int .i64 61, .slice p42 c.name.size c43] 76 (0, 0))] := (Ow.lit rfl (by decide))
     have hsH : Rd V57 [] 1 (.slice p52 (0 + c.hw.length) c52) c.hw.length (c.hw.map byteV) := by have h := hsh; simpa using h
     have hsA : Rd V57 [] 1 (.slice (some ⟨b26, 0, none⟩) 1 1) 1 [.int .u8 (kind % 256)] := hsd1
     have hsB : Rd V57 [] 1 (.slice p42 c.name.size c43) c.name.size (c.name.toList.map byteV) := hsd2
     exact Ex.retCell [2, 0] rfl rfl Clsay_ag36 (Kn.at 1 rfl) rfl ⟨hVle, [(b51, .cells #[.int .i64 53, .slice (some ⟨b26, 0, none⟩) 1 1, .int .i64 61, .slice p42 c.name.size c43] 76 (0, 0))], rfl, .slice p52 (0 + c.hw.length) c52, (some ⟨b51, 0, none⟩), 2, .slice (some ⟨b26, 0, none⟩) 1 1, .slice p42 c.name.size c43, rfl, hsH, hsO, hsA, hsB⟩
  ·refine Run.strBytes (str := c.name) rfl Clsay_es22 Clsay_tg5 Clsay_st9 (lt rfl) (fun v58 s59 hsw60 hf => ?_)
   obtain ⟨p61, c62, rfl⟩ := hf
   refine Run.to_end ?_
   refine Ex.anyL (KnAll.cons (Kn.at 3 rfl) KnAll.nil) ?_
   refine RunL.pure (i := 19) rfl (by kernel_rfl) (by kernel_rfl) (by kernel_rfl) (by kernel_rfl) (fun _ _ _ h => h) (lt rfl) (KnAll.cons (Kn.at 3 rfl) KnAll.nil) (fun _ => (Y.buildS (l := [(0, .const (.int .i64 61)), (1, .tmp 23)]) Clsay_zo76 Clsay_pl76 rfl rfl)) ?_
   refine RunL.two (i := 9) (j := 12) (by kernel_rfl) rfl rfl  ?_ ?_ 
   ·refine Run.append (n := 0) (m := c.hw.length) (xs := []) (ys := c.hw.map byteV) rfl rfl Clsay_es22 Clsay_zi5 (by decide) (j := 1) rfl (Ow.lit (cur := #[]) rfl (by decide)) (Src.of_rd Clsay_es22 hh.of_nil) (by omega) (by omega) (all_one_bytes _) (lt rfl) (fun v63 s64 ho65 hf => ?_)
    obtain ⟨p63, c63, rfl⟩ := hf
    refine Run.to_end ?_
    refine Ex.anyL (KnAll.cons (Kn.at 3 rfl) KnAll.nil) ?_
    refine RunL.one (i := 12) (by kernel_rfl) rfl  ?_ 
    refine Run.buildSlice (l := [(0, .tmp 16)]) Clsay_es22 Clsay_zo5 rfl (by decide) rfl rfl (by decide) (lt rfl) (fun b66 => ?_)
    refine Run.to_end ?_
    refine Ex.anyL (KnAll.cons (Kn.at 4 rfl) KnAll.nil) ?_
    refine RunL.pure (i := 13) rfl (by kernel_rfl) (by kernel_rfl) (by kernel_rfl) (by kernel_rfl) (fun _ _ _ h => h) (lt rfl) (KnAll.cons (Kn.at 4 rfl) KnAll.nil) (fun _ => (Y.buildS (l := [(0, .const (.int .i64 53)), (1, .tmp 17)]) Clsay_zo76 Clsay_pl76 rfl rfl)) ?_
    refine RunL.one (i := 20) (by kernel_rfl) rfl  ?_ 
    refine Run.buildSlice (l := [(0, .tmp 18), (1, .tmp 24)]) (r := [.int .i64 53, .slice (some ⟨b66, 0, none⟩) 1 1, .int .i64 61, .slice p61 c.name.size c62]) Clsay_es34 Clsay_zo76 rfl (by decide) rfl rfl (by decide) (lt rfl) (fun b67 => ?_)
    refine Run.to_end ?_
    refine Ex.anyL (KnAll.cons (Kn.at 5 rfl) KnAll.nil) ?_
    refine RunL.pure (i := 21) rfl (by kernel_rfl) (by kernel_rfl) (by kernel_rfl) (by kernel_rfl) (fun _ _ _ h => h) (lt rfl) (KnAll.cons (Kn.at 5 rfl) KnAll.nil) (fun _ => (Y.buildS (l := [(0, .const (.int .i64 1)), (1, .tmp 8), (8, .tmp 14), (9, .tmp 25)]) Clsay_zo36 Clsay_pl36 rfl rfl)) ?_
    refine RunL.one (i := 22) (by kernel_rfl) rfl  ?_ 
    refine Run.store (s := [(b1, .cells #[.int .i64 1, .int .u32 c.xid, .int .i64 0, .int .i64 0, .int .u32 0, .int .u32 0, .int .u32 0, .int .u32 0, .slice p63 (0 + c.hw.length) c63, .slice (some ⟨b67, 0, none⟩) 2 2] 36 (0, 0))]) rfl rfl Clsay_sz36 (i := 4) rfl rfl (le rfl) rfl rfl ?_
    refine Run.to_end ?_
    refine Ex.anyLz rfl ?_
    refine RunL.done (by kernel_rfl) ?_
    refine Ex.go ?_
    refine Tr.to_ret ?_
    refine Ex.keepTo (H' := [s64, [(b67, .cells #[.int .i64 53, .slice (some ⟨b66, 0, none⟩) 1 1, .int .i64 61, .slice p61 c.name.size c62] 76 (0, 0))], [(b66, .cells #[.int .u8 (kind % 256)] 5 (0, 0))], s59, [(b1, .cells #[.int .i64 1, .int .u32 c.xid, .int .i64 0, .int .i64 0, .int .u32 0, .int .u32 0, .int .u32 0, .int .u32 0, .slice p63 (0 + c.hw.length) c63, .slice (some ⟨b67, 0, none⟩) 2 2] 36 (0, 0))], [(bc, .cells #[.string c.name, .slice ph c.hw.length ch, .int .i64 c.state, .int .u32 c.xid, .int .u32 c.addr, .int .u32 c.server, .int .i64 c.until_, .int .i64 c.one, .int .i64 c.two, .bool c.due, .int .i64 c.tries, .int .i64 c.said, .int .i64 c.asks] 44 (0, 0))]]) [3, 0, 0, 0, 0, 0] rfl ?_
    refine Ex.show (fun V68 hleV68 hshV68 => ?_)
    have hsh := ho65.shows _ hshV68
    have hVle := hleV68
    refine Ex.keepTo (H' := [[(b66, .cells #[.int .u8 (kind % 256)] 5 (0, 0))], [(b67, .cells #[.int .i64 53, .slice (some ⟨b66, 0, none⟩) 1 1, .int .i64 61, .slice p61 c.name.size c62] 76 (0, 0))], s59, [(b1, .cells #[.int .i64 1, .int .u32 c.xid, .int .i64 0, .int .i64 0, .int .u32 0, .int .u32 0, .int .u32 0, .int .u32 0, .slice p63 (0 + c.hw.length) c63, .slice (some ⟨b67, 0, none⟩) 2 2] 36 (0, 0))], [(bc, .cells #[.string c.name, .slice ph c.hw.length ch, .int .i64 c.state, .int .u32 c.xid, .int .u32 c.addr, .int .u32 c.server, .int .i64 c.until_, .int .i64 c.one, .int .i64 c.two, .bool c.due, .int .i64 c.tries, .int .i64 c.said, .int .i64 c.asks] 44 (0, 0))]]) [1, 0, 0, 0, 0] rfl ?_
    refine Ex.show (fun V69 hleV69 hshV69 => ?_)
    have hsd1 := (Ow.lit (e := 5) (k := 1) (b := b66) (n := 1) (cur := #[.int .u8 (kind % 256)]) rfl (by decide)).shows _ hshV69
    replace hsh := hsh.le hleV69
    replace hVle := Vw.le_trans hVle hleV69
    refine Ex.keepTo (H' := [s59, [(b67, .cells #[.int .i64 53, .slice (some ⟨b66, 0, none⟩) 1 1, .int .i64 61, .slice p61 c.name.size c62] 76 (0, 0))], [(b1, .cells #[.int .i64 1, .int .u32 c.xid, .int .i64 0, .int .i64 0, .int .u32 0, .int .u32 0, .int .u32 0, .int .u32 0, .slice p63 (0 + c.hw.length) c63, .slice (some ⟨b67, 0, none⟩) 2 2] 36 (0, 0))], [(bc, .cells #[.string c.name, .slice ph c.hw.length ch, .int .i64 c.state, .int .u32 c.xid, .int .u32 c.addr, .int .u32 c.server, .int .i64 c.until_, .int .i64 c.one, .int .i64 c.two, .bool c.due, .int .i64 c.tries, .int .i64 c.said, .int .i64 c.asks] 44 (0, 0))]]) [1, 0, 0, 0] rfl ?_
    refine Ex.show (fun V70 hleV70 hshV70 => ?_)
    have hsd2 := hsw60 _ hshV70
    replace hsh := hsh.le hleV70
    replace hsd1 := hsd1.le hleV70
    replace hVle := Vw.le_trans hVle hleV70
    have hsO : Ow 76 2 (.slice (some ⟨b67, 0, none⟩) 2 2) 2 [.int .i64 53, .slice (some ⟨b66, 0, none⟩) 1 1, .int .i64 61, .slice p61 c.name.size c62] [(b67, .cells #[.int .i64 53, .slice (some ⟨b66, 0, none⟩) 1 1, .int .i64 61, .slice p61 c.name.size c62] 76 (0, 0))] := (Ow.lit rfl (by decide))
    have hsH : Rd V70 [] 1 (.slice p63 (0 + c.hw.length) c63) c.hw.length (c.hw.map byteV) := by have h := hsh; simpa using h
    have hsA : Rd V70 [] 1 (.slice (some ⟨b66, 0, none⟩) 1 1) 1 [.int .u8 (kind % 256)] := hsd1
    have hsB : Rd V70 [] 1 (.slice p61 c.name.size c62) c.name.size (c.name.toList.map byteV) := hsd2
    exact Ex.retCell [2, 0] rfl rfl Clsay_ag36 (Kn.at 1 rfl) rfl ⟨hVle, [(b67, .cells #[.int .i64 53, .slice (some ⟨b66, 0, none⟩) 1 1, .int .i64 61, .slice p61 c.name.size c62] 76 (0, 0))], rfl, .slice p63 (0 + c.hw.length) c63, (some ⟨b67, 0, none⟩), 2, .slice (some ⟨b66, 0, none⟩) 1 1, .slice p61 c.name.size c62, rfl, hsH, hsO, hsA, hsB⟩
   ·refine Run.buildSlice (l := [(0, .tmp 16)]) Clsay_es22 Clsay_zo5 rfl (by decide) rfl rfl (by decide) (lt rfl) (fun b71 => ?_)
    refine Run.to_end ?_
    refine Ex.anyL (KnAll.cons (Kn.at 4 rfl) KnAll.nil) ?_
    refine RunL.pure (i := 13) rfl (by kernel_rfl) (by kernel_rfl) (by kernel_rfl) (by kernel_rfl) (fun _ _ _ h => h) (lt rfl) (KnAll.cons (Kn.at 4 rfl) KnAll.nil) (fun _ => (Y.buildS (l := [(0, .const (.int .i64 53)), (1, .tmp 17)]) Clsay_zo76 Clsay_pl76 rfl rfl)) ?_
    refine RunL.two (i := 9) (j := 20) (by kernel_rfl) rfl rfl  ?_ ?_ 
    ·refine Run.append (n := 0) (m := c.hw.length) (xs := []) (ys := c.hw.map byteV) rfl rfl Clsay_es22 Clsay_zi5 (by decide) (j := 2) rfl (Ow.lit (cur := #[]) rfl (by decide)) (Src.of_rd Clsay_es22 hh.of_nil) (by omega) (by omega) (all_one_bytes _) (lt rfl) (fun v72 s73 ho74 hf => ?_)
     obtain ⟨p72, c72, rfl⟩ := hf
     refine Run.to_end ?_
     refine Ex.anyL (KnAll.cons (Kn.at 4 rfl) KnAll.nil) ?_
     refine RunL.one (i := 20) (by kernel_rfl) rfl  ?_ 
     refine Run.buildSlice (l := [(0, .tmp 18), (1, .tmp 24)]) (r := [.int .i64 53, .slice (some ⟨b71, 0, none⟩) 1 1, .int .i64 61, .slice p61 c.name.size c62]) Clsay_es34 Clsay_zo76 rfl (by decide) rfl rfl (by decide) (lt rfl) (fun b75 => ?_)
     refine Run.to_end ?_
     refine Ex.anyL (KnAll.cons (Kn.at 5 rfl) KnAll.nil) ?_
     refine RunL.pure (i := 21) rfl (by kernel_rfl) (by kernel_rfl) (by kernel_rfl) (by kernel_rfl) (fun _ _ _ h => h) (lt rfl) (KnAll.cons (Kn.at 5 rfl) KnAll.nil) (fun _ => (Y.buildS (l := [(0, .const (.int .i64 1)), (1, .tmp 8), (8, .tmp 14), (9, .tmp 25)]) Clsay_zo36 Clsay_pl36 rfl rfl)) ?_
     refine RunL.one (i := 22) (by kernel_rfl) rfl  ?_ 
     refine Run.store (s := [(b1, .cells #[.int .i64 1, .int .u32 c.xid, .int .i64 0, .int .i64 0, .int .u32 0, .int .u32 0, .int .u32 0, .int .u32 0, .slice p72 (0 + c.hw.length) c72, .slice (some ⟨b75, 0, none⟩) 2 2] 36 (0, 0))]) rfl rfl Clsay_sz36 (i := 4) rfl rfl (le rfl) rfl rfl ?_
     refine Run.to_end ?_
     refine Ex.anyLz rfl ?_
     refine RunL.done (by kernel_rfl) ?_
     refine Ex.go ?_
     refine Tr.to_ret ?_
     refine Ex.keepTo (H' := [s73, [(b75, .cells #[.int .i64 53, .slice (some ⟨b71, 0, none⟩) 1 1, .int .i64 61, .slice p61 c.name.size c62] 76 (0, 0))], [(b71, .cells #[.int .u8 (kind % 256)] 5 (0, 0))], s59, [(b1, .cells #[.int .i64 1, .int .u32 c.xid, .int .i64 0, .int .i64 0, .int .u32 0, .int .u32 0, .int .u32 0, .int .u32 0, .slice p72 (0 + c.hw.length) c72, .slice (some ⟨b75, 0, none⟩) 2 2] 36 (0, 0))], [(bc, .cells #[.string c.name, .slice ph c.hw.length ch, .int .i64 c.state, .int .u32 c.xid, .int .u32 c.addr, .int .u32 c.server, .int .i64 c.until_, .int .i64 c.one, .int .i64 c.two, .bool c.due, .int .i64 c.tries, .int .i64 c.said, .int .i64 c.asks] 44 (0, 0))]]) [3, 0, 0, 0, 0, 0] rfl ?_
     refine Ex.show (fun V76 hleV76 hshV76 => ?_)
     have hsh := ho74.shows _ hshV76
     have hVle := hleV76
     refine Ex.keepTo (H' := [[(b71, .cells #[.int .u8 (kind % 256)] 5 (0, 0))], [(b75, .cells #[.int .i64 53, .slice (some ⟨b71, 0, none⟩) 1 1, .int .i64 61, .slice p61 c.name.size c62] 76 (0, 0))], s59, [(b1, .cells #[.int .i64 1, .int .u32 c.xid, .int .i64 0, .int .i64 0, .int .u32 0, .int .u32 0, .int .u32 0, .int .u32 0, .slice p72 (0 + c.hw.length) c72, .slice (some ⟨b75, 0, none⟩) 2 2] 36 (0, 0))], [(bc, .cells #[.string c.name, .slice ph c.hw.length ch, .int .i64 c.state, .int .u32 c.xid, .int .u32 c.addr, .int .u32 c.server, .int .i64 c.until_, .int .i64 c.one, .int .i64 c.two, .bool c.due, .int .i64 c.tries, .int .i64 c.said, .int .i64 c.asks] 44 (0, 0))]]) [1, 0, 0, 0, 0] rfl ?_
     refine Ex.show (fun V77 hleV77 hshV77 => ?_)
     have hsd1 := (Ow.lit (e := 5) (k := 1) (b := b71) (n := 1) (cur := #[.int .u8 (kind % 256)]) rfl (by decide)).shows _ hshV77
     replace hsh := hsh.le hleV77
     replace hVle := Vw.le_trans hVle hleV77
     refine Ex.keepTo (H' := [s59, [(b75, .cells #[.int .i64 53, .slice (some ⟨b71, 0, none⟩) 1 1, .int .i64 61, .slice p61 c.name.size c62] 76 (0, 0))], [(b1, .cells #[.int .i64 1, .int .u32 c.xid, .int .i64 0, .int .i64 0, .int .u32 0, .int .u32 0, .int .u32 0, .int .u32 0, .slice p72 (0 + c.hw.length) c72, .slice (some ⟨b75, 0, none⟩) 2 2] 36 (0, 0))], [(bc, .cells #[.string c.name, .slice ph c.hw.length ch, .int .i64 c.state, .int .u32 c.xid, .int .u32 c.addr, .int .u32 c.server, .int .i64 c.until_, .int .i64 c.one, .int .i64 c.two, .bool c.due, .int .i64 c.tries, .int .i64 c.said, .int .i64 c.asks] 44 (0, 0))]]) [1, 0, 0, 0] rfl ?_
     refine Ex.show (fun V78 hleV78 hshV78 => ?_)
     have hsd2 := hsw60 _ hshV78
     replace hsh := hsh.le hleV78
     replace hsd1 := hsd1.le hleV78
     replace hVle := Vw.le_trans hVle hleV78
     have hsO : Ow 76 2 (.slice (some ⟨b75, 0, none⟩) 2 2) 2 [.int .i64 53, .slice (some ⟨b71, 0, none⟩) 1 1, .int .i64 61, .slice p61 c.name.size c62] [(b75, .cells #[.int .i64 53, .slice (some ⟨b71, 0, none⟩) 1 1, .int .i64 61, .slice p61 c.name.size c62] 76 (0, 0))] := (Ow.lit rfl (by decide))
     have hsH : Rd V78 [] 1 (.slice p72 (0 + c.hw.length) c72) c.hw.length (c.hw.map byteV) := by have h := hsh; simpa using h
     have hsA : Rd V78 [] 1 (.slice (some ⟨b71, 0, none⟩) 1 1) 1 [.int .u8 (kind % 256)] := hsd1
     have hsB : Rd V78 [] 1 (.slice p61 c.name.size c62) c.name.size (c.name.toList.map byteV) := hsd2
     exact Ex.retCell [2, 0] rfl rfl Clsay_ag36 (Kn.at 1 rfl) rfl ⟨hVle, [(b75, .cells #[.int .i64 53, .slice (some ⟨b71, 0, none⟩) 1 1, .int .i64 61, .slice p61 c.name.size c62] 76 (0, 0))], rfl, .slice p72 (0 + c.hw.length) c72, (some ⟨b75, 0, none⟩), 2, .slice (some ⟨b71, 0, none⟩) 1 1, .slice p61 c.name.size c62, rfl, hsH, hsO, hsA, hsB⟩
    ·refine Run.buildSlice (l := [(0, .tmp 18), (1, .tmp 24)]) (r := [.int .i64 53, .slice (some ⟨b71, 0, none⟩) 1 1, .int .i64 61, .slice p61 c.name.size c62]) Clsay_es34 Clsay_zo76 rfl (by decide) rfl rfl (by decide) (lt rfl) (fun b79 => ?_)
     refine Run.to_end ?_
     refine Ex.anyL (KnAll.cons (Kn.at 5 rfl) KnAll.nil) ?_
     refine RunL.one (i := 9) (by kernel_rfl) rfl  ?_ 
     refine Run.append (n := 0) (m := c.hw.length) (xs := []) (ys := c.hw.map byteV) rfl rfl Clsay_es22 Clsay_zi5 (by decide) (j := 3) rfl (Ow.lit (cur := #[]) rfl (by decide)) (Src.of_rd Clsay_es22 hh.of_nil) (by omega) (by omega) (all_one_bytes _) (lt rfl) (fun v80 s81 ho82 hf => ?_)
     obtain ⟨p80, c80, rfl⟩ := hf
     refine Run.to_end ?_
     refine Ex.anyL (KnAll.cons (Kn.at 5 rfl) KnAll.nil) ?_
     refine RunL.pure (i := 21) rfl (by kernel_rfl) (by kernel_rfl) (by kernel_rfl) (by kernel_rfl) (fun _ _ _ h => h) (lt rfl) (KnAll.cons (Kn.at 5 rfl) KnAll.nil) (fun _ => (Y.buildS (l := [(0, .const (.int .i64 1)), (1, .tmp 8), (8, .tmp 14), (9, .tmp 25)]) Clsay_zo36 Clsay_pl36 rfl rfl)) ?_
     refine RunL.one (i := 22) (by kernel_rfl) rfl  ?_ 
     refine Run.store (s := [(b1, .cells #[.int .i64 1, .int .u32 c.xid, .int .i64 0, .int .i64 0, .int .u32 0, .int .u32 0, .int .u32 0, .int .u32 0, .slice p80 (0 + c.hw.length) c80, .slice (some ⟨b79, 0, none⟩) 2 2] 36 (0, 0))]) rfl rfl Clsay_sz36 (i := 4) rfl rfl (le rfl) rfl rfl ?_
     refine Run.to_end ?_
     refine Ex.anyLz rfl ?_
     refine RunL.done (by kernel_rfl) ?_
     refine Ex.go ?_
     refine Tr.to_ret ?_
     refine Ex.keepTo (H' := [s81, [(b79, .cells #[.int .i64 53, .slice (some ⟨b71, 0, none⟩) 1 1, .int .i64 61, .slice p61 c.name.size c62] 76 (0, 0))], [(b71, .cells #[.int .u8 (kind % 256)] 5 (0, 0))], s59, [(b1, .cells #[.int .i64 1, .int .u32 c.xid, .int .i64 0, .int .i64 0, .int .u32 0, .int .u32 0, .int .u32 0, .int .u32 0, .slice p80 (0 + c.hw.length) c80, .slice (some ⟨b79, 0, none⟩) 2 2] 36 (0, 0))], [(bc, .cells #[.string c.name, .slice ph c.hw.length ch, .int .i64 c.state, .int .u32 c.xid, .int .u32 c.addr, .int .u32 c.server, .int .i64 c.until_, .int .i64 c.one, .int .i64 c.two, .bool c.due, .int .i64 c.tries, .int .i64 c.said, .int .i64 c.asks] 44 (0, 0))]]) [3, 0, 0, 0, 0, 0] rfl ?_
     refine Ex.show (fun V83 hleV83 hshV83 => ?_)
     have hsh := ho82.shows _ hshV83
     have hVle := hleV83
     refine Ex.keepTo (H' := [[(b71, .cells #[.int .u8 (kind % 256)] 5 (0, 0))], [(b79, .cells #[.int .i64 53, .slice (some ⟨b71, 0, none⟩) 1 1, .int .i64 61, .slice p61 c.name.size c62] 76 (0, 0))], s59, [(b1, .cells #[.int .i64 1, .int .u32 c.xid, .int .i64 0, .int .i64 0, .int .u32 0, .int .u32 0, .int .u32 0, .int .u32 0, .slice p80 (0 + c.hw.length) c80, .slice (some ⟨b79, 0, none⟩) 2 2] 36 (0, 0))], [(bc, .cells #[.string c.name, .slice ph c.hw.length ch, .int .i64 c.state, .int .u32 c.xid, .int .u32 c.addr, .int .u32 c.server, .int .i64 c.until_, .int .i64 c.one, .int .i64 c.two, .bool c.due, .int .i64 c.tries, .int .i64 c.said, .int .i64 c.asks] 44 (0, 0))]]) [1, 0, 0, 0, 0] rfl ?_
     refine Ex.show (fun V84 hleV84 hshV84 => ?_)
     have hsd1 := (Ow.lit (e := 5) (k := 1) (b := b71) (n := 1) (cur := #[.int .u8 (kind % 256)]) rfl (by decide)).shows _ hshV84
     replace hsh := hsh.le hleV84
     replace hVle := Vw.le_trans hVle hleV84
     refine Ex.keepTo (H' := [s59, [(b79, .cells #[.int .i64 53, .slice (some ⟨b71, 0, none⟩) 1 1, .int .i64 61, .slice p61 c.name.size c62] 76 (0, 0))], [(b1, .cells #[.int .i64 1, .int .u32 c.xid, .int .i64 0, .int .i64 0, .int .u32 0, .int .u32 0, .int .u32 0, .int .u32 0, .slice p80 (0 + c.hw.length) c80, .slice (some ⟨b79, 0, none⟩) 2 2] 36 (0, 0))], [(bc, .cells #[.string c.name, .slice ph c.hw.length ch, .int .i64 c.state, .int .u32 c.xid, .int .u32 c.addr, .int .u32 c.server, .int .i64 c.until_, .int .i64 c.one, .int .i64 c.two, .bool c.due, .int .i64 c.tries, .int .i64 c.said, .int .i64 c.asks] 44 (0, 0))]]) [1, 0, 0, 0] rfl ?_
     refine Ex.show (fun V85 hleV85 hshV85 => ?_)
     have hsd2 := hsw60 _ hshV85
     replace hsh := hsh.le hleV85
     replace hsd1 := hsd1.le hleV85
     replace hVle := Vw.le_trans hVle hleV85
     have hsO : Ow 76 2 (.slice (some ⟨b79, 0, none⟩) 2 2) 2 [.int .i64 53, .slice (some ⟨b71, 0, none⟩) 1 1, .int .i64 61, .slice p61 c.name.size c62] [(b79, .cells #[.int .i64 53, .slice (some ⟨b71, 0, none⟩) 1 1, .int .i64 61, .slice p61 c.name.size c62] 76 (0, 0))] := (Ow.lit rfl (by decide))
     have hsH : Rd V85 [] 1 (.slice p80 (0 + c.hw.length) c80) c.hw.length (c.hw.map byteV) := by have h := hsh; simpa using h
     have hsA : Rd V85 [] 1 (.slice (some ⟨b71, 0, none⟩) 1 1) 1 [.int .u8 (kind % 256)] := hsd1
     have hsB : Rd V85 [] 1 (.slice p61 c.name.size c62) c.name.size (c.name.toList.map byteV) := hsd2
     exact Ex.retCell [2, 0] rfl rfl Clsay_ag36 (Kn.at 1 rfl) rfl ⟨hVle, [(b79, .cells #[.int .i64 53, .slice (some ⟨b71, 0, none⟩) 1 1, .int .i64 61, .slice p61 c.name.size c62] 76 (0, 0))], rfl, .slice p80 (0 + c.hw.length) c80, (some ⟨b79, 0, none⟩), 2, .slice (some ⟨b71, 0, none⟩) 1 1, .slice p61 c.name.size c62, rfl, hsH, hsO, hsA, hsB⟩
 ·refine Run.buildSlice (l := [(0, .tmp 16)]) Clsay_es22 Clsay_zo5 rfl (by decide) rfl rfl (by decide) (lt rfl) (fun b86 => ?_)
  refine Run.to_end ?_
  refine Ex.anyL (KnAll.cons (Kn.at 2 rfl) KnAll.nil) ?_
  refine RunL.pure (i := 13) rfl (by kernel_rfl) (by kernel_rfl) (by kernel_rfl) (by kernel_rfl) (fun _ _ _ h => h) (lt rfl) (KnAll.cons (Kn.at 2 rfl) KnAll.nil) (fun _ => (Y.buildS (l := [(0, .const (.int .i64 53)), (1, .tmp 17)]) Clsay_zo76 Clsay_pl76 rfl rfl)) ?_
  refine RunL.two (i := 4) (j := 18) (by kernel_rfl) rfl rfl  ?_ ?_ 
  ·refine Run.buildSlice0 Clsay_es22 (lt rfl) (fun b87 => ?_)
   refine Run.to_end ?_
   refine Ex.anyL (KnAll.cons (Kn.at 3 rfl) KnAll.nil) ?_
   refine RunL.two (i := 9) (j := 18) (by kernel_rfl) rfl rfl  ?_ ?_ 
   ·refine Run.append (n := 0) (m := c.hw.length) (xs := []) (ys := c.hw.map byteV) rfl rfl Clsay_es22 Clsay_zi5 (by decide) (j := 0) rfl (Ow.lit (cur := #[]) rfl (by decide)) (Src.of_rd Clsay_es22 hh.of_nil) (by omega) (by omega) (all_one_bytes _) (lt rfl) (fun v88 s89 ho90 hf => ?_)
    obtain ⟨p88, c88, rfl⟩ := hf
    refine Run.to_end ?_
    refine Ex.anyL (KnAll.cons (Kn.at 3 rfl) KnAll.nil) ?_
    refine RunL.one (i := 18) (by kernel_rfl) rfl  ?_ 
    refine Run.strBytes (str := c.name) rfl Clsay_es22 Clsay_tg5 Clsay_st9 (lt rfl) (fun v91 s92 hsw93 hf => ?_)
    obtain ⟨p94, c95, rfl⟩ := hf
    refine Run.to_end ?_
    refine Ex.anyL (KnAll.cons (Kn.at 4 rfl) KnAll.nil) ?_
    refine RunL.pure (i := 19) rfl (by kernel_rfl) (by kernel_rfl) (by kernel_rfl) (by kernel_rfl) (fun _ _ _ h => h) (lt rfl) (KnAll.cons (Kn.at 4 rfl) KnAll.nil) (fun _ => (Y.buildS (l := [(0, .const (.int .i64 61)), (1, .tmp 23)]) Clsay_zo76 Clsay_pl76 rfl rfl)) ?_
    refine RunL.one (i := 20) (by kernel_rfl) rfl  ?_ 
    refine Run.buildSlice (l := [(0, .tmp 18), (1, .tmp 24)]) (r := [.int .i64 53, .slice (some ⟨b86, 0, none⟩) 1 1, .int .i64 61, .slice p94 c.name.size c95]) Clsay_es34 Clsay_zo76 rfl (by decide) rfl rfl (by decide) (lt rfl) (fun b96 => ?_)
    refine Run.to_end ?_
    refine Ex.anyL (KnAll.cons (Kn.at 5 rfl) KnAll.nil) ?_
    refine RunL.pure (i := 21) rfl (by kernel_rfl) (by kernel_rfl) (by kernel_rfl) (by kernel_rfl) (fun _ _ _ h => h) (lt rfl) (KnAll.cons (Kn.at 5 rfl) KnAll.nil) (fun _ => (Y.buildS (l := [(0, .const (.int .i64 1)), (1, .tmp 8), (8, .tmp 14), (9, .tmp 25)]) Clsay_zo36 Clsay_pl36 rfl rfl)) ?_
    refine RunL.one (i := 22) (by kernel_rfl) rfl  ?_ 
    refine Run.store (s := [(b1, .cells #[.int .i64 1, .int .u32 c.xid, .int .i64 0, .int .i64 0, .int .u32 0, .int .u32 0, .int .u32 0, .int .u32 0, .slice p88 (0 + c.hw.length) c88, .slice (some ⟨b96, 0, none⟩) 2 2] 36 (0, 0))]) rfl rfl Clsay_sz36 (i := 4) rfl rfl (le rfl) rfl rfl ?_
    refine Run.to_end ?_
    refine Ex.anyLz rfl ?_
    refine RunL.done (by kernel_rfl) ?_
    refine Ex.go ?_
    refine Tr.to_ret ?_
    refine Ex.keepTo (H' := [s89, [(b96, .cells #[.int .i64 53, .slice (some ⟨b86, 0, none⟩) 1 1, .int .i64 61, .slice p94 c.name.size c95] 76 (0, 0))], s92, [(b86, .cells #[.int .u8 (kind % 256)] 5 (0, 0))], [(b1, .cells #[.int .i64 1, .int .u32 c.xid, .int .i64 0, .int .i64 0, .int .u32 0, .int .u32 0, .int .u32 0, .int .u32 0, .slice p88 (0 + c.hw.length) c88, .slice (some ⟨b96, 0, none⟩) 2 2] 36 (0, 0))], [(bc, .cells #[.string c.name, .slice ph c.hw.length ch, .int .i64 c.state, .int .u32 c.xid, .int .u32 c.addr, .int .u32 c.server, .int .i64 c.until_, .int .i64 c.one, .int .i64 c.two, .bool c.due, .int .i64 c.tries, .int .i64 c.said, .int .i64 c.asks] 44 (0, 0))]]) [2, 0, 0, 0, 0, 0] rfl ?_
    refine Ex.show (fun V97 hleV97 hshV97 => ?_)
    have hsh := ho90.shows _ hshV97
    have hVle := hleV97
    refine Ex.keepTo (H' := [[(b86, .cells #[.int .u8 (kind % 256)] 5 (0, 0))], [(b96, .cells #[.int .i64 53, .slice (some ⟨b86, 0, none⟩) 1 1, .int .i64 61, .slice p94 c.name.size c95] 76 (0, 0))], s92, [(b1, .cells #[.int .i64 1, .int .u32 c.xid, .int .i64 0, .int .i64 0, .int .u32 0, .int .u32 0, .int .u32 0, .int .u32 0, .slice p88 (0 + c.hw.length) c88, .slice (some ⟨b96, 0, none⟩) 2 2] 36 (0, 0))], [(bc, .cells #[.string c.name, .slice ph c.hw.length ch, .int .i64 c.state, .int .u32 c.xid, .int .u32 c.addr, .int .u32 c.server, .int .i64 c.until_, .int .i64 c.one, .int .i64 c.two, .bool c.due, .int .i64 c.tries, .int .i64 c.said, .int .i64 c.asks] 44 (0, 0))]]) [2, 0, 0, 0, 0] rfl ?_
    refine Ex.show (fun V98 hleV98 hshV98 => ?_)
    have hsd1 := (Ow.lit (e := 5) (k := 1) (b := b86) (n := 1) (cur := #[.int .u8 (kind % 256)]) rfl (by decide)).shows _ hshV98
    replace hsh := hsh.le hleV98
    replace hVle := Vw.le_trans hVle hleV98
    refine Ex.keepTo (H' := [s92, [(b96, .cells #[.int .i64 53, .slice (some ⟨b86, 0, none⟩) 1 1, .int .i64 61, .slice p94 c.name.size c95] 76 (0, 0))], [(b1, .cells #[.int .i64 1, .int .u32 c.xid, .int .i64 0, .int .i64 0, .int .u32 0, .int .u32 0, .int .u32 0, .int .u32 0, .slice p88 (0 + c.hw.length) c88, .slice (some ⟨b96, 0, none⟩) 2 2] 36 (0, 0))], [(bc, .cells #[.string c.name, .slice ph c.hw.length ch, .int .i64 c.state, .int .u32 c.xid, .int .u32 c.addr, .int .u32 c.server, .int .i64 c.until_, .int .i64 c.one, .int .i64 c.two, .bool c.due, .int .i64 c.tries, .int .i64 c.said, .int .i64 c.asks] 44 (0, 0))]]) [1, 0, 0, 0] rfl ?_
    refine Ex.show (fun V99 hleV99 hshV99 => ?_)
    have hsd2 := hsw93 _ hshV99
    replace hsh := hsh.le hleV99
    replace hsd1 := hsd1.le hleV99
    replace hVle := Vw.le_trans hVle hleV99
    have hsO : Ow 76 2 (.slice (some ⟨b96, 0, none⟩) 2 2) 2 [.int .i64 53, .slice (some ⟨b86, 0, none⟩) 1 1, .int .i64 61, .slice p94 c.name.size c95] [(b96, .cells #[.int .i64 53, .slice (some ⟨b86, 0, none⟩) 1 1, .int .i64 61, .slice p94 c.name.size c95] 76 (0, 0))] := (Ow.lit rfl (by decide))
    have hsH : Rd V99 [] 1 (.slice p88 (0 + c.hw.length) c88) c.hw.length (c.hw.map byteV) := by have h := hsh; simpa using h
    have hsA : Rd V99 [] 1 (.slice (some ⟨b86, 0, none⟩) 1 1) 1 [.int .u8 (kind % 256)] := hsd1
    have hsB : Rd V99 [] 1 (.slice p94 c.name.size c95) c.name.size (c.name.toList.map byteV) := hsd2
    exact Ex.retCell [2, 0] rfl rfl Clsay_ag36 (Kn.at 1 rfl) rfl ⟨hVle, [(b96, .cells #[.int .i64 53, .slice (some ⟨b86, 0, none⟩) 1 1, .int .i64 61, .slice p94 c.name.size c95] 76 (0, 0))], rfl, .slice p88 (0 + c.hw.length) c88, (some ⟨b96, 0, none⟩), 2, .slice (some ⟨b86, 0, none⟩) 1 1, .slice p94 c.name.size c95, rfl, hsH, hsO, hsA, hsB⟩
   ·refine Run.strBytes (str := c.name) rfl Clsay_es22 Clsay_tg5 Clsay_st9 (lt rfl) (fun v100 s101 hsw102 hf => ?_)
    obtain ⟨p103, c104, rfl⟩ := hf
    refine Run.to_end ?_
    refine Ex.anyL (KnAll.cons (Kn.at 4 rfl) KnAll.nil) ?_
    refine RunL.pure (i := 19) rfl (by kernel_rfl) (by kernel_rfl) (by kernel_rfl) (by kernel_rfl) (fun _ _ _ h => h) (lt rfl) (KnAll.cons (Kn.at 4 rfl) KnAll.nil) (fun _ => (Y.buildS (l := [(0, .const (.int .i64 61)), (1, .tmp 23)]) Clsay_zo76 Clsay_pl76 rfl rfl)) ?_
    refine RunL.two (i := 9) (j := 20) (by kernel_rfl) rfl rfl  ?_ ?_ 
    ·refine Run.append (n := 0) (m := c.hw.length) (xs := []) (ys := c.hw.map byteV) rfl rfl Clsay_es22 Clsay_zi5 (by decide) (j := 1) rfl (Ow.lit (cur := #[]) rfl (by decide)) (Src.of_rd Clsay_es22 hh.of_nil) (by omega) (by omega) (all_one_bytes _) (lt rfl) (fun v105 s106 ho107 hf => ?_)
     obtain ⟨p105, c105, rfl⟩ := hf
     refine Run.to_end ?_
     refine Ex.anyL (KnAll.cons (Kn.at 4 rfl) KnAll.nil) ?_
     refine RunL.one (i := 20) (by kernel_rfl) rfl  ?_ 
     refine Run.buildSlice (l := [(0, .tmp 18), (1, .tmp 24)]) (r := [.int .i64 53, .slice (some ⟨b86, 0, none⟩) 1 1, .int .i64 61, .slice p103 c.name.size c104]) Clsay_es34 Clsay_zo76 rfl (by decide) rfl rfl (by decide) (lt rfl) (fun b108 => ?_)
     refine Run.to_end ?_
     refine Ex.anyL (KnAll.cons (Kn.at 5 rfl) KnAll.nil) ?_
     refine RunL.pure (i := 21) rfl (by kernel_rfl) (by kernel_rfl) (by kernel_rfl) (by kernel_rfl) (fun _ _ _ h => h) (lt rfl) (KnAll.cons (Kn.at 5 rfl) KnAll.nil) (fun _ => (Y.buildS (l := [(0, .const (.int .i64 1)), (1, .tmp 8), (8, .tmp 14), (9, .tmp 25)]) Clsay_zo36 Clsay_pl36 rfl rfl)) ?_
     refine RunL.one (i := 22) (by kernel_rfl) rfl  ?_ 
     refine Run.store (s := [(b1, .cells #[.int .i64 1, .int .u32 c.xid, .int .i64 0, .int .i64 0, .int .u32 0, .int .u32 0, .int .u32 0, .int .u32 0, .slice p105 (0 + c.hw.length) c105, .slice (some ⟨b108, 0, none⟩) 2 2] 36 (0, 0))]) rfl rfl Clsay_sz36 (i := 4) rfl rfl (le rfl) rfl rfl ?_
     refine Run.to_end ?_
     refine Ex.anyLz rfl ?_
     refine RunL.done (by kernel_rfl) ?_
     refine Ex.go ?_
     refine Tr.to_ret ?_
     refine Ex.keepTo (H' := [s106, [(b108, .cells #[.int .i64 53, .slice (some ⟨b86, 0, none⟩) 1 1, .int .i64 61, .slice p103 c.name.size c104] 76 (0, 0))], s101, [(b86, .cells #[.int .u8 (kind % 256)] 5 (0, 0))], [(b1, .cells #[.int .i64 1, .int .u32 c.xid, .int .i64 0, .int .i64 0, .int .u32 0, .int .u32 0, .int .u32 0, .int .u32 0, .slice p105 (0 + c.hw.length) c105, .slice (some ⟨b108, 0, none⟩) 2 2] 36 (0, 0))], [(bc, .cells #[.string c.name, .slice ph c.hw.length ch, .int .i64 c.state, .int .u32 c.xid, .int .u32 c.addr, .int .u32 c.server, .int .i64 c.until_, .int .i64 c.one, .int .i64 c.two, .bool c.due, .int .i64 c.tries, .int .i64 c.said, .int .i64 c.asks] 44 (0, 0))]]) [2, 0, 0, 0, 0, 0] rfl ?_
     refine Ex.show (fun V109 hleV109 hshV109 => ?_)
     have hsh := ho107.shows _ hshV109
     have hVle := hleV109
     refine Ex.keepTo (H' := [[(b86, .cells #[.int .u8 (kind % 256)] 5 (0, 0))], [(b108, .cells #[.int .i64 53, .slice (some ⟨b86, 0, none⟩) 1 1, .int .i64 61, .slice p103 c.name.size c104] 76 (0, 0))], s101, [(b1, .cells #[.int .i64 1, .int .u32 c.xid, .int .i64 0, .int .i64 0, .int .u32 0, .int .u32 0, .int .u32 0, .int .u32 0, .slice p105 (0 + c.hw.length) c105, .slice (some ⟨b108, 0, none⟩) 2 2] 36 (0, 0))], [(bc, .cells #[.string c.name, .slice ph c.hw.length ch, .int .i64 c.state, .int .u32 c.xid, .int .u32 c.addr, .int .u32 c.server, .int .i64 c.until_, .int .i64 c.one, .int .i64 c.two, .bool c.due, .int .i64 c.tries, .int .i64 c.said, .int .i64 c.asks] 44 (0, 0))]]) [2, 0, 0, 0, 0] rfl ?_
     refine Ex.show (fun V110 hleV110 hshV110 => ?_)
     have hsd1 := (Ow.lit (e := 5) (k := 1) (b := b86) (n := 1) (cur := #[.int .u8 (kind % 256)]) rfl (by decide)).shows _ hshV110
     replace hsh := hsh.le hleV110
     replace hVle := Vw.le_trans hVle hleV110
     refine Ex.keepTo (H' := [s101, [(b108, .cells #[.int .i64 53, .slice (some ⟨b86, 0, none⟩) 1 1, .int .i64 61, .slice p103 c.name.size c104] 76 (0, 0))], [(b1, .cells #[.int .i64 1, .int .u32 c.xid, .int .i64 0, .int .i64 0, .int .u32 0, .int .u32 0, .int .u32 0, .int .u32 0, .slice p105 (0 + c.hw.length) c105, .slice (some ⟨b108, 0, none⟩) 2 2] 36 (0, 0))], [(bc, .cells #[.string c.name, .slice ph c.hw.length ch, .int .i64 c.state, .int .u32 c.xid, .int .u32 c.addr, .int .u32 c.server, .int .i64 c.until_, .int .i64 c.one, .int .i64 c.two, .bool c.due, .int .i64 c.tries, .int .i64 c.said, .int .i64 c.asks] 44 (0, 0))]]) [1, 0, 0, 0] rfl ?_
     refine Ex.show (fun V111 hleV111 hshV111 => ?_)
     have hsd2 := hsw102 _ hshV111
     replace hsh := hsh.le hleV111
     replace hsd1 := hsd1.le hleV111
     replace hVle := Vw.le_trans hVle hleV111
     have hsO : Ow 76 2 (.slice (some ⟨b108, 0, none⟩) 2 2) 2 [.int .i64 53, .slice (some ⟨b86, 0, none⟩) 1 1, .int .i64 61, .slice p103 c.name.size c104] [(b108, .cells #[.int .i64 53, .slice (some ⟨b86, 0, none⟩) 1 1, .int .i64 61, .slice p103 c.name.size c104] 76 (0, 0))] := (Ow.lit rfl (by decide))
     have hsH : Rd V111 [] 1 (.slice p105 (0 + c.hw.length) c105) c.hw.length (c.hw.map byteV) := by have h := hsh; simpa using h
     have hsA : Rd V111 [] 1 (.slice (some ⟨b86, 0, none⟩) 1 1) 1 [.int .u8 (kind % 256)] := hsd1
     have hsB : Rd V111 [] 1 (.slice p103 c.name.size c104) c.name.size (c.name.toList.map byteV) := hsd2
     exact Ex.retCell [2, 0] rfl rfl Clsay_ag36 (Kn.at 1 rfl) rfl ⟨hVle, [(b108, .cells #[.int .i64 53, .slice (some ⟨b86, 0, none⟩) 1 1, .int .i64 61, .slice p103 c.name.size c104] 76 (0, 0))], rfl, .slice p105 (0 + c.hw.length) c105, (some ⟨b108, 0, none⟩), 2, .slice (some ⟨b86, 0, none⟩) 1 1, .slice p103 c.name.size c104, rfl, hsH, hsO, hsA, hsB⟩
    ·refine Run.buildSlice (l := [(0, .tmp 18), (1, .tmp 24)]) (r := [.int .i64 53, .slice (some ⟨b86, 0, none⟩) 1 1, .int .i64 61, .slice p103 c.name.size c104]) Clsay_es34 Clsay_zo76 rfl (by decide) rfl rfl (by decide) (lt rfl) (fun b112 => ?_)
     refine Run.to_end ?_
     refine Ex.anyL (KnAll.cons (Kn.at 5 rfl) KnAll.nil) ?_
     refine RunL.one (i := 9) (by kernel_rfl) rfl  ?_ 
     refine Run.append (n := 0) (m := c.hw.length) (xs := []) (ys := c.hw.map byteV) rfl rfl Clsay_es22 Clsay_zi5 (by decide) (j := 2) rfl (Ow.lit (cur := #[]) rfl (by decide)) (Src.of_rd Clsay_es22 hh.of_nil) (by omega) (by omega) (all_one_bytes _) (lt rfl) (fun v113 s114 ho115 hf => ?_)
     obtain ⟨p113, c113, rfl⟩ := hf
     refine Run.to_end ?_
     refine Ex.anyL (KnAll.cons (Kn.at 5 rfl) KnAll.nil) ?_
     refine RunL.pure (i := 21) rfl (by kernel_rfl) (by kernel_rfl) (by kernel_rfl) (by kernel_rfl) (fun _ _ _ h => h) (lt rfl) (KnAll.cons (Kn.at 5 rfl) KnAll.nil) (fun _ => (Y.buildS (l := [(0, .const (.int .i64 1)), (1, .tmp 8), (8, .tmp 14), (9, .tmp 25)]) Clsay_zo36 Clsay_pl36 rfl rfl)) ?_
     refine RunL.one (i := 22) (by kernel_rfl) rfl  ?_ 
     refine Run.store (s := [(b1, .cells #[.int .i64 1, .int .u32 c.xid, .int .i64 0, .int .i64 0, .int .u32 0, .int .u32 0, .int .u32 0, .int .u32 0, .slice p113 (0 + c.hw.length) c113, .slice (some ⟨b112, 0, none⟩) 2 2] 36 (0, 0))]) rfl rfl Clsay_sz36 (i := 4) rfl rfl (le rfl) rfl rfl ?_
     refine Run.to_end ?_
     refine Ex.anyLz rfl ?_
     refine RunL.done (by kernel_rfl) ?_
     refine Ex.go ?_
     refine Tr.to_ret ?_
     refine Ex.keepTo (H' := [s114, [(b112, .cells #[.int .i64 53, .slice (some ⟨b86, 0, none⟩) 1 1, .int .i64 61, .slice p103 c.name.size c104] 76 (0, 0))], s101, [(b86, .cells #[.int .u8 (kind % 256)] 5 (0, 0))], [(b1, .cells #[.int .i64 1, .int .u32 c.xid, .int .i64 0, .int .i64 0, .int .u32 0, .int .u32 0, .int .u32 0, .int .u32 0, .slice p113 (0 + c.hw.length) c113, .slice (some ⟨b112, 0, none⟩) 2 2] 36 (0, 0))], [(bc, .cells #[.string c.name, .slice ph c.hw.length ch, .int .i64 c.state, .int .u32 c.xid, .int .u32 c.addr, .int .u32 c.server, .int .i64 c.until_, .int .i64 c.one, .int .i64 c.two, .bool c.due, .int .i64 c.tries, .int .i64 c.said, .int .i64 c.asks] 44 (0, 0))]]) [2, 0, 0, 0, 0, 0] rfl ?_
     refine Ex.show (fun V116 hleV116 hshV116 => ?_)
     have hsh := ho115.shows _ hshV116
     have hVle := hleV116
     refine Ex.keepTo (H' := [[(b86, .cells #[.int .u8 (kind % 256)] 5 (0, 0))], [(b112, .cells #[.int .i64 53, .slice (some ⟨b86, 0, none⟩) 1 1, .int .i64 61, .slice p103 c.name.size c104] 76 (0, 0))], s101, [(b1, .cells #[.int .i64 1, .int .u32 c.xid, .int .i64 0, .int .i64 0, .int .u32 0, .int .u32 0, .int .u32 0, .int .u32 0, .slice p113 (0 + c.hw.length) c113, .slice (some ⟨b112, 0, none⟩) 2 2] 36 (0, 0))], [(bc, .cells #[.string c.name, .slice ph c.hw.length ch, .int .i64 c.state, .int .u32 c.xid, .int .u32 c.addr, .int .u32 c.server, .int .i64 c.until_, .int .i64 c.one, .int .i64 c.two, .bool c.due, .int .i64 c.tries, .int .i64 c.said, .int .i64 c.asks] 44 (0, 0))]]) [2, 0, 0, 0, 0] rfl ?_
     refine Ex.show (fun V117 hleV117 hshV117 => ?_)
     have hsd1 := (Ow.lit (e := 5) (k := 1) (b := b86) (n := 1) (cur := #[.int .u8 (kind % 256)]) rfl (by decide)).shows _ hshV117
     replace hsh := hsh.le hleV117
     replace hVle := Vw.le_trans hVle hleV117
     refine Ex.keepTo (H' := [s101, [(b112, .cells #[.int .i64 53, .slice (some ⟨b86, 0, none⟩) 1 1, .int .i64 61, .slice p103 c.name.size c104] 76 (0, 0))], [(b1, .cells #[.int .i64 1, .int .u32 c.xid, .int .i64 0, .int .i64 0, .int .u32 0, .int .u32 0, .int .u32 0, .int .u32 0, .slice p113 (0 + c.hw.length) c113, .slice (some ⟨b112, 0, none⟩) 2 2] 36 (0, 0))], [(bc, .cells #[.string c.name, .slice ph c.hw.length ch, .int .i64 c.state, .int .u32 c.xid, .int .u32 c.addr, .int .u32 c.server, .int .i64 c.until_, .int .i64 c.one, .int .i64 c.two, .bool c.due, .int .i64 c.tries, .int .i64 c.said, .int .i64 c.asks] 44 (0, 0))]]) [1, 0, 0, 0] rfl ?_
     refine Ex.show (fun V118 hleV118 hshV118 => ?_)
     have hsd2 := hsw102 _ hshV118
     replace hsh := hsh.le hleV118
     replace hsd1 := hsd1.le hleV118
     replace hVle := Vw.le_trans hVle hleV118
     have hsO : Ow 76 2 (.slice (some ⟨b112, 0, none⟩) 2 2) 2 [.int .i64 53, .slice (some ⟨b86, 0, none⟩) 1 1, .int .i64 61, .slice p103 c.name.size c104] [(b112, .cells #[.int .i64 53, .slice (some ⟨b86, 0, none⟩) 1 1, .int .i64 61, .slice p103 c.name.size c104] 76 (0, 0))] := (Ow.lit rfl (by decide))
     have hsH : Rd V118 [] 1 (.slice p113 (0 + c.hw.length) c113) c.hw.length (c.hw.map byteV) := by have h := hsh; simpa using h
     have hsA : Rd V118 [] 1 (.slice (some ⟨b86, 0, none⟩) 1 1) 1 [.int .u8 (kind % 256)] := hsd1
     have hsB : Rd V118 [] 1 (.slice p103 c.name.size c104) c.name.size (c.name.toList.map byteV) := hsd2
     exact Ex.retCell [2, 0] rfl rfl Clsay_ag36 (Kn.at 1 rfl) rfl ⟨hVle, [(b112, .cells #[.int .i64 53, .slice (some ⟨b86, 0, none⟩) 1 1, .int .i64 61, .slice p103 c.name.size c104] 76 (0, 0))], rfl, .slice p113 (0 + c.hw.length) c113, (some ⟨b112, 0, none⟩), 2, .slice (some ⟨b86, 0, none⟩) 1 1, .slice p103 c.name.size c104, rfl, hsH, hsO, hsA, hsB⟩
  ·refine Run.strBytes (str := c.name) rfl Clsay_es22 Clsay_tg5 Clsay_st9 (lt rfl) (fun v119 s120 hsw121 hf => ?_)
   obtain ⟨p122, c123, rfl⟩ := hf
   refine Run.to_end ?_
   refine Ex.anyL (KnAll.cons (Kn.at 3 rfl) KnAll.nil) ?_
   refine RunL.pure (i := 19) rfl (by kernel_rfl) (by kernel_rfl) (by kernel_rfl) (by kernel_rfl) (fun _ _ _ h => h) (lt rfl) (KnAll.cons (Kn.at 3 rfl) KnAll.nil) (fun _ => (Y.buildS (l := [(0, .const (.int .i64 61)), (1, .tmp 23)]) Clsay_zo76 Clsay_pl76 rfl rfl)) ?_
   refine RunL.two (i := 4) (j := 20) (by kernel_rfl) rfl rfl  ?_ ?_ 
   ·refine Run.buildSlice0 Clsay_es22 (lt rfl) (fun b124 => ?_)
    refine Run.to_end ?_
    refine Ex.anyL (KnAll.cons (Kn.at 4 rfl) KnAll.nil) ?_
    refine RunL.two (i := 9) (j := 20) (by kernel_rfl) rfl rfl  ?_ ?_ 
    ·refine Run.append (n := 0) (m := c.hw.length) (xs := []) (ys := c.hw.map byteV) rfl rfl Clsay_es22 Clsay_zi5 (by decide) (j := 0) rfl (Ow.lit (cur := #[]) rfl (by decide)) (Src.of_rd Clsay_es22 hh.of_nil) (by omega) (by omega) (all_one_bytes _) (lt rfl) (fun v125 s126 ho127 hf => ?_)
     obtain ⟨p125, c125, rfl⟩ := hf
     refine Run.to_end ?_
     refine Ex.anyL (KnAll.cons (Kn.at 4 rfl) KnAll.nil) ?_
     refine RunL.one (i := 20) (by kernel_rfl) rfl  ?_ 
     refine Run.buildSlice (l := [(0, .tmp 18), (1, .tmp 24)]) (r := [.int .i64 53, .slice (some ⟨b86, 0, none⟩) 1 1, .int .i64 61, .slice p122 c.name.size c123]) Clsay_es34 Clsay_zo76 rfl (by decide) rfl rfl (by decide) (lt rfl) (fun b128 => ?_)
     refine Run.to_end ?_
     refine Ex.anyL (KnAll.cons (Kn.at 5 rfl) KnAll.nil) ?_
     refine RunL.pure (i := 21) rfl (by kernel_rfl) (by kernel_rfl) (by kernel_rfl) (by kernel_rfl) (fun _ _ _ h => h) (lt rfl) (KnAll.cons (Kn.at 5 rfl) KnAll.nil) (fun _ => (Y.buildS (l := [(0, .const (.int .i64 1)), (1, .tmp 8), (8, .tmp 14), (9, .tmp 25)]) Clsay_zo36 Clsay_pl36 rfl rfl)) ?_
     refine RunL.one (i := 22) (by kernel_rfl) rfl  ?_ 
     refine Run.store (s := [(b1, .cells #[.int .i64 1, .int .u32 c.xid, .int .i64 0, .int .i64 0, .int .u32 0, .int .u32 0, .int .u32 0, .int .u32 0, .slice p125 (0 + c.hw.length) c125, .slice (some ⟨b128, 0, none⟩) 2 2] 36 (0, 0))]) rfl rfl Clsay_sz36 (i := 4) rfl rfl (le rfl) rfl rfl ?_
     refine Run.to_end ?_
     refine Ex.anyLz rfl ?_
     refine RunL.done (by kernel_rfl) ?_
     refine Ex.go ?_
     refine Tr.to_ret ?_
     refine Ex.keepTo (H' := [s126, [(b128, .cells #[.int .i64 53, .slice (some ⟨b86, 0, none⟩) 1 1, .int .i64 61, .slice p122 c.name.size c123] 76 (0, 0))], s120, [(b86, .cells #[.int .u8 (kind % 256)] 5 (0, 0))], [(b1, .cells #[.int .i64 1, .int .u32 c.xid, .int .i64 0, .int .i64 0, .int .u32 0, .int .u32 0, .int .u32 0, .int .u32 0, .slice p125 (0 + c.hw.length) c125, .slice (some ⟨b128, 0, none⟩) 2 2] 36 (0, 0))], [(bc, .cells #[.string c.name, .slice ph c.hw.length ch, .int .i64 c.state, .int .u32 c.xid, .int .u32 c.addr, .int .u32 c.server, .int .i64 c.until_, .int .i64 c.one, .int .i64 c.two, .bool c.due, .int .i64 c.tries, .int .i64 c.said, .int .i64 c.asks] 44 (0, 0))]]) [1, 0, 0, 0, 0, 0] rfl ?_
     refine Ex.show (fun V129 hleV129 hshV129 => ?_)
     have hsh := ho127.shows _ hshV129
     have hVle := hleV129
     refine Ex.keepTo (H' := [[(b86, .cells #[.int .u8 (kind % 256)] 5 (0, 0))], [(b128, .cells #[.int .i64 53, .slice (some ⟨b86, 0, none⟩) 1 1, .int .i64 61, .slice p122 c.name.size c123] 76 (0, 0))], s120, [(b1, .cells #[.int .i64 1, .int .u32 c.xid, .int .i64 0, .int .i64 0, .int .u32 0, .int .u32 0, .int .u32 0, .int .u32 0, .slice p125 (0 + c.hw.length) c125, .slice (some ⟨b128, 0, none⟩) 2 2] 36 (0, 0))], [(bc, .cells #[.string c.name, .slice ph c.hw.length ch, .int .i64 c.state, .int .u32 c.xid, .int .u32 c.addr, .int .u32 c.server, .int .i64 c.until_, .int .i64 c.one, .int .i64 c.two, .bool c.due, .int .i64 c.tries, .int .i64 c.said, .int .i64 c.asks] 44 (0, 0))]]) [2, 0, 0, 0, 0] rfl ?_
     refine Ex.show (fun V130 hleV130 hshV130 => ?_)
     have hsd1 := (Ow.lit (e := 5) (k := 1) (b := b86) (n := 1) (cur := #[.int .u8 (kind % 256)]) rfl (by decide)).shows _ hshV130
     replace hsh := hsh.le hleV130
     replace hVle := Vw.le_trans hVle hleV130
     refine Ex.keepTo (H' := [s120, [(b128, .cells #[.int .i64 53, .slice (some ⟨b86, 0, none⟩) 1 1, .int .i64 61, .slice p122 c.name.size c123] 76 (0, 0))], [(b1, .cells #[.int .i64 1, .int .u32 c.xid, .int .i64 0, .int .i64 0, .int .u32 0, .int .u32 0, .int .u32 0, .int .u32 0, .slice p125 (0 + c.hw.length) c125, .slice (some ⟨b128, 0, none⟩) 2 2] 36 (0, 0))], [(bc, .cells #[.string c.name, .slice ph c.hw.length ch, .int .i64 c.state, .int .u32 c.xid, .int .u32 c.addr, .int .u32 c.server, .int .i64 c.until_, .int .i64 c.one, .int .i64 c.two, .bool c.due, .int .i64 c.tries, .int .i64 c.said, .int .i64 c.asks] 44 (0, 0))]]) [1, 0, 0, 0] rfl ?_
     refine Ex.show (fun V131 hleV131 hshV131 => ?_)
     have hsd2 := hsw121 _ hshV131
     replace hsh := hsh.le hleV131
     replace hsd1 := hsd1.le hleV131
     replace hVle := Vw.le_trans hVle hleV131
     have hsO : Ow 76 2 (.slice (some ⟨b128, 0, none⟩) 2 2) 2 [.int .i64 53, .slice (some ⟨b86, 0, none⟩) 1 1, .int .i64 61, .slice p122 c.name.size c123] [(b128, .cells #[.int .i64 53, .slice (some ⟨b86, 0, none⟩) 1 1, .int .i64 61, .slice p122 c.name.size c123] 76 (0, 0))] := (Ow.lit rfl (by decide))
     have hsH : Rd V131 [] 1 (.slice p125 (0 + c.hw.length) c125) c.hw.length (c.hw.map byteV) := by have h := hsh; simpa using h
     have hsA : Rd V131 [] 1 (.slice (some ⟨b86, 0, none⟩) 1 1) 1 [.int .u8 (kind % 256)] := hsd1
     have hsB : Rd V131 [] 1 (.slice p122 c.name.size c123) c.name.size (c.name.toList.map byteV) := hsd2
     exact Ex.retCell [2, 0] rfl rfl Clsay_ag36 (Kn.at 1 rfl) rfl ⟨hVle, [(b128, .cells #[.int .i64 53, .slice (some ⟨b86, 0, none⟩) 1 1, .int .i64 61, .slice p122 c.name.size c123] 76 (0, 0))], rfl, .slice p125 (0 + c.hw.length) c125, (some ⟨b128, 0, none⟩), 2, .slice (some ⟨b86, 0, none⟩) 1 1, .slice p122 c.name.size c123, rfl, hsH, hsO, hsA, hsB⟩
    ·refine Run.buildSlice (l := [(0, .tmp 18), (1, .tmp 24)]) (r := [.int .i64 53, .slice (some ⟨b86, 0, none⟩) 1 1, .int .i64 61, .slice p122 c.name.size c123]) Clsay_es34 Clsay_zo76 rfl (by decide) rfl rfl (by decide) (lt rfl) (fun b132 => ?_)
     refine Run.to_end ?_
     refine Ex.anyL (KnAll.cons (Kn.at 5 rfl) KnAll.nil) ?_
     refine RunL.one (i := 9) (by kernel_rfl) rfl  ?_ 
     refine Run.append (n := 0) (m := c.hw.length) (xs := []) (ys := c.hw.map byteV) rfl rfl Clsay_es22 Clsay_zi5 (by decide) (j := 1) rfl (Ow.lit (cur := #[]) rfl (by decide)) (Src.of_rd Clsay_es22 hh.of_nil) (by omega) (by omega) (all_one_bytes _) (lt rfl) (fun v133 s134 ho135 hf => ?_)
     obtain ⟨p133, c133, rfl⟩ := hf
     refine Run.to_end ?_
     refine Ex.anyL (KnAll.cons (Kn.at 5 rfl) KnAll.nil) ?_
     refine RunL.pure (i := 21) rfl (by kernel_rfl) (by kernel_rfl) (by kernel_rfl) (by kernel_rfl) (fun _ _ _ h => h) (lt rfl) (KnAll.cons (Kn.at 5 rfl) KnAll.nil) (fun _ => (Y.buildS (l := [(0, .const (.int .i64 1)), (1, .tmp 8), (8, .tmp 14), (9, .tmp 25)]) Clsay_zo36 Clsay_pl36 rfl rfl)) ?_
     refine RunL.one (i := 22) (by kernel_rfl) rfl  ?_ 
     refine Run.store (s := [(b1, .cells #[.int .i64 1, .int .u32 c.xid, .int .i64 0, .int .i64 0, .int .u32 0, .int .u32 0, .int .u32 0, .int .u32 0, .slice p133 (0 + c.hw.length) c133, .slice (some ⟨b132, 0, none⟩) 2 2] 36 (0, 0))]) rfl rfl Clsay_sz36 (i := 4) rfl rfl (le rfl) rfl rfl ?_
     refine Run.to_end ?_
     refine Ex.anyLz rfl ?_
     refine RunL.done (by kernel_rfl) ?_
     refine Ex.go ?_
     refine Tr.to_ret ?_
     refine Ex.keepTo (H' := [s134, [(b132, .cells #[.int .i64 53, .slice (some ⟨b86, 0, none⟩) 1 1, .int .i64 61, .slice p122 c.name.size c123] 76 (0, 0))], s120, [(b86, .cells #[.int .u8 (kind % 256)] 5 (0, 0))], [(b1, .cells #[.int .i64 1, .int .u32 c.xid, .int .i64 0, .int .i64 0, .int .u32 0, .int .u32 0, .int .u32 0, .int .u32 0, .slice p133 (0 + c.hw.length) c133, .slice (some ⟨b132, 0, none⟩) 2 2] 36 (0, 0))], [(bc, .cells #[.string c.name, .slice ph c.hw.length ch, .int .i64 c.state, .int .u32 c.xid, .int .u32 c.addr, .int .u32 c.server, .int .i64 c.until_, .int .i64 c.one, .int .i64 c.two, .bool c.due, .int .i64 c.tries, .int .i64 c.said, .int .i64 c.asks] 44 (0, 0))]]) [1, 0, 0, 0, 0, 0] rfl ?_
     refine Ex.show (fun V136 hleV136 hshV136 => ?_)
     have hsh := ho135.shows _ hshV136
     have hVle := hleV136
     refine Ex.keepTo (H' := [[(b86, .cells #[.int .u8 (kind % 256)] 5 (0, 0))], [(b132, .cells #[.int .i64 53, .slice (some ⟨b86, 0, none⟩) 1 1, .int .i64 61, .slice p122 c.name.size c123] 76 (0, 0))], s120, [(b1, .cells #[.int .i64 1, .int .u32 c.xid, .int .i64 0, .int .i64 0, .int .u32 0, .int .u32 0, .int .u32 0, .int .u32 0, .slice p133 (0 + c.hw.length) c133, .slice (some ⟨b132, 0, none⟩) 2 2] 36 (0, 0))], [(bc, .cells #[.string c.name, .slice ph c.hw.length ch, .int .i64 c.state, .int .u32 c.xid, .int .u32 c.addr, .int .u32 c.server, .int .i64 c.until_, .int .i64 c.one, .int .i64 c.two, .bool c.due, .int .i64 c.tries, .int .i64 c.said, .int .i64 c.asks] 44 (0, 0))]]) [2, 0, 0, 0, 0] rfl ?_
     refine Ex.show (fun V137 hleV137 hshV137 => ?_)
     have hsd1 := (Ow.lit (e := 5) (k := 1) (b := b86) (n := 1) (cur := #[.int .u8 (kind % 256)]) rfl (by decide)).shows _ hshV137
     replace hsh := hsh.le hleV137
     replace hVle := Vw.le_trans hVle hleV137
     refine Ex.keepTo (H' := [s120, [(b132, .cells #[.int .i64 53, .slice (some ⟨b86, 0, none⟩) 1 1, .int .i64 61, .slice p122 c.name.size c123] 76 (0, 0))], [(b1, .cells #[.int .i64 1, .int .u32 c.xid, .int .i64 0, .int .i64 0, .int .u32 0, .int .u32 0, .int .u32 0, .int .u32 0, .slice p133 (0 + c.hw.length) c133, .slice (some ⟨b132, 0, none⟩) 2 2] 36 (0, 0))], [(bc, .cells #[.string c.name, .slice ph c.hw.length ch, .int .i64 c.state, .int .u32 c.xid, .int .u32 c.addr, .int .u32 c.server, .int .i64 c.until_, .int .i64 c.one, .int .i64 c.two, .bool c.due, .int .i64 c.tries, .int .i64 c.said, .int .i64 c.asks] 44 (0, 0))]]) [1, 0, 0, 0] rfl ?_
     refine Ex.show (fun V138 hleV138 hshV138 => ?_)
     have hsd2 := hsw121 _ hshV138
     replace hsh := hsh.le hleV138
     replace hsd1 := hsd1.le hleV138
     replace hVle := Vw.le_trans hVle hleV138
     have hsO : Ow 76 2 (.slice (some ⟨b132, 0, none⟩) 2 2) 2 [.int .i64 53, .slice (some ⟨b86, 0, none⟩) 1 1, .int .i64 61, .slice p122 c.name.size c123] [(b132, .cells #[.int .i64 53, .slice (some ⟨b86, 0, none⟩) 1 1, .int .i64 61, .slice p122 c.name.size c123] 76 (0, 0))] := (Ow.lit rfl (by decide))
     have hsH : Rd V138 [] 1 (.slice p133 (0 + c.hw.length) c133) c.hw.length (c.hw.map byteV) := by have h := hsh; simpa using h
     have hsA : Rd V138 [] 1 (.slice (some ⟨b86, 0, none⟩) 1 1) 1 [.int .u8 (kind % 256)] := hsd1
     have hsB : Rd V138 [] 1 (.slice p122 c.name.size c123) c.name.size (c.name.toList.map byteV) := hsd2
     exact Ex.retCell [2, 0] rfl rfl Clsay_ag36 (Kn.at 1 rfl) rfl ⟨hVle, [(b132, .cells #[.int .i64 53, .slice (some ⟨b86, 0, none⟩) 1 1, .int .i64 61, .slice p122 c.name.size c123] 76 (0, 0))], rfl, .slice p133 (0 + c.hw.length) c133, (some ⟨b132, 0, none⟩), 2, .slice (some ⟨b86, 0, none⟩) 1 1, .slice p122 c.name.size c123, rfl, hsH, hsO, hsA, hsB⟩
   ·refine Run.buildSlice (l := [(0, .tmp 18), (1, .tmp 24)]) (r := [.int .i64 53, .slice (some ⟨b86, 0, none⟩) 1 1, .int .i64 61, .slice p122 c.name.size c123]) Clsay_es34 Clsay_zo76 rfl (by decide) rfl rfl (by decide) (lt rfl) (fun b139 => ?_)
    refine Run.to_end ?_
    refine Ex.anyL (KnAll.cons (Kn.at 4 rfl) KnAll.nil) ?_
    refine RunL.one (i := 4) (by kernel_rfl) rfl  ?_ 
    refine Run.buildSlice0 Clsay_es22 (lt rfl) (fun b140 => ?_)
    refine Run.to_end ?_
    refine Ex.anyL (KnAll.cons (Kn.at 5 rfl) KnAll.nil) ?_
    refine RunL.one (i := 9) (by kernel_rfl) rfl  ?_ 
    refine Run.append (n := 0) (m := c.hw.length) (xs := []) (ys := c.hw.map byteV) rfl rfl Clsay_es22 Clsay_zi5 (by decide) (j := 0) rfl (Ow.lit (cur := #[]) rfl (by decide)) (Src.of_rd Clsay_es22 hh.of_nil) (by omega) (by omega) (all_one_bytes _) (lt rfl) (fun v141 s142 ho143 hf => ?_)
    obtain ⟨p141, c141, rfl⟩ := hf
    refine Run.to_end ?_
    refine Ex.anyL (KnAll.cons (Kn.at 5 rfl) KnAll.nil) ?_
    refine RunL.pure (i := 21) rfl (by kernel_rfl) (by kernel_rfl) (by kernel_rfl) (by kernel_rfl) (fun _ _ _ h => h) (lt rfl) (KnAll.cons (Kn.at 5 rfl) KnAll.nil) (fun _ => (Y.buildS (l := [(0, .const (.int .i64 1)), (1, .tmp 8), (8, .tmp 14), (9, .tmp 25)]) Clsay_zo36 Clsay_pl36 rfl rfl)) ?_
    refine RunL.one (i := 22) (by kernel_rfl) rfl  ?_ 
    refine Run.store (s := [(b1, .cells #[.int .i64 1, .int .u32 c.xid, .int .i64 0, .int .i64 0, .int .u32 0, .int .u32 0, .int .u32 0, .int .u32 0, .slice p141 (0 + c.hw.length) c141, .slice (some ⟨b139, 0, none⟩) 2 2] 36 (0, 0))]) rfl rfl Clsay_sz36 (i := 4) rfl rfl (le rfl) rfl rfl ?_
    refine Run.to_end ?_
    refine Ex.anyLz rfl ?_
    refine RunL.done (by kernel_rfl) ?_
    refine Ex.go ?_
    refine Tr.to_ret ?_
    refine Ex.keepTo (H' := [s142, [(b139, .cells #[.int .i64 53, .slice (some ⟨b86, 0, none⟩) 1 1, .int .i64 61, .slice p122 c.name.size c123] 76 (0, 0))], s120, [(b86, .cells #[.int .u8 (kind % 256)] 5 (0, 0))], [(b1, .cells #[.int .i64 1, .int .u32 c.xid, .int .i64 0, .int .i64 0, .int .u32 0, .int .u32 0, .int .u32 0, .int .u32 0, .slice p141 (0 + c.hw.length) c141, .slice (some ⟨b139, 0, none⟩) 2 2] 36 (0, 0))], [(bc, .cells #[.string c.name, .slice ph c.hw.length ch, .int .i64 c.state, .int .u32 c.xid, .int .u32 c.addr, .int .u32 c.server, .int .i64 c.until_, .int .i64 c.one, .int .i64 c.two, .bool c.due, .int .i64 c.tries, .int .i64 c.said, .int .i64 c.asks] 44 (0, 0))]]) [0, 0, 0, 0, 0, 0] rfl ?_
    refine Ex.show (fun V144 hleV144 hshV144 => ?_)
    have hsh := ho143.shows _ hshV144
    have hVle := hleV144
    refine Ex.keepTo (H' := [[(b86, .cells #[.int .u8 (kind % 256)] 5 (0, 0))], [(b139, .cells #[.int .i64 53, .slice (some ⟨b86, 0, none⟩) 1 1, .int .i64 61, .slice p122 c.name.size c123] 76 (0, 0))], s120, [(b1, .cells #[.int .i64 1, .int .u32 c.xid, .int .i64 0, .int .i64 0, .int .u32 0, .int .u32 0, .int .u32 0, .int .u32 0, .slice p141 (0 + c.hw.length) c141, .slice (some ⟨b139, 0, none⟩) 2 2] 36 (0, 0))], [(bc, .cells #[.string c.name, .slice ph c.hw.length ch, .int .i64 c.state, .int .u32 c.xid, .int .u32 c.addr, .int .u32 c.server, .int .i64 c.until_, .int .i64 c.one, .int .i64 c.two, .bool c.due, .int .i64 c.tries, .int .i64 c.said, .int .i64 c.asks] 44 (0, 0))]]) [2, 0, 0, 0, 0] rfl ?_
    refine Ex.show (fun V145 hleV145 hshV145 => ?_)
    have hsd1 := (Ow.lit (e := 5) (k := 1) (b := b86) (n := 1) (cur := #[.int .u8 (kind % 256)]) rfl (by decide)).shows _ hshV145
    replace hsh := hsh.le hleV145
    replace hVle := Vw.le_trans hVle hleV145
    refine Ex.keepTo (H' := [s120, [(b139, .cells #[.int .i64 53, .slice (some ⟨b86, 0, none⟩) 1 1, .int .i64 61, .slice p122 c.name.size c123] 76 (0, 0))], [(b1, .cells #[.int .i64 1, .int .u32 c.xid, .int .i64 0, .int .i64 0, .int .u32 0, .int .u32 0, .int .u32 0, .int .u32 0, .slice p141 (0 + c.hw.length) c141, .slice (some ⟨b139, 0, none⟩) 2 2] 36 (0, 0))], [(bc, .cells #[.string c.name, .slice ph c.hw.length ch, .int .i64 c.state, .int .u32 c.xid, .int .u32 c.addr, .int .u32 c.server, .int .i64 c.until_, .int .i64 c.one, .int .i64 c.two, .bool c.due, .int .i64 c.tries, .int .i64 c.said, .int .i64 c.asks] 44 (0, 0))]]) [1, 0, 0, 0] rfl ?_
    refine Ex.show (fun V146 hleV146 hshV146 => ?_)
    have hsd2 := hsw121 _ hshV146
    replace hsh := hsh.le hleV146
    replace hsd1 := hsd1.le hleV146
    replace hVle := Vw.le_trans hVle hleV146
    have hsO : Ow 76 2 (.slice (some ⟨b139, 0, none⟩) 2 2) 2 [.int .i64 53, .slice (some ⟨b86, 0, none⟩) 1 1, .int .i64 61, .slice p122 c.name.size c123] [(b139, .cells #[.int .i64 53, .slice (some ⟨b86, 0, none⟩) 1 1, .int .i64 61, .slice p122 c.name.size c123] 76 (0, 0))] := (Ow.lit rfl (by decide))
    have hsH : Rd V146 [] 1 (.slice p141 (0 + c.hw.length) c141) c.hw.length (c.hw.map byteV) := by have h := hsh; simpa using h
    have hsA : Rd V146 [] 1 (.slice (some ⟨b86, 0, none⟩) 1 1) 1 [.int .u8 (kind % 256)] := hsd1
    have hsB : Rd V146 [] 1 (.slice p122 c.name.size c123) c.name.size (c.name.toList.map byteV) := hsd2
    exact Ex.retCell [2, 0] rfl rfl Clsay_ag36 (Kn.at 1 rfl) rfl ⟨hVle, [(b139, .cells #[.int .i64 53, .slice (some ⟨b86, 0, none⟩) 1 1, .int .i64 61, .slice p122 c.name.size c123] 76 (0, 0))], rfl, .slice p141 (0 + c.hw.length) c141, (some ⟨b139, 0, none⟩), 2, .slice (some ⟨b86, 0, none⟩) 1 1, .slice p122 c.name.size c123, rfl, hsH, hsO, hsA, hsB⟩
 ·refine Run.strBytes (str := c.name) rfl Clsay_es22 Clsay_tg5 Clsay_st9 (lt rfl) (fun v147 s148 hsw149 hf => ?_)
  obtain ⟨p150, c151, rfl⟩ := hf
  refine Run.to_end ?_
  refine Ex.anyL (KnAll.cons (Kn.at 2 rfl) KnAll.nil) ?_
  refine RunL.pure (i := 19) rfl (by kernel_rfl) (by kernel_rfl) (by kernel_rfl) (by kernel_rfl) (fun _ _ _ h => h) (lt rfl) (KnAll.cons (Kn.at 2 rfl) KnAll.nil) (fun _ => (Y.buildS (l := [(0, .const (.int .i64 61)), (1, .tmp 23)]) Clsay_zo76 Clsay_pl76 rfl rfl)) ?_
  refine RunL.two (i := 4) (j := 12) (by kernel_rfl) rfl rfl  ?_ ?_ 
  ·refine Run.buildSlice0 Clsay_es22 (lt rfl) (fun b152 => ?_)
   refine Run.to_end ?_
   refine Ex.anyL (KnAll.cons (Kn.at 3 rfl) KnAll.nil) ?_
   refine RunL.two (i := 9) (j := 12) (by kernel_rfl) rfl rfl  ?_ ?_ 
   ·refine Run.append (n := 0) (m := c.hw.length) (xs := []) (ys := c.hw.map byteV) rfl rfl Clsay_es22 Clsay_zi5 (by decide) (j := 0) rfl (Ow.lit (cur := #[]) rfl (by decide)) (Src.of_rd Clsay_es22 hh.of_nil) (by omega) (by omega) (all_one_bytes _) (lt rfl) (fun v153 s154 ho155 hf => ?_)
    obtain ⟨p153, c153, rfl⟩ := hf
    refine Run.to_end ?_
    refine Ex.anyL (KnAll.cons (Kn.at 3 rfl) KnAll.nil) ?_
    refine RunL.one (i := 12) (by kernel_rfl) rfl  ?_ 
    refine Run.buildSlice (l := [(0, .tmp 16)]) Clsay_es22 Clsay_zo5 rfl (by decide) rfl rfl (by decide) (lt rfl) (fun b156 => ?_)
    refine Run.to_end ?_
    refine Ex.anyL (KnAll.cons (Kn.at 4 rfl) KnAll.nil) ?_
    refine RunL.pure (i := 13) rfl (by kernel_rfl) (by kernel_rfl) (by kernel_rfl) (by kernel_rfl) (fun _ _ _ h => h) (lt rfl) (KnAll.cons (Kn.at 4 rfl) KnAll.nil) (fun _ => (Y.buildS (l := [(0, .const (.int .i64 53)), (1, .tmp 17)]) Clsay_zo76 Clsay_pl76 rfl rfl)) ?_
    refine RunL.one (i := 20) (by kernel_rfl) rfl  ?_ 
    refine Run.buildSlice (l := [(0, .tmp 18), (1, .tmp 24)]) (r := [.int .i64 53, .slice (some ⟨b156, 0, none⟩) 1 1, .int .i64 61, .slice p150 c.name.size c151]) Clsay_es34 Clsay_zo76 rfl (by decide) rfl rfl (by decide) (lt rfl) (fun b157 => ?_)
    refine Run.to_end ?_
    refine Ex.anyL (KnAll.cons (Kn.at 5 rfl) KnAll.nil) ?_
    refine RunL.pure (i := 21) rfl (by kernel_rfl) (by kernel_rfl) (by kernel_rfl) (by kernel_rfl) (fun _ _ _ h => h) (lt rfl) (KnAll.cons (Kn.at 5 rfl) KnAll.nil) (fun _ => (Y.buildS (l := [(0, .const (.int .i64 1)), (1, .tmp 8), (8, .tmp 14), (9, .tmp 25)]) Clsay_zo36 Clsay_pl36 rfl rfl)) ?_
    refine RunL.one (i := 22) (by kernel_rfl) rfl  ?_ 
    refine Run.store (s := [(b1, .cells #[.int .i64 1, .int .u32 c.xid, .int .i64 0, .int .i64 0, .int .u32 0, .int .u32 0, .int .u32 0, .int .u32 0, .slice p153 (0 + c.hw.length) c153, .slice (some ⟨b157, 0, none⟩) 2 2] 36 (0, 0))]) rfl rfl Clsay_sz36 (i := 4) rfl rfl (le rfl) rfl rfl ?_
    refine Run.to_end ?_
    refine Ex.anyLz rfl ?_
    refine RunL.done (by kernel_rfl) ?_
    refine Ex.go ?_
    refine Tr.to_ret ?_
    refine Ex.keepTo (H' := [s154, [(b157, .cells #[.int .i64 53, .slice (some ⟨b156, 0, none⟩) 1 1, .int .i64 61, .slice p150 c.name.size c151] 76 (0, 0))], [(b156, .cells #[.int .u8 (kind % 256)] 5 (0, 0))], s148, [(b1, .cells #[.int .i64 1, .int .u32 c.xid, .int .i64 0, .int .i64 0, .int .u32 0, .int .u32 0, .int .u32 0, .int .u32 0, .slice p153 (0 + c.hw.length) c153, .slice (some ⟨b157, 0, none⟩) 2 2] 36 (0, 0))], [(bc, .cells #[.string c.name, .slice ph c.hw.length ch, .int .i64 c.state, .int .u32 c.xid, .int .u32 c.addr, .int .u32 c.server, .int .i64 c.until_, .int .i64 c.one, .int .i64 c.two, .bool c.due, .int .i64 c.tries, .int .i64 c.said, .int .i64 c.asks] 44 (0, 0))]]) [2, 0, 0, 0, 0, 0] rfl ?_
    refine Ex.show (fun V158 hleV158 hshV158 => ?_)
    have hsh := ho155.shows _ hshV158
    have hVle := hleV158
    refine Ex.keepTo (H' := [[(b156, .cells #[.int .u8 (kind % 256)] 5 (0, 0))], [(b157, .cells #[.int .i64 53, .slice (some ⟨b156, 0, none⟩) 1 1, .int .i64 61, .slice p150 c.name.size c151] 76 (0, 0))], s148, [(b1, .cells #[.int .i64 1, .int .u32 c.xid, .int .i64 0, .int .i64 0, .int .u32 0, .int .u32 0, .int .u32 0, .int .u32 0, .slice p153 (0 + c.hw.length) c153, .slice (some ⟨b157, 0, none⟩) 2 2] 36 (0, 0))], [(bc, .cells #[.string c.name, .slice ph c.hw.length ch, .int .i64 c.state, .int .u32 c.xid, .int .u32 c.addr, .int .u32 c.server, .int .i64 c.until_, .int .i64 c.one, .int .i64 c.two, .bool c.due, .int .i64 c.tries, .int .i64 c.said, .int .i64 c.asks] 44 (0, 0))]]) [1, 0, 0, 0, 0] rfl ?_
    refine Ex.show (fun V159 hleV159 hshV159 => ?_)
    have hsd1 := (Ow.lit (e := 5) (k := 1) (b := b156) (n := 1) (cur := #[.int .u8 (kind % 256)]) rfl (by decide)).shows _ hshV159
    replace hsh := hsh.le hleV159
    replace hVle := Vw.le_trans hVle hleV159
    refine Ex.keepTo (H' := [s148, [(b157, .cells #[.int .i64 53, .slice (some ⟨b156, 0, none⟩) 1 1, .int .i64 61, .slice p150 c.name.size c151] 76 (0, 0))], [(b1, .cells #[.int .i64 1, .int .u32 c.xid, .int .i64 0, .int .i64 0, .int .u32 0, .int .u32 0, .int .u32 0, .int .u32 0, .slice p153 (0 + c.hw.length) c153, .slice (some ⟨b157, 0, none⟩) 2 2] 36 (0, 0))], [(bc, .cells #[.string c.name, .slice ph c.hw.length ch, .int .i64 c.state, .int .u32 c.xid, .int .u32 c.addr, .int .u32 c.server, .int .i64 c.until_, .int .i64 c.one, .int .i64 c.two, .bool c.due, .int .i64 c.tries, .int .i64 c.said, .int .i64 c.asks] 44 (0, 0))]]) [1, 0, 0, 0] rfl ?_
    refine Ex.show (fun V160 hleV160 hshV160 => ?_)
    have hsd2 := hsw149 _ hshV160
    replace hsh := hsh.le hleV160
    replace hsd1 := hsd1.le hleV160
    replace hVle := Vw.le_trans hVle hleV160
    have hsO : Ow 76 2 (.slice (some ⟨b157, 0, none⟩) 2 2) 2 [.int .i64 53, .slice (some ⟨b156, 0, none⟩) 1 1, .int .i64 61, .slice p150 c.name.size c151] [(b157, .cells #[.int .i64 53, .slice (some ⟨b156, 0, none⟩) 1 1, .int .i64 61, .slice p150 c.name.size c151] 76 (0, 0))] := (Ow.lit rfl (by decide))
    have hsH : Rd V160 [] 1 (.slice p153 (0 + c.hw.length) c153) c.hw.length (c.hw.map byteV) := by have h := hsh; simpa using h
    have hsA : Rd V160 [] 1 (.slice (some ⟨b156, 0, none⟩) 1 1) 1 [.int .u8 (kind % 256)] := hsd1
    have hsB : Rd V160 [] 1 (.slice p150 c.name.size c151) c.name.size (c.name.toList.map byteV) := hsd2
    exact Ex.retCell [2, 0] rfl rfl Clsay_ag36 (Kn.at 1 rfl) rfl ⟨hVle, [(b157, .cells #[.int .i64 53, .slice (some ⟨b156, 0, none⟩) 1 1, .int .i64 61, .slice p150 c.name.size c151] 76 (0, 0))], rfl, .slice p153 (0 + c.hw.length) c153, (some ⟨b157, 0, none⟩), 2, .slice (some ⟨b156, 0, none⟩) 1 1, .slice p150 c.name.size c151, rfl, hsH, hsO, hsA, hsB⟩
   ·refine Run.buildSlice (l := [(0, .tmp 16)]) Clsay_es22 Clsay_zo5 rfl (by decide) rfl rfl (by decide) (lt rfl) (fun b161 => ?_)
    refine Run.to_end ?_
    refine Ex.anyL (KnAll.cons (Kn.at 4 rfl) KnAll.nil) ?_
    refine RunL.pure (i := 13) rfl (by kernel_rfl) (by kernel_rfl) (by kernel_rfl) (by kernel_rfl) (fun _ _ _ h => h) (lt rfl) (KnAll.cons (Kn.at 4 rfl) KnAll.nil) (fun _ => (Y.buildS (l := [(0, .const (.int .i64 53)), (1, .tmp 17)]) Clsay_zo76 Clsay_pl76 rfl rfl)) ?_
    refine RunL.two (i := 9) (j := 20) (by kernel_rfl) rfl rfl  ?_ ?_ 
    ·refine Run.append (n := 0) (m := c.hw.length) (xs := []) (ys := c.hw.map byteV) rfl rfl Clsay_es22 Clsay_zi5 (by decide) (j := 1) rfl (Ow.lit (cur := #[]) rfl (by decide)) (Src.of_rd Clsay_es22 hh.of_nil) (by omega) (by omega) (all_one_bytes _) (lt rfl) (fun v162 s163 ho164 hf => ?_)
     obtain ⟨p162, c162, rfl⟩ := hf
     refine Run.to_end ?_
     refine Ex.anyL (KnAll.cons (Kn.at 4 rfl) KnAll.nil) ?_
     refine RunL.one (i := 20) (by kernel_rfl) rfl  ?_ 
     refine Run.buildSlice (l := [(0, .tmp 18), (1, .tmp 24)]) (r := [.int .i64 53, .slice (some ⟨b161, 0, none⟩) 1 1, .int .i64 61, .slice p150 c.name.size c151]) Clsay_es34 Clsay_zo76 rfl (by decide) rfl rfl (by decide) (lt rfl) (fun b165 => ?_)
     refine Run.to_end ?_
     refine Ex.anyL (KnAll.cons (Kn.at 5 rfl) KnAll.nil) ?_
     refine RunL.pure (i := 21) rfl (by kernel_rfl) (by kernel_rfl) (by kernel_rfl) (by kernel_rfl) (fun _ _ _ h => h) (lt rfl) (KnAll.cons (Kn.at 5 rfl) KnAll.nil) (fun _ => (Y.buildS (l := [(0, .const (.int .i64 1)), (1, .tmp 8), (8, .tmp 14), (9, .tmp 25)]) Clsay_zo36 Clsay_pl36 rfl rfl)) ?_
     refine RunL.one (i := 22) (by kernel_rfl) rfl  ?_ 
     refine Run.store (s := [(b1, .cells #[.int .i64 1, .int .u32 c.xid, .int .i64 0, .int .i64 0, .int .u32 0, .int .u32 0, .int .u32 0, .int .u32 0, .slice p162 (0 + c.hw.length) c162, .slice (some ⟨b165, 0, none⟩) 2 2] 36 (0, 0))]) rfl rfl Clsay_sz36 (i := 4) rfl rfl (le rfl) rfl rfl ?_
     refine Run.to_end ?_
     refine Ex.anyLz rfl ?_
     refine RunL.done (by kernel_rfl) ?_
     refine Ex.go ?_
     refine Tr.to_ret ?_
     refine Ex.keepTo (H' := [s163, [(b165, .cells #[.int .i64 53, .slice (some ⟨b161, 0, none⟩) 1 1, .int .i64 61, .slice p150 c.name.size c151] 76 (0, 0))], [(b161, .cells #[.int .u8 (kind % 256)] 5 (0, 0))], s148, [(b1, .cells #[.int .i64 1, .int .u32 c.xid, .int .i64 0, .int .i64 0, .int .u32 0, .int .u32 0, .int .u32 0, .int .u32 0, .slice p162 (0 + c.hw.length) c162, .slice (some ⟨b165, 0, none⟩) 2 2] 36 (0, 0))], [(bc, .cells #[.string c.name, .slice ph c.hw.length ch, .int .i64 c.state, .int .u32 c.xid, .int .u32 c.addr, .int .u32 c.server, .int .i64 c.until_, .int .i64 c.one, .int .i64 c.two, .bool c.due, .int .i64 c.tries, .int .i64 c.said, .int .i64 c.asks] 44 (0, 0))]]) [2, 0, 0, 0, 0, 0] rfl ?_
     refine Ex.show (fun V166 hleV166 hshV166 => ?_)
     have hsh := ho164.shows _ hshV166
     have hVle := hleV166
     refine Ex.keepTo (H' := [[(b161, .cells #[.int .u8 (kind % 256)] 5 (0, 0))], [(b165, .cells #[.int .i64 53, .slice (some ⟨b161, 0, none⟩) 1 1, .int .i64 61, .slice p150 c.name.size c151] 76 (0, 0))], s148, [(b1, .cells #[.int .i64 1, .int .u32 c.xid, .int .i64 0, .int .i64 0, .int .u32 0, .int .u32 0, .int .u32 0, .int .u32 0, .slice p162 (0 + c.hw.length) c162, .slice (some ⟨b165, 0, none⟩) 2 2] 36 (0, 0))], [(bc, .cells #[.string c.name, .slice ph c.hw.length ch, .int .i64 c.state, .int .u32 c.xid, .int .u32 c.addr, .int .u32 c.server, .int .i64 c.until_, .int .i64 c.one, .int .i64 c.two, .bool c.due, .int .i64 c.tries, .int .i64 c.said, .int .i64 c.asks] 44 (0, 0))]]) [1, 0, 0, 0, 0] rfl ?_
     refine Ex.show (fun V167 hleV167 hshV167 => ?_)
     have hsd1 := (Ow.lit (e := 5) (k := 1) (b := b161) (n := 1) (cur := #[.int .u8 (kind % 256)]) rfl (by decide)).shows _ hshV167
     replace hsh := hsh.le hleV167
     replace hVle := Vw.le_trans hVle hleV167
     refine Ex.keepTo (H' := [s148, [(b165, .cells #[.int .i64 53, .slice (some ⟨b161, 0, none⟩) 1 1, .int .i64 61, .slice p150 c.name.size c151] 76 (0, 0))], [(b1, .cells #[.int .i64 1, .int .u32 c.xid, .int .i64 0, .int .i64 0, .int .u32 0, .int .u32 0, .int .u32 0, .int .u32 0, .slice p162 (0 + c.hw.length) c162, .slice (some ⟨b165, 0, none⟩) 2 2] 36 (0, 0))], [(bc, .cells #[.string c.name, .slice ph c.hw.length ch, .int .i64 c.state, .int .u32 c.xid, .int .u32 c.addr, .int .u32 c.server, .int .i64 c.until_, .int .i64 c.one, .int .i64 c.two, .bool c.due, .int .i64 c.tries, .int .i64 c.said, .int .i64 c.asks] 44 (0, 0))]]) [1, 0, 0, 0] rfl ?_
     refine Ex.show (fun V168 hleV168 hshV168 => ?_)
     have hsd2 := hsw149 _ hshV168
     replace hsh := hsh.le hleV168
     replace hsd1 := hsd1.le hleV168
     replace hVle := Vw.le_trans hVle hleV168
     have hsO : Ow 76 2 (.slice (some ⟨b165, 0, none⟩) 2 2) 2 [.int .i64 53, .slice (some ⟨b161, 0, none⟩) 1 1, .int .i64 61, .slice p150 c.name.size c151] [(b165, .cells #[.int .i64 53, .slice (some ⟨b161, 0, none⟩) 1 1, .int .i64 61, .slice p150 c.name.size c151] 76 (0, 0))] := (Ow.lit rfl (by decide))
     have hsH : Rd V168 [] 1 (.slice p162 (0 + c.hw.length) c162) c.hw.length (c.hw.map byteV) := by have h := hsh; simpa using h
     have hsA : Rd V168 [] 1 (.slice (some ⟨b161, 0, none⟩) 1 1) 1 [.int .u8 (kind % 256)] := hsd1
     have hsB : Rd V168 [] 1 (.slice p150 c.name.size c151) c.name.size (c.name.toList.map byteV) := hsd2
     exact Ex.retCell [2, 0] rfl rfl Clsay_ag36 (Kn.at 1 rfl) rfl ⟨hVle, [(b165, .cells #[.int .i64 53, .slice (some ⟨b161, 0, none⟩) 1 1, .int .i64 61, .slice p150 c.name.size c151] 76 (0, 0))], rfl, .slice p162 (0 + c.hw.length) c162, (some ⟨b165, 0, none⟩), 2, .slice (some ⟨b161, 0, none⟩) 1 1, .slice p150 c.name.size c151, rfl, hsH, hsO, hsA, hsB⟩
    ·refine Run.buildSlice (l := [(0, .tmp 18), (1, .tmp 24)]) (r := [.int .i64 53, .slice (some ⟨b161, 0, none⟩) 1 1, .int .i64 61, .slice p150 c.name.size c151]) Clsay_es34 Clsay_zo76 rfl (by decide) rfl rfl (by decide) (lt rfl) (fun b169 => ?_)
     refine Run.to_end ?_
     refine Ex.anyL (KnAll.cons (Kn.at 5 rfl) KnAll.nil) ?_
     refine RunL.one (i := 9) (by kernel_rfl) rfl  ?_ 
     refine Run.append (n := 0) (m := c.hw.length) (xs := []) (ys := c.hw.map byteV) rfl rfl Clsay_es22 Clsay_zi5 (by decide) (j := 2) rfl (Ow.lit (cur := #[]) rfl (by decide)) (Src.of_rd Clsay_es22 hh.of_nil) (by omega) (by omega) (all_one_bytes _) (lt rfl) (fun v170 s171 ho172 hf => ?_)
     obtain ⟨p170, c170, rfl⟩ := hf
     refine Run.to_end ?_
     refine Ex.anyL (KnAll.cons (Kn.at 5 rfl) KnAll.nil) ?_
     refine RunL.pure (i := 21) rfl (by kernel_rfl) (by kernel_rfl) (by kernel_rfl) (by kernel_rfl) (fun _ _ _ h => h) (lt rfl) (KnAll.cons (Kn.at 5 rfl) KnAll.nil) (fun _ => (Y.buildS (l := [(0, .const (.int .i64 1)), (1, .tmp 8), (8, .tmp 14), (9, .tmp 25)]) Clsay_zo36 Clsay_pl36 rfl rfl)) ?_
     refine RunL.one (i := 22) (by kernel_rfl) rfl  ?_ 
     refine Run.store (s := [(b1, .cells #[.int .i64 1, .int .u32 c.xid, .int .i64 0, .int .i64 0, .int .u32 0, .int .u32 0, .int .u32 0, .int .u32 0, .slice p170 (0 + c.hw.length) c170, .slice (some ⟨b169, 0, none⟩) 2 2] 36 (0, 0))]) rfl rfl Clsay_sz36 (i := 4) rfl rfl (le rfl) rfl rfl ?_
     refine Run.to_end ?_
     refine Ex.anyLz rfl ?_
     refine RunL.done (by kernel_rfl) ?_
     refine Ex.go ?_
     refine Tr.to_ret ?_
     refine Ex.keepTo (H' := [s171, [(b169, .cells #[.int .i64 53, .slice (some ⟨b161, 0, none⟩) 1 1, .int .i64 61, .slice p150 c.name.size c151] 76 (0, 0))], [(b161, .cells #[.int .u8 (kind % 256)] 5 (0, 0))], s148, [(b1, .cells #[.int .i64 1, .int .u32 c.xid, .int .i64 0, .int .i64 0, .int .u32 0, .int .u32 0, .int .u32 0, .int .u32 0, .slice p170 (0 + c.hw.length) c170, .slice (some ⟨b169, 0, none⟩) 2 2] 36 (0, 0))], [(bc, .cells #[.string c.name, .slice ph c.hw.length ch, .int .i64 c.state, .int .u32 c.xid, .int .u32 c.addr, .int .u32 c.server, .int .i64 c.until_, .int .i64 c.one, .int .i64 c.two, .bool c.due, .int .i64 c.tries, .int .i64 c.said, .int .i64 c.asks] 44 (0, 0))]]) [2, 0, 0, 0, 0, 0] rfl ?_
     refine Ex.show (fun V173 hleV173 hshV173 => ?_)
     have hsh := ho172.shows _ hshV173
     have hVle := hleV173
     refine Ex.keepTo (H' := [[(b161, .cells #[.int .u8 (kind % 256)] 5 (0, 0))], [(b169, .cells #[.int .i64 53, .slice (some ⟨b161, 0, none⟩) 1 1, .int .i64 61, .slice p150 c.name.size c151] 76 (0, 0))], s148, [(b1, .cells #[.int .i64 1, .int .u32 c.xid, .int .i64 0, .int .i64 0, .int .u32 0, .int .u32 0, .int .u32 0, .int .u32 0, .slice p170 (0 + c.hw.length) c170, .slice (some ⟨b169, 0, none⟩) 2 2] 36 (0, 0))], [(bc, .cells #[.string c.name, .slice ph c.hw.length ch, .int .i64 c.state, .int .u32 c.xid, .int .u32 c.addr, .int .u32 c.server, .int .i64 c.until_, .int .i64 c.one, .int .i64 c.two, .bool c.due, .int .i64 c.tries, .int .i64 c.said, .int .i64 c.asks] 44 (0, 0))]]) [1, 0, 0, 0, 0] rfl ?_
     refine Ex.show (fun V174 hleV174 hshV174 => ?_)
     have hsd1 := (Ow.lit (e := 5) (k := 1) (b := b161) (n := 1) (cur := #[.int .u8 (kind % 256)]) rfl (by decide)).shows _ hshV174
     replace hsh := hsh.le hleV174
     replace hVle := Vw.le_trans hVle hleV174
     refine Ex.keepTo (H' := [s148, [(b169, .cells #[.int .i64 53, .slice (some ⟨b161, 0, none⟩) 1 1, .int .i64 61, .slice p150 c.name.size c151] 76 (0, 0))], [(b1, .cells #[.int .i64 1, .int .u32 c.xid, .int .i64 0, .int .i64 0, .int .u32 0, .int .u32 0, .int .u32 0, .int .u32 0, .slice p170 (0 + c.hw.length) c170, .slice (some ⟨b169, 0, none⟩) 2 2] 36 (0, 0))], [(bc, .cells #[.string c.name, .slice ph c.hw.length ch, .int .i64 c.state, .int .u32 c.xid, .int .u32 c.addr, .int .u32 c.server, .int .i64 c.until_, .int .i64 c.one, .int .i64 c.two, .bool c.due, .int .i64 c.tries, .int .i64 c.said, .int .i64 c.asks] 44 (0, 0))]]) [1, 0, 0, 0] rfl ?_
     refine Ex.show (fun V175 hleV175 hshV175 => ?_)
     have hsd2 := hsw149 _ hshV175
     replace hsh := hsh.le hleV175
     replace hsd1 := hsd1.le hleV175
     replace hVle := Vw.le_trans hVle hleV175
     have hsO : Ow 76 2 (.slice (some ⟨b169, 0, none⟩) 2 2) 2 [.int .i64 53, .slice (some ⟨b161, 0, none⟩) 1 1, .int .i64 61, .slice p150 c.name.size c151] [(b169, .cells #[.int .i64 53, .slice (some ⟨b161, 0, none⟩) 1 1, .int .i64 61, .slice p150 c.name.size c151] 76 (0, 0))] := (Ow.lit rfl (by decide))
     have hsH : Rd V175 [] 1 (.slice p170 (0 + c.hw.length) c170) c.hw.length (c.hw.map byteV) := by have h := hsh; simpa using h
     have hsA : Rd V175 [] 1 (.slice (some ⟨b161, 0, none⟩) 1 1) 1 [.int .u8 (kind % 256)] := hsd1
     have hsB : Rd V175 [] 1 (.slice p150 c.name.size c151) c.name.size (c.name.toList.map byteV) := hsd2
     exact Ex.retCell [2, 0] rfl rfl Clsay_ag36 (Kn.at 1 rfl) rfl ⟨hVle, [(b169, .cells #[.int .i64 53, .slice (some ⟨b161, 0, none⟩) 1 1, .int .i64 61, .slice p150 c.name.size c151] 76 (0, 0))], rfl, .slice p170 (0 + c.hw.length) c170, (some ⟨b169, 0, none⟩), 2, .slice (some ⟨b161, 0, none⟩) 1 1, .slice p150 c.name.size c151, rfl, hsH, hsO, hsA, hsB⟩
  ·refine Run.buildSlice (l := [(0, .tmp 16)]) Clsay_es22 Clsay_zo5 rfl (by decide) rfl rfl (by decide) (lt rfl) (fun b176 => ?_)
   refine Run.to_end ?_
   refine Ex.anyL (KnAll.cons (Kn.at 3 rfl) KnAll.nil) ?_
   refine RunL.pure (i := 13) rfl (by kernel_rfl) (by kernel_rfl) (by kernel_rfl) (by kernel_rfl) (fun _ _ _ h => h) (lt rfl) (KnAll.cons (Kn.at 3 rfl) KnAll.nil) (fun _ => (Y.buildS (l := [(0, .const (.int .i64 53)), (1, .tmp 17)]) Clsay_zo76 Clsay_pl76 rfl rfl)) ?_
   refine RunL.two (i := 4) (j := 20) (by kernel_rfl) rfl rfl  ?_ ?_ 
   ·refine Run.buildSlice0 Clsay_es22 (lt rfl) (fun b177 => ?_)
    refine Run.to_end ?_
    refine Ex.anyL (KnAll.cons (Kn.at 4 rfl) KnAll.nil) ?_
    refine RunL.two (i := 9) (j := 20) (by kernel_rfl) rfl rfl  ?_ ?_ 
    ·refine Run.append (n := 0) (m := c.hw.length) (xs := []) (ys := c.hw.map byteV) rfl rfl Clsay_es22 Clsay_zi5 (by decide) (j := 0) rfl (Ow.lit (cur := #[]) rfl (by decide)) (Src.of_rd Clsay_es22 hh.of_nil) (by omega) (by omega) (all_one_bytes _) (lt rfl) (fun v178 s179 ho180 hf => ?_)
     obtain ⟨p178, c178, rfl⟩ := hf
     refine Run.to_end ?_
     refine Ex.anyL (KnAll.cons (Kn.at 4 rfl) KnAll.nil) ?_
     refine RunL.one (i := 20) (by kernel_rfl) rfl  ?_ 
     refine Run.buildSlice (l := [(0, .tmp 18), (1, .tmp 24)]) (r := [.int .i64 53, .slice (some ⟨b176, 0, none⟩) 1 1, .int .i64 61, .slice p150 c.name.size c151]) Clsay_es34 Clsay_zo76 rfl (by decide) rfl rfl (by decide) (lt rfl) (fun b181 => ?_)
     refine Run.to_end ?_
     refine Ex.anyL (KnAll.cons (Kn.at 5 rfl) KnAll.nil) ?_
     refine RunL.pure (i := 21) rfl (by kernel_rfl) (by kernel_rfl) (by kernel_rfl) (by kernel_rfl) (fun _ _ _ h => h) (lt rfl) (KnAll.cons (Kn.at 5 rfl) KnAll.nil) (fun _ => (Y.buildS (l := [(0, .const (.int .i64 1)), (1, .tmp 8), (8, .tmp 14), (9, .tmp 25)]) Clsay_zo36 Clsay_pl36 rfl rfl)) ?_
     refine RunL.one (i := 22) (by kernel_rfl) rfl  ?_ 
     refine Run.store (s := [(b1, .cells #[.int .i64 1, .int .u32 c.xid, .int .i64 0, .int .i64 0, .int .u32 0, .int .u32 0, .int .u32 0, .int .u32 0, .slice p178 (0 + c.hw.length) c178, .slice (some ⟨b181, 0, none⟩) 2 2] 36 (0, 0))]) rfl rfl Clsay_sz36 (i := 4) rfl rfl (le rfl) rfl rfl ?_
     refine Run.to_end ?_
     refine Ex.anyLz rfl ?_
     refine RunL.done (by kernel_rfl) ?_
     refine Ex.go ?_
     refine Tr.to_ret ?_
     refine Ex.keepTo (H' := [s179, [(b181, .cells #[.int .i64 53, .slice (some ⟨b176, 0, none⟩) 1 1, .int .i64 61, .slice p150 c.name.size c151] 76 (0, 0))], [(b176, .cells #[.int .u8 (kind % 256)] 5 (0, 0))], s148, [(b1, .cells #[.int .i64 1, .int .u32 c.xid, .int .i64 0, .int .i64 0, .int .u32 0, .int .u32 0, .int .u32 0, .int .u32 0, .slice p178 (0 + c.hw.length) c178, .slice (some ⟨b181, 0, none⟩) 2 2] 36 (0, 0))], [(bc, .cells #[.string c.name, .slice ph c.hw.length ch, .int .i64 c.state, .int .u32 c.xid, .int .u32 c.addr, .int .u32 c.server, .int .i64 c.until_, .int .i64 c.one, .int .i64 c.two, .bool c.due, .int .i64 c.tries, .int .i64 c.said, .int .i64 c.asks] 44 (0, 0))]]) [1, 0, 0, 0, 0, 0] rfl ?_
     refine Ex.show (fun V182 hleV182 hshV182 => ?_)
     have hsh := ho180.shows _ hshV182
     have hVle := hleV182
     refine Ex.keepTo (H' := [[(b176, .cells #[.int .u8 (kind % 256)] 5 (0, 0))], [(b181, .cells #[.int .i64 53, .slice (some ⟨b176, 0, none⟩) 1 1, .int .i64 61, .slice p150 c.name.size c151] 76 (0, 0))], s148, [(b1, .cells #[.int .i64 1, .int .u32 c.xid, .int .i64 0, .int .i64 0, .int .u32 0, .int .u32 0, .int .u32 0, .int .u32 0, .slice p178 (0 + c.hw.length) c178, .slice (some ⟨b181, 0, none⟩) 2 2] 36 (0, 0))], [(bc, .cells #[.string c.name, .slice ph c.hw.length ch, .int .i64 c.state, .int .u32 c.xid, .int .u32 c.addr, .int .u32 c.server, .int .i64 c.until_, .int .i64 c.one, .int .i64 c.two, .bool c.due, .int .i64 c.tries, .int .i64 c.said, .int .i64 c.asks] 44 (0, 0))]]) [1, 0, 0, 0, 0] rfl ?_
     refine Ex.show (fun V183 hleV183 hshV183 => ?_)
     have hsd1 := (Ow.lit (e := 5) (k := 1) (b := b176) (n := 1) (cur := #[.int .u8 (kind % 256)]) rfl (by decide)).shows _ hshV183
     replace hsh := hsh.le hleV183
     replace hVle := Vw.le_trans hVle hleV183
     refine Ex.keepTo (H' := [s148, [(b181, .cells #[.int .i64 53, .slice (some ⟨b176, 0, none⟩) 1 1, .int .i64 61, .slice p150 c.name.size c151] 76 (0, 0))], [(b1, .cells #[.int .i64 1, .int .u32 c.xid, .int .i64 0, .int .i64 0, .int .u32 0, .int .u32 0, .int .u32 0, .int .u32 0, .slice p178 (0 + c.hw.length) c178, .slice (some ⟨b181, 0, none⟩) 2 2] 36 (0, 0))], [(bc, .cells #[.string c.name, .slice ph c.hw.length ch, .int .i64 c.state, .int .u32 c.xid, .int .u32 c.addr, .int .u32 c.server, .int .i64 c.until_, .int .i64 c.one, .int .i64 c.two, .bool c.due, .int .i64 c.tries, .int .i64 c.said, .int .i64 c.asks] 44 (0, 0))]]) [1, 0, 0, 0] rfl ?_
     refine Ex.show (fun V184 hleV184 hshV184 => ?_)
     have hsd2 := hsw149 _ hshV184
     replace hsh := hsh.le hleV184
     replace hsd1 := hsd1.le hleV184
     replace hVle := Vw.le_trans hVle hleV184
     have hsO : Ow 76 2 (.slice (some ⟨b181, 0, none⟩) 2 2) 2 [.int .i64 53, .slice (some ⟨b176, 0, none⟩) 1 1, .int .i64 61, .slice p150 c.name.size c151] [(b181, .cells #[.int .i64 53, .slice (some ⟨b176, 0, none⟩) 1 1, .int .i64 61, .slice p150 c.name.size c151] 76 (0, 0))] := (Ow.lit rfl (by decide))
     have hsH : Rd V184 [] 1 (.slice p178 (0 + c.hw.length) c178) c.hw.length (c.hw.map byteV) := by have h := hsh; simpa using h
     have hsA : Rd V184 [] 1 (.slice (some ⟨b176, 0, none⟩) 1 1) 1 [.int .u8 (kind % 256)] := hsd1
     have hsB : Rd V184 [] 1 (.slice p150 c.name.size c151) c.name.size (c.name.toList.map byteV) := hsd2
     exact Ex.retCell [2, 0] rfl rfl Clsay_ag36 (Kn.at 1 rfl) rfl ⟨hVle, [(b181, .cells #[.int .i64 53, .slice (some ⟨b176, 0, none⟩) 1 1, .int .i64 61, .slice p150 c.name.size c151] 76 (0, 0))], rfl, .slice p178 (0 + c.hw.length) c178, (some ⟨b181, 0, none⟩), 2, .slice (some ⟨b176, 0, none⟩) 1 1, .slice p150 c.name.size c151, rfl, hsH, hsO, hsA, hsB⟩
    ·refine Run.buildSlice (l := [(0, .tmp 18), (1, .tmp 24)]) (r := [.int .i64 53, .slice (some ⟨b176, 0, none⟩) 1 1, .int .i64 61, .slice p150 c.name.size c151]) Clsay_es34 Clsay_zo76 rfl (by decide) rfl rfl (by decide) (lt rfl) (fun b185 => ?_)
     refine Run.to_end ?_
     refine Ex.anyL (KnAll.cons (Kn.at 5 rfl) KnAll.nil) ?_
     refine RunL.one (i := 9) (by kernel_rfl) rfl  ?_ 
     refine Run.append (n := 0) (m := c.hw.length) (xs := []) (ys := c.hw.map byteV) rfl rfl Clsay_es22 Clsay_zi5 (by decide) (j := 1) rfl (Ow.lit (cur := #[]) rfl (by decide)) (Src.of_rd Clsay_es22 hh.of_nil) (by omega) (by omega) (all_one_bytes _) (lt rfl) (fun v186 s187 ho188 hf => ?_)
     obtain ⟨p186, c186, rfl⟩ := hf
     refine Run.to_end ?_
     refine Ex.anyL (KnAll.cons (Kn.at 5 rfl) KnAll.nil) ?_
     refine RunL.pure (i := 21) rfl (by kernel_rfl) (by kernel_rfl) (by kernel_rfl) (by kernel_rfl) (fun _ _ _ h => h) (lt rfl) (KnAll.cons (Kn.at 5 rfl) KnAll.nil) (fun _ => (Y.buildS (l := [(0, .const (.int .i64 1)), (1, .tmp 8), (8, .tmp 14), (9, .tmp 25)]) Clsay_zo36 Clsay_pl36 rfl rfl)) ?_
     refine RunL.one (i := 22) (by kernel_rfl) rfl  ?_ 
     refine Run.store (s := [(b1, .cells #[.int .i64 1, .int .u32 c.xid, .int .i64 0, .int .i64 0, .int .u32 0, .int .u32 0, .int .u32 0, .int .u32 0, .slice p186 (0 + c.hw.length) c186, .slice (some ⟨b185, 0, none⟩) 2 2] 36 (0, 0))]) rfl rfl Clsay_sz36 (i := 4) rfl rfl (le rfl) rfl rfl ?_
     refine Run.to_end ?_
     refine Ex.anyLz rfl ?_
     refine RunL.done (by kernel_rfl) ?_
     refine Ex.go ?_
     refine Tr.to_ret ?_
     refine Ex.keepTo (H' := [s187, [(b185, .cells #[.int .i64 53, .slice (some ⟨b176, 0, none⟩) 1 1, .int .i64 61, .slice p150 c.name.size c151] 76 (0, 0))], [(b176, .cells #[.int .u8 (kind % 256)] 5 (0, 0))], s148, [(b1, .cells #[.int .i64 1, .int .u32 c.xid, .int .i64 0, .int .i64 0, .int .u32 0, .int .u32 0, .int .u32 0, .int .u32 0, .slice p186 (0 + c.hw.length) c186, .slice (some ⟨b185, 0, none⟩) 2 2] 36 (0, 0))], [(bc, .cells #[.string c.name, .slice ph c.hw.length ch, .int .i64 c.state, .int .u32 c.xid, .int .u32 c.addr, .int .u32 c.server, .int .i64 c.until_, .int .i64 c.one, .int .i64 c.two, .bool c.due, .int .i64 c.tries, .int .i64 c.said, .int .i64 c.asks] 44 (0, 0))]]) [1, 0, 0, 0, 0, 0] rfl ?_
     refine Ex.show (fun V189 hleV189 hshV189 => ?_)
     have hsh := ho188.shows _ hshV189
     have hVle := hleV189
     refine Ex.keepTo (H' := [[(b176, .cells #[.int .u8 (kind % 256)] 5 (0, 0))], [(b185, .cells #[.int .i64 53, .slice (some ⟨b176, 0, none⟩) 1 1, .int .i64 61, .slice p150 c.name.size c151] 76 (0, 0))], s148, [(b1, .cells #[.int .i64 1, .int .u32 c.xid, .int .i64 0, .int .i64 0, .int .u32 0, .int .u32 0, .int .u32 0, .int .u32 0, .slice p186 (0 + c.hw.length) c186, .slice (some ⟨b185, 0, none⟩) 2 2] 36 (0, 0))], [(bc, .cells #[.string c.name, .slice ph c.hw.length ch, .int .i64 c.state, .int .u32 c.xid, .int .u32 c.addr, .int .u32 c.server, .int .i64 c.until_, .int .i64 c.one, .int .i64 c.two, .bool c.due, .int .i64 c.tries, .int .i64 c.said, .int .i64 c.asks] 44 (0, 0))]]) [1, 0, 0, 0, 0] rfl ?_
     refine Ex.show (fun V190 hleV190 hshV190 => ?_)
     have hsd1 := (Ow.lit (e := 5) (k := 1) (b := b176) (n := 1) (cur := #[.int .u8 (kind % 256)]) rfl (by decide)).shows _ hshV190
     replace hsh := hsh.le hleV190
     replace hVle := Vw.le_trans hVle hleV190
     refine Ex.keepTo (H' := [s148, [(b185, .cells #[.int .i64 53, .slice (some ⟨b176, 0, none⟩) 1 1, .int .i64 61, .slice p150 c.name.size c151] 76 (0, 0))], [(b1, .cells #[.int .i64 1, .int .u32 c.xid, .int .i64 0, .int .i64 0, .int .u32 0, .int .u32 0, .int .u32 0, .int .u32 0, .slice p186 (0 + c.hw.length) c186, .slice (some ⟨b185, 0, none⟩) 2 2] 36 (0, 0))], [(bc, .cells #[.string c.name, .slice ph c.hw.length ch, .int .i64 c.state, .int .u32 c.xid, .int .u32 c.addr, .int .u32 c.server, .int .i64 c.until_, .int .i64 c.one, .int .i64 c.two, .bool c.due, .int .i64 c.tries, .int .i64 c.said, .int .i64 c.asks] 44 (0, 0))]]) [1, 0, 0, 0] rfl ?_
     refine Ex.show (fun V191 hleV191 hshV191 => ?_)
     have hsd2 := hsw149 _ hshV191
     replace hsh := hsh.le hleV191
     replace hsd1 := hsd1.le hleV191
     replace hVle := Vw.le_trans hVle hleV191
     have hsO : Ow 76 2 (.slice (some ⟨b185, 0, none⟩) 2 2) 2 [.int .i64 53, .slice (some ⟨b176, 0, none⟩) 1 1, .int .i64 61, .slice p150 c.name.size c151] [(b185, .cells #[.int .i64 53, .slice (some ⟨b176, 0, none⟩) 1 1, .int .i64 61, .slice p150 c.name.size c151] 76 (0, 0))] := (Ow.lit rfl (by decide))
     have hsH : Rd V191 [] 1 (.slice p186 (0 + c.hw.length) c186) c.hw.length (c.hw.map byteV) := by have h := hsh; simpa using h
     have hsA : Rd V191 [] 1 (.slice (some ⟨b176, 0, none⟩) 1 1) 1 [.int .u8 (kind % 256)] := hsd1
     have hsB : Rd V191 [] 1 (.slice p150 c.name.size c151) c.name.size (c.name.toList.map byteV) := hsd2
     exact Ex.retCell [2, 0] rfl rfl Clsay_ag36 (Kn.at 1 rfl) rfl ⟨hVle, [(b185, .cells #[.int .i64 53, .slice (some ⟨b176, 0, none⟩) 1 1, .int .i64 61, .slice p150 c.name.size c151] 76 (0, 0))], rfl, .slice p186 (0 + c.hw.length) c186, (some ⟨b185, 0, none⟩), 2, .slice (some ⟨b176, 0, none⟩) 1 1, .slice p150 c.name.size c151, rfl, hsH, hsO, hsA, hsB⟩
   ·refine Run.buildSlice (l := [(0, .tmp 18), (1, .tmp 24)]) (r := [.int .i64 53, .slice (some ⟨b176, 0, none⟩) 1 1, .int .i64 61, .slice p150 c.name.size c151]) Clsay_es34 Clsay_zo76 rfl (by decide) rfl rfl (by decide) (lt rfl) (fun b192 => ?_)
    refine Run.to_end ?_
    refine Ex.anyL (KnAll.cons (Kn.at 4 rfl) KnAll.nil) ?_
    refine RunL.one (i := 4) (by kernel_rfl) rfl  ?_ 
    refine Run.buildSlice0 Clsay_es22 (lt rfl) (fun b193 => ?_)
    refine Run.to_end ?_
    refine Ex.anyL (KnAll.cons (Kn.at 5 rfl) KnAll.nil) ?_
    refine RunL.one (i := 9) (by kernel_rfl) rfl  ?_ 
    refine Run.append (n := 0) (m := c.hw.length) (xs := []) (ys := c.hw.map byteV) rfl rfl Clsay_es22 Clsay_zi5 (by decide) (j := 0) rfl (Ow.lit (cur := #[]) rfl (by decide)) (Src.of_rd Clsay_es22 hh.of_nil) (by omega) (by omega) (all_one_bytes _) (lt rfl) (fun v194 s195 ho196 hf => ?_)
    obtain ⟨p194, c194, rfl⟩ := hf
    refine Run.to_end ?_
    refine Ex.anyL (KnAll.cons (Kn.at 5 rfl) KnAll.nil) ?_
    refine RunL.pure (i := 21) rfl (by kernel_rfl) (by kernel_rfl) (by kernel_rfl) (by kernel_rfl) (fun _ _ _ h => h) (lt rfl) (KnAll.cons (Kn.at 5 rfl) KnAll.nil) (fun _ => (Y.buildS (l := [(0, .const (.int .i64 1)), (1, .tmp 8), (8, .tmp 14), (9, .tmp 25)]) Clsay_zo36 Clsay_pl36 rfl rfl)) ?_
    refine RunL.one (i := 22) (by kernel_rfl) rfl  ?_ 
    refine Run.store (s := [(b1, .cells #[.int .i64 1, .int .u32 c.xid, .int .i64 0, .int .i64 0, .int .u32 0, .int .u32 0, .int .u32 0, .int .u32 0, .slice p194 (0 + c.hw.length) c194, .slice (some ⟨b192, 0, none⟩) 2 2] 36 (0, 0))]) rfl rfl Clsay_sz36 (i := 4) rfl rfl (le rfl) rfl rfl ?_
    refine Run.to_end ?_
    refine Ex.anyLz rfl ?_
    refine RunL.done (by kernel_rfl) ?_
    refine Ex.go ?_
    refine Tr.to_ret ?_
    refine Ex.keepTo (H' := [s195, [(b192, .cells #[.int .i64 53, .slice (some ⟨b176, 0, none⟩) 1 1, .int .i64 61, .slice p150 c.name.size c151] 76 (0, 0))], [(b176, .cells #[.int .u8 (kind % 256)] 5 (0, 0))], s148, [(b1, .cells #[.int .i64 1, .int .u32 c.xid, .int .i64 0, .int .i64 0, .int .u32 0, .int .u32 0, .int .u32 0, .int .u32 0, .slice p194 (0 + c.hw.length) c194, .slice (some ⟨b192, 0, none⟩) 2 2] 36 (0, 0))], [(bc, .cells #[.string c.name, .slice ph c.hw.length ch, .int .i64 c.state, .int .u32 c.xid, .int .u32 c.addr, .int .u32 c.server, .int .i64 c.until_, .int .i64 c.one, .int .i64 c.two, .bool c.due, .int .i64 c.tries, .int .i64 c.said, .int .i64 c.asks] 44 (0, 0))]]) [0, 0, 0, 0, 0, 0] rfl ?_
    refine Ex.show (fun V197 hleV197 hshV197 => ?_)
    have hsh := ho196.shows _ hshV197
    have hVle := hleV197
    refine Ex.keepTo (H' := [[(b176, .cells #[.int .u8 (kind % 256)] 5 (0, 0))], [(b192, .cells #[.int .i64 53, .slice (some ⟨b176, 0, none⟩) 1 1, .int .i64 61, .slice p150 c.name.size c151] 76 (0, 0))], s148, [(b1, .cells #[.int .i64 1, .int .u32 c.xid, .int .i64 0, .int .i64 0, .int .u32 0, .int .u32 0, .int .u32 0, .int .u32 0, .slice p194 (0 + c.hw.length) c194, .slice (some ⟨b192, 0, none⟩) 2 2] 36 (0, 0))], [(bc, .cells #[.string c.name, .slice ph c.hw.length ch, .int .i64 c.state, .int .u32 c.xid, .int .u32 c.addr, .int .u32 c.server, .int .i64 c.until_, .int .i64 c.one, .int .i64 c.two, .bool c.due, .int .i64 c.tries, .int .i64 c.said, .int .i64 c.asks] 44 (0, 0))]]) [1, 0, 0, 0, 0] rfl ?_
    refine Ex.show (fun V198 hleV198 hshV198 => ?_)
    have hsd1 := (Ow.lit (e := 5) (k := 1) (b := b176) (n := 1) (cur := #[.int .u8 (kind % 256)]) rfl (by decide)).shows _ hshV198
    replace hsh := hsh.le hleV198
    replace hVle := Vw.le_trans hVle hleV198
    refine Ex.keepTo (H' := [s148, [(b192, .cells #[.int .i64 53, .slice (some ⟨b176, 0, none⟩) 1 1, .int .i64 61, .slice p150 c.name.size c151] 76 (0, 0))], [(b1, .cells #[.int .i64 1, .int .u32 c.xid, .int .i64 0, .int .i64 0, .int .u32 0, .int .u32 0, .int .u32 0, .int .u32 0, .slice p194 (0 + c.hw.length) c194, .slice (some ⟨b192, 0, none⟩) 2 2] 36 (0, 0))], [(bc, .cells #[.string c.name, .slice ph c.hw.length ch, .int .i64 c.state, .int .u32 c.xid, .int .u32 c.addr, .int .u32 c.server, .int .i64 c.until_, .int .i64 c.one, .int .i64 c.two, .bool c.due, .int .i64 c.tries, .int .i64 c.said, .int .i64 c.asks] 44 (0, 0))]]) [1, 0, 0, 0] rfl ?_
    refine Ex.show (fun V199 hleV199 hshV199 => ?_)
    have hsd2 := hsw149 _ hshV199
    replace hsh := hsh.le hleV199
    replace hsd1 := hsd1.le hleV199
    replace hVle := Vw.le_trans hVle hleV199
    have hsO : Ow 76 2 (.slice (some ⟨b192, 0, none⟩) 2 2) 2 [.int .i64 53, .slice (some ⟨b176, 0, none⟩) 1 1, .int .i64 61, .slice p150 c.name.size c151] [(b192, .cells #[.int .i64 53, .slice (some ⟨b176, 0, none⟩) 1 1, .int .i64 61, .slice p150 c.name.size c151] 76 (0, 0))] := (Ow.lit rfl (by decide))
    have hsH : Rd V199 [] 1 (.slice p194 (0 + c.hw.length) c194) c.hw.length (c.hw.map byteV) := by have h := hsh; simpa using h
    have hsA : Rd V199 [] 1 (.slice (some ⟨b176, 0, none⟩) 1 1) 1 [.int .u8 (kind % 256)] := hsd1
    have hsB : Rd V199 [] 1 (.slice p150 c.name.size c151) c.name.size (c.name.toList.map byteV) := hsd2
    exact Ex.retCell [2, 0] rfl rfl Clsay_ag36 (Kn.at 1 rfl) rfl ⟨hVle, [(b192, .cells #[.int .i64 53, .slice (some ⟨b176, 0, none⟩) 1 1, .int .i64 61, .slice p150 c.name.size c151] 76 (0, 0))], rfl, .slice p194 (0 + c.hw.length) c194, (some ⟨b192, 0, none⟩), 2, .slice (some ⟨b176, 0, none⟩) 1 1, .slice p150 c.name.size c151, rfl, hsH, hsO, hsA, hsB⟩
end Go.Proofs.Ytelahacalnmilaa
