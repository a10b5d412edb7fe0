/- What options and packets are asked for.
Conditions: as each theorem names them. -/
import Derived.Test.YtelahacalnmilaaProg
import Derived.Test.YtelahacalnmilaaO1
import Derived.Test.YtelahacalnmilaaK16
set_option linter.unusedSimpArgs false
set_option linter.unusedVariables false
set_option maxRecDepth 4000
namespace Go.Proofs.Ytelahacalnmilaa
open Go Go.K
attribute [local irreducible] Code.wp wpList Calls wpQuiet
theorem Opt_sl22 : sliceT Try.prog 22 = true := by kernel_rfl
theorem Opt_es22 : elemS Try.prog 22 = some (5, 1) := by kernel_rfl
theorem Opt_zi5 : zeroInfo Try.prog 5 = some (1, 1, .int .u8 0) := by kernel_rfl
theorem Opt_tg5 : tagOf Try.prog 5 = some (0, .u8) := by kernel_rfl
theorem Opt_st9 : strT Try.prog 9 = true := by kernel_rfl
theorem Opt_fo76_0 : fieldOff Try.prog 76 0 = some 0 := by kernel_rfl
theorem Opt_ts3 : scal Try.prog 3 = true := by kernel_rfl
theorem Opt_fo76_1 : fieldOff Try.prog 76 1 = some 1 := by kernel_rfl
theorem Opt_ts22 : scal Try.prog 22 = true := by kernel_rfl
theorem Opt_es34 : elemS Try.prog 34 = some (76, 2) := by kernel_rfl
theorem Opt_ag76 : aggsz Try.prog 76 = some 2 := by kernel_rfl
theorem Opt_zo76 : zeroOf Try.prog 76 = some (.agg #[.int .i64 0, .slice none 0 0]) := by kernel_rfl
theorem Opt_sz76 : sizeT Try.prog 76 = some 2 := by kernel_rfl
theorem Opt_mo : Try.prog.follows .mixedOrders = true := by kernel_rfl
theorem Opt_it3_5 : intT Try.prog 3 5 = some .u8 := by kernel_rfl
theorem Opt_zo5 : zeroOf Try.prog 5 = some (.int .u8 0) := by kernel_rfl
theorem Opt_fo36_9 : fieldOff Try.prog 36 9 = some 9 := by kernel_rfl
theorem Opt_ts34 : scal Try.prog 34 = true := by kernel_rfl
theorem Opt_fo36_0 : fieldOff Try.prog 36 0 = some 0 := by kernel_rfl
theorem Opt_fo36_8 : fieldOff Try.prog 36 8 = some 8 := by kernel_rfl
theorem Opt_fo36_2 : fieldOff Try.prog 36 2 = some 2 := by kernel_rfl
theorem Opt_fo36_3 : fieldOff Try.prog 36 3 = some 3 := by kernel_rfl

theorem clone_c {V : Vw} {bs : List UInt8} {pb : Option Addr} {cb : Nat} (hvb : Rd V [] 1 (.slice pb bs.length cb) bs.length (bs.map byteV)) (hl : bs.length ≤ 1000000)  : Does Try.prog 28 [.slice pb bs.length cb] V [] (fun u V' H' => V' = V ∧ ∃ s', H' = [s'] ∧ Ow 5 1 u bs.length (bs.map byteV) s') := by
 refine Does.intro Try.func28 rfl rfl (le rfl) (fun B => ?_)
 refine Tr.seq ?_
 refine Tr.region ?_
 refine Run.val (lt rfl) (Y.assign rfl) ?_
 refine Run.to_end ?_
 refine Ex.go ?_
 refine Tr.seq ?_
 refine Tr.seq ?_
 refine Tr.region ?_
 refine Run.val (lt rfl) (Y.move rfl) ?_
 refine Run.val (lt rfl) (Y.eqNilS rfl rfl Opt_sl22) ?_
 refine Run.to_end ?_
 refine Ex.go ?_
 rcases Bool.eq_false_or_eq_true (Option.isNone pb) with h1 | h1
 ·have g1 := h1
  try simp only [kb] at g1
  refine Tr.cond_t rfl h1 ?_
  refine Tr.seq ?_
  refine Tr.region ?_
  refine Run.nilseg ?_
  refine Run.val (lt rfl) (Y.assign rfl) ?_
  refine Run.to_end ?_
  refine Ex.go ?_
  refine Tr.to_ret ?_
  refine Ex.ret_then ?_
  obtain rfl : pb = none := by simpa using h1
  obtain rfl : bs = [] := List.eq_nil_of_length_eq_zero hvb.none
  exact Ex.ret1 rfl rfl  ⟨rfl, [], rfl, Ow.nil _ _⟩
 ·have g1 := h1
  try simp only [kb] at g1
  refine Tr.cond_f rfl h1 ?_
  refine Tr.to_end ?_
  refine Ex.go ?_
  refine Tr.seq ?_
  refine Tr.region ?_
  refine Run.buildSlice0 Opt_es22 (lt rfl) (fun b2 => ?_)
  refine Run.val (lt rfl) (Y.move rfl) ?_
  refine Run.append (n := 0) (m := bs.length) (xs := []) (ys := bs.map byteV) rfl rfl Opt_es22 Opt_zi5 (by decide) (j := 0) rfl (Ow.lit (cur := #[]) rfl (by decide)) (Src.of_rd Opt_es22 hvb.of_nil) (by omega) (by omega) (all_one_bytes _) (lt rfl) (fun v3 s4 ho5 hf => ?_)
  obtain ⟨p3, c3, rfl⟩ := hf
  refine Run.val (lt rfl) (Y.assign rfl) ?_
  refine Run.to_end ?_
  refine Ex.go ?_
  refine Tr.to_ret ?_
  exact Ex.ret1 rfl rfl  ⟨rfl, _, rfl, by have h := ho5; simpa using h⟩

theorem clone_h {V : Vw} {v : Value} {bs : List UInt8} (hv : Rd V [] 1 v bs.length (bs.map byteV)) (hl : bs.length ≤ 1000000) : Does Try.prog 28 [v] V [] (fun u V' H' => V' = V ∧ ∃ s', H' = [s'] ∧ Ow 5 1 u bs.length (bs.map byteV) s') := by
  obtain ⟨p, c, rfl, _⟩ := hv.form
  exact clone_c hv hl

theorem same_bytes (ax bs : List UInt8) : ((⟨ax.toArray⟩ : ByteArray).toList == (⟨bs.toArray⟩ : ByteArray).toList) = (ax == bs) := by simp [ByteArray.toList_eq]

theorem equal_c {V : Vw} {ax : List UInt8} {pa : Option Addr} {ca : Nat} (hva : Rd V [] 1 (.slice pa ax.length ca) ax.length (ax.map byteV)) {bs : List UInt8} {pb : Option Addr} {cb : Nat} (hvb : Rd V [] 1 (.slice pb bs.length cb) bs.length (bs.map byteV))  : Does Try.prog 54 [.slice pa ax.length ca, .slice pb bs.length cb] V [] (Pv (.bool (ax == bs)) V []) := by
 refine Does.intro Try.func54 rfl rfl (le rfl) (fun B => ?_)
 refine Tr.seq ?_
 refine Tr.region ?_
 refine Run.val (lt rfl) (Y.assign rfl) ?_
 refine Run.to_end ?_
 refine Ex.go ?_
 refine Tr.seq ?_
 refine Tr.region ?_
 refine Run.val (lt rfl) (Y.move rfl) ?_
 refine Run.val (lt rfl) (Y.bytesStr (bs := ax) rfl Opt_es22 Opt_tg5 Opt_st9 hva.of_nil) ?_
 refine Run.val (lt rfl) (Y.move rfl) ?_
 refine Run.val (lt rfl) (Y.bytesStr (bs := bs) rfl Opt_es22 Opt_tg5 Opt_st9 hvb.of_nil) ?_
 refine Run.val (lt rfl) (Y.eqStr rfl rfl) ?_
 refine Run.val (lt rfl) (Y.assign rfl) ?_
 refine Run.to_end ?_
 refine Ex.go ?_
 refine Tr.to_ret ?_
 exact Ex.ret1 rfl rfl  ⟨by rw [same_bytes], rfl, rfl⟩

theorem equal_h {V : Vw} {H : Hp} {v w : Value} {ax bs : List UInt8} (hv : Rd V [] 1 v ax.length (ax.map byteV)) (hw : Rd V [] 1 w bs.length (bs.map byteV)) : Does Try.prog 54 [v, w] V H (Pv (.bool (ax == bs)) V H) := by
  obtain ⟨p, c, rfl, _⟩ := hv.form
  obtain ⟨q, d, rfl, _⟩ := hw.form
  exact (equal_c hv hw).frame

theorem odd_c {V : Vw} {code : Int} {d : List UInt8} {pd : Option Addr} {cd : Nat} (hvd : Rd V [] 1 (.slice pd d.length cd) d.length (d.map byteV))  : Does Try.prog 71 [.agg #[.int .i64 code, .slice pd d.length cd]] V [] (Pv (.bool (Oc.odd ⟨code, d⟩)) V []) := by
 refine Does.intro Try.func71 rfl rfl (le rfl) (fun B => ?_)
 refine Tr.seq ?_
 refine Tr.region ?_
 refine Run.box rfl (lt rfl) (fun b1 => ?_)
 refine Run.val (lt rfl) (Y.assign rfl) ?_
 refine Run.to_end ?_
 refine Ex.go ?_
 refine Tr.seq ?_
 refine Tr.region ?_
 refine Run.val (lt rfl) (Y.fieldAddr rfl Opt_fo76_0) ?_
 refine Run.val (lt rfl) (Y.load rfl Opt_ts3 (Kn.at 0 rfl) rfl) ?_
 refine Run.val (lt rfl) (Y.int rfl rfl rfl) ?_
 refine Run.val (lt rfl) (Y.move rfl) ?_
 rcases Bool.eq_false_or_eq_true (decide (code ≤ 0)) with h2 | h2
 ·have g2 := h2
  try simp only [kb] at g2
  refine Run.off rfl rfl rfl h2 rfl (lt rfl) ?_
  refine Run.off rfl rfl rfl h2 rfl (lt rfl) ?_
  refine Run.off rfl rfl rfl h2 rfl (lt rfl) ?_
  refine Run.val (lt rfl) (Y.pick_t rfl h2 rfl) ?_
  refine Run.val (lt rfl) (Y.move rfl) ?_
  refine Run.off rfl rfl rfl rfl rfl (lt rfl) ?_
  refine Run.off rfl rfl rfl rfl rfl (lt rfl) ?_
  refine Run.off rfl rfl rfl rfl rfl (lt rfl) ?_
  refine Run.off rfl rfl rfl rfl rfl (lt rfl) ?_
  refine Run.val (lt rfl) (Y.pick_t rfl rfl rfl) ?_
  refine Run.val (lt rfl) (Y.assign rfl) ?_
  refine Run.to_end ?_
  refine Ex.go ?_
  refine Tr.to_ret ?_
  refine Ex.keep [] ?_
  exact Ex.ret1 rfl rfl  ⟨by unfold Oc.odd; simp only [h2, Bool.false_or, Bool.true_or], rfl, rfl⟩
 ·have g2 := h2
  try simp only [kb] at g2
  refine Run.on rfl rfl rfl h2 ?_
  refine Run.val (lt rfl) (Y.fieldAddr rfl Opt_fo76_0) ?_
  refine Run.on rfl rfl rfl h2 ?_
  refine Run.val (lt rfl) (Y.load rfl Opt_ts3 (Kn.at 0 rfl) rfl) ?_
  refine Run.on rfl rfl rfl h2 ?_
  refine Run.val (lt rfl) (Y.int rfl rfl rfl) ?_
  refine Run.val (lt rfl) (Y.pick_f rfl h2 rfl) ?_
  refine Run.val (lt rfl) (Y.move rfl) ?_
  rcases Bool.eq_false_or_eq_true (decide (code ≥ 255)) with h3 | h3
  ·have g3 := h3
   try simp only [kb] at g3
   refine Run.off rfl rfl rfl h3 rfl (lt rfl) ?_
   refine Run.off rfl rfl rfl h3 rfl (lt rfl) ?_
   refine Run.off rfl rfl rfl h3 rfl (lt rfl) ?_
   refine Run.off rfl rfl rfl h3 rfl (lt rfl) ?_
   refine Run.val (lt rfl) (Y.pick_t rfl h3 rfl) ?_
   refine Run.val (lt rfl) (Y.assign rfl) ?_
   refine Run.to_end ?_
   refine Ex.go ?_
   refine Tr.to_ret ?_
   refine Ex.keep [] ?_
   exact Ex.ret1 rfl rfl  ⟨by unfold Oc.odd; simp only [h2, h3, Bool.false_or, Bool.true_or], rfl, rfl⟩
  ·have g3 := h3
   try simp only [kb] at g3
   refine Run.on rfl rfl rfl h3 ?_
   refine Run.val (lt rfl) (Y.fieldAddr rfl Opt_fo76_1) ?_
   refine Run.on rfl rfl rfl h3 ?_
   refine Run.val (lt rfl) (Y.load rfl Opt_ts22 (Kn.at 0 rfl) rfl) ?_
   refine Run.on rfl rfl rfl h3 ?_
   refine Run.val (lt rfl) (Y.lenSl rfl Opt_es22) ?_
   refine Run.on rfl rfl rfl h3 ?_
   refine Run.val (lt rfl) (Y.int rfl rfl rfl) ?_
   refine Run.val (lt rfl) (Y.pick_f rfl h3 rfl) ?_
   refine Run.val (lt rfl) (Y.assign rfl) ?_
   refine Run.to_end ?_
   refine Ex.go ?_
   refine Tr.to_ret ?_
   refine Ex.keep [] ?_
   exact Ex.ret1 rfl rfl  ⟨by unfold Oc.odd; simp only [h2, h3, Bool.false_or, Bool.true_or], rfl, rfl⟩

theorem odd_h {V : Vw} {H : Hp} {v : Value} {code : Int} {d : List UInt8} (hv : Rd V [] 1 v d.length (d.map byteV)) : Does Try.prog 71 [.agg #[.int .i64 code, v]] V H (Pv (.bool (Oc.odd ⟨code, d⟩)) V H) := by
  obtain ⟨p, c, rfl, _⟩ := hv.form
  exact (odd_c hv).frame

theorem is_c {V : Vw} {H : Hp} {bc : Nat} {code k : Int} {v : Value} (hk : Kn V H bc (.cells #[.int .i64 code] 3 (0, 0))) {d : List UInt8} : Does Try.prog 75 [.agg #[.int .i64 k, v], .pointer (some ⟨bc, 0, none⟩)] V H (Pv (.bool (Oc.is code ⟨k, d⟩)) V H) := by
 refine Does.intro Try.func75 rfl rfl (le rfl) (fun B => ?_)
 refine Tr.seq ?_
 refine Tr.region ?_
 refine Run.box rfl (lt rfl) (fun b1 => ?_)
 refine Run.val (lt rfl) (Y.assign rfl) ?_
 refine Run.to_end ?_
 refine Ex.go ?_
 refine Tr.seq ?_
 refine Tr.region ?_
 refine Run.val (lt rfl) (Y.fieldAddr rfl Opt_fo76_0) ?_
 refine Run.val (lt rfl) (Y.load rfl Opt_ts3 (Kn.at 0 rfl) rfl) ?_
 refine Run.val (lt rfl) (Y.load rfl Opt_ts3 hk.cons rfl) ?_
 refine Run.val (lt rfl) (Y.int rfl rfl rfl) ?_
 refine Run.val (lt rfl) (Y.assign rfl) ?_
 refine Run.to_end ?_
 refine Ex.go ?_
 refine Tr.to_ret ?_
 refine Ex.drop ?_
 exact Ex.ret1 rfl rfl  ⟨rfl, rfl, rfl⟩

theorem ixodd_c {V : Vw} {L : List Opn} {po : Option Addr} {co : Nat} (ho : Rd V [] 2 (.slice po L.length co) L.length (L.map Opn.cells).flatten) (hr : Opn.Rds V L) (hL : L.length ≤ 1000000)  : Does Try.prog 73 [.slice po L.length co, .func (.func 71) #[] #[]] V [] (Pv (.int .i64 (Oc.ix Oc.odd (L.map Opn.c))) V []) := by
 refine Does.intro Try.func73 rfl rfl (le rfl) (fun B => ?_)
 refine Tr.seq ?_
 refine Tr.region ?_
 refine Run.val (lt rfl) (Y.assign rfl) ?_
 refine Run.to_end ?_
 refine Ex.go ?_
 refine Tr.seq ?_
 refine Tr.seq ?_
 refine Tr.region ?_
 refine Run.val (lt rfl) (Y.move rfl) ?_
 refine Run.val (lt rfl) (Y.lenSl rfl Opt_es34) ?_
 refine Run.val (lt rfl) (Y.move rfl) ?_
 refine Run.to_end ?_
 refine Ex.go ?_
 refine Tr.block ?_
 refine Tr.loop (X := Nat) (fun i => V) (fun i => []) (fun i => [(0, .slice po L.length co), (1, .func (.func 71) #[] #[]), (7, .int .i64 ((L.length : Nat) : Int)), (8, .int .i64 (i : Int))]) (fun i => i ≤ L.length ∧ ∀ j, j < i → Oc.odd (L.getD j Opn.dflt).c = false) (fun i => L.length - i) 0 ⟨Nat.zero_le _, fun j hj => absurd hj (Nat.not_lt_zero j)⟩ (fun a w i => ⟨i.1.sub (subB_cons (by first | rfl | exact congrArg (fun z => some (Value.int _ z)) (by omega)) (subB_cons (by first | rfl | exact congrArg (fun z => some (Value.int _ z)) (by omega)) (subB_cons (by first | rfl | exact congrArg (fun z => some (Value.int _ z)) (by omega)) (subB_cons (by first | rfl | exact congrArg (fun z => some (Value.int _ z)) (by omega)) (subB_nil _))))), i.2⟩) ?_
 rintro i ⟨hi, hin⟩
 refine Tr.seq ?_
 refine Tr.region ?_
 refine Run.val (lt rfl) (Y.int rfl rfl rfl) ?_
 refine Run.to_end ?_
 refine Ex.go ?_
 refine Tr.seq ?_
 rcases Bool.eq_false_or_eq_true (decide ((i : Int) < ((L.length : Nat) : Int))) with h1 | h1
 ·have g1 := h1
  try simp only [kb] at g1
  obtain ⟨b, off, c2, cs, e, fz, hw, hc, hko, hcs⟩ := ho.opened (by omega)
  obtain ⟨rfl, rfl⟩ : po = some ⟨b, off, none⟩ ∧ co = c2 := by cases hw; exact ⟨rfl, rfl⟩
  clear hw
  have hrow := row_at (f := Opn.cells) Opn.len hcs (i := i) (by omega) (Nat.le_refl _) Opn.dflt
  have hmem := getD_mem (l := L) (j := i) (by omega) Opn.dflt
  generalize hoe : L.getD i Opn.dflt = o at *
  have hro := hr o hmem
  obtain ⟨pd, cd, hov, _⟩ := hro.form
  rw [hov] at hro
  have hrow2 : ∀ j, j < 2 → cs[off + ((i : Nat) : Int).toNat * 2 + j]? = ([.int .i64 o.code, .slice pd o.d.length cd] : List Value)[j]? := fun j hj => by rw [hrow j hj]; simp only [Opn.cells, hov]
  refine Tr.cond_t rfl h1 ?_
  refine Tr.to_end ?_
  refine Ex.go ?_
  refine Tr.seq ?_
  refine Tr.block ?_
  refine Tr.seq ?_
  refine Tr.region ?_
  refine Run.val (lt rfl) (Y.move rfl) ?_
  refine Run.val (lt rfl) (Y.assign rfl) ?_
  refine Run.to_end ?_
  refine Ex.go ?_
  refine Tr.seq ?_
  refine Tr.region ?_
  refine Run.val (lt rfl) (Y.move rfl) ?_
  refine Run.val (lt rfl) (Y.move rfl) ?_
  refine Run.val (lt rfl) (Y.move rfl) ?_
  refine Run.val (lt rfl) (Y.idxAddr rfl rfl Opt_es34 (by omega) (by omega)) ?_
  refine Run.val (lt rfl) (Y.loadAgg rfl Opt_ag76 hko.of_nil (cellsAt_of [.int .i64 o.code, .slice pd o.d.length cd] _ hrow2)) ?_
  refine Run.call0 (l := [.tmp 15]) rfl rfl rfl (lt rfl) (odd_h hro) ?_
  refine Run.to_end ?_
  refine Ex.go ?_
  rcases Bool.eq_false_or_eq_true (Oc.odd ⟨o.code, o.d⟩) with h2 | h2
  ·have g2 := h2
   try simp only [kb] at g2
   refine Tr.cond_t rfl h2 ?_
   refine Tr.seq ?_
   refine Tr.region ?_
   refine Run.val (lt rfl) (Y.move rfl) ?_
   refine Run.val (lt rfl) (Y.assign rfl) ?_
   refine Run.to_end ?_
   refine Ex.go ?_
   refine Tr.to_ret ?_
   refine Ex.ret_block ?_
   refine Ex.ret_then ?_
   refine Ex.ret_then ?_
   refine Ex.ret_block ?_
   refine Ex.ret_then ?_
   exact Ex.ret1 rfl rfl  ⟨by rw [Oc.ixL_at (q := Oc.odd) hin (by omega) (by rw [hoe]; exact h2)], rfl, rfl⟩
  ·have g2 := h2
   try simp only [kb] at g2
   refine Tr.cond_f rfl h2 ?_
   refine Tr.to_end ?_
   refine Ex.end_block ?_
   refine Ex.go ?_
   refine Tr.region ?_
   refine Run.val (lt rfl) (Y.add rfl rfl (by omega)) ?_
   refine Run.val (lt rfl) (Y.move rfl) ?_
   refine Run.to_end ?_
   exact Ex.round (i + 1) ⟨by omega, upto hin (by rw [hoe]; exact h2)⟩ (by omega) rfl rfl (subB_cons (by first | rfl | exact congrArg (fun z => some (Value.int _ z)) (by omega)) (subB_cons (by first | rfl | exact congrArg (fun z => some (Value.int _ z)) (by omega)) (subB_cons (by first | rfl | exact congrArg (fun z => some (Value.int _ z)) (by omega)) (subB_cons (by first | rfl | exact congrArg (fun z => some (Value.int _ z)) (by omega)) (subB_nil _)))))
 ·have g1 := h1
  try simp only [kb] at g1
  refine Tr.cond_f rfl h1 ?_
  refine Tr.to_exit ?_
  refine Ex.exit_then ?_
  refine Ex.exit_then ?_
  refine Ex.exit_in ?_
  refine Ex.go ?_
  refine Tr.seq ?_
  refine Tr.region ?_
  refine Run.val (lt rfl) (Y.assign rfl) ?_
  refine Run.to_end ?_
  refine Ex.go ?_
  refine Tr.to_ret ?_
  exact Ex.ret1 rfl rfl  ⟨by rw [Oc.ixL_none (q := Oc.odd) (fun j hj => hin j (by omega))], rfl, rfl⟩

theorem ixodd_h {V : Vw} {H : Hp} {v : Value} {L : List Opn} (hv : Rd V [] 2 v L.length (L.map Opn.cells).flatten) (hr : Opn.Rds V L) (hL : L.length ≤ 1000000) : Does Try.prog 73 [v, .func (.func 71) #[] #[]] V H (Pv (.int .i64 (Oc.ix Oc.odd (L.map Opn.c))) V H) := by
  obtain ⟨p, c, rfl, _⟩ := hv.form
  exact (ixodd_c hv hr hL).frame

theorem ixis_c {V : Vw} {L : List Opn} {po : Option Addr} {co : Nat} (ho : Rd V [] 2 (.slice po L.length co) L.length (L.map Opn.cells).flatten) (hr : Opn.Rds V L) (hL : L.length ≤ 1000000) {H : Hp} {bc : Nat} {code : Int} (hk : Kn V H bc (.cells #[.int .i64 code] 3 (0, 0)))  : Does Try.prog 73 [.slice po L.length co, .func (.func 75) #[] #[.pointer (some ⟨bc, 0, none⟩)]] V H (Pv (.int .i64 (Oc.ix (Oc.is code) (L.map Opn.c))) V H) := by
 refine Does.intro Try.func73 rfl rfl (le rfl) (fun B => ?_)
 refine Tr.seq ?_
 refine Tr.region ?_
 refine Run.val (lt rfl) (Y.assign rfl) ?_
 refine Run.to_end ?_
 refine Ex.go ?_
 refine Tr.seq ?_
 refine Tr.seq ?_
 refine Tr.region ?_
 refine Run.val (lt rfl) (Y.move rfl) ?_
 refine Run.val (lt rfl) (Y.lenSl rfl Opt_es34) ?_
 refine Run.val (lt rfl) (Y.move rfl) ?_
 refine Run.to_end ?_
 refine Ex.go ?_
 refine Tr.block ?_
 refine Tr.loop (X := Nat) (fun i => V) (fun i => H) (fun i => [(0, .slice po L.length co), (1, .func (.func 75) #[] #[.pointer (some ⟨bc, 0, none⟩)]), (7, .int .i64 ((L.length : Nat) : Int)), (8, .int .i64 (i : Int))]) (fun i => i ≤ L.length ∧ ∀ j, j < i → (Oc.is code) (L.getD j Opn.dflt).c = false) (fun i => L.length - i) 0 ⟨Nat.zero_le _, fun j hj => absurd hj (Nat.not_lt_zero j)⟩ (fun a w i => ⟨i.1.sub (subB_cons (by first | rfl | exact congrArg (fun z => some (Value.int _ z)) (by omega)) (subB_cons (by first | rfl | exact congrArg (fun z => some (Value.int _ z)) (by omega)) (subB_cons (by first | rfl | exact congrArg (fun z => some (Value.int _ z)) (by omega)) (subB_cons (by first | rfl | exact congrArg (fun z => some (Value.int _ z)) (by omega)) (subB_nil _))))), i.2⟩) ?_
 rintro i ⟨hi, hin⟩
 refine Tr.seq ?_
 refine Tr.region ?_
 refine Run.val (lt rfl) (Y.int rfl rfl rfl) ?_
 refine Run.to_end ?_
 refine Ex.go ?_
 refine Tr.seq ?_
 rcases Bool.eq_false_or_eq_true (decide ((i : Int) < ((L.length : Nat) : Int))) with h1 | h1
 ·have g1 := h1
  try simp only [kb] at g1
  obtain ⟨b, off, c2, cs, e, fz, hw, hc, hko, hcs⟩ := ho.opened (by omega)
  obtain ⟨rfl, rfl⟩ : po = some ⟨b, off, none⟩ ∧ co = c2 := by cases hw; exact ⟨rfl, rfl⟩
  clear hw
  have hrow := row_at (f := Opn.cells) Opn.len hcs (i := i) (by omega) (Nat.le_refl _) Opn.dflt
  have hmem := getD_mem (l := L) (j := i) (by omega) Opn.dflt
  generalize hoe : L.getD i Opn.dflt = o at *
  have hro := hr o hmem
  obtain ⟨pd, cd, hov, _⟩ := hro.form
  rw [hov] at hro
  have hrow2 : ∀ j, j < 2 → cs[off + ((i : Nat) : Int).toNat * 2 + j]? = ([.int .i64 o.code, .slice pd o.d.length cd] : List Value)[j]? := fun j hj => by rw [hrow j hj]; simp only [Opn.cells, hov]
  refine Tr.cond_t rfl h1 ?_
  refine Tr.to_end ?_
  refine Ex.go ?_
  refine Tr.seq ?_
  refine Tr.block ?_
  refine Tr.seq ?_
  refine Tr.region ?_
  refine Run.val (lt rfl) (Y.move rfl) ?_
  refine Run.val (lt rfl) (Y.assign rfl) ?_
  refine Run.to_end ?_
  refine Ex.go ?_
  refine Tr.seq ?_
  refine Tr.region ?_
  refine Run.val (lt rfl) (Y.move rfl) ?_
  refine Run.val (lt rfl) (Y.move rfl) ?_
  refine Run.val (lt rfl) (Y.move rfl) ?_
  refine Run.val (lt rfl) (Y.idxAddr rfl rfl Opt_es34 (by omega) (by omega)) ?_
  refine Run.val (lt rfl) (Y.loadAgg rfl Opt_ag76 hko.of_nil (cellsAt_of [.int .i64 o.code, .slice pd o.d.length cd] _ hrow2)) ?_
  refine Run.call0 (l := [.tmp 15]) rfl rfl rfl (lt rfl) (is_c (d := o.d) hk) ?_
  refine Run.to_end ?_
  refine Ex.go ?_
  rcases Bool.eq_false_or_eq_true (Oc.is code ⟨o.code, o.d⟩) with h2 | h2
  ·have g2 := h2
   try simp only [kb] at g2
   refine Tr.cond_t rfl h2 ?_
   refine Tr.seq ?_
   refine Tr.region ?_
   refine Run.val (lt rfl) (Y.move rfl) ?_
   refine Run.val (lt rfl) (Y.assign rfl) ?_
   refine Run.to_end ?_
   refine Ex.go ?_
   refine Tr.to_ret ?_
   refine Ex.ret_block ?_
   refine Ex.ret_then ?_
   refine Ex.ret_then ?_
   refine Ex.ret_block ?_
   refine Ex.ret_then ?_
   exact Ex.ret1 rfl rfl  ⟨by rw [Oc.ixL_at (q := (Oc.is code)) hin (by omega) (by rw [hoe]; exact h2)], rfl, rfl⟩
  ·have g2 := h2
   try simp only [kb] at g2
   refine Tr.cond_f rfl h2 ?_
   refine Tr.to_end ?_
   refine Ex.end_block ?_
   refine Ex.go ?_
   refine Tr.region ?_
   refine Run.val (lt rfl) (Y.add rfl rfl (by omega)) ?_
   refine Run.val (lt rfl) (Y.move rfl) ?_
   refine Run.to_end ?_
   exact Ex.round (i + 1) ⟨by omega, upto hin (by rw [hoe]; exact h2)⟩ (by omega) rfl rfl (subB_cons (by first | rfl | exact congrArg (fun z => some (Value.int _ z)) (by omega)) (subB_cons (by first | rfl | exact congrArg (fun z => some (Value.int _ z)) (by omega)) (subB_cons (by first | rfl | exact congrArg (fun z => some (Value.int _ z)) (by omega)) (subB_cons (by first | rfl | exact congrArg (fun z => some (Value.int _ z)) (by omega)) (subB_nil _)))))
 ·have g1 := h1
  try simp only [kb] at g1
  refine Tr.cond_f rfl h1 ?_
  refine Tr.to_exit ?_
  refine Ex.exit_then ?_
  refine Ex.exit_then ?_
  refine Ex.exit_in ?_
  refine Ex.go ?_
  refine Tr.seq ?_
  refine Tr.region ?_
  refine Run.val (lt rfl) (Y.assign rfl) ?_
  refine Run.to_end ?_
  refine Ex.go ?_
  refine Tr.to_ret ?_
  exact Ex.ret1 rfl rfl  ⟨by rw [Oc.ixL_none (q := (Oc.is code)) (fun j hj => hin j (by omega))], rfl, rfl⟩

theorem cnodd_c {V : Vw} {L : List Opn} {po : Option Addr} {co : Nat} (ho : Rd V [] 2 (.slice po L.length co) L.length (L.map Opn.cells).flatten) (hr : Opn.Rds V L) (hL : L.length ≤ 1000000)  : Does Try.prog 72 [.slice po L.length co, .func (.func 71) #[] #[]] V [] (Pv (.bool ((L.map Opn.c).any Oc.odd)) V []) := by
 refine Does.intro Try.func72 rfl rfl (le rfl) (fun B => ?_)
 refine Tr.seq ?_
 refine Tr.region ?_
 refine Run.val (lt rfl) (Y.assign rfl) ?_
 refine Run.to_end ?_
 refine Ex.go ?_
 refine Tr.seq ?_
 refine Tr.region ?_
 refine Run.val (lt rfl) (Y.move rfl) ?_
 refine Run.val (lt rfl) (Y.move rfl) ?_
 refine Run.call0 (l := [.tmp 5, .tmp 6]) rfl rfl rfl (lt rfl) (ixodd_h ho hr hL) ?_
 refine Run.val (lt rfl) (Y.int rfl rfl rfl) ?_
 refine Run.val (lt rfl) (Y.assign rfl) ?_
 refine Run.to_end ?_
 refine Ex.go ?_
 refine Tr.to_ret ?_
 exact Ex.ret1 rfl rfl  ⟨by rw [Oc.ix_any], rfl, rfl⟩

theorem enc_c {V : Vw} {L : List Opn} {po : Option Addr} {co : Nat} (ho : Rd V [] 2 (.slice po L.length co) L.length (L.map Opn.cells).flatten) (hr : Opn.Rds V L) (hL : L.length ≤ 1000000) (hf : Oc.few (L.map Opn.c) = true)  : Does Try.prog 67 [.slice po L.length co] V [] (fun u V' H' => V' = V ∧ H' = [] ∧ ∃ v, u = .tuple #[v, .int .i64 (Oc.encE (L.map Opn.c))]) := by
 refine Does.intro Try.func67 rfl rfl (le rfl) (fun B => ?_)
 refine Tr.seq ?_
 refine Tr.region ?_
 refine Run.val (lt rfl) (Y.assign rfl) ?_
 refine Run.val (lt rfl) (Y.assign rfl) ?_
 refine Run.to_end ?_
 refine Ex.go ?_
 refine Tr.seq ?_
 refine Tr.region ?_
 refine Run.val (lt rfl) (Y.assign rfl) ?_
 refine Run.to_end ?_
 refine Ex.go ?_
 refine Tr.seq ?_
 refine Tr.seq ?_
 refine Tr.region ?_
 refine Run.val (lt rfl) (Y.move rfl) ?_
 refine Run.val (lt rfl) (Y.move rfl) ?_
 refine Run.call0 (l := [.tmp 8, .tmp 9]) rfl rfl rfl (lt rfl) ((cnodd_c ho hr hL).frame) ?_
 refine Run.to_end ?_
 refine Ex.go ?_
 rcases Bool.eq_false_or_eq_true ((L.map Opn.c).any Oc.odd) with h1 | h1
 ·have g1 := h1
  try simp only [kb] at g1
  refine Tr.cond_t rfl h1 ?_
  refine Tr.seq ?_
  refine Tr.region ?_
  refine Run.val (lt rfl) (Y.assign rfl) ?_
  refine Run.val (lt rfl) (Y.assign rfl) ?_
  refine Run.to_end ?_
  refine Ex.go ?_
  refine Tr.to_ret ?_
  refine Ex.ret_then ?_
  refine Ex.keep [] ?_
  exact Ex.ret2 rfl rfl rfl  ⟨rfl, rfl, .slice none 0 0, by rw [Oc.encE_odd h1]⟩
 ·have g1 := h1
  try simp only [kb] at g1
  refine Tr.cond_f rfl h1 ?_
  refine Tr.to_end ?_
  refine Ex.go ?_
  refine Tr.seq ?_
  refine Tr.region ?_
  refine Run.val (lt rfl) (Y.assign rfl) ?_
  refine Run.to_end ?_
  refine Ex.go ?_
  refine Tr.seq ?_
  refine Tr.seq ?_
  refine Tr.region ?_
  refine Run.nilseg ?_
  refine Run.val (lt rfl) (Y.move rfl) ?_
  refine Run.val (lt rfl) (Y.lenSl rfl Opt_es34) ?_
  refine Run.val (lt rfl) (Y.move rfl) ?_
  refine Run.to_end ?_
  refine Ex.go ?_
  refine Tr.block ?_
  refine Tr.loop (X := Gr) (fun x => V) (fun x => [x.q]) (fun x => [(11, .slice po L.length co), (12, .int .i64 ((L.length : Nat) : Int)), (5, .slice x.p x.n x.k), (13, .int .i64 (x.i : Int))]) (fun x => Ow 5 1 (.slice x.p x.n x.k) x.n x.xs x.q ∧ x.i ≤ L.length ∧ x.n = Oc.tot ((L.map Opn.c).take x.i)) (fun x => L.length - x.i) ⟨none, 0, 0, [], [], 0⟩ ⟨Ow.nil _ _, Nat.zero_le _, rfl⟩ (fun a w i => ⟨i.1.sub (subB_cons (by first | rfl | exact congrArg (fun z => some (Value.int _ z)) (by omega)) (subB_cons (by first | rfl | exact congrArg (fun z => some (Value.int _ z)) (by omega)) (subB_cons (by first | rfl | exact congrArg (fun z => some (Value.int _ z)) (by omega)) (subB_cons (by first | rfl | exact congrArg (fun z => some (Value.int _ z)) (by omega)) (subB_nil _))))), i.2⟩) ?_
  rintro ⟨p, n, k, q, xs, i⟩ ⟨how, hi, hn⟩
  dsimp only at how hi hn ⊢
  refine Tr.seq ?_
  refine Tr.region ?_
  refine Run.val (lt rfl) (Y.int rfl rfl rfl) ?_
  refine Run.to_end ?_
  refine Ex.go ?_
  refine Tr.seq ?_
  rcases Bool.eq_false_or_eq_true (decide ((i : Int) < ((L.length : Nat) : Int))) with h2 | h2
  ·have g2 := h2
   try simp only [kb] at g2
   have hd := Oc.few_data hf (i := i) (by omega)
   have ht := Oc.tot_take (L := L) (i := i) (by omega)
   have hft := Oc.few_tot hf i
   obtain ⟨b, off, c2, cs, e, fz, hw, hc, hko, hcs⟩ := ho.opened (by omega)
   obtain ⟨rfl, rfl⟩ : po = some ⟨b, off, none⟩ ∧ co = c2 := by cases hw; exact ⟨rfl, rfl⟩
   clear hw
   have hrow := row_at (f := Opn.cells) Opn.len hcs (i := i) (by omega) (Nat.le_refl _) Opn.dflt
   have hmem := getD_mem (l := L) (j := i) (by omega) Opn.dflt
   generalize hoe : L.getD i Opn.dflt = o at *
   have hro := hr o hmem
   obtain ⟨pd, cd, hov, _⟩ := hro.form
   rw [hov] at hro
   have hrow2 : ∀ j, j < 2 → cs[off + ((i : Nat) : Int).toNat * 2 + j]? = ([.int .i64 o.code, .slice pd o.d.length cd] : List Value)[j]? := fun j hj => by rw [hrow j hj]; simp only [Opn.cells, hov]
   refine Tr.cond_t rfl h2 ?_
   refine Tr.to_end ?_
   refine Ex.go ?_
   refine Tr.seq ?_
   refine Tr.block ?_
   refine Tr.seq ?_
   refine Tr.region ?_
   refine Run.val (lt rfl) (Y.idxAddr rfl rfl Opt_es34 (by omega) (by omega)) ?_
   refine Run.val (lt rfl) (Y.loadAgg rfl Opt_ag76 hko.of_nil (cellsAt_of [.int .i64 o.code, .slice pd o.d.length cd] _ hrow2)) ?_
   refine Run.alloc Opt_zo76 (lt rfl) (fun b3 => ?_)
   refine Run.store (s := [(b3, .cells #[.int .i64 o.code, .slice pd o.d.length cd] 76 (0, 0))]) rfl rfl Opt_sz76 (i := 0) rfl rfl (le rfl) rfl rfl ?_
   refine Run.to_end ?_
   refine Ex.go ?_
   refine Tr.anyD [(b3, .cells #[.int .i64 o.code, .slice pd o.d.length cd] 76 (0, 0))] Opt_mo ?_
   refine RunD.pure (i := 0) rfl (by kernel_rfl) (by kernel_rfl) (by kernel_rfl) (fun _ _ _ h => h) (lt rfl) (KnAll.cons (Kn.at 0 rfl) KnAll.nil) (fun _ => (Y.move rfl)) ?_
   refine RunD.pure (i := 1) rfl (by kernel_rfl) (by kernel_rfl) (by kernel_rfl) (fun _ _ _ h => h) (lt rfl) (KnAll.cons (Kn.at 0 rfl) KnAll.nil) (fun _ => (Y.fieldAddr rfl Opt_fo76_0)) ?_
   refine RunD.take (i := 2) 0 rfl rfl (by kernel_rfl) (by kernel_rfl) (by kernel_rfl) (fun _ _ _ h => h) (lt rfl) (KnAll.cons (Kn.at 0 rfl) KnAll.nil) (fun _ => (Y.load rfl Opt_ts3 Kn.vk1 rfl)) ?_
   refine RunD.pure (i := 3) rfl (by kernel_rfl) (by kernel_rfl) (by kernel_rfl) (fun _ _ _ h => h) (lt rfl) (KnAll.cons (Kn.at 0 rfl) KnAll.nil) (fun _ => (Y.conv (o.code % 256) rfl Opt_it3_5 (wrap_u8m _))) ?_
   refine RunD.pure (i := 4) rfl (by kernel_rfl) (by kernel_rfl) (by kernel_rfl) (fun _ _ _ h => h) (lt rfl) (KnAll.cons (Kn.at 0 rfl) KnAll.nil) (fun _ => (Y.fieldAddr rfl Opt_fo76_1)) ?_
   refine RunD.take (i := 5) 0 rfl rfl (by kernel_rfl) (by kernel_rfl) (by kernel_rfl) (fun _ _ _ h => h) (lt rfl) (KnAll.cons (Kn.at 0 rfl) KnAll.nil) (fun _ => (Y.load rfl Opt_ts22 Kn.vk1 rfl)) ?_
   refine RunD.pure (i := 6) rfl (by kernel_rfl) (by kernel_rfl) (by kernel_rfl) (fun _ _ _ h => h) (lt rfl) (KnAll.cons (Kn.at 0 rfl) KnAll.nil) (fun _ => (Y.lenSl rfl Opt_es22)) ?_
   refine RunD.pure (i := 7) rfl (by kernel_rfl) (by kernel_rfl) (by kernel_rfl) (fun _ _ _ h => h) (lt rfl) (KnAll.cons (Kn.at 0 rfl) KnAll.nil) (fun _ => (Y.conv (((o.d.length : Nat) : Int) % 256) rfl Opt_it3_5 (wrap_u8m _))) ?_
   refine RunD.pure (i := 10) rfl (by kernel_rfl) (by kernel_rfl) (by kernel_rfl) (fun _ _ _ h => h) (lt rfl) (KnAll.cons (Kn.at 0 rfl) KnAll.nil) (fun _ => (Y.fieldAddr rfl Opt_fo76_1)) ?_
   refine RunD.take (i := 11) 0 rfl rfl (by kernel_rfl) (by kernel_rfl) (by kernel_rfl) (fun _ _ _ h => h) (lt rfl) (KnAll.cons (Kn.at 0 rfl) KnAll.nil) (fun _ => (Y.load rfl Opt_ts22 Kn.vk1 rfl)) ?_
   refine RunD.one (i := 8) (by kernel_rfl) rfl  ?_ 
   refine Run.buildSlice (l := [(0, .tmp 20), (1, .tmp 24)]) Opt_es22 Opt_zo5 rfl (by decide) rfl rfl (by decide) (lt rfl) (fun b4 => ?_)
   refine Run.to_end ?_
   refine Ex.anyD (KnAll.cons (Kn.at 1 rfl) KnAll.nil) ?_
   refine RunD.one (i := 9) (by kernel_rfl) rfl  ?_ 
   refine Run.append (n := n) (m := 2) (xs := xs) (ys := [.int .u8 (o.code % 256), .int .u8 (((o.d.length : Nat) : Int) % 256)]) rfl rfl Opt_es22 Opt_zi5 (by decide) (j := 2) rfl how (Src.of_rd Opt_es22 (Rd.one (Kn.at 0 rfl) rfl)) (by omega) (by omega) rfl (lt rfl) (fun v5 s6 ho7 hf => ?_)
   obtain ⟨p5, c5, rfl⟩ := hf
   refine Run.to_end ?_
   refine Ex.anyD (KnAll.cons (Kn.at 1 rfl) KnAll.nil) ?_
   refine RunD.one (i := 12) (by kernel_rfl) rfl  ?_ 
   refine Run.append (n := n + 2) (m := o.d.length) (xs := xs ++ [.int .u8 (o.code % 256), .int .u8 (((o.d.length : Nat) : Int) % 256)]) (ys := o.d.map byteV) rfl rfl Opt_es22 Opt_zi5 (by decide) (j := 2) rfl ho7 (Src.of_rd Opt_es22 hro.of_nil) (by omega) (by omega) (all_one_bytes _) (lt rfl) (fun v8 s9 ho10 hf => ?_)
   obtain ⟨p8, c8, rfl⟩ := hf
   refine Run.to_end ?_
   refine Ex.anyD (KnAll.cons (Kn.at 1 rfl) KnAll.nil) ?_
   refine RunD.pure (i := 13) rfl (by kernel_rfl) (by kernel_rfl) (by kernel_rfl) (fun _ _ _ h => h) (lt rfl) (KnAll.cons (Kn.at 1 rfl) KnAll.nil) (fun _ => (Y.assign rfl)) ?_
   refine RunD.done (by kernel_rfl) ?_
   refine Ex.end_block ?_
   refine Ex.go ?_
   refine Tr.region ?_
   refine Run.val (lt rfl) (Y.add rfl rfl (by omega)) ?_
   refine Run.val (lt rfl) (Y.move rfl) ?_
   refine Run.to_end ?_
   refine Ex.keep [2] ?_
   exact Ex.round (⟨p8, (n + 2 + o.d.length), c8, s9, (xs ++ [.int .u8 (o.code % 256), .int .u8 (((o.d.length : Nat) : Int) % 256)]) ++ (o.d.map byteV), i + 1⟩ : Gr) ⟨ho10, by show i + 1 ≤ L.length; omega, by show (n + 2 + o.d.length) = Oc.tot ((L.map Opn.c).take (i + 1)); omega⟩ (by show L.length - (i + 1) < L.length - i; omega) rfl rfl (subB_cons (by first | rfl | exact congrArg (fun z => some (Value.int _ z)) (by omega)) (subB_cons (by first | rfl | exact congrArg (fun z => some (Value.int _ z)) (by omega)) (subB_cons (by first | rfl | exact congrArg (fun z => some (Value.int _ z)) (by omega)) (subB_cons (by first | rfl | exact congrArg (fun z => some (Value.int _ z)) (by omega)) (subB_nil _)))))
  ·have g2 := h2
   try simp only [kb] at g2
   have hall : n = Oc.tot (L.map Opn.c) := by rw [hn, List.take_of_length_le (by rw [List.length_map]; omega)]
   have hft := Oc.few_tot hf i
   refine Tr.cond_f rfl h2 ?_
   refine Tr.to_exit ?_
   refine Ex.exit_then ?_
   refine Ex.exit_then ?_
   refine Ex.exit_in ?_
   refine Ex.go ?_
   refine Tr.seq ?_
   refine Tr.seq ?_
   refine Tr.region ?_
   refine Run.val (lt rfl) (Y.move rfl) ?_
   refine Run.buildSlice (l := [(0, .const (.int .u8 255))]) Opt_es22 Opt_zo5 rfl (by decide) rfl rfl (by decide) (lt rfl) (fun b11 => ?_)
   refine Run.append (n := n) (m := 1) (xs := xs) (ys := [.int .u8 255]) rfl rfl Opt_es22 Opt_zi5 (by decide) (j := 1) rfl how (Src.of_rd Opt_es22 (Rd.one (Kn.at 0 rfl) rfl)) (by omega) (by omega) rfl (lt rfl) (fun v12 s13 ho14 hf => ?_)
   obtain ⟨p12, c12, rfl⟩ := hf
   refine Run.val (lt rfl) (Y.assign rfl) ?_
   refine Run.to_end ?_
   refine Ex.go ?_
   refine Tr.seq ?_
   refine Tr.region ?_
   refine Run.val (lt rfl) (Y.move rfl) ?_
   refine Run.val (lt rfl) (Y.lenSl rfl Opt_es22) ?_
   refine Run.val (lt rfl) (Y.int rfl rfl rfl) ?_
   refine Run.to_end ?_
   refine Ex.go ?_
   rcases Bool.eq_false_or_eq_true (decide ((((n + 1) : Nat) : Int) > 1024)) with h15 | h15
   ·have g15 := h15
    try simp only [kb] at g15
    refine Tr.cond_t rfl h15 ?_
    refine Tr.seq ?_
    refine Tr.region ?_
    refine Run.val (lt rfl) (Y.assign rfl) ?_
    refine Run.val (lt rfl) (Y.assign rfl) ?_
    refine Run.to_end ?_
    refine Ex.go ?_
    refine Tr.to_ret ?_
    refine Ex.ret_then ?_
    refine Ex.keep [] ?_
    exact Ex.ret2 rfl rfl rfl  ⟨rfl, rfl, .slice none 0 0, by rw [Oc.encE_big h1 (by omega)]⟩
   ·have g15 := h15
    try simp only [kb] at g15
    refine Tr.cond_f rfl h15 ?_
    refine Tr.to_end ?_
    refine Ex.go ?_
    refine Tr.seq ?_
    refine Tr.region ?_
    refine Run.val (lt rfl) (Y.move rfl) ?_
    refine Run.val (lt rfl) (Y.assign rfl) ?_
    refine Run.val (lt rfl) (Y.assign rfl) ?_
    refine Run.to_end ?_
    refine Ex.go ?_
    refine Tr.to_ret ?_
    refine Ex.keep [] ?_
    exact Ex.ret2 rfl rfl rfl  ⟨rfl, rfl, .slice p12 (n + 1) c12, by rw [Oc.encE_ok h1 (by omega)]⟩

theorem right_c {V : Vw} {L : List Opn} {po : Option Addr} {co : Nat} (ho : Rd V [] 2 (.slice po L.length co) L.length (L.map Opn.cells).flatten) (hr : Opn.Rds V L) (hL : L.length ≤ 1000000) {p : Pc} {ph : Option Addr} {ch : Nat} (hh : Rd V [] 1 (.slice ph p.hw.length ch) p.hw.length (p.hw.map byteV)) (hLp : L.map Opn.c = p.os) (hf : Oc.few (L.map Opn.c) = true)  : Does Try.prog 53 [.agg #[.int .i64 p.op, .int .u32 p.xid, .int .i64 p.secs, .int .i64 p.flags, .int .u32 p.ci, .int .u32 p.yi, .int .u32 p.si, .int .u32 p.gi, .slice ph p.hw.length ch, .slice po L.length co]] V [] (Pv (.bool (Pc.right p)) V []) := by
 refine Does.intro Try.func53 rfl rfl (le rfl) (fun B => ?_)
 refine Tr.seq ?_
 refine Tr.region ?_
 refine Run.box rfl (lt rfl) (fun b1 => ?_)
 refine Run.val (lt rfl) (Y.assign rfl) ?_
 refine Run.to_end ?_
 refine Ex.go ?_
 refine Tr.seq ?_
 refine Tr.region ?_
 refine Run.val (lt rfl) (Y.fieldAddr rfl Opt_fo36_9) ?_
 refine Run.val (lt rfl) (Y.load rfl Opt_ts34 (Kn.at 0 rfl) rfl) ?_
 refine Run.call [] (l := [.tmp 7]) rfl rfl rfl (lt rfl) (enc_c ho hr hL hf) (fun v2 V2 H2 _ hR => ?_)
 obtain ⟨hV, rfl, z3, rfl⟩ := hR; replace hV := hV.symm; subst hV
 refine Run.val (lt rfl) (Y.move rfl) ?_
 refine Run.val (lt rfl) (Y.extract rfl rfl) ?_
 refine Run.val (lt rfl) (Y.extract rfl rfl) ?_
 refine Run.val (lt rfl) (Y.assign rfl) ?_
 refine Run.val (lt rfl) (Y.assign rfl) ?_
 refine Run.to_end ?_
 refine Ex.go ?_
 refine Tr.seq ?_
 refine Tr.block ?_
 refine Tr.seq ?_
 refine Tr.seq ?_
 refine Tr.region ?_
 refine Run.val (lt rfl) (Y.fieldAddr rfl Opt_fo36_0) ?_
 refine Run.val (lt rfl) (Y.load rfl Opt_ts3 (Kn.at 0 rfl) rfl) ?_
 refine Run.val (lt rfl) (Y.int rfl rfl rfl) ?_
 refine Run.val (lt rfl) (Y.move rfl) ?_
 rcases Bool.eq_false_or_eq_true (p.op != 1) with h4 | h4
 ·have g4 := h4
  try simp only [kb] at g4
  refine Run.on rfl rfl rfl h4 ?_
  refine Run.val (lt rfl) (Y.fieldAddr rfl Opt_fo36_0) ?_
  refine Run.on rfl rfl rfl h4 ?_
  refine Run.val (lt rfl) (Y.load rfl Opt_ts3 (Kn.at 0 rfl) rfl) ?_
  refine Run.on rfl rfl rfl h4 ?_
  refine Run.val (lt rfl) (Y.int rfl rfl rfl) ?_
  refine Run.val (lt rfl) (Y.pick_t rfl h4 rfl) ?_
  refine Run.val (lt rfl) (Y.assign rfl) ?_
  refine Run.to_end ?_
  refine Ex.go ?_
  rcases Bool.eq_false_or_eq_true (p.op != 2) with h5 | h5
  ·have g5 := h5
   try simp only [kb] at g5
   refine Tr.cond_t rfl h5 ?_
   refine Tr.to_end ?_
   refine Ex.go ?_
   refine Tr.cond_t rfl h5 ?_
   refine Tr.seq ?_
   refine Tr.region ?_
   refine Run.val (lt rfl) (Y.assign rfl) ?_
   refine Run.to_end ?_
   refine Ex.go ?_
   refine Tr.to_ret ?_
   refine Ex.ret_block ?_
   refine Ex.ret_then ?_
   refine Ex.keep [] ?_
   exact Ex.ret1 rfl rfl  ⟨congrArg Value.bool (by rw [Bool.eq_iff_iff]; unfold Pc.right; rw [← hLp]; simp only [Bool.and_eq_true, Bool.or_eq_true, decide_eq_true_eq, beq_iff_eq, Bool.false_eq_true]; exact ⟨fun h => by first | exact h.elim | omega, fun h => by omega⟩), rfl, rfl⟩
  ·have g5 := h5
   try simp only [kb] at g5
   refine Tr.cond_f rfl h5 ?_
   refine Tr.region ?_
   refine Run.val (lt rfl) (Y.fieldAddr rfl Opt_fo36_8) ?_
   refine Run.val (lt rfl) (Y.load rfl Opt_ts22 (Kn.at 0 rfl) rfl) ?_
   refine Run.val (lt rfl) (Y.lenSl rfl Opt_es22) ?_
   refine Run.val (lt rfl) (Y.int rfl rfl rfl) ?_
   refine Run.val (lt rfl) (Y.move rfl) ?_
   rcases Bool.eq_false_or_eq_true (decide (((p.hw.length : Nat) : Int) < 1)) with h6 | h6
   ·have g6 := h6
    try simp only [kb] at g6
    refine Run.off rfl rfl rfl h6 rfl (lt rfl) ?_
    refine Run.off rfl rfl rfl h6 rfl (lt rfl) ?_
    refine Run.off rfl rfl rfl h6 rfl (lt rfl) ?_
    refine Run.off rfl rfl rfl h6 rfl (lt rfl) ?_
    refine Run.val (lt rfl) (Y.pick_t rfl h6 rfl) ?_
    refine Run.val (lt rfl) (Y.assign rfl) ?_
    refine Run.to_end ?_
    refine Ex.go ?_
    refine Tr.cond_t rfl rfl ?_
    refine Tr.seq ?_
    refine Tr.region ?_
    refine Run.val (lt rfl) (Y.assign rfl) ?_
    refine Run.to_end ?_
    refine Ex.go ?_
    refine Tr.to_ret ?_
    refine Ex.ret_block ?_
    refine Ex.ret_then ?_
    refine Ex.keep [] ?_
    exact Ex.ret1 rfl rfl  ⟨congrArg Value.bool (by rw [Bool.eq_iff_iff]; unfold Pc.right; rw [← hLp]; simp only [Bool.and_eq_true, Bool.or_eq_true, decide_eq_true_eq, beq_iff_eq, Bool.false_eq_true]; exact ⟨fun h => by first | exact h.elim | omega, fun h => by omega⟩), rfl, rfl⟩
   ·have g6 := h6
    try simp only [kb] at g6
    refine Run.on rfl rfl rfl h6 ?_
    refine Run.val (lt rfl) (Y.fieldAddr rfl Opt_fo36_8) ?_
    refine Run.on rfl rfl rfl h6 ?_
    refine Run.val (lt rfl) (Y.load rfl Opt_ts22 (Kn.at 0 rfl) rfl) ?_
    refine Run.on rfl rfl rfl h6 ?_
    refine Run.val (lt rfl) (Y.lenSl rfl Opt_es22) ?_
    refine Run.on rfl rfl rfl h6 ?_
    refine Run.val (lt rfl) (Y.int rfl rfl rfl) ?_
    refine Run.val (lt rfl) (Y.pick_f rfl h6 rfl) ?_
    refine Run.val (lt rfl) (Y.assign rfl) ?_
    refine Run.to_end ?_
    refine Ex.go ?_
    rcases Bool.eq_false_or_eq_true (decide (((p.hw.length : Nat) : Int) > 16)) with h7 | h7
    ·have g7 := h7
     try simp only [kb] at g7
     refine Tr.cond_t rfl h7 ?_
     refine Tr.seq ?_
     refine Tr.region ?_
     refine Run.val (lt rfl) (Y.assign rfl) ?_
     refine Run.to_end ?_
     refine Ex.go ?_
     refine Tr.to_ret ?_
     refine Ex.ret_block ?_
     refine Ex.ret_then ?_
     refine Ex.keep [] ?_
     exact Ex.ret1 rfl rfl  ⟨congrArg Value.bool (by rw [Bool.eq_iff_iff]; unfold Pc.right; rw [← hLp]; simp only [Bool.and_eq_true, Bool.or_eq_true, decide_eq_true_eq, beq_iff_eq, Bool.false_eq_true]; exact ⟨fun h => by first | exact h.elim | omega, fun h => by omega⟩), rfl, rfl⟩
    ·have g7 := h7
     try simp only [kb] at g7
     refine Tr.cond_f rfl h7 ?_
     refine Tr.to_end ?_
     refine Ex.end_block ?_
     refine Ex.go ?_
     refine Tr.seq ?_
     refine Tr.region ?_
     refine Run.val (lt rfl) (Y.fieldAddr rfl Opt_fo36_2) ?_
     refine Run.val (lt rfl) (Y.load rfl Opt_ts3 (Kn.at 0 rfl) rfl) ?_
     refine Run.val (lt rfl) (Y.int rfl rfl rfl) ?_
     refine Run.val (lt rfl) (Y.move rfl) ?_
     rcases Bool.eq_false_or_eq_true (decide (p.secs ≥ 0)) with h8 | h8
     ·have g8 := h8
      try simp only [kb] at g8
      refine Run.on rfl rfl rfl h8 ?_
      refine Run.val (lt rfl) (Y.fieldAddr rfl Opt_fo36_2) ?_
      refine Run.on rfl rfl rfl h8 ?_
      refine Run.val (lt rfl) (Y.load rfl Opt_ts3 (Kn.at 0 rfl) rfl) ?_
      refine Run.on rfl rfl rfl h8 ?_
      refine Run.val (lt rfl) (Y.int rfl rfl rfl) ?_
      refine Run.val (lt rfl) (Y.pick_t rfl h8 rfl) ?_
      refine Run.val (lt rfl) (Y.move rfl) ?_
      rcases Bool.eq_false_or_eq_true (decide (p.secs ≤ 65535)) with h9 | h9
      ·have g9 := h9
       try simp only [kb] at g9
       refine Run.on rfl rfl rfl h9 ?_
       refine Run.val (lt rfl) (Y.fieldAddr rfl Opt_fo36_3) ?_
       refine Run.on rfl rfl rfl h9 ?_
       refine Run.val (lt rfl) (Y.load rfl Opt_ts3 (Kn.at 0 rfl) rfl) ?_
       refine Run.on rfl rfl rfl h9 ?_
       refine Run.val (lt rfl) (Y.int rfl rfl rfl) ?_
       refine Run.val (lt rfl) (Y.pick_t rfl h9 rfl) ?_
       refine Run.val (lt rfl) (Y.move rfl) ?_
       rcases Bool.eq_false_or_eq_true (decide (p.flags ≥ 0)) with h10 | h10
       ·have g10 := h10
        try simp only [kb] at g10
        refine Run.on rfl rfl rfl h10 ?_
        refine Run.val (lt rfl) (Y.fieldAddr rfl Opt_fo36_3) ?_
        refine Run.on rfl rfl rfl h10 ?_
        refine Run.val (lt rfl) (Y.load rfl Opt_ts3 (Kn.at 0 rfl) rfl) ?_
        refine Run.on rfl rfl rfl h10 ?_
        refine Run.val (lt rfl) (Y.int rfl rfl rfl) ?_
        refine Run.val (lt rfl) (Y.pick_t rfl h10 rfl) ?_
        refine Run.val (lt rfl) (Y.move rfl) ?_
        rcases Bool.eq_false_or_eq_true (decide (p.flags ≤ 65535)) with h11 | h11
        ·have g11 := h11
         try simp only [kb] at g11
         refine Run.on rfl rfl rfl h11 ?_
         refine Run.val (lt rfl) (Y.move rfl) ?_
         refine Run.on rfl rfl rfl h11 ?_
         refine Run.val (lt rfl) (Y.int rfl rfl rfl) ?_
         refine Run.val (lt rfl) (Y.pick_t rfl h11 rfl) ?_
         refine Run.val (lt rfl) (Y.assign rfl) ?_
         refine Run.to_end ?_
         refine Ex.go ?_
         refine Tr.to_ret ?_
         refine Ex.keep [] ?_
         exact Ex.ret1 rfl rfl  ⟨congrArg Value.bool (by rw [Bool.eq_iff_iff]; unfold Pc.right; rw [← hLp]; simp only [Bool.and_eq_true, Bool.or_eq_true, decide_eq_true_eq, beq_iff_eq, Bool.false_eq_true]; exact ⟨fun h => by first | exact h.elim | omega, fun h => by omega⟩), rfl, rfl⟩
        ·have g11 := h11
         try simp only [kb] at g11
         refine Run.off rfl rfl rfl h11 rfl (lt rfl) ?_
         refine Run.off rfl rfl rfl h11 rfl (lt rfl) ?_
         refine Run.val (lt rfl) (Y.pick_f rfl h11 rfl) ?_
         refine Run.val (lt rfl) (Y.assign rfl) ?_
         refine Run.to_end ?_
         refine Ex.go ?_
         refine Tr.to_ret ?_
         refine Ex.keep [] ?_
         exact Ex.ret1 rfl rfl  ⟨congrArg Value.bool (by rw [Bool.eq_iff_iff]; unfold Pc.right; rw [← hLp]; simp only [Bool.and_eq_true, Bool.or_eq_true, decide_eq_true_eq, beq_iff_eq, Bool.false_eq_true]; exact ⟨fun h => by first | exact h.elim | omega, fun h => by omega⟩), rfl, rfl⟩
       ·have g10 := h10
        try simp only [kb] at g10
        refine Run.off rfl rfl rfl h10 rfl (lt rfl) ?_
        refine Run.off rfl rfl rfl h10 rfl (lt rfl) ?_
        refine Run.off rfl rfl rfl h10 rfl (lt rfl) ?_
        refine Run.val (lt rfl) (Y.pick_f rfl h10 rfl) ?_
        refine Run.val (lt rfl) (Y.move rfl) ?_
        refine Run.off rfl rfl rfl rfl rfl (lt rfl) ?_
        refine Run.off rfl rfl rfl rfl rfl (lt rfl) ?_
        refine Run.val (lt rfl) (Y.pick_f rfl rfl rfl) ?_
        refine Run.val (lt rfl) (Y.assign rfl) ?_
        refine Run.to_end ?_
        refine Ex.go ?_
        refine Tr.to_ret ?_
        refine Ex.keep [] ?_
        exact Ex.ret1 rfl rfl  ⟨congrArg Value.bool (by rw [Bool.eq_iff_iff]; unfold Pc.right; rw [← hLp]; simp only [Bool.and_eq_true, Bool.or_eq_true, decide_eq_true_eq, beq_iff_eq, Bool.false_eq_true]; exact ⟨fun h => by first | exact h.elim | omega, fun h => by omega⟩), rfl, rfl⟩
      ·have g9 := h9
       try simp only [kb] at g9
       refine Run.off rfl rfl rfl h9 rfl (lt rfl) ?_
       refine Run.off rfl rfl rfl h9 rfl (lt rfl) ?_
       refine Run.off rfl rfl rfl h9 rfl (lt rfl) ?_
       refine Run.val (lt rfl) (Y.pick_f rfl h9 rfl) ?_
       refine Run.val (lt rfl) (Y.move rfl) ?_
       refine Run.off rfl rfl rfl rfl rfl (lt rfl) ?_
       refine Run.off rfl rfl rfl rfl rfl (lt rfl) ?_
       refine Run.off rfl rfl rfl rfl rfl (lt rfl) ?_
       refine Run.val (lt rfl) (Y.pick_f rfl rfl rfl) ?_
       refine Run.val (lt rfl) (Y.move rfl) ?_
       refine Run.off rfl rfl rfl rfl rfl (lt rfl) ?_
       refine Run.off rfl rfl rfl rfl rfl (lt rfl) ?_
       refine Run.val (lt rfl) (Y.pick_f rfl rfl rfl) ?_
       refine Run.val (lt rfl) (Y.assign rfl) ?_
       refine Run.to_end ?_
       refine Ex.go ?_
       refine Tr.to_ret ?_
       refine Ex.keep [] ?_
       exact Ex.ret1 rfl rfl  ⟨congrArg Value.bool (by rw [Bool.eq_iff_iff]; unfold Pc.right; rw [← hLp]; simp only [Bool.and_eq_true, Bool.or_eq_true, decide_eq_true_eq, beq_iff_eq, Bool.false_eq_true]; exact ⟨fun h => by first | exact h.elim | omega, fun h => by omega⟩), rfl, rfl⟩
     ·have g8 := h8
      try simp only [kb] at g8
      refine Run.off rfl rfl rfl h8 rfl (lt rfl) ?_
      refine Run.off rfl rfl rfl h8 rfl (lt rfl) ?_
      refine Run.off rfl rfl rfl h8 rfl (lt rfl) ?_
      refine Run.val (lt rfl) (Y.pick_f rfl h8 rfl) ?_
      refine Run.val (lt rfl) (Y.move rfl) ?_
      refine Run.off rfl rfl rfl rfl rfl (lt rfl) ?_
      refine Run.off rfl rfl rfl rfl rfl (lt rfl) ?_
      refine Run.off rfl rfl rfl rfl rfl (lt rfl) ?_
      refine Run.val (lt rfl) (Y.pick_f rfl rfl rfl) ?_
      refine Run.val (lt rfl) (Y.move rfl) ?_
      refine Run.off rfl rfl rfl rfl rfl (lt rfl) ?_
      refine Run.off rfl rfl rfl rfl rfl (lt rfl) ?_
      refine Run.off rfl rfl rfl rfl rfl (lt rfl) ?_
      refine Run.val (lt rfl) (Y.pick_f rfl rfl rfl) ?_
      refine Run.val (lt rfl) (Y.move rfl) ?_
      refine Run.off rfl rfl rfl rfl rfl (lt rfl) ?_
      refine Run.off rfl rfl rfl rfl rfl (lt rfl) ?_
      refine Run.val (lt rfl) (Y.pick_f rfl rfl rfl) ?_
      refine Run.val (lt rfl) (Y.assign rfl) ?_
      refine Run.to_end ?_
      refine Ex.go ?_
      refine Tr.to_ret ?_
      refine Ex.keep [] ?_
      exact Ex.ret1 rfl rfl  ⟨congrArg Value.bool (by rw [Bool.eq_iff_iff]; unfold Pc.right; rw [← hLp]; simp only [Bool.and_eq_true, Bool.or_eq_true, decide_eq_true_eq, beq_iff_eq, Bool.false_eq_true]; exact ⟨fun h => by first | exact h.elim | omega, fun h => by omega⟩), rfl, rfl⟩
 ·have g4 := h4
  try simp only [kb] at g4
  refine Run.off rfl rfl rfl h4 rfl (lt rfl) ?_
  refine Run.off rfl rfl rfl h4 rfl (lt rfl) ?_
  refine Run.off rfl rfl rfl h4 rfl (lt rfl) ?_
  refine Run.val (lt rfl) (Y.pick_f rfl h4 rfl) ?_
  refine Run.val (lt rfl) (Y.assign rfl) ?_
  refine Run.to_end ?_
  refine Ex.go ?_
  refine Tr.cond_f rfl rfl ?_
  refine Tr.region ?_
  refine Run.val (lt rfl) (Y.fieldAddr rfl Opt_fo36_8) ?_
  refine Run.val (lt rfl) (Y.load rfl Opt_ts22 (Kn.at 0 rfl) rfl) ?_
  refine Run.val (lt rfl) (Y.lenSl rfl Opt_es22) ?_
  refine Run.val (lt rfl) (Y.int rfl rfl rfl) ?_
  refine Run.val (lt rfl) (Y.move rfl) ?_
  rcases Bool.eq_false_or_eq_true (decide (((p.hw.length : Nat) : Int) < 1)) with h12 | h12
  ·have g12 := h12
   try simp only [kb] at g12
   refine Run.off rfl rfl rfl h12 rfl (lt rfl) ?_
   refine Run.off rfl rfl rfl h12 rfl (lt rfl) ?_
   refine Run.off rfl rfl rfl h12 rfl (lt rfl) ?_
   refine Run.off rfl rfl rfl h12 rfl (lt rfl) ?_
   refine Run.val (lt rfl) (Y.pick_t rfl h12 rfl) ?_
   refine Run.val (lt rfl) (Y.assign rfl) ?_
   refine Run.to_end ?_
   refine Ex.go ?_
   refine Tr.cond_t rfl rfl ?_
   refine Tr.seq ?_
   refine Tr.region ?_
   refine Run.val (lt rfl) (Y.assign rfl) ?_
   refine Run.to_end ?_
   refine Ex.go ?_
   refine Tr.to_ret ?_
   refine Ex.ret_block ?_
   refine Ex.ret_then ?_
   refine Ex.keep [] ?_
   exact Ex.ret1 rfl rfl  ⟨congrArg Value.bool (by rw [Bool.eq_iff_iff]; unfold Pc.right; rw [← hLp]; simp only [Bool.and_eq_true, Bool.or_eq_true, decide_eq_true_eq, beq_iff_eq, Bool.false_eq_true]; exact ⟨fun h => by first | exact h.elim | omega, fun h => by omega⟩), rfl, rfl⟩
  ·have g12 := h12
   try simp only [kb] at g12
   refine Run.on rfl rfl rfl h12 ?_
   refine Run.val (lt rfl) (Y.fieldAddr rfl Opt_fo36_8) ?_
   refine Run.on rfl rfl rfl h12 ?_
   refine Run.val (lt rfl) (Y.load rfl Opt_ts22 (Kn.at 0 rfl) rfl) ?_
   refine Run.on rfl rfl rfl h12 ?_
   refine Run.val (lt rfl) (Y.lenSl rfl Opt_es22) ?_
   refine Run.on rfl rfl rfl h12 ?_
   refine Run.val (lt rfl) (Y.int rfl rfl rfl) ?_
   refine Run.val (lt rfl) (Y.pick_f rfl h12 rfl) ?_
   refine Run.val (lt rfl) (Y.assign rfl) ?_
   refine Run.to_end ?_
   refine Ex.go ?_
   rcases Bool.eq_false_or_eq_true (decide (((p.hw.length : Nat) : Int) > 16)) with h13 | h13
   ·have g13 := h13
    try simp only [kb] at g13
    refine Tr.cond_t rfl h13 ?_
    refine Tr.seq ?_
    refine Tr.region ?_
    refine Run.val (lt rfl) (Y.assign rfl) ?_
    refine Run.to_end ?_
    refine Ex.go ?_
    refine Tr.to_ret ?_
    refine Ex.ret_block ?_
    refine Ex.ret_then ?_
    refine Ex.keep [] ?_
    exact Ex.ret1 rfl rfl  ⟨congrArg Value.bool (by rw [Bool.eq_iff_iff]; unfold Pc.right; rw [← hLp]; simp only [Bool.and_eq_true, Bool.or_eq_true, decide_eq_true_eq, beq_iff_eq, Bool.false_eq_true]; exact ⟨fun h => by first | exact h.elim | omega, fun h => by omega⟩), rfl, rfl⟩
   ·have g13 := h13
    try simp only [kb] at g13
    refine Tr.cond_f rfl h13 ?_
    refine Tr.to_end ?_
    refine Ex.end_block ?_
    refine Ex.go ?_
    refine Tr.seq ?_
    refine Tr.region ?_
    refine Run.val (lt rfl) (Y.fieldAddr rfl Opt_fo36_2) ?_
    refine Run.val (lt rfl) (Y.load rfl Opt_ts3 (Kn.at 0 rfl) rfl) ?_
    refine Run.val (lt rfl) (Y.int rfl rfl rfl) ?_
    refine Run.val (lt rfl) (Y.move rfl) ?_
    rcases Bool.eq_false_or_eq_true (decide (p.secs ≥ 0)) with h14 | h14
    ·have g14 := h14
     try simp only [kb] at g14
     refine Run.on rfl rfl rfl h14 ?_
     refine Run.val (lt rfl) (Y.fieldAddr rfl Opt_fo36_2) ?_
     refine Run.on rfl rfl rfl h14 ?_
     refine Run.val (lt rfl) (Y.load rfl Opt_ts3 (Kn.at 0 rfl) rfl) ?_
     refine Run.on rfl rfl rfl h14 ?_
     refine Run.val (lt rfl) (Y.int rfl rfl rfl) ?_
     refine Run.val (lt rfl) (Y.pick_t rfl h14 rfl) ?_
     refine Run.val (lt rfl) (Y.move rfl) ?_
     rcases Bool.eq_false_or_eq_true (decide (p.secs ≤ 65535)) with h15 | h15
     ·have g15 := h15
      try simp only [kb] at g15
      refine Run.on rfl rfl rfl h15 ?_
      refine Run.val (lt rfl) (Y.fieldAddr rfl Opt_fo36_3) ?_
      refine Run.on rfl rfl rfl h15 ?_
      refine Run.val (lt rfl) (Y.load rfl Opt_ts3 (Kn.at 0 rfl) rfl) ?_
      refine Run.on rfl rfl rfl h15 ?_
      refine Run.val (lt rfl) (Y.int rfl rfl rfl) ?_
      refine Run.val (lt rfl) (Y.pick_t rfl h15 rfl) ?_
      refine Run.val (lt rfl) (Y.move rfl) ?_
      rcases Bool.eq_false_or_eq_true (decide (p.flags ≥ 0)) with h16 | h16
      ·have g16 := h16
       try simp only [kb] at g16
       refine Run.on rfl rfl rfl h16 ?_
       refine Run.val (lt rfl) (Y.fieldAddr rfl Opt_fo36_3) ?_
       refine Run.on rfl rfl rfl h16 ?_
       refine Run.val (lt rfl) (Y.load rfl Opt_ts3 (Kn.at 0 rfl) rfl) ?_
       refine Run.on rfl rfl rfl h16 ?_
       refine Run.val (lt rfl) (Y.int rfl rfl rfl) ?_
       refine Run.val (lt rfl) (Y.pick_t rfl h16 rfl) ?_
       refine Run.val (lt rfl) (Y.move rfl) ?_
       rcases Bool.eq_false_or_eq_true (decide (p.flags ≤ 65535)) with h17 | h17
       ·have g17 := h17
        try simp only [kb] at g17
        refine Run.on rfl rfl rfl h17 ?_
        refine Run.val (lt rfl) (Y.move rfl) ?_
        refine Run.on rfl rfl rfl h17 ?_
        refine Run.val (lt rfl) (Y.int rfl rfl rfl) ?_
        refine Run.val (lt rfl) (Y.pick_t rfl h17 rfl) ?_
        refine Run.val (lt rfl) (Y.assign rfl) ?_
        refine Run.to_end ?_
        refine Ex.go ?_
        refine Tr.to_ret ?_
        refine Ex.keep [] ?_
        exact Ex.ret1 rfl rfl  ⟨congrArg Value.bool (by rw [Bool.eq_iff_iff]; unfold Pc.right; rw [← hLp]; simp only [Bool.and_eq_true, Bool.or_eq_true, decide_eq_true_eq, beq_iff_eq, Bool.false_eq_true]; exact ⟨fun h => by first | exact h.elim | omega, fun h => by omega⟩), rfl, rfl⟩
       ·have g17 := h17
        try simp only [kb] at g17
        refine Run.off rfl rfl rfl h17 rfl (lt rfl) ?_
        refine Run.off rfl rfl rfl h17 rfl (lt rfl) ?_
        refine Run.val (lt rfl) (Y.pick_f rfl h17 rfl) ?_
        refine Run.val (lt rfl) (Y.assign rfl) ?_
        refine Run.to_end ?_
        refine Ex.go ?_
        refine Tr.to_ret ?_
        refine Ex.keep [] ?_
        exact Ex.ret1 rfl rfl  ⟨congrArg Value.bool (by rw [Bool.eq_iff_iff]; unfold Pc.right; rw [← hLp]; simp only [Bool.and_eq_true, Bool.or_eq_true, decide_eq_true_eq, beq_iff_eq, Bool.false_eq_true]; exact ⟨fun h => by first | exact h.elim | omega, fun h => by omega⟩), rfl, rfl⟩
      ·have g16 := h16
       try simp only [kb] at g16
       refine Run.off rfl rfl rfl h16 rfl (lt rfl) ?_
       refine Run.off rfl rfl rfl h16 rfl (lt rfl) ?_
       refine Run.off rfl rfl rfl h16 rfl (lt rfl) ?_
       refine Run.val (lt rfl) (Y.pick_f rfl h16 rfl) ?_
       refine Run.val (lt rfl) (Y.move rfl) ?_
       refine Run.off rfl rfl rfl rfl rfl (lt rfl) ?_
       refine Run.off rfl rfl rfl rfl rfl (lt rfl) ?_
       refine Run.val (lt rfl) (Y.pick_f rfl rfl rfl) ?_
       refine Run.val (lt rfl) (Y.assign rfl) ?_
       refine Run.to_end ?_
       refine Ex.go ?_
       refine Tr.to_ret ?_
       refine Ex.keep [] ?_
       exact Ex.ret1 rfl rfl  ⟨congrArg Value.bool (by rw [Bool.eq_iff_iff]; unfold Pc.right; rw [← hLp]; simp only [Bool.and_eq_true, Bool.or_eq_true, decide_eq_true_eq, beq_iff_eq, Bool.false_eq_true]; exact ⟨fun h => by first | exact h.elim | omega, fun h => by omega⟩), rfl, rfl⟩
     ·have g15 := h15
      try simp only [kb] at g15
      refine Run.off rfl rfl rfl h15 rfl (lt rfl) ?_
      refine Run.off rfl rfl rfl h15 rfl (lt rfl) ?_
      refine Run.off rfl rfl rfl h15 rfl (lt rfl) ?_
      refine Run.val (lt rfl) (Y.pick_f rfl h15 rfl) ?_
      refine Run.val (lt rfl) (Y.move rfl) ?_
      refine Run.off rfl rfl rfl rfl rfl (lt rfl) ?_
      refine Run.off rfl rfl rfl rfl rfl (lt rfl) ?_
      refine Run.off rfl rfl rfl rfl rfl (lt rfl) ?_
      refine Run.val (lt rfl) (Y.pick_f rfl rfl rfl) ?_
      refine Run.val (lt rfl) (Y.move rfl) ?_
      refine Run.off rfl rfl rfl rfl rfl (lt rfl) ?_
      refine Run.off rfl rfl rfl rfl rfl (lt rfl) ?_
      refine Run.val (lt rfl) (Y.pick_f rfl rfl rfl) ?_
      refine Run.val (lt rfl) (Y.assign rfl) ?_
      refine Run.to_end ?_
      refine Ex.go ?_
      refine Tr.to_ret ?_
      refine Ex.keep [] ?_
      exact Ex.ret1 rfl rfl  ⟨congrArg Value.bool (by rw [Bool.eq_iff_iff]; unfold Pc.right; rw [← hLp]; simp only [Bool.and_eq_true, Bool.or_eq_true, decide_eq_true_eq, beq_iff_eq, Bool.false_eq_true]; exact ⟨fun h => by first | exact h.elim | omega, fun h => by omega⟩), rfl, rfl⟩
    ·have g14 := h14
     try simp only [kb] at g14
     refine Run.off rfl rfl rfl h14 rfl (lt rfl) ?_
     refine Run.off rfl rfl rfl h14 rfl (lt rfl) ?_
     refine Run.off rfl rfl rfl h14 rfl (lt rfl) ?_
     refine Run.val (lt rfl) (Y.pick_f rfl h14 rfl) ?_
     refine Run.val (lt rfl) (Y.move rfl) ?_
     refine Run.off rfl rfl rfl rfl rfl (lt rfl) ?_
     refine Run.off rfl rfl rfl rfl rfl (lt rfl) ?_
     refine Run.off rfl rfl rfl rfl rfl (lt rfl) ?_
     refine Run.val (lt rfl) (Y.pick_f rfl rfl rfl) ?_
     refine Run.val (lt rfl) (Y.move rfl) ?_
     refine Run.off rfl rfl rfl rfl rfl (lt rfl) ?_
     refine Run.off rfl rfl rfl rfl rfl (lt rfl) ?_
     refine Run.off rfl rfl rfl rfl rfl (lt rfl) ?_
     refine Run.val (lt rfl) (Y.pick_f rfl rfl rfl) ?_
     refine Run.val (lt rfl) (Y.move rfl) ?_
     refine Run.off rfl rfl rfl rfl rfl (lt rfl) ?_
     refine Run.off rfl rfl rfl rfl rfl (lt rfl) ?_
     refine Run.val (lt rfl) (Y.pick_f rfl rfl rfl) ?_
     refine Run.val (lt rfl) (Y.assign rfl) ?_
     refine Run.to_end ?_
     refine Ex.go ?_
     refine Tr.to_ret ?_
     refine Ex.keep [] ?_
     exact Ex.ret1 rfl rfl  ⟨congrArg Value.bool (by rw [Bool.eq_iff_iff]; unfold Pc.right; rw [← hLp]; simp only [Bool.and_eq_true, Bool.or_eq_true, decide_eq_true_eq, beq_iff_eq, Bool.false_eq_true]; exact ⟨fun h => by first | exact h.elim | omega, fun h => by omega⟩), rfl, rfl⟩

theorem right_h {V : Vw} {H : Hp} {p : Pc} {hv ov : Value} (hp : Pc.R V p hv ov) (hf : Pc.few p = true) : Does Try.prog 53 [.agg (p.cells hv ov)] V H (Pv (.bool (Pc.right p)) V H) := by
  obtain ⟨ph, ch, rfl, _⟩ := hp.hw.form
  obtain ⟨L, hLp, ho, hr⟩ := hp.os
  obtain ⟨po, co, rfl, _⟩ := ho.form
  have hf' : Oc.few (L.map Opn.c) = true := by rw [hLp]; simp only [Pc.few, Bool.and_eq_true] at hf; exact hf.1
  have hL : L.length ≤ 1000000 := by have := (Oc.few_iff.1 hf').1; rw [List.length_map] at this; omega
  exact (right_c ho hr hL hp.hw hLp hf').frame

theorem of_c {V : Vw} {code : Int}  : Does Try.prog 74 [.int .i64 code] V [] (fun u V' H' => V' = V ∧ ∃ b, u = .func (.func 75) #[] #[.pointer (some ⟨b, 0, none⟩)] ∧ H' = [[(b, .cells #[.int .i64 code] 3 (0, 0))]]) := by
 refine Does.intro Try.func74 rfl rfl (le rfl) (fun B => ?_)
 refine Tr.seq ?_
 refine Tr.region ?_
 refine Run.box rfl (lt rfl) (fun b1 => ?_)
 refine Run.val (lt rfl) (Y.assign rfl) ?_
 refine Run.to_end ?_
 refine Ex.go ?_
 refine Tr.seq ?_
 refine Tr.region ?_
 refine Run.val (lt rfl) (Y.makeFunc (l := []) (l' := [.tmp 1]) rfl rfl) ?_
 refine Run.val (lt rfl) (Y.assign rfl) ?_
 refine Run.to_end ?_
 refine Ex.go ?_
 refine Tr.to_ret ?_
 exact Ex.ret1 rfl rfl  ⟨rfl, _, rfl, rfl⟩

theorem find_c {V : Vw} {L : List Opn} {po : Option Addr} {co : Nat} (ho : Rd V [] 2 (.slice po L.length co) L.length (L.map Opn.cells).flatten) (hr : Opn.Rds V L) (hL : L.length ≤ 1000000) {code : Int} (hf : Oc.few (L.map Opn.c) = true)  : Does Try.prog 68 [.slice po L.length co, .int .i64 code] V [] (fun u V' H' => V' = V ∧ ∃ v s', u = .tuple #[v, .bool (Oc.has code (L.map Opn.c))] ∧ H' = [s'] ∧ Ow 5 1 v (Oc.fd code (L.map Opn.c)).length ((Oc.fd code (L.map Opn.c)).map byteV) s') := by
 refine Does.intro Try.func68 rfl rfl (le rfl) (fun B => ?_)
 refine Tr.seq ?_
 refine Tr.region ?_
 refine Run.val (lt rfl) (Y.assign rfl) ?_
 refine Run.val (lt rfl) (Y.assign rfl) ?_
 refine Run.to_end ?_
 refine Ex.go ?_
 refine Tr.seq ?_
 refine Tr.region ?_
 refine Run.val (lt rfl) (Y.move rfl) ?_
 refine Run.val (lt rfl) (Y.move rfl) ?_
 refine Run.call [] (l := [.tmp 8]) rfl rfl rfl (lt rfl) (of_c (code := code)) (fun v1 V2 H2 _ hR => ?_)
 obtain ⟨hV, b2, rfl, rfl⟩ := hR; replace hV := hV.symm; subst hV
 refine Run.call0 (l := [.tmp 7, .tmp 9]) rfl rfl rfl (lt rfl) (ixis_c ho hr hL (Kn.at 0 rfl)) ?_
 refine Run.val (lt rfl) (Y.assign rfl) ?_
 refine Run.to_end ?_
 refine Ex.go ?_
 refine Tr.seq ?_
 refine Tr.seq ?_
 refine Tr.region ?_
 refine Run.val (lt rfl) (Y.move rfl) ?_
 refine Run.val (lt rfl) (Y.int rfl rfl rfl) ?_
 refine Run.to_end ?_
 refine Ex.go ?_
 rcases Bool.eq_false_or_eq_true (decide ((Oc.ix (Oc.is code) (L.map Opn.c)) < 0)) with h3 | h3
 ·have g3 := h3
  try simp only [kb] at g3
  obtain ⟨hfd, hhas⟩ : Oc.fd code (L.map Opn.c) = [] ∧ Oc.has code (L.map Opn.c) = false := by rcases Oc.ixL_cases code L with h | ⟨i, h1, _⟩; exact h.2; omega
  refine Tr.cond_t rfl h3 ?_
  refine Tr.seq ?_
  refine Tr.region ?_
  refine Run.nilseg ?_
  refine Run.val (lt rfl) (Y.assign rfl) ?_
  refine Run.val (lt rfl) (Y.assign rfl) ?_
  refine Run.to_end ?_
  refine Ex.go ?_
  refine Tr.to_ret ?_
  refine Ex.ret_then ?_
  refine Ex.keep [0] ?_
  exact Ex.ret2 rfl rfl rfl  ⟨rfl, _, [], by rw [hhas], rfl, by rw [hfd]; exact Ow.nil _ _⟩
 ·have g3 := h3
  try simp only [kb] at g3
  refine Tr.cond_f rfl h3 ?_
  refine Tr.to_end ?_
  refine Ex.go ?_
  refine Tr.seq ?_
  refine Tr.region ?_
  obtain ⟨i, hix, hi, hfd, hhas⟩ : ∃ i : Nat, Oc.ix (Oc.is code) (L.map Opn.c) = i ∧ i < L.length ∧ Oc.fd code (L.map Opn.c) = (L.getD i Opn.dflt).d ∧ Oc.has code (L.map Opn.c) = true := by rcases Oc.ixL_cases code L with h | h; omega; exact h
  rw [hix]
  have hd := Oc.few_data hf (i := i) (by omega)
  obtain ⟨b, off, c2, cs, e, fz, hw, hc, hko, hcs⟩ := ho.opened (by omega)
  obtain ⟨rfl, rfl⟩ : po = some ⟨b, off, none⟩ ∧ co = c2 := by cases hw; exact ⟨rfl, rfl⟩
  clear hw
  have hrow := row_at (f := Opn.cells) Opn.len hcs (i := i) (by omega) (Nat.le_refl _) Opn.dflt
  have hmem := getD_mem (l := L) (j := i) (by omega) Opn.dflt
  generalize hoe : L.getD i Opn.dflt = o at *
  have hro := hr o hmem
  obtain ⟨pd, cd, hov, _⟩ := hro.form
  rw [hov] at hro
  have hrow2 : ∀ j, j < 2 → cs[off + ((i : Nat) : Int).toNat * 2 + j]? = ([.int .i64 o.code, .slice pd o.d.length cd] : List Value)[j]? := fun j hj => by rw [hrow j hj]; simp only [Opn.cells, hov]
  refine Run.val (lt rfl) (Y.move rfl) ?_
  refine Run.val (lt rfl) (Y.move rfl) ?_
  refine Run.val (lt rfl) (Y.idxAddr rfl rfl Opt_es34 (by omega) (by omega)) ?_
  refine Run.val (lt rfl) (Y.fieldAddr rfl Opt_fo76_1) ?_
  refine Run.val (lt rfl) (Y.load rfl Opt_ts22 hko.of_nil (hrow2 1 (by decide))) ?_
  refine Run.call [] (l := [.tmp 17]) rfl rfl rfl (lt rfl) (clone_h hro (by omega)) (fun v4 V2 H2 _ hR => ?_)
  obtain ⟨hV, s5, rfl, ho6⟩ := hR; replace hV := hV.symm; subst hV; obtain ⟨p7, c8, rfl⟩ := ho6.form
  refine Run.val (lt rfl) (Y.assign rfl) ?_
  refine Run.val (lt rfl) (Y.assign rfl) ?_
  refine Run.to_end ?_
  refine Ex.go ?_
  refine Tr.to_ret ?_
  refine Ex.keep [1] ?_
  exact Ex.ret2 rfl rfl rfl  ⟨rfl, _, s5, by rw [hhas], rfl, by rw [hfd]; exact ho6⟩

theorem rfind_c {V : Vw} {L : List Opn} {po : Option Addr} {co : Nat} (ho : Rd V [] 2 (.slice po L.length co) L.length (L.map Opn.cells).flatten) (hr : Opn.Rds V L) (hL : L.length ≤ 1000000) {code : Int}  : Does Try.prog 51 [.slice po L.length co, .int .i64 code] V [] (fun u V' H' => V' = V ∧ H' = [] ∧ ∃ v, u = .tuple #[v, .bool (Oc.has code (L.map Opn.c))] ∧ Rd V [] 1 v (Oc.fd code (L.map Opn.c)).length ((Oc.fd code (L.map Opn.c)).map byteV)) := by
 refine Does.intro Try.func51 rfl rfl (le rfl) (fun B => ?_)
 refine Tr.seq ?_
 refine Tr.region ?_
 refine Run.val (lt rfl) (Y.assign rfl) ?_
 refine Run.val (lt rfl) (Y.assign rfl) ?_
 refine Run.to_end ?_
 refine Ex.go ?_
 refine Tr.seq ?_
 refine Tr.seq ?_
 refine Tr.region ?_
 refine Run.val (lt rfl) (Y.assign rfl) ?_
 refine Run.to_end ?_
 refine Ex.go ?_
 refine Tr.block ?_
 refine Tr.loop (X := Nat) (fun i => V) (fun i => []) (fun i => [(0, .slice po L.length co), (1, .int .i64 code), (6, .int .i64 (i : Int))]) (fun i => i ≤ L.length ∧ ∀ j, j < i → ((L.getD j Opn.dflt).code == code) = false) (fun i => L.length - i) 0 ⟨Nat.zero_le _, fun j hj => absurd hj (Nat.not_lt_zero j)⟩ (fun a w i => ⟨i.1.sub (subB_cons (by first | rfl | exact congrArg (fun z => some (Value.int _ z)) (by omega)) (subB_cons (by first | rfl | exact congrArg (fun z => some (Value.int _ z)) (by omega)) (subB_cons (by first | rfl | exact congrArg (fun z => some (Value.int _ z)) (by omega)) (subB_nil _)))), i.2⟩) ?_
 rintro i ⟨hi, hin⟩
 refine Tr.seq ?_
 refine Tr.seq ?_
 refine Tr.region ?_
 refine Run.val (lt rfl) (Y.move rfl) ?_
 refine Run.val (lt rfl) (Y.move rfl) ?_
 refine Run.val (lt rfl) (Y.lenSl rfl Opt_es34) ?_
 refine Run.val (lt rfl) (Y.int rfl rfl rfl) ?_
 refine Run.to_end ?_
 refine Ex.go ?_
 rcases Bool.eq_false_or_eq_true (decide ((i : Int) < ((L.length : Nat) : Int))) with h1 | h1
 ·have g1 := h1
  try simp only [kb] at g1
  obtain ⟨b, off, c2, cs, e, fz, hw, hc, hko, hcs⟩ := ho.opened (by omega)
  obtain ⟨rfl, rfl⟩ : po = some ⟨b, off, none⟩ ∧ co = c2 := by cases hw; exact ⟨rfl, rfl⟩
  clear hw
  have hrow := row_at (f := Opn.cells) Opn.len hcs (i := i) (by omega) (Nat.le_refl _) Opn.dflt
  have hmem := getD_mem (l := L) (j := i) (by omega) Opn.dflt
  generalize hoe : L.getD i Opn.dflt = o at *
  have hro := hr o hmem
  obtain ⟨pd, cd, hov, _⟩ := hro.form
  rw [hov] at hro
  have hrow2 : ∀ j, j < 2 → cs[off + ((i : Nat) : Int).toNat * 2 + j]? = ([.int .i64 o.code, .slice pd o.d.length cd] : List Value)[j]? := fun j hj => by rw [hrow j hj]; simp only [Opn.cells, hov]
  refine Tr.cond_t rfl h1 ?_
  refine Tr.to_end ?_
  refine Ex.go ?_
  refine Tr.seq ?_
  refine Tr.block ?_
  refine Tr.seq ?_
  refine Tr.region ?_
  refine Run.val (lt rfl) (Y.move rfl) ?_
  refine Run.val (lt rfl) (Y.move rfl) ?_
  refine Run.val (lt rfl) (Y.idxAddr rfl rfl Opt_es34 (by omega) (by omega)) ?_
  refine Run.val (lt rfl) (Y.fieldAddr rfl Opt_fo76_0) ?_
  refine Run.val (lt rfl) (Y.load rfl Opt_ts3 hko.of_nil (hrow 0 (by decide))) ?_
  refine Run.val (lt rfl) (Y.move rfl) ?_
  refine Run.val (lt rfl) (Y.int rfl rfl rfl) ?_
  refine Run.to_end ?_
  refine Ex.go ?_
  rcases Bool.eq_false_or_eq_true (o.code == code) with h2 | h2
  ·have g2 := h2
   try simp only [kb] at g2
   refine Tr.cond_t rfl h2 ?_
   refine Tr.seq ?_
   refine Tr.region ?_
   refine Run.val (lt rfl) (Y.move rfl) ?_
   refine Run.val (lt rfl) (Y.move rfl) ?_
   refine Run.val (lt rfl) (Y.idxAddr rfl rfl Opt_es34 (by omega) (by omega)) ?_
   refine Run.val (lt rfl) (Y.fieldAddr rfl Opt_fo76_1) ?_
   refine Run.val (lt rfl) (Y.load rfl Opt_ts22 hko.of_nil (hrow2 1 (by decide))) ?_
   refine Run.val (lt rfl) (Y.assign rfl) ?_
   refine Run.val (lt rfl) (Y.assign rfl) ?_
   refine Run.to_end ?_
   refine Ex.go ?_
   refine Tr.to_ret ?_
   refine Ex.ret_block ?_
   refine Ex.ret_then ?_
   refine Ex.ret_then ?_
   refine Ex.ret_block ?_
   refine Ex.ret_then ?_
   exact Ex.ret2 rfl rfl rfl  ⟨rfl, rfl, _, by rw [(Oc.fdL_at (c := code) hin (by omega) (by rw [hoe]; exact h2)).2], by rw [(Oc.fdL_at (c := code) hin (by omega) (by rw [hoe]; exact h2)).1, hoe]; exact hro⟩
  ·have g2 := h2
   try simp only [kb] at g2
   refine Tr.cond_f rfl h2 ?_
   refine Tr.to_end ?_
   refine Ex.end_block ?_
   refine Ex.go ?_
   refine Tr.region ?_
   refine Run.val (lt rfl) (Y.move rfl) ?_
   refine Run.val (lt rfl) (Y.add rfl rfl (by omega)) ?_
   refine Run.val (lt rfl) (Y.assign rfl) ?_
   refine Run.to_end ?_
   exact Ex.round (i + 1) ⟨by omega, upto hin (by rw [hoe]; exact h2)⟩ (by omega) rfl rfl (subB_cons (by first | rfl | exact congrArg (fun z => some (Value.int _ z)) (by omega)) (subB_cons (by first | rfl | exact congrArg (fun z => some (Value.int _ z)) (by omega)) (subB_cons (by first | rfl | exact congrArg (fun z => some (Value.int _ z)) (by omega)) (subB_nil _))))
 ·have g1 := h1
  try simp only [kb] at g1
  refine Tr.cond_f rfl h1 ?_
  refine Tr.to_exit ?_
  refine Ex.exit_then ?_
  refine Ex.exit_then ?_
  refine Ex.exit_in ?_
  refine Ex.go ?_
  refine Tr.seq ?_
  refine Tr.region ?_
  refine Run.val (lt rfl) (Y.assign rfl) ?_
  refine Run.val (lt rfl) (Y.assign rfl) ?_
  refine Run.to_end ?_
  refine Ex.go ?_
  refine Tr.to_ret ?_
  exact Ex.ret2 rfl rfl rfl  ⟨rfl, rfl, _, by rw [(Oc.fdL_none (c := code) (fun j hj => hin j (by omega))).2], by rw [(Oc.fdL_none (c := code) (fun j hj => hin j (by omega))).1]; exact Rd.nil _ _ _⟩
end Go.Proofs.Ytelahacalnmilaa
