/- A packet of bytes.
Conditions: as each theorem names them. -/
import Derived.Test.YtelahacalnmilaaProg
import Derived.Test.YtelahacalnmilaaO9
import Derived.Test.YtelahacalnmilaaClenc
set_option linter.unusedSimpArgs false
set_option linter.unusedVariables false
set_option maxRecDepth 4000
namespace Go.Proofs.Ytelahacalnmilaa
open Go Go.K
attribute [local irreducible] Code.wp wpList Calls wpQuiet
theorem Cldec_es22 : elemS Try.prog 22 = some (5, 1) := by kernel_rfl
theorem Cldec_ts5 : scal Try.prog 5 = true := by kernel_rfl
theorem Cldec_it5_3 : intT Try.prog 5 3 = some .i64 := by kernel_rfl
theorem Cldec_mo : Try.prog.follows .mixedOrders = true := by kernel_rfl
theorem Cldec_zi5 : zeroInfo Try.prog 5 = some (1, 1, .int .u8 0) := by kernel_rfl
theorem Cldec_zo76 : zeroOf Try.prog 76 = some (.agg #[.int .i64 0, .slice none 0 0]) := by kernel_rfl
theorem Cldec_pl76 : placesS Try.prog 76 = some [(0, 1), (1, 1)] := by kernel_rfl
theorem Cldec_es34 : elemS Try.prog 34 = some (76, 2) := by kernel_rfl
theorem Cldec_zi76 : zeroInfo Try.prog 76 = some (2, 32, .agg #[.int .i64 0, .slice none 0 0]) := by kernel_rfl
theorem Cldec_zo36 : zeroOf Try.prog 36 = some (.agg #[.int .i64 0, .int .u32 0, .int .i64 0, .int .i64 0, .int .u32 0, .int .u32 0, .int .u32 0, .int .u32 0, .slice none 0 0, .slice none 0 0]) := by kernel_rfl
theorem Cldec_pl36 : placesS Try.prog 36 = some [(0, 1), (1, 1), (2, 1), (3, 1), (4, 1), (5, 1), (6, 1), (7, 1), (8, 1), (9, 1)] := by kernel_rfl
theorem Cldec_sz36 : sizeT Try.prog 36 = some 10 := by kernel_rfl
theorem Cldec_ag36 : aggsz Try.prog 36 = some 10 := by kernel_rfl
theorem Cldec_it3_32 : intT Try.prog 3 32 = some .u32 := by kernel_rfl
theorem Cldec_it3_33 : intT Try.prog 3 33 = some .u32 := by kernel_rfl
theorem Cldec_fo36_4 : fieldOff Try.prog 36 4 = some 4 := by kernel_rfl
theorem Cldec_sz33 : sizeT Try.prog 33 = some 1 := by kernel_rfl
theorem Cldec_fo36_5 : fieldOff Try.prog 36 5 = some 5 := by kernel_rfl
theorem Cldec_fo36_6 : fieldOff Try.prog 36 6 = some 6 := by kernel_rfl
theorem Cldec_fo36_7 : fieldOff Try.prog 36 7 = some 7 := by kernel_rfl
theorem Cldec_fo36_8 : fieldOff Try.prog 36 8 = some 8 := by kernel_rfl
theorem Cldec_sz22 : sizeT Try.prog 22 = some 1 := by kernel_rfl
theorem Cldec_tg5 : tagOf Try.prog 5 = some (0, .u8) := by kernel_rfl
theorem Cldec_st9 : strT Try.prog 9 = true := by kernel_rfl
theorem Cldec_fo36_9 : fieldOff Try.prog 36 9 = some 9 := by kernel_rfl
theorem Cldec_sz34 : sizeT Try.prog 34 = some 1 := by kernel_rfl
theorem Cldec_ts33 : scal Try.prog 33 = true := by kernel_rfl
theorem Cldec_ts34 : scal Try.prog 34 = true := by kernel_rfl
theorem Cldec_ts22 : scal Try.prog 22 = true := by kernel_rfl

theorem zero_c {V : Vw} {H : Hp} {bs : List UInt8} {pb : Option Addr} {cb : Nat} (hvb : Rd V H 1 (.slice pb bs.length cb) bs.length (bs.map byteV)) (h0 : bs.length = 0)  : Does Try.prog 66 [.slice pb bs.length cb] V H (Pv (.bool true) V H) := by
 refine Does.intro Try.func66 rfl rfl (le rfl) (fun B => ?_)
 refine Tr.seq ?_
 refine Tr.region ?_
 refine Run.val (lt rfl) (Y.assign rfl) ?_
 refine Run.to_end ?_
 refine Ex.go ?_
 refine Tr.seq ?_
 refine Tr.seq ?_
 refine Tr.region ?_
 refine Run.val (lt rfl) (Y.assign rfl) ?_
 refine Run.to_end ?_
 refine Ex.go ?_
 refine Tr.block ?_
 refine Tr.loop (X := Nat) (fun x => V) (fun x => H) (fun x => [(0, .slice pb bs.length cb), (3, .int .i64 (x : Int))]) (fun x => x ≤ 0) (fun x => 0 - x) 0 (Nat.le_refl 0) (fun a w i => ⟨i.1.sub (subB_cons (by first | rfl | exact congrArg (fun z => some (Value.int _ z)) (by omega)) (subB_cons (by first | rfl | exact congrArg (fun z => some (Value.int _ z)) (by omega)) (subB_nil _))), i.2⟩) ?_
 rintro x hx
 refine Tr.seq ?_
 refine Tr.seq ?_
 refine Tr.region ?_
 refine Run.val (lt rfl) (Y.move rfl) ?_
 refine Run.val (lt rfl) (Y.move rfl) ?_
 refine Run.val (lt rfl) (Y.lenSl rfl Cldec_es22) ?_
 refine Run.val (lt rfl) (Y.int rfl rfl rfl) ?_
 refine Run.to_end ?_
 refine Ex.go ?_
 rcases Bool.eq_false_or_eq_true (decide ((x : Int) < ((bs.length : Nat) : Int))) with h1 | h1
 ·have g1 := h1
  try simp only [kb] at g1
  omega
 ·have g1 := h1
  try simp only [kb] at g1
  refine Tr.cond_f rfl h1 ?_
  refine Tr.to_exit ?_
  refine Ex.exit_then ?_
  refine Ex.exit_then ?_
  refine Ex.exit_in ?_
  refine Ex.go ?_
  refine Tr.seq ?_
  refine Tr.region ?_
  refine Run.val (lt rfl) (Y.assign rfl) ?_
  refine Run.to_end ?_
  refine Ex.go ?_
  refine Tr.to_ret ?_
  exact Ex.ret1 rfl rfl  ⟨rfl, rfl, rfl⟩

theorem zero_h {V : Vw} {H : Hp} {v : Value} {bs : List UInt8} {n : Nat} (hv : Rd V H 1 v n (bs.map byteV)) (h0 : bs.length = 0) : Does Try.prog 66 [v] V H (Pv (.bool true) V H) := by
  obtain rfl : n = bs.length := by have := hv.len; rw [List.length_map, Nat.mul_one] at this; exact this.symm
  obtain ⟨p, c, rfl, _⟩ := hv.form
  exact zero_c hv h0
theorem of3_e {V : Vw} {H : Hp} {v : Value} {bs : List UInt8} {n : Nat} {z : Int} (hv : Rd V H 1 v n (bs.map byteV)) (h4 : bs.length ≤ 4) (e : val bs = z) : Does Try.prog 48 [v] V H (Pv (.int .i64 z) V H) := by subst e; exact of3_h hv h4

theorem rd_eq {V : Vw} {H : Hp} {v : Value} {ax bs : List UInt8} (h : Rd V H 1 v ax.length (ax.map byteV)) (e : ax = bs) : Rd V H 1 v bs.length (bs.map byteV) := by subst e; exact h

set_option maxHeartbeats 1000000 in
theorem dec2_c {V : Vw} {bs : List UInt8} {pb : Option Addr} {cb : Nat} (hvb : Rd V [] 1 (.slice pb bs.length cb) bs.length (bs.map byteV)) {l : List Oc} (hbs : bs = Oc.encO l) (hany : l.any Oc.odd = false) (htt : Oc.tot l ≤ 1023)  : Does Try.prog 49 [.slice pb bs.length cb] V [] (fun u V' H' => V.le V' ∧ ∃ v q L, u = .tuple #[v, .int .i64 0] ∧ H' = [q] ∧ Ow 76 2 v L.length (L.map Opn.cells).flatten q ∧ L.map Opn.c = l ∧ Opn.Rds V' L) := by
 have hbl : bs.length = Oc.tot l + 1 := by rw [hbs, Oc.encO_len]
 refine Does.intro Try.func49 rfl rfl (le rfl) (fun B => ?_)
 refine Tr.seq ?_
 refine Tr.region ?_
 refine Run.val (lt rfl) (Y.assign rfl) ?_
 refine Run.val (lt rfl) (Y.assign rfl) ?_
 refine Run.to_end ?_
 refine Ex.go ?_
 refine Tr.seq ?_
 refine Tr.seq ?_
 refine Tr.region ?_
 refine Run.val (lt rfl) (Y.move rfl) ?_
 refine Run.val (lt rfl) (Y.lenSl rfl Cldec_es22) ?_
 refine Run.val (lt rfl) (Y.int rfl rfl rfl) ?_
 refine Run.to_end ?_
 refine Ex.go ?_
 rcases Bool.eq_false_or_eq_true (decide (((bs.length : Nat) : Int) > 1024)) with h1 | h1
 ·have g1 := h1
  try simp only [kb] at g1
  refine Tr.cond_t rfl h1 ?_
  refine Tr.seq ?_
  refine Tr.region ?_
  refine Run.val (lt rfl) (Y.assign rfl) ?_
  refine Run.val (lt rfl) (Y.assign rfl) ?_
  refine Run.to_end ?_
  refine Ex.go ?_
  refine Tr.to_ret ?_
  refine Ex.ret_then ?_
  refine Ex.keep [] ?_
  exact Ex.ret2 rfl rfl rfl  (by exfalso; omega)
 ·have g1 := h1
  try simp only [kb] at g1
  refine Tr.cond_f rfl h1 ?_
  refine Tr.to_end ?_
  refine Ex.go ?_
  refine Tr.seq ?_
  refine Tr.region ?_
  refine Run.val (lt rfl) (Y.assign rfl) ?_
  refine Run.to_end ?_
  refine Ex.go ?_
  refine Tr.seq ?_
  refine Tr.region ?_
  refine Run.nilseg ?_
  refine Run.val (lt rfl) (Y.assign rfl) ?_
  refine Run.to_end ?_
  refine Ex.go ?_
  refine Tr.seq ?_
  refine Tr.block ?_
  refine Tr.loop (X := Dl) (fun x => x.V) (fun x => [x.q]) (fun x => [(0, .slice pb bs.length cb), (4, .slice x.p x.n x.k), (5, .int .i64 ((Oc.tot (l.take x.i) : Nat) : Int))]) (fun x => Vw.le V x.V ∧ Opn.Rds x.V x.L ∧ x.L.map Opn.c = l.take x.i ∧ Ow 76 2 (.slice x.p x.n x.k) x.n (x.L.map Opn.cells).flatten x.q ∧ x.n = x.L.length ∧ x.i ≤ l.length) (fun x => l.length + 1 - x.i) (⟨V, [], none, 0, 0, [], 0⟩ : Dl) ⟨Vw.le_refl _, (fun _ h => by cases h), rfl, Ow.nil _ _, rfl, Nat.zero_le _⟩ (fun a w i => ⟨i.1.sub (subB_cons (by first | rfl | exact congrArg (fun z => some (Value.int _ z)) (by omega)) (subB_cons (by first | rfl | exact congrArg (fun z => some (Value.int _ z)) (by omega)) (subB_cons (by first | rfl | exact congrArg (fun z => some (Value.int _ z)) (by omega)) (subB_nil _)))), i.2⟩) ?_
  rintro ⟨Vn, L, p, n, k, q, i⟩ ⟨hVle, hRds, hLc, how, hnL, hil⟩
  dsimp only at hVle hRds hLc how hnL hil ⊢
  replace hvb := hvb.le hVle
  have htl := Oc.tot_le l i
  have htg := Oc.tot_ge l
  have hLi : L.length ≤ l.length := by have := congrArg List.length hLc; rw [List.length_map, List.length_take] at this; omega
  refine Tr.seq ?_
  refine Tr.seq ?_
  refine Tr.region ?_
  refine Run.val (lt rfl) (Y.move rfl) ?_
  refine Run.val (lt rfl) (Y.move rfl) ?_
  refine Run.val (lt rfl) (Y.lenSl rfl Cldec_es22) ?_
  refine Run.val (lt rfl) (Y.int rfl rfl rfl) ?_
  refine Run.to_end ?_
  refine Ex.go ?_
  rcases Bool.eq_false_or_eq_true (decide (((Oc.tot (l.take i) : Nat) : Int) < ((bs.length : Nat) : Int))) with h2 | h2
  ·have g2 := h2
   try simp only [kb] at g2
   refine Tr.cond_t rfl h2 ?_
   refine Tr.to_end ?_
   refine Ex.go ?_
   refine Tr.block ?_
   refine Tr.seq ?_
   refine Tr.seq ?_
   refine Tr.region ?_
   rcases (show i < l.length ∨ i = l.length by omega) with hk | hk
   ·obtain ⟨b, off, c2, cs, et, fz, hw, hc, hkb, hcs⟩ := hvb.opened (by omega)
    obtain ⟨rfl, rfl⟩ : pb = some ⟨b, off, none⟩ ∧ cb = c2 := by cases hw; exact ⟨rfl, rfl⟩
    clear hw
    have hcV := Oc.byte_code hbs hany hk
    have hsV := Oc.byte_size hbs hany hk
    have hfi := Oc.fine_of hany hk
    have hta := Oc.tot_at hk
    have htl2 := Oc.tot_le l (i + 1)
    have hsl := Oc.encO_data hk
    rw [← hbs] at hsl
    generalize hog : l.getD i Oc.dflt = o at hcV hsV hfi hta hsl
    refine Run.val (lt rfl) (Y.move rfl) ?_
    refine Run.val (lt rfl) (Y.move rfl) ?_
    refine Run.val (lt rfl) (Y.idxAddr rfl rfl Cldec_es22 (by omega) (by omega)) ?_
    refine Run.val (lt rfl) (Y.load rfl Cldec_ts5 hkb.of_nil (at1j hcs rfl (by omega) ((map_at byteV 0 (by omega)).trans (congrArg some hcV)))) ?_
    refine Run.val (lt rfl) (Y.int rfl rfl rfl) ?_
    refine Run.to_end ?_
    refine Ex.go ?_
    refine Tr.cond_f rfl (beq_eq_false_iff_ne.2 (by omega)) ?_
    refine Tr.to_end ?_
    refine Ex.go ?_
    refine Tr.seq ?_
    refine Tr.seq ?_
    refine Tr.region ?_
    refine Run.val (lt rfl) (Y.move rfl) ?_
    refine Run.val (lt rfl) (Y.move rfl) ?_
    refine Run.val (lt rfl) (Y.idxAddr rfl rfl Cldec_es22 (by omega) (by omega)) ?_
    refine Run.val (lt rfl) (Y.load rfl Cldec_ts5 hkb.of_nil (at1j hcs rfl (by omega) ((map_at byteV 0 (by omega)).trans (congrArg some hcV)))) ?_
    refine Run.val (lt rfl) (Y.int rfl rfl rfl) ?_
    refine Run.to_end ?_
    refine Ex.go ?_
    refine Tr.cond_f rfl (beq_eq_false_iff_ne.2 (by omega)) ?_
    refine Tr.to_end ?_
    refine Ex.go ?_
    refine Tr.seq ?_
    refine Tr.seq ?_
    refine Tr.region ?_
    refine Run.val (lt rfl) (Y.move rfl) ?_
    refine Run.val (lt rfl) (Y.add rfl rfl (by omega)) ?_
    refine Run.val (lt rfl) (Y.move rfl) ?_
    refine Run.val (lt rfl) (Y.lenSl rfl Cldec_es22) ?_
    refine Run.val (lt rfl) (Y.int rfl rfl rfl) ?_
    refine Run.val (lt rfl) (Y.move rfl) ?_
    rcases Bool.eq_false_or_eq_true (decide ((((Oc.tot (l.take i) : Nat) : Int) + 1) ≥ ((bs.length : Nat) : Int))) with h3 | h3
    ·have g3 := h3
     try simp only [kb] at g3
     refine Run.off rfl rfl rfl h3 rfl (lt rfl) ?_
     refine Run.off rfl rfl rfl h3 rfl (lt rfl) ?_
     refine Run.off rfl rfl rfl h3 rfl (lt rfl) ?_
     refine Run.off rfl rfl rfl h3 rfl (lt rfl) ?_
     refine Run.off rfl rfl rfl h3 rfl (lt rfl) ?_
     refine Run.off rfl rfl rfl h3 rfl (lt rfl) ?_
     refine Run.off rfl rfl rfl h3 rfl (lt rfl) ?_
     refine Run.off rfl rfl rfl h3 rfl (lt rfl) ?_
     refine Run.off rfl rfl rfl h3 rfl (lt rfl) ?_
     refine Run.off rfl rfl rfl h3 rfl (lt rfl) ?_
     refine Run.off rfl rfl rfl h3 rfl (lt rfl) ?_
     refine Run.off rfl rfl rfl h3 rfl (lt rfl) ?_
     refine Run.val (lt rfl) (Y.pick_t rfl h3 rfl) ?_
     refine Run.to_end ?_
     refine Ex.go ?_
     refine Tr.cond_t rfl rfl ?_
     refine Tr.seq ?_
     refine Tr.region ?_
     refine Run.val (lt rfl) (Y.assign rfl) ?_
     refine Run.val (lt rfl) (Y.assign rfl) ?_
     refine Run.to_end ?_
     refine Ex.go ?_
     refine Tr.to_ret ?_
     refine Ex.ret_then ?_
     refine Ex.ret_block ?_
     refine Ex.ret_then ?_
     refine Ex.ret_block ?_
     refine Ex.ret_then ?_
     refine Ex.keep [] ?_
     exact Ex.ret2 rfl rfl rfl  (by exfalso; omega)
    ·have g3 := h3
     try simp only [kb] at g3
     refine Run.on rfl rfl rfl h3 ?_
     refine Run.val (lt rfl) (Y.move rfl) ?_
     refine Run.on rfl rfl rfl h3 ?_
     refine Run.val (lt rfl) (Y.add rfl rfl (by omega)) ?_
     refine Run.on rfl rfl rfl h3 ?_
     refine Run.val (lt rfl) (Y.move rfl) ?_
     refine Run.on rfl rfl rfl h3 ?_
     refine Run.val (lt rfl) (Y.move rfl) ?_
     refine Run.on rfl rfl rfl h3 ?_
     refine Run.val (lt rfl) (Y.add rfl rfl (by omega)) ?_
     refine Run.on rfl rfl rfl h3 ?_
     refine Run.val (lt rfl) (Y.idxAddr rfl rfl Cldec_es22 (by omega) (by omega)) ?_
     refine Run.on rfl rfl rfl h3 ?_
     refine Run.val (lt rfl) (Y.load rfl Cldec_ts5 hkb.of_nil (at1j (i := Oc.tot (l.take i) + 1) hcs (by omega) (by omega) ((map_at byteV 0 (by omega)).trans (congrArg some hsV)))) ?_
     refine Run.on rfl rfl rfl h3 ?_
     refine Run.val (lt rfl) (Y.conv (((o.d.length : Nat) : Int)) rfl Cldec_it5_3 (wrap_i64 (by omega))) ?_
     refine Run.on rfl rfl rfl h3 ?_
     refine Run.val (lt rfl) (Y.add rfl rfl (by omega)) ?_
     refine Run.on rfl rfl rfl h3 ?_
     refine Run.val (lt rfl) (Y.move rfl) ?_
     refine Run.on rfl rfl rfl h3 ?_
     refine Run.val (lt rfl) (Y.lenSl rfl Cldec_es22) ?_
     refine Run.on rfl rfl rfl h3 ?_
     refine Run.val (lt rfl) (Y.int rfl rfl rfl) ?_
     refine Run.val (lt rfl) (Y.pick_f rfl h3 rfl) ?_
     refine Run.to_end ?_
     refine Ex.go ?_
     rcases Bool.eq_false_or_eq_true (decide (((((Oc.tot (l.take i) : Nat) : Int) + 2) + ((o.d.length : Nat) : Int)) > ((bs.length : Nat) : Int))) with h4 | h4
     ·have g4 := h4
      try simp only [kb] at g4
      refine Tr.cond_t rfl h4 ?_
      refine Tr.seq ?_
      refine Tr.region ?_
      refine Run.val (lt rfl) (Y.assign rfl) ?_
      refine Run.val (lt rfl) (Y.assign rfl) ?_
      refine Run.to_end ?_
      refine Ex.go ?_
      refine Tr.to_ret ?_
      refine Ex.ret_then ?_
      refine Ex.ret_block ?_
      refine Ex.ret_then ?_
      refine Ex.ret_block ?_
      refine Ex.ret_then ?_
      refine Ex.keep [] ?_
      exact Ex.ret2 rfl rfl rfl  (by exfalso; omega)
     ·have g4 := h4
      try simp only [kb] at g4
      refine Tr.cond_f rfl h4 ?_
      refine Tr.to_end ?_
      refine Ex.go ?_
      refine Tr.seq ?_
      refine Tr.anyD [(b, .cells cs et fz)] Cldec_mo ?_
      refine RunD.pure (i := 0) rfl (by kernel_rfl) (by kernel_rfl) (by kernel_rfl) (fun _ _ _ h => h) (lt rfl) (KnAll.cons hkb.of_nil KnAll.nil) (fun _ => (Y.move rfl)) ?_
      refine RunD.pure (i := 1) rfl (by kernel_rfl) (by kernel_rfl) (by kernel_rfl) (fun _ _ _ h => h) (lt rfl) (KnAll.cons hkb.of_nil KnAll.nil) (fun _ => (Y.move rfl)) ?_
      refine RunD.pure (i := 2) rfl (by kernel_rfl) (by kernel_rfl) (by kernel_rfl) (fun _ _ _ h => h) (lt rfl) (KnAll.cons hkb.of_nil KnAll.nil) (fun _ => (Y.move rfl)) ?_
      refine RunD.pure (i := 3) rfl (by kernel_rfl) (by kernel_rfl) (by kernel_rfl) (fun _ _ _ h => h) (lt rfl) (KnAll.cons hkb.of_nil KnAll.nil) (fun _ => (Y.idxAddr rfl rfl Cldec_es22 (by omega) (by omega))) ?_
      refine RunD.take (i := 4) 0 rfl rfl (by kernel_rfl) (by kernel_rfl) (by kernel_rfl) (fun _ _ _ h => h) (lt rfl) (KnAll.cons hkb.of_nil KnAll.nil) (fun _ => (Y.load rfl Cldec_ts5 Kn.vk1 (at1j hcs rfl (by omega) ((map_at byteV 0 (by omega)).trans (congrArg some hcV))))) ?_
      refine RunD.pure (i := 5) rfl (by kernel_rfl) (by kernel_rfl) (by kernel_rfl) (fun _ _ _ h => h) (lt rfl) (KnAll.cons hkb.of_nil KnAll.nil) (fun _ => (Y.conv (o.code) rfl Cldec_it5_3 (wrap_i64 (by omega)))) ?_
      refine RunD.pure (i := 7) rfl (by kernel_rfl) (by kernel_rfl) (by kernel_rfl) (fun _ _ _ h => h) (lt rfl) (KnAll.cons hkb.of_nil KnAll.nil) (fun _ => (Y.move rfl)) ?_
      refine RunD.pure (i := 8) rfl (by kernel_rfl) (by kernel_rfl) (by kernel_rfl) (fun _ _ _ h => h) (lt rfl) (KnAll.cons hkb.of_nil KnAll.nil) (fun _ => (Y.move rfl)) ?_
      refine RunD.pure (i := 9) rfl (by kernel_rfl) (by kernel_rfl) (by kernel_rfl) (fun _ _ _ h => h) (lt rfl) (KnAll.cons hkb.of_nil KnAll.nil) (fun _ => (Y.add rfl rfl (by omega))) ?_
      refine RunD.pure (i := 10) rfl (by kernel_rfl) (by kernel_rfl) (by kernel_rfl) (fun _ _ _ h => h) (lt rfl) (KnAll.cons hkb.of_nil KnAll.nil) (fun _ => (Y.move rfl)) ?_
      refine RunD.pure (i := 11) rfl (by kernel_rfl) (by kernel_rfl) (by kernel_rfl) (fun _ _ _ h => h) (lt rfl) (KnAll.cons hkb.of_nil KnAll.nil) (fun _ => (Y.add rfl rfl (by omega))) ?_
      refine RunD.pure (i := 12) rfl (by kernel_rfl) (by kernel_rfl) (by kernel_rfl) (fun _ _ _ h => h) (lt rfl) (KnAll.cons hkb.of_nil KnAll.nil) (fun _ => (Y.move rfl)) ?_
      refine RunD.pure (i := 13) rfl (by kernel_rfl) (by kernel_rfl) (by kernel_rfl) (fun _ _ _ h => h) (lt rfl) (KnAll.cons hkb.of_nil KnAll.nil) (fun _ => (Y.move rfl)) ?_
      refine RunD.pure (i := 14) rfl (by kernel_rfl) (by kernel_rfl) (by kernel_rfl) (fun _ _ _ h => h) (lt rfl) (KnAll.cons hkb.of_nil KnAll.nil) (fun _ => (Y.add rfl rfl (by omega))) ?_
      refine RunD.pure (i := 15) rfl (by kernel_rfl) (by kernel_rfl) (by kernel_rfl) (fun _ _ _ h => h) (lt rfl) (KnAll.cons hkb.of_nil KnAll.nil) (fun _ => (Y.idxAddr rfl rfl Cldec_es22 (by omega) (by omega))) ?_
      refine RunD.take (i := 16) 0 rfl rfl (by kernel_rfl) (by kernel_rfl) (by kernel_rfl) (fun _ _ _ h => h) (lt rfl) (KnAll.cons hkb.of_nil KnAll.nil) (fun _ => (Y.load rfl Cldec_ts5 Kn.vk1 (at1j (i := Oc.tot (l.take i) + 1) hcs (by omega) (by omega) ((map_at byteV 0 (by omega)).trans (congrArg some hsV))))) ?_
      refine RunD.pure (i := 17) rfl (by kernel_rfl) (by kernel_rfl) (by kernel_rfl) (fun _ _ _ h => h) (lt rfl) (KnAll.cons hkb.of_nil KnAll.nil) (fun _ => (Y.conv (((o.d.length : Nat) : Int)) rfl Cldec_it5_3 (wrap_i64 (by omega)))) ?_
      refine RunD.pure (i := 18) rfl (by kernel_rfl) (by kernel_rfl) (by kernel_rfl) (fun _ _ _ h => h) (lt rfl) (KnAll.cons hkb.of_nil KnAll.nil) (fun _ => (Y.add rfl rfl (by omega))) ?_
      refine RunD.pure (i := 19) rfl (by kernel_rfl) (by kernel_rfl) (by kernel_rfl) (fun _ _ _ h => h) (lt rfl) (KnAll.cons hkb.of_nil KnAll.nil) (fun _ => (Y.slice (l := Oc.tot (l.take i) + 2) (m := Oc.tot (l.take i) + 2 + o.d.length) rfl Cldec_es22 rfl rfl (by omega) (by omega))) ?_
      refine RunD.one (i := 6) (by kernel_rfl) rfl  ?_ 
      refine Run.buildSlice0 Cldec_es22 (lt rfl) (fun b5 => ?_)
      refine Run.to_end ?_
      refine Ex.anyD (KnAll.cons hkb.of_nil KnAll.nil) ?_
      refine RunD.one (i := 20) (by kernel_rfl) rfl  ?_ 
      refine Run.append (n := 0) (m := o.d.length) (xs := []) (ys := o.d.map byteV) rfl rfl Cldec_es22 Cldec_zi5 (by decide) (j := 0) rfl (Ow.lit (cur := #[]) rfl (by decide)) (Src.of_rd Cldec_es22 (rd_eq (rd_sl hvb.of_nil (Oc.tot (l.take i) + 2) (Oc.tot (l.take i) + 2 + o.d.length) (by omega) (by omega)) hsl)) (by omega) (by omega) (all_one_bytes _) (lt rfl) (fun v6 s7 ho8 hf => ?_)
      obtain ⟨p6, c6, rfl⟩ := hf
      refine Run.to_end ?_
      refine Ex.anyD (KnAll.cons hkb.of_nil KnAll.nil) ?_
      refine RunD.pure (i := 21) rfl (by kernel_rfl) (by kernel_rfl) (by kernel_rfl) (fun _ _ _ h => h) (lt rfl) (KnAll.cons hkb.of_nil KnAll.nil) (fun _ => (Y.buildS (l := [(0, .tmp 58), (1, .tmp 73)]) Cldec_zo76 Cldec_pl76 rfl rfl)) ?_
      refine RunD.one (i := 22) (by kernel_rfl) rfl  ?_ 
      refine Run.buildSlice (l := [(0, .tmp 74)]) Cldec_es34 Cldec_zo76 rfl (by decide) rfl rfl (by decide) (lt rfl) (fun b9 => ?_)
      refine Run.to_end ?_
      refine Ex.anyD (KnAll.cons hkb.of_nil KnAll.nil) ?_
      refine RunD.one (i := 23) (by kernel_rfl) rfl  ?_ 
      refine Run.append (n := n) (m := 1) (xs := (L.map Opn.cells).flatten) (ys := [.int .i64 o.code, .slice p6 (0 + o.d.length) c6]) rfl rfl Cldec_es34 Cldec_zi76 (by decide) (j := 2) rfl how (Src.of_rd Cldec_es34 (Rd.one (Kn.at 0 rfl) rfl)) (by omega) (by omega) rfl (lt rfl) (fun v10 s11 ho12 hf => ?_)
      obtain ⟨p10, c10, rfl⟩ := hf
      refine Run.to_end ?_
      refine Ex.anyD (KnAll.cons hkb.of_nil KnAll.nil) ?_
      refine RunD.pure (i := 24) rfl (by kernel_rfl) (by kernel_rfl) (by kernel_rfl) (fun _ _ _ h => h) (lt rfl) (KnAll.cons hkb.of_nil KnAll.nil) (fun _ => (Y.assign rfl)) ?_
      refine RunD.done (by kernel_rfl) ?_
      refine Ex.go ?_
      refine Tr.region ?_
      refine Run.keepTo (H' := [s7, [(b9, .cells #[.int .i64 o.code, .slice p6 (0 + o.d.length) c6] 76 (0, 0))], s11]) [1, 0, 0] rfl ?_
      refine Run.show (fun V13 hleV13 hshV13 => ?_)
      have hdd := ho8.shows _ hshV13
      replace hRds := hRds.le hleV13
      replace hvb := hvb.le hleV13
      replace hkb := hkb.le hleV13
      replace hVle := Vw.le_trans hVle hleV13
      have hdd2 : Rd V13 [] 1 (.slice p6 (0 + o.d.length) c6) o.d.length (o.d.map byteV) := by have h := hdd; simpa using h
      refine Run.val (lt rfl) (Y.move rfl) ?_
      refine Run.val (lt rfl) (Y.add rfl rfl (by omega)) ?_
      refine Run.val (lt rfl) (Y.move rfl) ?_
      refine Run.val (lt rfl) (Y.move rfl) ?_
      refine Run.val (lt rfl) (Y.add rfl rfl (by omega)) ?_
      refine Run.val (lt rfl) (Y.idxAddr rfl rfl Cldec_es22 (by omega) (by omega)) ?_
      refine Run.val (lt rfl) (Y.load rfl Cldec_ts5 hkb.of_nil (at1j (i := Oc.tot (l.take i) + 1) hcs (by omega) (by omega) ((map_at byteV 0 (by omega)).trans (congrArg some hsV)))) ?_
      refine Run.val (lt rfl) (Y.conv (((o.d.length : Nat) : Int)) rfl Cldec_it5_3 (wrap_i64 (by omega))) ?_
      refine Run.val (lt rfl) (Y.add rfl rfl (by omega)) ?_
      refine Run.val (lt rfl) (Y.assign rfl) ?_
      refine Run.to_end ?_
      refine Ex.end_block ?_
      refine Ex.keep [1] ?_
      have hRn : Opn.Rds V13 (L ++ [⟨o.code, .slice p6 (0 + o.d.length) c6, o.d⟩]) := by
       intro z hz
       rcases List.mem_append.1 hz with hz | hz
       · exact hRds z hz
       · rw [List.mem_singleton] at hz; subst hz; exact hdd2
      exact Ex.round (⟨V13, L ++ [⟨o.code, .slice p6 (0 + o.d.length) c6, o.d⟩], p10, (n + 1), c10, s11, i + 1⟩ : Dl) ⟨hVle, hRn, by show (L ++ [_]).map Opn.c = l.take (i + 1); rw [take_succ_getD l i Oc.dflt hk, List.map_append, hLc, hog]; rfl, by have h := ho12; show Ow 76 2 _ _ ((L ++ [_]).map Opn.cells).flatten _; rw [List.map_append, List.flatten_append]; exact h, by show (n + 1) = (L ++ [_]).length; simp only [List.length_append, List.length_singleton]; omega, by show i + 1 ≤ l.length; omega⟩ (by show l.length + 1 - (i + 1) < l.length + 1 - i; omega) rfl rfl (subB_cons (by first | rfl | exact congrArg (fun z => some (Value.int _ z)) (by omega) | exact congrArg (fun z => some (Value.int _ z)) (show (((Oc.tot (l.take i) : Nat) : Int) + 2) + ((o.d.length : Nat) : Int) = ((Oc.tot (l.take (i + 1)) : Nat) : Int) by omega)) (subB_cons (by first | rfl | exact congrArg (fun z => some (Value.int _ z)) (by omega) | exact congrArg (fun z => some (Value.int _ z)) (show (((Oc.tot (l.take i) : Nat) : Int) + 2) + ((o.d.length : Nat) : Int) = ((Oc.tot (l.take (i + 1)) : Nat) : Int) by omega)) (subB_cons (by first | rfl | exact congrArg (fun z => some (Value.int _ z)) (by omega) | exact congrArg (fun z => some (Value.int _ z)) (show (((Oc.tot (l.take i) : Nat) : Int) + 2) + ((o.d.length : Nat) : Int) = ((Oc.tot (l.take (i + 1)) : Nat) : Int) by omega)) (subB_nil _))))
   ·obtain ⟨b, off, c2, cs, et, fz, hw, hc, hkb, hcs⟩ := hvb.opened (by omega)
    obtain ⟨rfl, rfl⟩ : pb = some ⟨b, off, none⟩ ∧ cb = c2 := by cases hw; exact ⟨rfl, rfl⟩
    clear hw
    have hti : Oc.tot (l.take i) = Oc.tot l := by rw [hk, List.take_length]
    have hcV : byteV (bs.getD (Oc.tot (l.take i)) 0) = .int .u8 255 := by rw [hti]; exact Oc.byte_end hbs
    refine Run.val (lt rfl) (Y.move rfl) ?_
    refine Run.val (lt rfl) (Y.move rfl) ?_
    refine Run.val (lt rfl) (Y.idxAddr rfl rfl Cldec_es22 (by omega) (by omega)) ?_
    refine Run.val (lt rfl) (Y.load rfl Cldec_ts5 hkb.of_nil (at1j hcs rfl (by omega) ((map_at byteV 0 (by omega)).trans (congrArg some hcV)))) ?_
    refine Run.val (lt rfl) (Y.int (r := .bool false) rfl rfl rfl) ?_
    refine Run.to_end ?_
    refine Ex.go ?_
    refine Tr.cond_f rfl rfl ?_
    refine Tr.to_end ?_
    refine Ex.go ?_
    refine Tr.seq ?_
    refine Tr.seq ?_
    refine Tr.region ?_
    refine Run.val (lt rfl) (Y.move rfl) ?_
    refine Run.val (lt rfl) (Y.move rfl) ?_
    refine Run.val (lt rfl) (Y.idxAddr rfl rfl Cldec_es22 (by omega) (by omega)) ?_
    refine Run.val (lt rfl) (Y.load rfl Cldec_ts5 hkb.of_nil (at1j hcs rfl (by omega) ((map_at byteV 0 (by omega)).trans (congrArg some hcV)))) ?_
    refine Run.val (lt rfl) (Y.int (r := .bool true) rfl rfl rfl) ?_
    refine Run.to_end ?_
    refine Ex.go ?_
    refine Tr.cond_t rfl rfl ?_
    refine Tr.seq ?_
    refine Tr.region ?_
    refine Run.val (lt rfl) (Y.move rfl) ?_
    refine Run.val (lt rfl) (Y.move rfl) ?_
    refine Run.val (lt rfl) (Y.add rfl rfl (by omega)) ?_
    refine Run.val (lt rfl) (Y.slice (l := Oc.tot (l.take i) + 1) (m := bs.length) rfl Cldec_es22 rfl rfl (by omega) (by omega)) ?_
    refine Run.call0 (l := [.tmp 29]) rfl rfl rfl (lt rfl) (zero_h (rd_sl hvb.of_nil (Oc.tot (l.take i) + 1) bs.length (by omega) (Nat.le_refl _)) (by rw [Msg.sl_length _ _ _ (Nat.le_refl _)]; omega)) ?_
    refine Run.val (lt rfl) (Y.assign rfl) ?_
    refine Run.to_end ?_
    refine Ex.go ?_
    refine Tr.seq ?_
    refine Tr.seq ?_
    refine Tr.region ?_
    refine Run.val (lt rfl) (Y.move rfl) ?_
    refine Run.val (lt rfl) (Y.not rfl) ?_
    refine Run.to_end ?_
    refine Ex.go ?_
    refine Tr.cond_f rfl rfl ?_
    refine Tr.to_end ?_
    refine Ex.go ?_
    refine Tr.seq ?_
    refine Tr.region ?_
    refine Run.val (lt rfl) (Y.move rfl) ?_
    refine Run.val (lt rfl) (Y.assign rfl) ?_
    refine Run.val (lt rfl) (Y.assign rfl) ?_
    refine Run.to_end ?_
    refine Ex.go ?_
    refine Tr.to_ret ?_
    refine Ex.ret_then ?_
    refine Ex.ret_block ?_
    refine Ex.ret_then ?_
    refine Ex.ret_block ?_
    refine Ex.ret_then ?_
    refine Ex.keep [0] ?_
    exact Ex.ret2 rfl rfl rfl  ⟨hVle, .slice p n k, q, L, rfl, rfl, hnL ▸ how, by rw [hLc, hk, List.take_length], hRds⟩
  ·have g2 := h2
   try simp only [kb] at g2
   refine Tr.cond_f rfl h2 ?_
   refine Tr.to_exit ?_
   refine Ex.exit_then ?_
   refine Ex.exit_then ?_
   refine Ex.exit_in ?_
   refine Ex.go ?_
   refine Tr.seq ?_
   refine Tr.region ?_
   refine Run.val (lt rfl) (Y.assign rfl) ?_
   refine Run.val (lt rfl) (Y.assign rfl) ?_
   refine Run.to_end ?_
   refine Ex.go ?_
   refine Tr.to_ret ?_
   refine Ex.keep [] ?_
   exact Ex.ret2 rfl rfl rfl  (by exfalso; omega)

theorem dec2_h {V : Vw} {v : Value} {bs : List UInt8} {l : List Oc} (hv : Rd V [] 1 v bs.length (bs.map byteV)) (hbs : bs = Oc.encO l) (hany : l.any Oc.odd = false) (htt : Oc.tot l ≤ 1023) : Does Try.prog 49 [v] V [] (fun u V' H' => V.le V' ∧ ∃ v q L, u = .tuple #[v, .int .i64 0] ∧ H' = [q] ∧ Ow 76 2 v L.length (L.map Opn.cells).flatten q ∧ L.map Opn.c = l ∧ Opn.Rds V' L) := by
  obtain ⟨p, c, rfl, _⟩ := hv.form
  exact dec2_c hv hbs hany htt

theorem enc3_h {V : Vw} {p : Pc} {hv ov : Value} (hp : Pc.R V p hv ov) (hf : Pc.few p = true) (hrt : Pc.right p = true) (hci : 0 ≤ p.ci ∧ p.ci ≤ 4294967295) (hgi : 0 ≤ p.gi ∧ p.gi ≤ 4294967295) : Does Try.prog 18 [.agg (p.cells hv ov)] V [] (fun u V' H' => V' = V ∧ ∃ v s', u = .tuple #[v, .int .i64 0] ∧ H' = [s'] ∧ Ow 5 1 v (Pc.encP p).length ((Pc.encP p).map byteV) s') := by
  obtain ⟨ph, ch, rfl, _⟩ := hp.hw.form
  obtain ⟨L, hLp, ho, hr⟩ := hp.os
  obtain ⟨po, co, rfl, _⟩ := ho.form
  have hf' : Oc.few (L.map Opn.c) = true := by rw [hLp]; simp only [Pc.few, Bool.and_eq_true] at hf; exact hf.1
  have hL : L.length ≤ 1000000 := by have := (Oc.few_iff.1 hf').1; rw [List.length_map] at this; omega
  exact enc3_c ho hr hL hp.hw hLp hf' hrt hp.xid hci hp.yi hp.si hgi

set_option maxHeartbeats 1000000 in
theorem dec3_c {V : Vw} {bs : List UInt8} {pb : Option Addr} {cb : Nat} (hvb : Rd V [] 1 (.slice pb bs.length cb) bs.length (bs.map byteV)) {p : Pc} (hbs : bs = Pc.encP p) (hrt : Pc.right p = true) (hf : Pc.few p = true) (hx : 0 ≤ p.xid ∧ p.xid ≤ 4294967295) (hci : 0 ≤ p.ci ∧ p.ci ≤ 4294967295) (hyi : 0 ≤ p.yi ∧ p.yi ≤ 4294967295) (hsi : 0 ≤ p.si ∧ p.si ≤ 4294967295) (hgi : 0 ≤ p.gi ∧ p.gi ≤ 4294967295)  : Does Try.prog 19 [.slice pb bs.length cb] V [] (fun u V' H' => V.le V' ∧ H' = [] ∧ ∃ hv ov, u = .tuple #[.agg (p.cells hv ov), .int .i64 0] ∧ Pc.R V' p hv ov) := by
 have hq := Pc.right_facts hrt
 have htl := Oc.encE_small hq.2.2.2.2
 have hany : p.os.any Oc.odd = false := by cases h : p.os.any Oc.odd with | false => rfl | true => have e := hq.2.2.2.2; rw [Oc.encE_odd h] at e; cases e
 have hbl : bs.length = 240 + (Oc.tot p.os + 1) := by rw [hbs, Pc.encP_len hq.2.1.2]
 have h0V := Pc.v_0 hbs hq.1
 have h2V := Pc.v_2 hbs hq.2.1.2
 obtain ⟨b, off, c2, cs, et, fz, hw, hc, hkb, hcs⟩ := hvb.opened (by omega)
 obtain ⟨rfl, rfl⟩ : pb = some ⟨b, off, none⟩ ∧ cb = c2 := by cases hw; exact ⟨rfl, rfl⟩
 clear hw
 refine Does.intro Try.func19 rfl rfl (le rfl) (fun B => ?_)
 refine Tr.seq ?_
 refine Tr.region ?_
 refine Run.alloc Cldec_zo36 (lt rfl) (fun b1 => ?_)
 refine Run.val (lt rfl) (Y.assign rfl) ?_
 refine Run.to_end ?_
 refine Ex.go ?_
 refine Tr.seq ?_
 refine Tr.seq ?_
 refine Tr.region ?_
 refine Run.val (lt rfl) (Y.move rfl) ?_
 refine Run.val (lt rfl) (Y.lenSl rfl Cldec_es22) ?_
 refine Run.val (lt rfl) (Y.int rfl rfl rfl) ?_
 refine Run.val (lt rfl) (Y.move rfl) ?_
 rcases Bool.eq_false_or_eq_true (decide (((bs.length : Nat) : Int) < 240)) with h2 | h2
 ·have g2 := h2
  try simp only [kb] at g2
  refine Run.off rfl rfl rfl h2 rfl (lt rfl) ?_
  refine Run.off rfl rfl rfl h2 rfl (lt rfl) ?_
  refine Run.off rfl rfl rfl h2 rfl (lt rfl) ?_
  refine Run.off rfl rfl rfl h2 rfl (lt rfl) ?_
  refine Run.val (lt rfl) (Y.pick_t rfl h2 rfl) ?_
  refine Run.val (lt rfl) (Y.move rfl) ?_
  refine Run.off rfl rfl rfl rfl rfl (lt rfl) ?_
  refine Run.off rfl rfl rfl rfl rfl (lt rfl) ?_
  refine Run.off rfl rfl rfl rfl rfl (lt rfl) ?_
  refine Run.off rfl rfl rfl rfl rfl (lt rfl) ?_
  refine Run.val (lt rfl) (Y.pick_t rfl rfl rfl) ?_
  refine Run.to_end ?_
  refine Ex.go ?_
  refine Tr.cond_t rfl rfl ?_
  refine Tr.seq ?_
  refine Tr.region ?_
  refine Run.val (lt rfl) (Y.buildS (l := []) Cldec_zo36 Cldec_pl36 rfl rfl) ?_
  refine Run.store (s := [(b1, .cells #[.int .i64 0, .int .u32 0, .int .i64 0, .int .i64 0, .int .u32 0, .int .u32 0, .int .u32 0, .int .u32 0, .slice none 0 0, .slice none 0 0] 36 (0, 0))]) rfl rfl Cldec_sz36 (i := 0) rfl rfl (le rfl) rfl rfl ?_
  refine Run.val (lt rfl) (Y.assign rfl) ?_
  refine Run.to_end ?_
  refine Ex.go ?_
  refine Tr.to_ret ?_
  refine Ex.ret_then ?_
  exact Ex.retCell2 [] rfl rfl rfl Cldec_ag36 (Kn.at 0 rfl) rfl (by exfalso; omega)
 ·have g2 := h2
  try simp only [kb] at g2
  refine Run.on rfl rfl rfl h2 ?_
  refine Run.val (lt rfl) (Y.move rfl) ?_
  refine Run.on rfl rfl rfl h2 ?_
  refine Run.val (lt rfl) (Y.idxAddr rfl rfl Cldec_es22 (by omega) (by omega)) ?_
  refine Run.on rfl rfl rfl h2 ?_
  refine Run.val (lt rfl) (Y.load rfl Cldec_ts5 hkb.of_nil (at1 (i := 2) hcs (by omega) ((map_at byteV 0 (by omega)).trans (congrArg some h2V)))) ?_
  refine Run.on rfl rfl rfl h2 ?_
  refine Run.val (lt rfl) (Y.int rfl rfl rfl) ?_
  refine Run.val (lt rfl) (Y.pick_f rfl h2 rfl) ?_
  refine Run.val (lt rfl) (Y.move rfl) ?_
  rcases Bool.eq_false_or_eq_true (decide (((p.hw.length : Nat) : Int) < 1)) with h3 | h3
  ·have g3 := h3
   try simp only [kb] at g3
   refine Run.off rfl rfl rfl h3 rfl (lt rfl) ?_
   refine Run.off rfl rfl rfl h3 rfl (lt rfl) ?_
   refine Run.off rfl rfl rfl h3 rfl (lt rfl) ?_
   refine Run.off rfl rfl rfl h3 rfl (lt rfl) ?_
   refine Run.val (lt rfl) (Y.pick_t rfl h3 rfl) ?_
   refine Run.to_end ?_
   refine Ex.go ?_
   refine Tr.cond_t rfl rfl ?_
   refine Tr.seq ?_
   refine Tr.region ?_
   refine Run.val (lt rfl) (Y.buildS (l := []) Cldec_zo36 Cldec_pl36 rfl rfl) ?_
   refine Run.store (s := [(b1, .cells #[.int .i64 0, .int .u32 0, .int .i64 0, .int .i64 0, .int .u32 0, .int .u32 0, .int .u32 0, .int .u32 0, .slice none 0 0, .slice none 0 0] 36 (0, 0))]) rfl rfl Cldec_sz36 (i := 0) rfl rfl (le rfl) rfl rfl ?_
   refine Run.val (lt rfl) (Y.assign rfl) ?_
   refine Run.to_end ?_
   refine Ex.go ?_
   refine Tr.to_ret ?_
   refine Ex.ret_then ?_
   exact Ex.retCell2 [] rfl rfl rfl Cldec_ag36 (Kn.at 0 rfl) rfl (by exfalso; omega)
  ·have g3 := h3
   try simp only [kb] at g3
   refine Run.on rfl rfl rfl h3 ?_
   refine Run.val (lt rfl) (Y.move rfl) ?_
   refine Run.on rfl rfl rfl h3 ?_
   refine Run.val (lt rfl) (Y.idxAddr rfl rfl Cldec_es22 (by omega) (by omega)) ?_
   refine Run.on rfl rfl rfl h3 ?_
   refine Run.val (lt rfl) (Y.load rfl Cldec_ts5 hkb.of_nil (at1 (i := 2) hcs (by omega) ((map_at byteV 0 (by omega)).trans (congrArg some h2V)))) ?_
   refine Run.on rfl rfl rfl h3 ?_
   refine Run.val (lt rfl) (Y.int rfl rfl rfl) ?_
   refine Run.val (lt rfl) (Y.pick_f rfl h3 rfl) ?_
   refine Run.to_end ?_
   refine Ex.go ?_
   rcases Bool.eq_false_or_eq_true (decide (((p.hw.length : Nat) : Int) > 16)) with h4 | h4
   ·have g4 := h4
    try simp only [kb] at g4
    refine Tr.cond_t rfl h4 ?_
    refine Tr.seq ?_
    refine Tr.region ?_
    refine Run.val (lt rfl) (Y.buildS (l := []) Cldec_zo36 Cldec_pl36 rfl rfl) ?_
    refine Run.store (s := [(b1, .cells #[.int .i64 0, .int .u32 0, .int .i64 0, .int .i64 0, .int .u32 0, .int .u32 0, .int .u32 0, .int .u32 0, .slice none 0 0, .slice none 0 0] 36 (0, 0))]) rfl rfl Cldec_sz36 (i := 0) rfl rfl (le rfl) rfl rfl ?_
    refine Run.val (lt rfl) (Y.assign rfl) ?_
    refine Run.to_end ?_
    refine Ex.go ?_
    refine Tr.to_ret ?_
    refine Ex.ret_then ?_
    exact Ex.retCell2 [] rfl rfl rfl Cldec_ag36 (Kn.at 0 rfl) rfl (by exfalso; omega)
   ·have g4 := h4
    try simp only [kb] at g4
    refine Tr.cond_f rfl h4 ?_
    refine Tr.to_end ?_
    refine Ex.go ?_
    refine Tr.cutx (X := Nat) (fun bp => V) (fun bp => [[(bp, .cells #[.int .i64 p.op, .int .u32 p.xid, .int .i64 p.secs, .int .i64 p.flags, .int .u32 0, .int .u32 0, .int .u32 0, .int .u32 0, .slice none 0 0, .slice none 0 0] 36 (0, 0))], [(b1, .cells #[.int .i64 0, .int .u32 0, .int .i64 0, .int .i64 0, .int .u32 0, .int .u32 0, .int .u32 0, .int .u32 0, .slice none 0 0, .slice none 0 0] 36 (0, 0))]]) (fun bp => [(0, .slice (some ⟨b, off, none⟩) bs.length cb), (2, .pointer (some ⟨b1, 0, none⟩)), (4, .pointer (some ⟨bp, 0, none⟩))]) (fun bp => True) ?_ ?_
    ·refine Tr.anyL [(b, .cells cs et fz)] 16 Cldec_mo ?_
     refine RunL.pure (i := 0) rfl (by kernel_rfl) (by kernel_rfl) (by kernel_rfl) (by kernel_rfl) (fun _ _ _ h => h) (lt rfl) (KnAll.cons hkb.of_nil KnAll.nil) (fun _ => (Y.move rfl)) ?_
     refine RunL.pure (i := 1) rfl (by kernel_rfl) (by kernel_rfl) (by kernel_rfl) (by kernel_rfl) (fun _ _ _ h => h) (lt rfl) (KnAll.cons hkb.of_nil KnAll.nil) (fun _ => (Y.idxAddr rfl rfl Cldec_es22 (by omega) (by omega))) ?_
     refine RunL.take (i := 2) 0 rfl rfl (by kernel_rfl) (by kernel_rfl) (by kernel_rfl) (by kernel_rfl) (fun _ _ _ h => h) (lt rfl) (KnAll.cons hkb.of_nil KnAll.nil) (fun _ => (Y.load rfl Cldec_ts5 Kn.vk1 (at1 (i := 0) hcs (by omega) ((map_at byteV 0 (by omega)).trans (congrArg some h0V))))) ?_
     refine RunL.pure (i := 3) rfl (by kernel_rfl) (by kernel_rfl) (by kernel_rfl) (by kernel_rfl) (fun _ _ _ h => h) (lt rfl) (KnAll.cons hkb.of_nil KnAll.nil) (fun _ => (Y.conv (p.op) rfl Cldec_it5_3 (wrap_i64 (by omega)))) ?_
     refine RunL.pure (i := 4) rfl (by kernel_rfl) (by kernel_rfl) (by kernel_rfl) (by kernel_rfl) (fun _ _ _ h => h) (lt rfl) (KnAll.cons hkb.of_nil KnAll.nil) (fun _ => (Y.move rfl)) ?_
     refine RunL.pure (i := 5) rfl (by kernel_rfl) (by kernel_rfl) (by kernel_rfl) (by kernel_rfl) (fun _ _ _ h => h) (lt rfl) (KnAll.cons hkb.of_nil KnAll.nil) (fun _ => (Y.slice (l := 4) (m := 8) rfl Cldec_es22 rfl rfl (by omega) (by omega))) ?_
     refine RunL.pure (i := 8) rfl (by kernel_rfl) (by kernel_rfl) (by kernel_rfl) (by kernel_rfl) (fun _ _ _ h => h) (lt rfl) (KnAll.cons hkb.of_nil KnAll.nil) (fun _ => (Y.move rfl)) ?_
     refine RunL.pure (i := 9) rfl (by kernel_rfl) (by kernel_rfl) (by kernel_rfl) (by kernel_rfl) (fun _ _ _ h => h) (lt rfl) (KnAll.cons hkb.of_nil KnAll.nil) (fun _ => (Y.slice (l := 8) (m := 10) rfl Cldec_es22 rfl rfl (by omega) (by omega))) ?_
     refine RunL.pure (i := 11) rfl (by kernel_rfl) (by kernel_rfl) (by kernel_rfl) (by kernel_rfl) (fun _ _ _ h => h) (lt rfl) (KnAll.cons hkb.of_nil KnAll.nil) (fun _ => (Y.move rfl)) ?_
     refine RunL.pure (i := 12) rfl (by kernel_rfl) (by kernel_rfl) (by kernel_rfl) (by kernel_rfl) (fun _ _ _ h => h) (lt rfl) (KnAll.cons hkb.of_nil KnAll.nil) (fun _ => (Y.slice (l := 10) (m := 12) rfl Cldec_es22 rfl rfl (by omega) (by omega))) ?_
     refine RunL.two (i := 6) (j := 15) (by kernel_rfl) rfl rfl  ?_ ?_ 
     ·refine Run.call0 (l := [.tmp 30]) rfl rfl rfl (lt rfl) (of3_e (rd_sl hvb.of_nil 4 8 (by decide) (by omega)) (by rw [Msg.sl_length _ _ _ (by omega)]; decide) (Pc.v_xid hbs hx)) ?_
      refine Run.to_end ?_
      refine Ex.anyL (KnAll.cons hkb.of_nil KnAll.nil) ?_
      refine RunL.pure (i := 7) rfl (by kernel_rfl) (by kernel_rfl) (by kernel_rfl) (by kernel_rfl) (fun _ _ _ h => h) (lt rfl) (KnAll.cons hkb.of_nil KnAll.nil) (fun _ => (Y.conv (p.xid) rfl Cldec_it3_32 (wrap_u32 (by omega)))) ?_
      refine RunL.two (i := 10) (j := 15) (by kernel_rfl) rfl rfl  ?_ ?_ 
      ·refine Run.call0 (l := [.tmp 34]) rfl rfl rfl (lt rfl) (of3_e (rd_sl hvb.of_nil 8 10 (by decide) (by omega)) (by rw [Msg.sl_length _ _ _ (by omega)]; decide) (Pc.v_secs hbs hq.2.2.1)) ?_
       refine Run.to_end ?_
       refine Ex.anyL (KnAll.cons hkb.of_nil KnAll.nil) ?_
       refine RunL.two (i := 13) (j := 15) (by kernel_rfl) rfl rfl  ?_ ?_ 
       ·refine Run.call0 (l := [.tmp 37]) rfl rfl rfl (lt rfl) (of3_e (rd_sl hvb.of_nil 10 12 (by decide) (by omega)) (by rw [Msg.sl_length _ _ _ (by omega)]; decide) (Pc.v_flags hbs hq.2.2.2.1)) ?_
        refine Run.to_end ?_
        refine Ex.anyL (KnAll.cons hkb.of_nil KnAll.nil) ?_
        refine RunL.pure (i := 14) rfl (by kernel_rfl) (by kernel_rfl) (by kernel_rfl) (by kernel_rfl) (fun _ _ _ h => h) (lt rfl) (KnAll.cons hkb.of_nil KnAll.nil) (fun _ => (Y.buildS (l := [(0, .tmp 28), (1, .tmp 32), (2, .tmp 35), (3, .tmp 38)]) Cldec_zo36 Cldec_pl36 rfl rfl)) ?_
        refine RunL.one (i := 15) (by kernel_rfl) rfl  ?_ 
        refine Run.alloc Cldec_zo36 (lt rfl) (fun b5 => ?_)
        refine Run.to_end ?_
        refine Ex.anyL (KnAll.cons hkb.of_nil KnAll.nil) ?_
        refine RunL.one (i := 16) (by kernel_rfl) rfl  ?_ 
        refine Run.store (s := [(b5, .cells #[.int .i64 p.op, .int .u32 p.xid, .int .i64 p.secs, .int .i64 p.flags, .int .u32 0, .int .u32 0, .int .u32 0, .int .u32 0, .slice none 0 0, .slice none 0 0] 36 (0, 0))]) rfl rfl Cldec_sz36 (i := 0) rfl rfl (le rfl) rfl rfl ?_
        refine Run.to_end ?_
        refine Ex.anyLz rfl ?_
        refine RunL.done (by kernel_rfl) ?_
        refine Ex.keep [0, 0] ?_
        exact Ex.cutx b5 trivial rfl rfl (subB_cons (by first | rfl | exact congrArg (fun z => some (Value.int _ z)) (by omega)) (subB_cons (by first | rfl | exact congrArg (fun z => some (Value.int _ z)) (by omega)) (subB_cons (by first | rfl | exact congrArg (fun z => some (Value.int _ z)) (by omega)) (subB_nil _))))
       ·refine Run.alloc Cldec_zo36 (lt rfl) (fun b6 => ?_)
        refine Run.to_end ?_
        refine Ex.anyL (KnAll.cons hkb.of_nil KnAll.nil) ?_
        refine RunL.one (i := 13) (by kernel_rfl) rfl  ?_ 
        refine Run.call0 (l := [.tmp 37]) rfl rfl rfl (lt rfl) (of3_e (rd_sl hvb.of_nil 10 12 (by decide) (by omega)) (by rw [Msg.sl_length _ _ _ (by omega)]; decide) (Pc.v_flags hbs hq.2.2.2.1)) ?_
        refine Run.to_end ?_
        refine Ex.anyL (KnAll.cons hkb.of_nil KnAll.nil) ?_
        refine RunL.pure (i := 14) rfl (by kernel_rfl) (by kernel_rfl) (by kernel_rfl) (by kernel_rfl) (fun _ _ _ h => h) (lt rfl) (KnAll.cons hkb.of_nil KnAll.nil) (fun _ => (Y.buildS (l := [(0, .tmp 28), (1, .tmp 32), (2, .tmp 35), (3, .tmp 38)]) Cldec_zo36 Cldec_pl36 rfl rfl)) ?_
        refine RunL.one (i := 16) (by kernel_rfl) rfl  ?_ 
        refine Run.store (s := [(b6, .cells #[.int .i64 p.op, .int .u32 p.xid, .int .i64 p.secs, .int .i64 p.flags, .int .u32 0, .int .u32 0, .int .u32 0, .int .u32 0, .slice none 0 0, .slice none 0 0] 36 (0, 0))]) rfl rfl Cldec_sz36 (i := 0) rfl rfl (le rfl) rfl rfl ?_
        refine Run.to_end ?_
        refine Ex.anyLz rfl ?_
        refine RunL.done (by kernel_rfl) ?_
        refine Ex.keep [0, 0] ?_
        exact Ex.cutx b6 trivial rfl rfl (subB_cons (by first | rfl | exact congrArg (fun z => some (Value.int _ z)) (by omega)) (subB_cons (by first | rfl | exact congrArg (fun z => some (Value.int _ z)) (by omega)) (subB_cons (by first | rfl | exact congrArg (fun z => some (Value.int _ z)) (by omega)) (subB_nil _))))
      ·refine Run.alloc Cldec_zo36 (lt rfl) (fun b7 => ?_)
       refine Run.to_end ?_
       refine Ex.anyL (KnAll.cons hkb.of_nil KnAll.nil) ?_
       refine RunL.one (i := 10) (by kernel_rfl) rfl  ?_ 
       refine Run.call0 (l := [.tmp 34]) rfl rfl rfl (lt rfl) (of3_e (rd_sl hvb.of_nil 8 10 (by decide) (by omega)) (by rw [Msg.sl_length _ _ _ (by omega)]; decide) (Pc.v_secs hbs hq.2.2.1)) ?_
       refine Run.to_end ?_
       refine Ex.anyL (KnAll.cons hkb.of_nil KnAll.nil) ?_
       refine RunL.one (i := 13) (by kernel_rfl) rfl  ?_ 
       refine Run.call0 (l := [.tmp 37]) rfl rfl rfl (lt rfl) (of3_e (rd_sl hvb.of_nil 10 12 (by decide) (by omega)) (by rw [Msg.sl_length _ _ _ (by omega)]; decide) (Pc.v_flags hbs hq.2.2.2.1)) ?_
       refine Run.to_end ?_
       refine Ex.anyL (KnAll.cons hkb.of_nil KnAll.nil) ?_
       refine RunL.pure (i := 14) rfl (by kernel_rfl) (by kernel_rfl) (by kernel_rfl) (by kernel_rfl) (fun _ _ _ h => h) (lt rfl) (KnAll.cons hkb.of_nil KnAll.nil) (fun _ => (Y.buildS (l := [(0, .tmp 28), (1, .tmp 32), (2, .tmp 35), (3, .tmp 38)]) Cldec_zo36 Cldec_pl36 rfl rfl)) ?_
       refine RunL.one (i := 16) (by kernel_rfl) rfl  ?_ 
       refine Run.store (s := [(b7, .cells #[.int .i64 p.op, .int .u32 p.xid, .int .i64 p.secs, .int .i64 p.flags, .int .u32 0, .int .u32 0, .int .u32 0, .int .u32 0, .slice none 0 0, .slice none 0 0] 36 (0, 0))]) rfl rfl Cldec_sz36 (i := 0) rfl rfl (le rfl) rfl rfl ?_
       refine Run.to_end ?_
       refine Ex.anyLz rfl ?_
       refine RunL.done (by kernel_rfl) ?_
       refine Ex.keep [0, 0] ?_
       exact Ex.cutx b7 trivial rfl rfl (subB_cons (by first | rfl | exact congrArg (fun z => some (Value.int _ z)) (by omega)) (subB_cons (by first | rfl | exact congrArg (fun z => some (Value.int _ z)) (by omega)) (subB_cons (by first | rfl | exact congrArg (fun z => some (Value.int _ z)) (by omega)) (subB_nil _))))
     ·refine Run.alloc Cldec_zo36 (lt rfl) (fun b8 => ?_)
      refine Run.to_end ?_
      refine Ex.anyL (KnAll.cons hkb.of_nil KnAll.nil) ?_
      refine RunL.one (i := 6) (by kernel_rfl) rfl  ?_ 
      refine Run.call0 (l := [.tmp 30]) rfl rfl rfl (lt rfl) (of3_e (rd_sl hvb.of_nil 4 8 (by decide) (by omega)) (by rw [Msg.sl_length _ _ _ (by omega)]; decide) (Pc.v_xid hbs hx)) ?_
      refine Run.to_end ?_
      refine Ex.anyL (KnAll.cons hkb.of_nil KnAll.nil) ?_
      refine RunL.pure (i := 7) rfl (by kernel_rfl) (by kernel_rfl) (by kernel_rfl) (by kernel_rfl) (fun _ _ _ h => h) (lt rfl) (KnAll.cons hkb.of_nil KnAll.nil) (fun _ => (Y.conv (p.xid) rfl Cldec_it3_32 (wrap_u32 (by omega)))) ?_
      refine RunL.one (i := 10) (by kernel_rfl) rfl  ?_ 
      refine Run.call0 (l := [.tmp 34]) rfl rfl rfl (lt rfl) (of3_e (rd_sl hvb.of_nil 8 10 (by decide) (by omega)) (by rw [Msg.sl_length _ _ _ (by omega)]; decide) (Pc.v_secs hbs hq.2.2.1)) ?_
      refine Run.to_end ?_
      refine Ex.anyL (KnAll.cons hkb.of_nil KnAll.nil) ?_
      refine RunL.one (i := 13) (by kernel_rfl) rfl  ?_ 
      refine Run.call0 (l := [.tmp 37]) rfl rfl rfl (lt rfl) (of3_e (rd_sl hvb.of_nil 10 12 (by decide) (by omega)) (by rw [Msg.sl_length _ _ _ (by omega)]; decide) (Pc.v_flags hbs hq.2.2.2.1)) ?_
      refine Run.to_end ?_
      refine Ex.anyL (KnAll.cons hkb.of_nil KnAll.nil) ?_
      refine RunL.pure (i := 14) rfl (by kernel_rfl) (by kernel_rfl) (by kernel_rfl) (by kernel_rfl) (fun _ _ _ h => h) (lt rfl) (KnAll.cons hkb.of_nil KnAll.nil) (fun _ => (Y.buildS (l := [(0, .tmp 28), (1, .tmp 32), (2, .tmp 35), (3, .tmp 38)]) Cldec_zo36 Cldec_pl36 rfl rfl)) ?_
      refine RunL.one (i := 16) (by kernel_rfl) rfl  ?_ 
      refine Run.store (s := [(b8, .cells #[.int .i64 p.op, .int .u32 p.xid, .int .i64 p.secs, .int .i64 p.flags, .int .u32 0, .int .u32 0, .int .u32 0, .int .u32 0, .slice none 0 0, .slice none 0 0] 36 (0, 0))]) rfl rfl Cldec_sz36 (i := 0) rfl rfl (le rfl) rfl rfl ?_
      refine Run.to_end ?_
      refine Ex.anyLz rfl ?_
      refine RunL.done (by kernel_rfl) ?_
      refine Ex.keep [0, 0] ?_
      exact Ex.cutx b8 trivial rfl rfl (subB_cons (by first | rfl | exact congrArg (fun z => some (Value.int _ z)) (by omega)) (subB_cons (by first | rfl | exact congrArg (fun z => some (Value.int _ z)) (by omega)) (subB_cons (by first | rfl | exact congrArg (fun z => some (Value.int _ z)) (by omega)) (subB_nil _))))
    ·rintro bp _
     refine Tr.seq ?_
     refine Tr.region ?_
     refine Run.val (lt rfl) (Y.move rfl) ?_
     refine Run.val (lt rfl) (Y.slice (l := 12) (m := 16) rfl Cldec_es22 rfl rfl (by omega) (by omega)) ?_
     refine Run.call0 (l := [.tmp 41]) rfl rfl rfl (lt rfl) (of3_e (rd_sl hvb.of_nil 12 16 (by decide) (by omega)) (by rw [Msg.sl_length _ _ _ (by omega)]; decide) (Pc.v_ci hbs hci)) ?_
     refine Run.val (lt rfl) (Y.conv (p.ci) rfl Cldec_it3_33 (wrap_u32 (by omega))) ?_
     refine Run.val (lt rfl) (Y.fieldAddr rfl Cldec_fo36_4) ?_
     refine Run.store (s := [(bp, .cells #[.int .i64 p.op, .int .u32 p.xid, .int .i64 p.secs, .int .i64 p.flags, .int .u32 p.ci, .int .u32 0, .int .u32 0, .int .u32 0, .slice none 0 0, .slice none 0 0] 36 (0, 0))]) rfl rfl Cldec_sz33 (i := 0) rfl rfl (le rfl) rfl rfl ?_
     refine Run.to_end ?_
     refine Ex.go ?_
     refine Tr.seq ?_
     refine Tr.region ?_
     refine Run.val (lt rfl) (Y.move rfl) ?_
     refine Run.val (lt rfl) (Y.slice (l := 16) (m := 20) rfl Cldec_es22 rfl rfl (by omega) (by omega)) ?_
     refine Run.call0 (l := [.tmp 46]) rfl rfl rfl (lt rfl) (of3_e (rd_sl hvb.of_nil 16 20 (by decide) (by omega)) (by rw [Msg.sl_length _ _ _ (by omega)]; decide) (Pc.v_yi hbs hyi)) ?_
     refine Run.val (lt rfl) (Y.conv (p.yi) rfl Cldec_it3_33 (wrap_u32 (by omega))) ?_
     refine Run.val (lt rfl) (Y.fieldAddr rfl Cldec_fo36_5) ?_
     refine Run.store (s := [(bp, .cells #[.int .i64 p.op, .int .u32 p.xid, .int .i64 p.secs, .int .i64 p.flags, .int .u32 p.ci, .int .u32 p.yi, .int .u32 0, .int .u32 0, .slice none 0 0, .slice none 0 0] 36 (0, 0))]) rfl rfl Cldec_sz33 (i := 0) rfl rfl (le rfl) rfl rfl ?_
     refine Run.to_end ?_
     refine Ex.go ?_
     refine Tr.seq ?_
     refine Tr.region ?_
     refine Run.val (lt rfl) (Y.move rfl) ?_
     refine Run.val (lt rfl) (Y.slice (l := 20) (m := 24) rfl Cldec_es22 rfl rfl (by omega) (by omega)) ?_
     refine Run.call0 (l := [.tmp 51]) rfl rfl rfl (lt rfl) (of3_e (rd_sl hvb.of_nil 20 24 (by decide) (by omega)) (by rw [Msg.sl_length _ _ _ (by omega)]; decide) (Pc.v_si hbs hsi)) ?_
     refine Run.val (lt rfl) (Y.conv (p.si) rfl Cldec_it3_33 (wrap_u32 (by omega))) ?_
     refine Run.val (lt rfl) (Y.fieldAddr rfl Cldec_fo36_6) ?_
     refine Run.store (s := [(bp, .cells #[.int .i64 p.op, .int .u32 p.xid, .int .i64 p.secs, .int .i64 p.flags, .int .u32 p.ci, .int .u32 p.yi, .int .u32 p.si, .int .u32 0, .slice none 0 0, .slice none 0 0] 36 (0, 0))]) rfl rfl Cldec_sz33 (i := 0) rfl rfl (le rfl) rfl rfl ?_
     refine Run.to_end ?_
     refine Ex.go ?_
     refine Tr.seq ?_
     refine Tr.region ?_
     refine Run.val (lt rfl) (Y.move rfl) ?_
     refine Run.val (lt rfl) (Y.slice (l := 24) (m := 28) rfl Cldec_es22 rfl rfl (by omega) (by omega)) ?_
     refine Run.call0 (l := [.tmp 56]) rfl rfl rfl (lt rfl) (of3_e (rd_sl hvb.of_nil 24 28 (by decide) (by omega)) (by rw [Msg.sl_length _ _ _ (by omega)]; decide) (Pc.v_gi hbs hgi)) ?_
     refine Run.val (lt rfl) (Y.conv (p.gi) rfl Cldec_it3_33 (wrap_u32 (by omega))) ?_
     refine Run.val (lt rfl) (Y.fieldAddr rfl Cldec_fo36_7) ?_
     refine Run.store (s := [(bp, .cells #[.int .i64 p.op, .int .u32 p.xid, .int .i64 p.secs, .int .i64 p.flags, .int .u32 p.ci, .int .u32 p.yi, .int .u32 p.si, .int .u32 p.gi, .slice none 0 0, .slice none 0 0] 36 (0, 0))]) rfl rfl Cldec_sz33 (i := 0) rfl rfl (le rfl) rfl rfl ?_
     refine Run.to_end ?_
     refine Ex.go ?_
     refine Tr.seq ?_
     refine Tr.region ?_
     refine Run.buildSlice0 Cldec_es22 (lt rfl) (fun b9 => ?_)
     refine Run.val (lt rfl) (Y.move rfl) ?_
     refine Run.val (lt rfl) (Y.move rfl) ?_
     refine Run.val (lt rfl) (Y.idxAddr rfl rfl Cldec_es22 (by omega) (by omega)) ?_
     refine Run.val (lt rfl) (Y.load rfl Cldec_ts5 hkb.of_nil (at1 (i := 2) hcs (by omega) ((map_at byteV 0 (by omega)).trans (congrArg some h2V)))) ?_
     refine Run.val (lt rfl) (Y.conv (((p.hw.length : Nat) : Int)) rfl Cldec_it5_3 (wrap_i64 (by omega))) ?_
     refine Run.val (lt rfl) (Y.add rfl rfl (by omega)) ?_
     refine Run.val (lt rfl) (Y.slice (l := 28) (m := 28 + p.hw.length) rfl Cldec_es22 rfl rfl (by omega) (by omega)) ?_
     refine Run.append (n := 0) (m := p.hw.length) (xs := []) (ys := p.hw.map byteV) rfl rfl Cldec_es22 Cldec_zi5 (by decide) (j := 0) rfl (Ow.lit (cur := #[]) rfl (by decide)) (Src.of_rd Cldec_es22 (rd_eq (rd_sl hvb.of_nil 28 (28 + p.hw.length) (by omega) (by omega)) (by rw [hbs]; exact Pc.p_hw p))) (by omega) (by omega) (all_one_bytes _) (lt rfl) (fun v10 s11 ho12 hf => ?_)
     obtain ⟨p10, c10, rfl⟩ := hf
     refine Run.val (lt rfl) (Y.fieldAddr rfl Cldec_fo36_8) ?_
     refine Run.store (s := [(bp, .cells #[.int .i64 p.op, .int .u32 p.xid, .int .i64 p.secs, .int .i64 p.flags, .int .u32 p.ci, .int .u32 p.yi, .int .u32 p.si, .int .u32 p.gi, .slice p10 (0 + p.hw.length) c10, .slice none 0 0] 36 (0, 0))]) rfl rfl Cldec_sz22 (i := 1) rfl rfl (le rfl) rfl rfl ?_
     refine Run.to_end ?_
     refine Ex.go ?_
     refine Tr.seq ?_
     refine Tr.region ?_
     refine Run.keepTo (H' := [s11, [(bp, .cells #[.int .i64 p.op, .int .u32 p.xid, .int .i64 p.secs, .int .i64 p.flags, .int .u32 p.ci, .int .u32 p.yi, .int .u32 p.si, .int .u32 p.gi, .slice p10 (0 + p.hw.length) c10, .slice none 0 0] 36 (0, 0))], [(b1, .cells #[.int .i64 0, .int .u32 0, .int .i64 0, .int .i64 0, .int .u32 0, .int .u32 0, .int .u32 0, .int .u32 0, .slice none 0 0, .slice none 0 0] 36 (0, 0))]]) [0, 0, 0] rfl ?_
     refine Run.show (fun V13 hleV13 hshV13 => ?_)
     have hsh := ho12.shows _ hshV13
     replace hvb := hvb.le hleV13
     replace hkb := hkb.le hleV13
     have hVle := hleV13
     have hsh2 : Rd V13 [] 1 (.slice p10 (0 + p.hw.length) c10) p.hw.length (p.hw.map byteV) := by have h := hsh; simpa using h
     have hRb : Pc.R V13 (Pc.bare p) (.slice p10 (0 + p.hw.length) c10) (.slice none 0 0) := ⟨hsh2, Pc.Rs0 _, hx, hyi, hsi⟩
     refine Run.val (lt rfl) (Y.loadAgg rfl Cldec_ag36 (Kn.at 0 rfl) rfl) ?_
     refine Run.call [] (l := [.tmp 71]) rfl rfl rfl (lt rfl) (enc3_h (p := (Pc.bare p)) hRb (Pc.bare_few hf) (Pc.bare_right hrt) hci hgi) (fun v14 V2 H2 _ hR => ?_)
     obtain ⟨hV, z15, s16, rfl, rfl, hoc17⟩ := hR; replace hV := hV.symm; subst hV; obtain ⟨p18, c19, rfl⟩ := hoc17.form
     refine Run.heapTo (H' := [[(bp, .cells #[.int .i64 p.op, .int .u32 p.xid, .int .i64 p.secs, .int .i64 p.flags, .int .u32 p.ci, .int .u32 p.yi, .int .u32 p.si, .int .u32 p.gi, .slice p10 (0 + p.hw.length) c10, .slice none 0 0] 36 (0, 0))], [(b1, .cells #[.int .i64 0, .int .u32 0, .int .i64 0, .int .i64 0, .int .u32 0, .int .u32 0, .int .u32 0, .int .u32 0, .slice none 0 0, .slice none 0 0] 36 (0, 0))], s16]) rfl ?_
     refine Run.val (lt rfl) (Y.move rfl) ?_
     refine Run.val (lt rfl) (Y.extract rfl rfl) ?_
     refine Run.val (lt rfl) (Y.extract rfl rfl) ?_
     refine Run.val (lt rfl) (Y.assign rfl) ?_
     refine Run.val (lt rfl) (Y.assign rfl) ?_
     refine Run.to_end ?_
     refine Ex.go ?_
     refine Tr.seq ?_
     refine Tr.seq ?_
     refine Tr.quiet Cldec_mo (by kernel_rfl) ?_
     have hcl : (Pc.encP (Pc.bare p)).length = 240 + (Oc.tot [] + 1) := Pc.encP_len (p := Pc.bare p) hq.2.1.2
     have hcc := (show Rd V13 [[(bp, .cells #[.int .i64 p.op, .int .u32 p.xid, .int .i64 p.secs, .int .i64 p.flags, .int .u32 p.ci, .int .u32 p.yi, .int .u32 p.si, .int .u32 p.gi, .slice p10 (0 + p.hw.length) c10, .slice none 0 0] 36 (0, 0))], [(b1, .cells #[.int .i64 0, .int .u32 0, .int .i64 0, .int .i64 0, .int .u32 0, .int .u32 0, .int .u32 0, .int .u32 0, .slice none 0 0, .slice none 0 0] 36 (0, 0))], s16] 1 (.slice p18 (Pc.encP (Pc.bare p)).length c19) ((Pc.encP (Pc.bare p)).length) ((Pc.encP (Pc.bare p)).map byteV) from hoc17.rd 2 rfl).cap
     refine RunQ.val (lt rfl) (Y.move rfl) ?_
     refine RunQ.val (lt rfl) (Y.int (r := .bool false) rfl rfl rfl) ?_
     refine RunQ.val (lt rfl) (Y.move rfl) ?_
     refine RunQ.on rfl rfl rfl rfl ?_
     refine RunQ.val (lt rfl) (Y.move rfl) ?_
     refine RunQ.on rfl rfl rfl rfl ?_
     refine RunQ.val (lt rfl) (Y.slice (l := 0) (m := 240) rfl Cldec_es22 rfl rfl (by omega) (by omega)) ?_
     refine RunQ.on rfl rfl rfl rfl ?_
     refine RunQ.val (lt rfl) (Y.bytesStr (bs := (Msg.sl (Pc.encP (Pc.bare p)) 0 240)) rfl Cldec_es22 Cldec_tg5 Cldec_st9 (rd_sl (hoc17.rd 2 rfl) 0 240 (by decide) (by omega))) ?_
     refine RunQ.on rfl rfl rfl rfl ?_
     refine RunQ.val (lt rfl) (Y.move rfl) ?_
     refine RunQ.on rfl rfl rfl rfl ?_
     refine RunQ.val (lt rfl) (Y.slice (l := 0) (m := 240) rfl Cldec_es22 rfl rfl (by omega) (by omega)) ?_
     refine RunQ.on rfl rfl rfl rfl ?_
     refine RunQ.val (lt rfl) (Y.bytesStr (bs := (Msg.sl bs 0 240)) rfl Cldec_es22 Cldec_tg5 Cldec_st9 (rd_sl hvb.of_nil 0 240 (by decide) (by omega))) ?_
     refine RunQ.on rfl rfl rfl rfl ?_
     refine RunQ.val (lt rfl) (Y.neStr rfl rfl) ?_
     refine RunQ.val (lt rfl) (Y.pick_f rfl rfl rfl) ?_
     refine RunQ.to_end ?_
     refine Ex.go ?_
     refine Tr.cond_f rfl (by rw [hbs, Pc.p_head hq.2.1.2, Pc.p_head (p := Pc.bare p) hq.2.1.2, Pc.bare_head]; simp) ?_
     refine Tr.to_end ?_
     refine Ex.go ?_
     refine Tr.seq ?_
     refine Tr.region ?_
     refine Run.val (lt rfl) (Y.move rfl) ?_
     refine Run.val (lt rfl) (Y.slice (l := 240) (m := bs.length) rfl Cldec_es22 rfl rfl (by omega) (by omega)) ?_
     have hob := rd_eq (rd_sl hvb 240 bs.length (by omega) (Nat.le_refl _)) (show Msg.sl bs 240 bs.length = Oc.encO p.os by rw [hbl, hbs]; exact Pc.p_opts hq.2.1.2)
     refine Run.call [] (l := [.tmp 89]) rfl rfl rfl (lt rfl) (dec2_h (l := p.os) hob rfl hany htl) (fun v20 V2 H2 hle21 hR => ?_)
     obtain ⟨_, z22, s23, L24, rfl, rfl, hol25, hLm26, hRm27⟩ := hR; obtain ⟨p28, c29, rfl⟩ := hol25.form
     obtain ⟨Vs30, hVe⟩ : ∃ V3 : Vw, V3 = V2 := ⟨_, rfl⟩
     subst hVe
     replace hvb := hvb.le hle21
     replace hkb := hkb.le hle21
     replace hsh := hsh.le hle21
     replace hsh2 := hsh2.le hle21
     replace hVle := Vw.le_trans hVle hle21
     refine Run.heapTo (H' := [[(bp, .cells #[.int .i64 p.op, .int .u32 p.xid, .int .i64 p.secs, .int .i64 p.flags, .int .u32 p.ci, .int .u32 p.yi, .int .u32 p.si, .int .u32 p.gi, .slice p10 (0 + p.hw.length) c10, .slice none 0 0] 36 (0, 0))], [(b1, .cells #[.int .i64 0, .int .u32 0, .int .i64 0, .int .i64 0, .int .u32 0, .int .u32 0, .int .u32 0, .int .u32 0, .slice none 0 0, .slice none 0 0] 36 (0, 0))], s16, s23]) rfl ?_
     refine Run.val (lt rfl) (Y.move rfl) ?_
     refine Run.val (lt rfl) (Y.extract rfl rfl) ?_
     refine Run.val (lt rfl) (Y.extract rfl rfl) ?_
     refine Run.val (lt rfl) (Y.assign rfl) ?_
     refine Run.val (lt rfl) (Y.assign rfl) ?_
     refine Run.to_end ?_
     refine Ex.go ?_
     refine Tr.seq ?_
     refine Tr.seq ?_
     refine Tr.region ?_
     refine Run.val (lt rfl) (Y.move rfl) ?_
     refine Run.val (lt rfl) (Y.int (r := .bool false) rfl rfl rfl) ?_
     refine Run.to_end ?_
     refine Ex.go ?_
     refine Tr.cond_f rfl rfl ?_
     refine Tr.to_end ?_
     refine Ex.go ?_
     refine Tr.seq ?_
     refine Tr.region ?_
     refine Run.val (lt rfl) (Y.move rfl) ?_
     refine Run.val (lt rfl) (Y.fieldAddr rfl Cldec_fo36_9) ?_
     refine Run.store (s := [(bp, .cells #[.int .i64 p.op, .int .u32 p.xid, .int .i64 p.secs, .int .i64 p.flags, .int .u32 p.ci, .int .u32 p.yi, .int .u32 p.si, .int .u32 p.gi, .slice p10 (0 + p.hw.length) c10, .slice p28 L24.length c29] 36 (0, 0))]) rfl rfl Cldec_sz34 (i := 0) rfl rfl (le rfl) rfl rfl ?_
     refine Run.to_end ?_
     refine Ex.go ?_
     refine Tr.seq ?_
     refine Tr.region ?_
     refine Run.val (lt rfl) (Y.loadAgg rfl Cldec_ag36 (Kn.at 0 rfl) rfl) ?_
     refine Run.store (s := [(b1, .cells #[.int .i64 p.op, .int .u32 p.xid, .int .i64 p.secs, .int .i64 p.flags, .int .u32 p.ci, .int .u32 p.yi, .int .u32 p.si, .int .u32 p.gi, .slice p10 (0 + p.hw.length) c10, .slice p28 L24.length c29] 36 (0, 0))]) rfl rfl Cldec_sz36 (i := 1) rfl rfl (le rfl) rfl rfl ?_
     refine Run.val (lt rfl) (Y.assign rfl) ?_
     refine Run.to_end ?_
     refine Ex.go ?_
     refine Tr.to_ret ?_
     refine Ex.keepTo (H' := [s23, [(bp, .cells #[.int .i64 p.op, .int .u32 p.xid, .int .i64 p.secs, .int .i64 p.flags, .int .u32 p.ci, .int .u32 p.yi, .int .u32 p.si, .int .u32 p.gi, .slice p10 (0 + p.hw.length) c10, .slice p28 L24.length c29] 36 (0, 0))], [(b1, .cells #[.int .i64 p.op, .int .u32 p.xid, .int .i64 p.secs, .int .i64 p.flags, .int .u32 p.ci, .int .u32 p.yi, .int .u32 p.si, .int .u32 p.gi, .slice p10 (0 + p.hw.length) c10, .slice p28 L24.length c29] 36 (0, 0))], s16]) [3, 0, 0, 0] rfl ?_
     refine Ex.show (fun V31 hleV31 hshV31 => ?_)
     have hso := hol25.shows _ hshV31
     replace hvb := hvb.le hleV31
     replace hkb := hkb.le hleV31
     replace hsh := hsh.le hleV31
     replace hsh2 := hsh2.le hleV31
     replace hRm27 := hRm27.le hleV31
     replace hVle := Vw.le_trans hVle hleV31
     exact Ex.retCell2 [] rfl rfl rfl Cldec_ag36 (Kn.at 1 rfl) rfl ⟨hVle, rfl, .slice p10 (0 + p.hw.length) c10, .slice p28 L24.length c29, rfl, hsh2, ⟨L24, hLm26, hso, hRm27⟩, hx, hyi, hsi⟩

theorem dec3_h {V : Vw} {v : Value} {bs : List UInt8} {p : Pc} (hv : Rd V [] 1 v bs.length (bs.map byteV)) (hbs : bs = Pc.encP p) (hrt : Pc.right p = true) (hf : Pc.few p = true) (hx : 0 ≤ p.xid ∧ p.xid ≤ 4294967295) (hci : 0 ≤ p.ci ∧ p.ci ≤ 4294967295) (hyi : 0 ≤ p.yi ∧ p.yi ≤ 4294967295) (hsi : 0 ≤ p.si ∧ p.si ≤ 4294967295) (hgi : 0 ≤ p.gi ∧ p.gi ≤ 4294967295) : Does Try.prog 19 [v] V [] (fun u V' H' => V.le V' ∧ H' = [] ∧ ∃ hv ov, u = .tuple #[.agg (p.cells hv ov), .int .i64 0] ∧ Pc.R V' p hv ov) := by
  obtain ⟨pb, cb, rfl, _⟩ := hv.form
  exact dec3_c hv hbs hrt hf hx hci hyi hsi hgi

theorem asked_c {V : Vw} {L : List Opn} {po : Option Addr} {co : Nat} (ho : Rd V [] 2 (.slice po L.length co) L.length (L.map Opn.cells).flatten) (hr : Opn.Rds V L) (hL : L.length ≤ 1000000) {p : Pc} {ph : Option Addr} {ch : Nat} (hh : Rd V [] 1 (.slice ph p.hw.length ch) p.hw.length (p.hw.map byteV)) (hLp : L.map Opn.c = p.os)  : Does Try.prog 21 [.agg #[.int .i64 p.op, .int .u32 p.xid, .int .i64 p.secs, .int .i64 p.flags, .int .u32 p.ci, .int .u32 p.yi, .int .u32 p.si, .int .u32 p.gi, .slice ph p.hw.length ch, .slice po L.length co]] V [] (Pv (.tuple #[.int .u32 (Pc.asked p), .int .i64 (Pc.asks p)]) V []) := by
 refine Does.intro Try.func21 rfl rfl (le rfl) (fun B => ?_)
 refine Tr.seq ?_
 refine Tr.region ?_
 refine Run.box rfl (lt rfl) (fun b1 => ?_)
 refine Run.val (lt rfl) (Y.assign rfl) ?_
 refine Run.val (lt rfl) (Y.assign rfl) ?_
 refine Run.to_end ?_
 refine Ex.go ?_
 refine Tr.seq ?_
 refine Tr.region ?_
 refine Run.val (lt rfl) (Y.fieldAddr rfl Cldec_fo36_4) ?_
 refine Run.val (lt rfl) (Y.load rfl Cldec_ts33 (Kn.at 0 rfl) rfl) ?_
 refine Run.val (lt rfl) (Y.assign rfl) ?_
 refine Run.to_end ?_
 refine Ex.go ?_
 refine Tr.seq ?_
 refine Tr.region ?_
 refine Run.val (lt rfl) (Y.assign rfl) ?_
 refine Run.to_end ?_
 refine Ex.go ?_
 refine Tr.seq ?_
 refine Tr.region ?_
 refine Run.val (lt rfl) (Y.fieldAddr rfl Cldec_fo36_9) ?_
 refine Run.val (lt rfl) (Y.load rfl Cldec_ts34 (Kn.at 0 rfl) rfl) ?_
 refine Run.call [] (l := [.tmp 14, .const (.int .i64 50)]) rfl rfl rfl (lt rfl) (rfind_c (code := 50) ho hr hL) (fun v2 V2 H2 _ hR => ?_)
 obtain ⟨hV, rfl, z3, rfl, hd4⟩ := hR; replace hV := hV.symm; subst hV; obtain ⟨p5, c6, rfl, _⟩ := hd4.form
 refine Run.val (lt rfl) (Y.move rfl) ?_
 refine Run.val (lt rfl) (Y.extract rfl rfl) ?_
 refine Run.val (lt rfl) (Y.extract rfl rfl) ?_
 refine Run.val (lt rfl) (Y.assign rfl) ?_
 refine Run.val (lt rfl) (Y.assign rfl) ?_
 refine Run.to_end ?_
 refine Ex.go ?_
 refine Tr.seq ?_
 refine Tr.seq ?_
 refine Tr.region ?_
 refine Run.val (lt rfl) (Y.move rfl) ?_
 refine Run.val (lt rfl) (Y.lenSl rfl Cldec_es22) ?_
 refine Run.val (lt rfl) (Y.int rfl rfl rfl) ?_
 refine Run.to_end ?_
 refine Ex.go ?_
 rcases Bool.eq_false_or_eq_true ((((Oc.fd 50 (L.map Opn.c)).length : Nat) : Int) == 4) with h7 | h7
 ·have g7 := h7
  try simp only [kb] at g7
  have hv50 := Cli.val4 (l := (Oc.fd 50 (L.map Opn.c))) (by omega)
  refine Tr.cond_t rfl h7 ?_
  refine Tr.region ?_
  refine Run.val (lt rfl) (Y.move rfl) ?_
  refine Run.call0 (l := [.tmp 21]) rfl rfl rfl (lt rfl) (of3_h (bs := (Oc.fd 50 (L.map Opn.c))) hd4.of_nil (by omega)) ?_
  refine Run.val (lt rfl) (Y.conv (val (Oc.fd 50 (L.map Opn.c))) rfl Cldec_it3_33 (wrap_u32 (by omega))) ?_
  refine Run.val (lt rfl) (Y.assign rfl) ?_
  refine Run.to_end ?_
  refine Ex.go ?_
  refine Tr.seq ?_
  refine Tr.region ?_
  refine Run.val (lt rfl) (Y.fieldAddr rfl Cldec_fo36_9) ?_
  refine Run.val (lt rfl) (Y.load rfl Cldec_ts34 (Kn.at 0 rfl) rfl) ?_
  refine Run.call [] (l := [.tmp 26, .const (.int .i64 51)]) rfl rfl rfl (lt rfl) (rfind_c (code := 51) ho hr hL) (fun v8 V2 H2 _ hR => ?_)
  obtain ⟨hV, rfl, z9, rfl, hd10⟩ := hR; replace hV := hV.symm; subst hV; obtain ⟨p11, c12, rfl, _⟩ := hd10.form
  refine Run.val (lt rfl) (Y.move rfl) ?_
  refine Run.val (lt rfl) (Y.extract rfl rfl) ?_
  refine Run.val (lt rfl) (Y.extract rfl rfl) ?_
  refine Run.val (lt rfl) (Y.assign rfl) ?_
  refine Run.val (lt rfl) (Y.assign rfl) ?_
  refine Run.to_end ?_
  refine Ex.go ?_
  refine Tr.seq ?_
  refine Tr.seq ?_
  refine Tr.region ?_
  refine Run.val (lt rfl) (Y.move rfl) ?_
  refine Run.val (lt rfl) (Y.lenSl rfl Cldec_es22) ?_
  refine Run.val (lt rfl) (Y.int rfl rfl rfl) ?_
  refine Run.to_end ?_
  refine Ex.go ?_
  rcases Bool.eq_false_or_eq_true ((((Oc.fd 51 (L.map Opn.c)).length : Nat) : Int) == 4) with h13 | h13
  ·have g13 := h13
   try simp only [kb] at g13
   refine Tr.cond_t rfl h13 ?_
   refine Tr.region ?_
   refine Run.val (lt rfl) (Y.move rfl) ?_
   refine Run.call0 (l := [.tmp 33]) rfl rfl rfl (lt rfl) (of3_h (bs := (Oc.fd 51 (L.map Opn.c))) hd10.of_nil (by omega)) ?_
   refine Run.val (lt rfl) (Y.assign rfl) ?_
   refine Run.to_end ?_
   refine Ex.go ?_
   refine Tr.seq ?_
   refine Tr.region ?_
   refine Run.val (lt rfl) (Y.move rfl) ?_
   refine Run.val (lt rfl) (Y.move rfl) ?_
   refine Run.val (lt rfl) (Y.assign rfl) ?_
   refine Run.val (lt rfl) (Y.assign rfl) ?_
   refine Run.to_end ?_
   refine Ex.go ?_
   refine Tr.to_ret ?_
   refine Ex.keep [] ?_
   exact Ex.ret2 rfl rfl rfl  ⟨by rw [show Pc.asked p = _ from by unfold Pc.asked; rw [← hLp, if_pos (by omega)], show Pc.asks p = _ from by unfold Pc.asks; rw [← hLp, if_pos (by omega)]]; try rfl, rfl, rfl⟩
  ·have g13 := h13
   try simp only [kb] at g13
   refine Tr.cond_f rfl h13 ?_
   refine Tr.to_end ?_
   refine Ex.go ?_
   refine Tr.seq ?_
   refine Tr.region ?_
   refine Run.val (lt rfl) (Y.move rfl) ?_
   refine Run.val (lt rfl) (Y.move rfl) ?_
   refine Run.val (lt rfl) (Y.assign rfl) ?_
   refine Run.val (lt rfl) (Y.assign rfl) ?_
   refine Run.to_end ?_
   refine Ex.go ?_
   refine Tr.to_ret ?_
   refine Ex.keep [] ?_
   exact Ex.ret2 rfl rfl rfl  ⟨by rw [show Pc.asked p = _ from by unfold Pc.asked; rw [← hLp, if_pos (by omega)], show Pc.asks p = _ from by unfold Pc.asks; rw [← hLp, if_neg (by omega)]]; try rfl, rfl, rfl⟩
 ·have g7 := h7
  try simp only [kb] at g7
  refine Tr.cond_f rfl h7 ?_
  refine Tr.to_end ?_
  refine Ex.go ?_
  refine Tr.seq ?_
  refine Tr.region ?_
  refine Run.val (lt rfl) (Y.fieldAddr rfl Cldec_fo36_9) ?_
  refine Run.val (lt rfl) (Y.load rfl Cldec_ts34 (Kn.at 0 rfl) rfl) ?_
  refine Run.call [] (l := [.tmp 26, .const (.int .i64 51)]) rfl rfl rfl (lt rfl) (rfind_c (code := 51) ho hr hL) (fun v14 V2 H2 _ hR => ?_)
  obtain ⟨hV, rfl, z15, rfl, hd16⟩ := hR; replace hV := hV.symm; subst hV; obtain ⟨p17, c18, rfl, _⟩ := hd16.form
  refine Run.val (lt rfl) (Y.move rfl) ?_
  refine Run.val (lt rfl) (Y.extract rfl rfl) ?_
  refine Run.val (lt rfl) (Y.extract rfl rfl) ?_
  refine Run.val (lt rfl) (Y.assign rfl) ?_
  refine Run.val (lt rfl) (Y.assign rfl) ?_
  refine Run.to_end ?_
  refine Ex.go ?_
  refine Tr.seq ?_
  refine Tr.seq ?_
  refine Tr.region ?_
  refine Run.val (lt rfl) (Y.move rfl) ?_
  refine Run.val (lt rfl) (Y.lenSl rfl Cldec_es22) ?_
  refine Run.val (lt rfl) (Y.int rfl rfl rfl) ?_
  refine Run.to_end ?_
  refine Ex.go ?_
  rcases Bool.eq_false_or_eq_true ((((Oc.fd 51 (L.map Opn.c)).length : Nat) : Int) == 4) with h19 | h19
  ·have g19 := h19
   try simp only [kb] at g19
   refine Tr.cond_t rfl h19 ?_
   refine Tr.region ?_
   refine Run.val (lt rfl) (Y.move rfl) ?_
   refine Run.call0 (l := [.tmp 33]) rfl rfl rfl (lt rfl) (of3_h (bs := (Oc.fd 51 (L.map Opn.c))) hd16.of_nil (by omega)) ?_
   refine Run.val (lt rfl) (Y.assign rfl) ?_
   refine Run.to_end ?_
   refine Ex.go ?_
   refine Tr.seq ?_
   refine Tr.region ?_
   refine Run.val (lt rfl) (Y.move rfl) ?_
   refine Run.val (lt rfl) (Y.move rfl) ?_
   refine Run.val (lt rfl) (Y.assign rfl) ?_
   refine Run.val (lt rfl) (Y.assign rfl) ?_
   refine Run.to_end ?_
   refine Ex.go ?_
   refine Tr.to_ret ?_
   refine Ex.keep [] ?_
   exact Ex.ret2 rfl rfl rfl  ⟨by rw [show Pc.asked p = _ from by unfold Pc.asked; rw [← hLp, if_neg (by omega)], show Pc.asks p = _ from by unfold Pc.asks; rw [← hLp, if_pos (by omega)]]; try rfl, rfl, rfl⟩
  ·have g19 := h19
   try simp only [kb] at g19
   refine Tr.cond_f rfl h19 ?_
   refine Tr.to_end ?_
   refine Ex.go ?_
   refine Tr.seq ?_
   refine Tr.region ?_
   refine Run.val (lt rfl) (Y.move rfl) ?_
   refine Run.val (lt rfl) (Y.move rfl) ?_
   refine Run.val (lt rfl) (Y.assign rfl) ?_
   refine Run.val (lt rfl) (Y.assign rfl) ?_
   refine Run.to_end ?_
   refine Ex.go ?_
   refine Tr.to_ret ?_
   refine Ex.keep [] ?_
   exact Ex.ret2 rfl rfl rfl  ⟨by rw [show Pc.asked p = _ from by unfold Pc.asked; rw [← hLp, if_neg (by omega)], show Pc.asks p = _ from by unfold Pc.asks; rw [← hLp, if_neg (by omega)]]; try rfl, rfl, rfl⟩

theorem client_c {V : Vw} {L : List Opn} {po : Option Addr} {co : Nat} (ho : Rd V [] 2 (.slice po L.length co) L.length (L.map Opn.cells).flatten) (hr : Opn.Rds V L) (hL : L.length ≤ 1000000) {p : Pc} {ph : Option Addr} {ch : Nat} (hh : Rd V [] 1 (.slice ph p.hw.length ch) p.hw.length (p.hw.map byteV)) (hLp : L.map Opn.c = p.os)  : Does Try.prog 22 [.agg #[.int .i64 p.op, .int .u32 p.xid, .int .i64 p.secs, .int .i64 p.flags, .int .u32 p.ci, .int .u32 p.yi, .int .u32 p.si, .int .u32 p.gi, .slice ph p.hw.length ch, .slice po L.length co]] V [] (Pv (.string (Pc.client p)) V []) := by
 refine Does.intro Try.func22 rfl rfl (le rfl) (fun B => ?_)
 refine Tr.seq ?_
 refine Tr.region ?_
 refine Run.box rfl (lt rfl) (fun b1 => ?_)
 refine Run.val (lt rfl) (Y.assign rfl) ?_
 refine Run.to_end ?_
 refine Ex.go ?_
 refine Tr.seq ?_
 refine Tr.region ?_
 refine Run.val (lt rfl) (Y.fieldAddr rfl Cldec_fo36_9) ?_
 refine Run.val (lt rfl) (Y.load rfl Cldec_ts34 (Kn.at 0 rfl) rfl) ?_
 refine Run.call [] (l := [.tmp 7, .const (.int .i64 61)]) rfl rfl rfl (lt rfl) (rfind_c (code := 61) ho hr hL) (fun v2 V2 H2 _ hR => ?_)
 obtain ⟨hV, rfl, z3, rfl, hd4⟩ := hR; replace hV := hV.symm; subst hV; obtain ⟨p5, c6, rfl, _⟩ := hd4.form
 refine Run.val (lt rfl) (Y.move rfl) ?_
 refine Run.val (lt rfl) (Y.extract rfl rfl) ?_
 refine Run.val (lt rfl) (Y.extract rfl rfl) ?_
 refine Run.val (lt rfl) (Y.assign rfl) ?_
 refine Run.val (lt rfl) (Y.assign rfl) ?_
 refine Run.to_end ?_
 refine Ex.go ?_
 refine Tr.seq ?_
 refine Tr.seq ?_
 refine Tr.region ?_
 refine Run.val (lt rfl) (Y.move rfl) ?_
 refine Run.val (lt rfl) (Y.lenSl rfl Cldec_es22) ?_
 refine Run.val (lt rfl) (Y.int rfl rfl rfl) ?_
 refine Run.val (lt rfl) (Y.move rfl) ?_
 rcases Bool.eq_false_or_eq_true (decide ((((Oc.fd 61 (L.map Opn.c)).length : Nat) : Int) < 1)) with h7 | h7
 ·have g7 := h7
  try simp only [kb] at g7
  refine Run.off rfl rfl rfl h7 rfl (lt rfl) ?_
  refine Run.off rfl rfl rfl h7 rfl (lt rfl) ?_
  refine Run.off rfl rfl rfl h7 rfl (lt rfl) ?_
  refine Run.val (lt rfl) (Y.pick_t rfl h7 rfl) ?_
  refine Run.to_end ?_
  refine Ex.go ?_
  refine Tr.cond_t rfl rfl ?_
  refine Tr.seq ?_
  refine Tr.region ?_
  refine Run.val (lt rfl) (Y.fieldAddr rfl Cldec_fo36_8) ?_
  refine Run.val (lt rfl) (Y.load rfl Cldec_ts22 (Kn.at 0 rfl) rfl) ?_
  refine Run.val (lt rfl) (Y.bytesStr (bs := p.hw) rfl Cldec_es22 Cldec_tg5 Cldec_st9 hh.of_nil) ?_
  refine Run.val (lt rfl) (Y.assign rfl) ?_
  refine Run.to_end ?_
  refine Ex.go ?_
  refine Tr.to_ret ?_
  refine Ex.ret_then ?_
  refine Ex.keep [] ?_
  exact Ex.ret1 rfl rfl  ⟨congrArg Value.string (by unfold Pc.client; rw [← hLp, if_neg (by omega)]), rfl, rfl⟩
 ·have g7 := h7
  try simp only [kb] at g7
  refine Run.on rfl rfl rfl h7 ?_
  refine Run.val (lt rfl) (Y.move rfl) ?_
  refine Run.on rfl rfl rfl h7 ?_
  refine Run.val (lt rfl) (Y.lenSl rfl Cldec_es22) ?_
  refine Run.on rfl rfl rfl h7 ?_
  refine Run.val (lt rfl) (Y.int rfl rfl rfl) ?_
  refine Run.val (lt rfl) (Y.pick_f rfl h7 rfl) ?_
  refine Run.to_end ?_
  refine Ex.go ?_
  rcases Bool.eq_false_or_eq_true (decide ((((Oc.fd 61 (L.map Opn.c)).length : Nat) : Int) > 32)) with h8 | h8
  ·have g8 := h8
   try simp only [kb] at g8
   refine Tr.cond_t rfl h8 ?_
   refine Tr.seq ?_
   refine Tr.region ?_
   refine Run.val (lt rfl) (Y.fieldAddr rfl Cldec_fo36_8) ?_
   refine Run.val (lt rfl) (Y.load rfl Cldec_ts22 (Kn.at 0 rfl) rfl) ?_
   refine Run.val (lt rfl) (Y.bytesStr (bs := p.hw) rfl Cldec_es22 Cldec_tg5 Cldec_st9 hh.of_nil) ?_
   refine Run.val (lt rfl) (Y.assign rfl) ?_
   refine Run.to_end ?_
   refine Ex.go ?_
   refine Tr.to_ret ?_
   refine Ex.ret_then ?_
   refine Ex.keep [] ?_
   exact Ex.ret1 rfl rfl  ⟨congrArg Value.string (by unfold Pc.client; rw [← hLp, if_neg (by omega)]), rfl, rfl⟩
  ·have g8 := h8
   try simp only [kb] at g8
   refine Tr.cond_f rfl h8 ?_
   refine Tr.to_end ?_
   refine Ex.go ?_
   refine Tr.seq ?_
   refine Tr.region ?_
   refine Run.val (lt rfl) (Y.move rfl) ?_
   refine Run.val (lt rfl) (Y.bytesStr (bs := (Oc.fd 61 (L.map Opn.c))) rfl Cldec_es22 Cldec_tg5 Cldec_st9 hd4.of_nil) ?_
   refine Run.val (lt rfl) (Y.assign rfl) ?_
   refine Run.to_end ?_
   refine Ex.go ?_
   refine Tr.to_ret ?_
   refine Ex.keep [] ?_
   exact Ex.ret1 rfl rfl  ⟨congrArg Value.string (by unfold Pc.client; rw [← hLp, if_pos (by omega)]), rfl, rfl⟩

theorem asked_h {V : Vw} {H : Hp} {p : Pc} {hv ov : Value} (hp : Pc.R V p hv ov) (hf : Pc.few p = true) : Does Try.prog 21 [.agg (p.cells hv ov)] V H (Pv (.tuple #[.int .u32 (Pc.asked p), .int .i64 (Pc.asks p)]) V H) := by
  obtain ⟨ph, ch, rfl, _⟩ := hp.hw.form
  obtain ⟨L, hLp, ho, hr⟩ := hp.os
  obtain ⟨po, co, rfl, _⟩ := ho.form
  have hf' : Oc.few (L.map Opn.c) = true := by rw [hLp]; simp only [Pc.few, Bool.and_eq_true] at hf; exact hf.1
  have hL : L.length ≤ 1000000 := by have := (Oc.few_iff.1 hf').1; rw [List.length_map] at this; omega
  exact (asked_c ho hr hL hp.hw hLp).frame
theorem client_h {V : Vw} {H : Hp} {p : Pc} {hv ov : Value} (hp : Pc.R V p hv ov) (hf : Pc.few p = true) : Does Try.prog 22 [.agg (p.cells hv ov)] V H (Pv (.string (Pc.client p)) V H) := by
  obtain ⟨ph, ch, rfl, _⟩ := hp.hw.form
  obtain ⟨L, hLp, ho, hr⟩ := hp.os
  obtain ⟨po, co, rfl, _⟩ := ho.form
  have hf' : Oc.few (L.map Opn.c) = true := by rw [hLp]; simp only [Pc.few, Bool.and_eq_true] at hf; exact hf.1
  have hL : L.length ≤ 1000000 := by have := (Oc.few_iff.1 hf').1; rw [List.length_map] at this; omega
  exact (client_c ho hr hL hp.hw hLp).frame
end Go.Proofs.Ytelahacalnmilaa
