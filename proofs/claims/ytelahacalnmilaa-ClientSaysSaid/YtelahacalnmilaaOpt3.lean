/- What the reference asks of options and packets; numbers as bytes.
Conditions: as each theorem names them. -/
import Derived.Test.YtelahacalnmilaaProg
import Derived.Test.YtelahacalnmilaaOpt2
import Derived.Test.YtelahacalnmilaaK14
import Derived.Test.YtelahacalnmilaaK17
set_option linter.unusedSimpArgs false
set_option linter.unusedVariables false
set_option maxRecDepth 4000
namespace Go.Proofs.Ytelahacalnmilaa
open Go Go.K
attribute [local irreducible] Code.wp wpList Calls wpQuiet
theorem Opt3_es34 : elemS Try.prog 34 = some (76, 2) := by kernel_rfl
theorem Opt3_fo76_0 : fieldOff Try.prog 76 0 = some 0 := by kernel_rfl
theorem Opt3_ts3 : scal Try.prog 3 = true := by kernel_rfl
theorem Opt3_fo76_1 : fieldOff Try.prog 76 1 = some 1 := by kernel_rfl
theorem Opt3_ts22 : scal Try.prog 22 = true := by kernel_rfl
theorem Opt3_es22 : elemS Try.prog 22 = some (5, 1) := by kernel_rfl
theorem Opt3_mo : Try.prog.follows .mixedOrders = true := by kernel_rfl
theorem Opt3_it3_5 : intT Try.prog 3 5 = some .u8 := by kernel_rfl
theorem Opt3_zo5 : zeroOf Try.prog 5 = some (.int .u8 0) := by kernel_rfl
theorem Opt3_zi5 : zeroInfo Try.prog 5 = some (1, 1, .int .u8 0) := by kernel_rfl
theorem Opt3_fo36_0 : fieldOff Try.prog 36 0 = some 0 := by kernel_rfl
theorem Opt3_fo36_2 : fieldOff Try.prog 36 2 = some 2 := by kernel_rfl
theorem Opt3_fo36_3 : fieldOff Try.prog 36 3 = some 3 := by kernel_rfl
theorem Opt3_fo36_8 : fieldOff Try.prog 36 8 = some 8 := by kernel_rfl
theorem Opt3_fo36_9 : fieldOff Try.prog 36 9 = some 9 := by kernel_rfl
theorem Opt3_ts34 : scal Try.prog 34 = true := by kernel_rfl
theorem Opt3_tg5 : tagOf Try.prog 5 = some (0, .u8) := by kernel_rfl
theorem Opt3_st9 : strT Try.prog 9 = true := by kernel_rfl
theorem Opt3_fo36_1 : fieldOff Try.prog 36 1 = some 1 := by kernel_rfl
theorem Opt3_ts32 : scal Try.prog 32 = true := by kernel_rfl
theorem Opt3_fo36_4 : fieldOff Try.prog 36 4 = some 4 := by kernel_rfl
theorem Opt3_ts33 : scal Try.prog 33 = true := by kernel_rfl
theorem Opt3_fo36_5 : fieldOff Try.prog 36 5 = some 5 := by kernel_rfl
theorem Opt3_fo36_6 : fieldOff Try.prog 36 6 = some 6 := by kernel_rfl
theorem Opt3_fo36_7 : fieldOff Try.prog 36 7 = some 7 := by kernel_rfl
theorem Opt3_sz5 : sizeT Try.prog 5 = some 1 := by kernel_rfl
theorem Opt3_zo76 : zeroOf Try.prog 76 = some (.agg #[.int .i64 0, .slice none 0 0]) := by kernel_rfl
theorem Opt3_it33_3 : intT Try.prog 33 3 = some .i64 := by kernel_rfl
theorem Opt3_pl76 : placesS Try.prog 76 = some [(0, 1), (1, 1)] := by kernel_rfl
theorem Opt3_sz76 : sizeT Try.prog 76 = some 2 := by kernel_rfl
theorem Opt3_ag76 : aggsz Try.prog 76 = some 2 := by kernel_rfl

theorem renc_c {V : Vw} {L : List Opn} {po : Option Addr} {co : Nat} (ho : Rd V [] 2 (.slice po L.length co) L.length (L.map Opn.cells).flatten) (hr : Opn.Rds V L) (hL : L.length ≤ 1000000) (hf : Oc.few (L.map Opn.c) = true)  : Does Try.prog 47 [.slice po L.length co] V [] (fun u V' H' => V' = V ∧ H' = [] ∧ ∃ v, u = .tuple #[v, .int .i64 (Oc.encE (L.map Opn.c))]) := by
 refine Does.intro Try.func47 rfl rfl (le rfl) (fun B => ?_)
 refine Tr.seq ?_
 refine Tr.region ?_
 refine Run.val (lt rfl) (Y.assign rfl) ?_
 refine Run.val (lt rfl) (Y.assign rfl) ?_
 refine Run.to_end ?_
 refine Ex.go ?_
 refine Tr.seq ?_
 refine Tr.seq ?_
 refine Tr.region ?_
 refine Run.val (lt rfl) (Y.assign rfl) ?_
 refine Run.to_end ?_
 refine Ex.go ?_
 refine Tr.block ?_
 refine Tr.loop (X := Nat) (fun i => V) (fun i => []) (fun i => [(0, .slice po L.length co), (4, .int .i64 (i : Int))]) (fun i => i ≤ L.length ∧ ∀ j, j < i → Oc.odd (L.getD j Opn.dflt).c = false) (fun i => L.length - i) 0 ⟨Nat.zero_le _, fun j hj => absurd hj (Nat.not_lt_zero j)⟩ (fun a w i => ⟨i.1.sub (subB_cons (by first | rfl | exact congrArg (fun z => some (Value.int _ z)) (by omega)) (subB_cons (by first | rfl | exact congrArg (fun z => some (Value.int _ z)) (by omega)) (subB_nil _))), i.2⟩) ?_
 rintro i ⟨hi, hin⟩
 refine Tr.seq ?_
 refine Tr.seq ?_
 refine Tr.region ?_
 refine Run.val (lt rfl) (Y.move rfl) ?_
 refine Run.val (lt rfl) (Y.move rfl) ?_
 refine Run.val (lt rfl) (Y.lenSl rfl Opt3_es34) ?_
 refine Run.val (lt rfl) (Y.int rfl rfl rfl) ?_
 refine Run.to_end ?_
 refine Ex.go ?_
 rcases Bool.eq_false_or_eq_true (decide ((i : Int) < ((L.length : Nat) : Int))) with h1 | h1
 ·have g1 := h1
  try simp only [kb] at g1
  obtain ⟨b, off, c2, cs, e, fz, hw, hc, hko, hcs⟩ := ho.opened (by omega)
  obtain ⟨rfl, rfl⟩ : po = some ⟨b, off, none⟩ ∧ co = c2 := by cases hw; exact ⟨rfl, rfl⟩
  clear hw
  have hrow := row_at (f := Opn.cells) Opn.len hcs (i := i) (by omega) (Nat.le_refl _) Opn.dflt
  have hmem := getD_mem (l := L) (j := i) (by omega) Opn.dflt
  generalize hoe : L.getD i Opn.dflt = o at *
  have hro := hr o hmem
  obtain ⟨pd, cd, hov, _⟩ := hro.form
  rw [hov] at hro
  have hrow2 : ∀ j, j < 2 → cs[off + ((i : Nat) : Int).toNat * 2 + j]? = ([.int .i64 o.code, .slice pd o.d.length cd] : List Value)[j]? := fun j hj => by rw [hrow j hj]; simp only [Opn.cells, hov]
  refine Tr.cond_t rfl h1 ?_
  refine Tr.to_end ?_
  refine Ex.go ?_
  refine Tr.seq ?_
  refine Tr.block ?_
  refine Tr.seq ?_
  refine Tr.region ?_
  refine Run.val (lt rfl) (Y.move rfl) ?_
  refine Run.val (lt rfl) (Y.move rfl) ?_
  refine Run.val (lt rfl) (Y.idxAddr rfl rfl Opt3_es34 (by omega) (by omega)) ?_
  refine Run.val (lt rfl) (Y.fieldAddr rfl Opt3_fo76_0) ?_
  refine Run.val (lt rfl) (Y.load rfl Opt3_ts3 hko.of_nil (hrow 0 (by decide))) ?_
  refine Run.val (lt rfl) (Y.int rfl rfl rfl) ?_
  refine Run.val (lt rfl) (Y.move rfl) ?_
  rcases Bool.eq_false_or_eq_true (decide (o.code < 1)) with h2 | h2
  ·have g2 := h2
   try simp only [kb] at g2
   refine Run.off rfl rfl rfl h2 rfl (lt rfl) ?_
   refine Run.off rfl rfl rfl h2 rfl (lt rfl) ?_
   refine Run.off rfl rfl rfl h2 rfl (lt rfl) ?_
   refine Run.off rfl rfl rfl h2 rfl (lt rfl) ?_
   refine Run.off rfl rfl rfl h2 rfl (lt rfl) ?_
   refine Run.off rfl rfl rfl h2 rfl (lt rfl) ?_
   refine Run.val (lt rfl) (Y.pick_t rfl h2 rfl) ?_
   refine Run.val (lt rfl) (Y.move rfl) ?_
   refine Run.off rfl rfl rfl rfl rfl (lt rfl) ?_
   refine Run.off rfl rfl rfl rfl rfl (lt rfl) ?_
   refine Run.off rfl rfl rfl rfl rfl (lt rfl) ?_
   refine Run.off rfl rfl rfl rfl rfl (lt rfl) ?_
   refine Run.off rfl rfl rfl rfl rfl (lt rfl) ?_
   refine Run.off rfl rfl rfl rfl rfl (lt rfl) ?_
   refine Run.off rfl rfl rfl rfl rfl (lt rfl) ?_
   refine Run.val (lt rfl) (Y.pick_t rfl rfl rfl) ?_
   refine Run.to_end ?_
   refine Ex.go ?_
   refine Tr.cond_t rfl rfl ?_
   refine Tr.seq ?_
   refine Tr.region ?_
   refine Run.val (lt rfl) (Y.assign rfl) ?_
   refine Run.val (lt rfl) (Y.assign rfl) ?_
   refine Run.to_end ?_
   refine Ex.go ?_
   refine Tr.to_ret ?_
   refine Ex.ret_block ?_
   refine Ex.ret_then ?_
   refine Ex.ret_then ?_
   refine Ex.ret_block ?_
   refine Ex.ret_then ?_
   refine Ex.keep [] ?_
   exact Ex.ret2 rfl rfl rfl  ⟨rfl, rfl, .slice none 0 0, by rw [Oc.encE_odd (Oc.any_at (i := i) (by omega) (by rw [hoe]; exact Oc.odd_yes (by omega)))]⟩
  ·have g2 := h2
   try simp only [kb] at g2
   refine Run.on rfl rfl rfl h2 ?_
   refine Run.val (lt rfl) (Y.move rfl) ?_
   refine Run.on rfl rfl rfl h2 ?_
   refine Run.val (lt rfl) (Y.move rfl) ?_
   refine Run.on rfl rfl rfl h2 ?_
   refine Run.val (lt rfl) (Y.idxAddr rfl rfl Opt3_es34 (by omega) (by omega)) ?_
   refine Run.on rfl rfl rfl h2 ?_
   refine Run.val (lt rfl) (Y.fieldAddr rfl Opt3_fo76_0) ?_
   refine Run.on rfl rfl rfl h2 ?_
   refine Run.val (lt rfl) (Y.load rfl Opt3_ts3 hko.of_nil (hrow 0 (by decide))) ?_
   refine Run.on rfl rfl rfl h2 ?_
   refine Run.val (lt rfl) (Y.int rfl rfl rfl) ?_
   refine Run.val (lt rfl) (Y.pick_f rfl h2 rfl) ?_
   refine Run.val (lt rfl) (Y.move rfl) ?_
   rcases Bool.eq_false_or_eq_true (decide (o.code > 254)) with h3 | h3
   ·have g3 := h3
    try simp only [kb] at g3
    refine Run.off rfl rfl rfl h3 rfl (lt rfl) ?_
    refine Run.off rfl rfl rfl h3 rfl (lt rfl) ?_
    refine Run.off rfl rfl rfl h3 rfl (lt rfl) ?_
    refine Run.off rfl rfl rfl h3 rfl (lt rfl) ?_
    refine Run.off rfl rfl rfl h3 rfl (lt rfl) ?_
    refine Run.off rfl rfl rfl h3 rfl (lt rfl) ?_
    refine Run.off rfl rfl rfl h3 rfl (lt rfl) ?_
    refine Run.val (lt rfl) (Y.pick_t rfl h3 rfl) ?_
    refine Run.to_end ?_
    refine Ex.go ?_
    refine Tr.cond_t rfl rfl ?_
    refine Tr.seq ?_
    refine Tr.region ?_
    refine Run.val (lt rfl) (Y.assign rfl) ?_
    refine Run.val (lt rfl) (Y.assign rfl) ?_
    refine Run.to_end ?_
    refine Ex.go ?_
    refine Tr.to_ret ?_
    refine Ex.ret_block ?_
    refine Ex.ret_then ?_
    refine Ex.ret_then ?_
    refine Ex.ret_block ?_
    refine Ex.ret_then ?_
    refine Ex.keep [] ?_
    exact Ex.ret2 rfl rfl rfl  ⟨rfl, rfl, .slice none 0 0, by rw [Oc.encE_odd (Oc.any_at (i := i) (by omega) (by rw [hoe]; exact Oc.odd_yes (by omega)))]⟩
   ·have g3 := h3
    try simp only [kb] at g3
    refine Run.on rfl rfl rfl h3 ?_
    refine Run.val (lt rfl) (Y.move rfl) ?_
    refine Run.on rfl rfl rfl h3 ?_
    refine Run.val (lt rfl) (Y.move rfl) ?_
    refine Run.on rfl rfl rfl h3 ?_
    refine Run.val (lt rfl) (Y.idxAddr rfl rfl Opt3_es34 (by omega) (by omega)) ?_
    refine Run.on rfl rfl rfl h3 ?_
    refine Run.val (lt rfl) (Y.fieldAddr rfl Opt3_fo76_1) ?_
    refine Run.on rfl rfl rfl h3 ?_
    refine Run.val (lt rfl) (Y.load rfl Opt3_ts22 hko.of_nil (hrow2 1 (by decide))) ?_
    refine Run.on rfl rfl rfl h3 ?_
    refine Run.val (lt rfl) (Y.lenSl rfl Opt3_es22) ?_
    refine Run.on rfl rfl rfl h3 ?_
    refine Run.val (lt rfl) (Y.int rfl rfl rfl) ?_
    refine Run.val (lt rfl) (Y.pick_f rfl h3 rfl) ?_
    refine Run.to_end ?_
    refine Ex.go ?_
    rcases Bool.eq_false_or_eq_true (decide (((o.d.length : Nat) : Int) > 255)) with h4 | h4
    ·have g4 := h4
     try simp only [kb] at g4
     refine Tr.cond_t rfl h4 ?_
     refine Tr.seq ?_
     refine Tr.region ?_
     refine Run.val (lt rfl) (Y.assign rfl) ?_
     refine Run.val (lt rfl) (Y.assign rfl) ?_
     refine Run.to_end ?_
     refine Ex.go ?_
     refine Tr.to_ret ?_
     refine Ex.ret_block ?_
     refine Ex.ret_then ?_
     refine Ex.ret_then ?_
     refine Ex.ret_block ?_
     refine Ex.ret_then ?_
     refine Ex.keep [] ?_
     exact Ex.ret2 rfl rfl rfl  ⟨rfl, rfl, .slice none 0 0, by rw [Oc.encE_odd (Oc.any_at (i := i) (by omega) (by rw [hoe]; exact Oc.odd_yes (by omega)))]⟩
    ·have g4 := h4
     try simp only [kb] at g4
     refine Tr.cond_f rfl h4 ?_
     refine Tr.to_end ?_
     refine Ex.end_block ?_
     refine Ex.go ?_
     refine Tr.region ?_
     refine Run.val (lt rfl) (Y.move rfl) ?_
     refine Run.val (lt rfl) (Y.add rfl rfl (by omega)) ?_
     refine Run.val (lt rfl) (Y.assign rfl) ?_
     refine Run.to_end ?_
     exact Ex.round (i + 1) ⟨by omega, upto hin (by rw [hoe]; exact Oc.odd_no (by omega) (by omega) (by omega))⟩ (by omega) rfl rfl (subB_cons (by first | rfl | exact congrArg (fun z => some (Value.int _ z)) (by omega)) (subB_cons (by first | rfl | exact congrArg (fun z => some (Value.int _ z)) (by omega)) (subB_nil _)))
 ·have g1 := h1
  try simp only [kb] at g1
  refine Tr.cond_f rfl h1 ?_
  refine Tr.to_exit ?_
  refine Ex.exit_then ?_
  refine Ex.exit_then ?_
  refine Ex.exit_in ?_
  refine Ex.go ?_
  refine Tr.seq ?_
  refine Tr.region ?_
  have hany : (L.map Opn.c).any Oc.odd = false := Oc.any_none (fun j hj => hin j (by omega))
  refine Run.nilseg ?_
  refine Run.val (lt rfl) (Y.assign rfl) ?_
  refine Run.to_end ?_
  refine Ex.go ?_
  refine Tr.seq ?_
  refine Tr.seq ?_
  refine Tr.region ?_
  refine Run.val (lt rfl) (Y.assign rfl) ?_
  refine Run.to_end ?_
  refine Ex.go ?_
  refine Tr.block ?_
  refine Tr.loop (X := Gr) (fun x => V) (fun x => [x.q]) (fun x => [(0, .slice po L.length co), (5, .slice x.p x.n x.k), (6, .int .i64 (x.i : Int))]) (fun x => Ow 5 1 (.slice x.p x.n x.k) x.n x.xs x.q ∧ x.i ≤ L.length ∧ x.n = Oc.tot ((L.map Opn.c).take x.i) ∧ x.n < 1024) (fun x => L.length - x.i) ⟨none, 0, 0, [], [], 0⟩ ⟨Ow.nil _ _, Nat.zero_le _, rfl, (by decide : 0 < 1024)⟩ (fun a w i => ⟨i.1.sub (subB_cons (by first | rfl | exact congrArg (fun z => some (Value.int _ z)) (by omega)) (subB_cons (by first | rfl | exact congrArg (fun z => some (Value.int _ z)) (by omega)) (subB_cons (by first | rfl | exact congrArg (fun z => some (Value.int _ z)) (by omega)) (subB_nil _)))), i.2⟩) ?_
  rintro ⟨p, n, k, q, xs, i⟩ ⟨how, hi, hn, hlt⟩
  dsimp only at hlt
  dsimp only at how hi hn ⊢
  refine Tr.seq ?_
  refine Tr.seq ?_
  refine Tr.region ?_
  refine Run.val (lt rfl) (Y.move rfl) ?_
  refine Run.val (lt rfl) (Y.move rfl) ?_
  refine Run.val (lt rfl) (Y.lenSl rfl Opt3_es34) ?_
  refine Run.val (lt rfl) (Y.int rfl rfl rfl) ?_
  refine Run.to_end ?_
  refine Ex.go ?_
  rcases Bool.eq_false_or_eq_true (decide ((i : Int) < ((L.length : Nat) : Int))) with h5 | h5
  ·have g5 := h5
   try simp only [kb] at g5
   have hd := Oc.few_data hf (i := i) (by omega)
   have ht := Oc.tot_take (L := L) (i := i) (by omega)
   have htl := Oc.tot_le (L.map Opn.c) (i + 1)
   obtain ⟨b, off, c2, cs, e, fz, hw, hc, hko, hcs⟩ := ho.opened (by omega)
   obtain ⟨rfl, rfl⟩ : po = some ⟨b, off, none⟩ ∧ co = c2 := by cases hw; exact ⟨rfl, rfl⟩
   clear hw
   have hrow := row_at (f := Opn.cells) Opn.len hcs (i := i) (by omega) (Nat.le_refl _) Opn.dflt
   have hmem := getD_mem (l := L) (j := i) (by omega) Opn.dflt
   generalize hoe : L.getD i Opn.dflt = o at *
   have hro := hr o hmem
   obtain ⟨pd, cd, hov, _⟩ := hro.form
   rw [hov] at hro
   have hrow2 : ∀ j, j < 2 → cs[off + ((i : Nat) : Int).toNat * 2 + j]? = ([.int .i64 o.code, .slice pd o.d.length cd] : List Value)[j]? := fun j hj => by rw [hrow j hj]; simp only [Opn.cells, hov]
   refine Tr.cond_t rfl h5 ?_
   refine Tr.to_end ?_
   refine Ex.go ?_
   refine Tr.seq ?_
   refine Tr.block ?_
   refine Tr.seq ?_
   refine Tr.anyD [(b, .cells cs e fz)] Opt3_mo ?_
   refine RunD.pure (i := 0) rfl (by kernel_rfl) (by kernel_rfl) (by kernel_rfl) (fun _ _ _ h => h) (lt rfl) (KnAll.cons hko.of_nil KnAll.nil) (fun _ => (Y.move rfl)) ?_
   refine RunD.pure (i := 1) rfl (by kernel_rfl) (by kernel_rfl) (by kernel_rfl) (fun _ _ _ h => h) (lt rfl) (KnAll.cons hko.of_nil KnAll.nil) (fun _ => (Y.move rfl)) ?_
   refine RunD.pure (i := 2) rfl (by kernel_rfl) (by kernel_rfl) (by kernel_rfl) (fun _ _ _ h => h) (lt rfl) (KnAll.cons hko.of_nil KnAll.nil) (fun _ => (Y.move rfl)) ?_
   refine RunD.pure (i := 3) rfl (by kernel_rfl) (by kernel_rfl) (by kernel_rfl) (fun _ _ _ h => h) (lt rfl) (KnAll.cons hko.of_nil KnAll.nil) (fun _ => (Y.idxAddr rfl rfl Opt3_es34 (by omega) (by omega))) ?_
   refine RunD.pure (i := 4) rfl (by kernel_rfl) (by kernel_rfl) (by kernel_rfl) (fun _ _ _ h => h) (lt rfl) (KnAll.cons hko.of_nil KnAll.nil) (fun _ => (Y.fieldAddr rfl Opt3_fo76_0)) ?_
   refine RunD.take (i := 5) 0 rfl rfl (by kernel_rfl) (by kernel_rfl) (by kernel_rfl) (fun _ _ _ h => h) (lt rfl) (KnAll.cons hko.of_nil KnAll.nil) (fun _ => (Y.load rfl Opt3_ts3 Kn.vk1 (hrow 0 (by decide)))) ?_
   refine RunD.pure (i := 6) rfl (by kernel_rfl) (by kernel_rfl) (by kernel_rfl) (fun _ _ _ h => h) (lt rfl) (KnAll.cons hko.of_nil KnAll.nil) (fun _ => (Y.conv (o.code % 256) rfl Opt3_it3_5 (wrap_u8m _))) ?_
   refine RunD.pure (i := 7) rfl (by kernel_rfl) (by kernel_rfl) (by kernel_rfl) (fun _ _ _ h => h) (lt rfl) (KnAll.cons hko.of_nil KnAll.nil) (fun _ => (Y.move rfl)) ?_
   refine RunD.pure (i := 8) rfl (by kernel_rfl) (by kernel_rfl) (by kernel_rfl) (fun _ _ _ h => h) (lt rfl) (KnAll.cons hko.of_nil KnAll.nil) (fun _ => (Y.move rfl)) ?_
   refine RunD.pure (i := 9) rfl (by kernel_rfl) (by kernel_rfl) (by kernel_rfl) (fun _ _ _ h => h) (lt rfl) (KnAll.cons hko.of_nil KnAll.nil) (fun _ => (Y.idxAddr rfl rfl Opt3_es34 (by omega) (by omega))) ?_
   refine RunD.pure (i := 10) rfl (by kernel_rfl) (by kernel_rfl) (by kernel_rfl) (fun _ _ _ h => h) (lt rfl) (KnAll.cons hko.of_nil KnAll.nil) (fun _ => (Y.fieldAddr rfl Opt3_fo76_1)) ?_
   refine RunD.take (i := 11) 0 rfl rfl (by kernel_rfl) (by kernel_rfl) (by kernel_rfl) (fun _ _ _ h => h) (lt rfl) (KnAll.cons hko.of_nil KnAll.nil) (fun _ => (Y.load rfl Opt3_ts22 Kn.vk1 (hrow2 1 (by decide)))) ?_
   refine RunD.pure (i := 12) rfl (by kernel_rfl) (by kernel_rfl) (by kernel_rfl) (fun _ _ _ h => h) (lt rfl) (KnAll.cons hko.of_nil KnAll.nil) (fun _ => (Y.lenSl rfl Opt3_es22)) ?_
   refine RunD.pure (i := 13) rfl (by kernel_rfl) (by kernel_rfl) (by kernel_rfl) (fun _ _ _ h => h) (lt rfl) (KnAll.cons hko.of_nil KnAll.nil) (fun _ => (Y.conv (((o.d.length : Nat) : Int) % 256) rfl Opt3_it3_5 (wrap_u8m _))) ?_
   refine RunD.one (i := 14) (by kernel_rfl) rfl  ?_ 
   refine Run.buildSlice (l := [(0, .tmp 48), (1, .tmp 55)]) Opt3_es22 Opt3_zo5 rfl (by decide) rfl rfl (by decide) (lt rfl) (fun b6 => ?_)
   refine Run.to_end ?_
   refine Ex.anyD (KnAll.cons hko.of_nil KnAll.nil) ?_
   refine RunD.one (i := 15) (by kernel_rfl) rfl  ?_ 
   refine Run.append (n := n) (m := 2) (xs := xs) (ys := [.int .u8 (o.code % 256), .int .u8 (((o.d.length : Nat) : Int) % 256)]) rfl rfl Opt3_es22 Opt3_zi5 (by decide) (j := 1) rfl how (Src.of_rd Opt3_es22 (Rd.one (Kn.at 0 rfl) rfl)) (by omega) (by omega) rfl (lt rfl) (fun v7 s8 ho9 hf => ?_)
   obtain ⟨p7, c7, rfl⟩ := hf
   refine Run.to_end ?_
   refine Ex.anyD (KnAll.cons hko.of_nil KnAll.nil) ?_
   refine RunD.pure (i := 16) rfl (by kernel_rfl) (by kernel_rfl) (by kernel_rfl) (fun _ _ _ h => h) (lt rfl) (KnAll.cons hko.of_nil KnAll.nil) (fun _ => (Y.assign rfl)) ?_
   refine RunD.done (by kernel_rfl) ?_
   refine Ex.go ?_
   refine Tr.seq ?_
   refine Tr.region ?_
   refine Run.val (lt rfl) (Y.move rfl) ?_
   refine Run.val (lt rfl) (Y.move rfl) ?_
   refine Run.val (lt rfl) (Y.move rfl) ?_
   refine Run.val (lt rfl) (Y.idxAddr rfl rfl Opt3_es34 (by omega) (by omega)) ?_
   refine Run.val (lt rfl) (Y.fieldAddr rfl Opt3_fo76_1) ?_
   refine Run.val (lt rfl) (Y.load rfl Opt3_ts22 hko.of_nil (hrow2 1 (by decide))) ?_
   refine Run.append (n := n + 2) (m := o.d.length) (xs := xs ++ [.int .u8 (o.code % 256), .int .u8 (((o.d.length : Nat) : Int) % 256)]) (ys := o.d.map byteV) rfl rfl Opt3_es22 Opt3_zi5 (by decide) (j := 1) rfl ho9 (Src.of_rd Opt3_es22 hro.of_nil) (by omega) (by omega) (all_one_bytes _) (lt rfl) (fun v10 s11 ho12 hf => ?_)
   obtain ⟨p10, c10, rfl⟩ := hf
   refine Run.val (lt rfl) (Y.assign rfl) ?_
   refine Run.to_end ?_
   refine Ex.go ?_
   refine Tr.seq ?_
   refine Tr.region ?_
   refine Run.val (lt rfl) (Y.move rfl) ?_
   refine Run.val (lt rfl) (Y.lenSl rfl Opt3_es22) ?_
   refine Run.val (lt rfl) (Y.int rfl rfl rfl) ?_
   refine Run.to_end ?_
   refine Ex.go ?_
   rcases Bool.eq_false_or_eq_true (decide ((((n + 2 + o.d.length) : Nat) : Int) ≥ 1024)) with h13 | h13
   ·have g13 := h13
    try simp only [kb] at g13
    refine Tr.cond_t rfl h13 ?_
    refine Tr.seq ?_
    refine Tr.region ?_
    refine Run.val (lt rfl) (Y.assign rfl) ?_
    refine Run.val (lt rfl) (Y.assign rfl) ?_
    refine Run.to_end ?_
    refine Ex.go ?_
    refine Tr.to_ret ?_
    refine Ex.ret_block ?_
    refine Ex.ret_then ?_
    refine Ex.ret_then ?_
    refine Ex.ret_block ?_
    refine Ex.ret_then ?_
    refine Ex.keep [] ?_
    exact Ex.ret2 rfl rfl rfl  ⟨rfl, rfl, .slice none 0 0, by rw [Oc.encE_big hany (by omega)]⟩
   ·have g13 := h13
    try simp only [kb] at g13
    refine Tr.cond_f rfl h13 ?_
    refine Tr.to_end ?_
    refine Ex.end_block ?_
    refine Ex.go ?_
    refine Tr.region ?_
    refine Run.val (lt rfl) (Y.move rfl) ?_
    refine Run.val (lt rfl) (Y.add rfl rfl (by omega)) ?_
    refine Run.val (lt rfl) (Y.assign rfl) ?_
    refine Run.to_end ?_
    refine Ex.keep [1] ?_
    exact Ex.round (⟨p10, (n + 2 + o.d.length), c10, s11, (xs ++ [.int .u8 (o.code % 256), .int .u8 (((o.d.length : Nat) : Int) % 256)]) ++ (o.d.map byteV), i + 1⟩ : Gr) ⟨ho12, by show i + 1 ≤ L.length; omega, by show (n + 2 + o.d.length) = Oc.tot ((L.map Opn.c).take (i + 1)); omega, by show (n + 2 + o.d.length) < 1024; omega⟩ (by show L.length - (i + 1) < L.length - i; omega) rfl rfl (subB_cons (by first | rfl | exact congrArg (fun z => some (Value.int _ z)) (by omega)) (subB_cons (by first | rfl | exact congrArg (fun z => some (Value.int _ z)) (by omega)) (subB_cons (by first | rfl | exact congrArg (fun z => some (Value.int _ z)) (by omega)) (subB_nil _))))
  ·have g5 := h5
   try simp only [kb] at g5
   have hall : n = Oc.tot (L.map Opn.c) := by rw [hn, List.take_of_length_le (by rw [List.length_map]; omega)]
   refine Tr.cond_f rfl h5 ?_
   refine Tr.to_exit ?_
   refine Ex.exit_then ?_
   refine Ex.exit_then ?_
   refine Ex.exit_in ?_
   refine Ex.go ?_
   refine Tr.seq ?_
   refine Tr.region ?_
   refine Run.val (lt rfl) (Y.move rfl) ?_
   refine Run.buildSlice (l := [(0, .const (.int .u8 255))]) Opt3_es22 Opt3_zo5 rfl (by decide) rfl rfl (by decide) (lt rfl) (fun b14 => ?_)
   refine Run.append (n := n) (m := 1) (xs := xs) (ys := [.int .u8 255]) rfl rfl Opt3_es22 Opt3_zi5 (by decide) (j := 1) rfl how (Src.of_rd Opt3_es22 (Rd.one (Kn.at 0 rfl) rfl)) (by omega) (by omega) rfl (lt rfl) (fun v15 s16 ho17 hf => ?_)
   obtain ⟨p15, c15, rfl⟩ := hf
   refine Run.val (lt rfl) (Y.assign rfl) ?_
   refine Run.val (lt rfl) (Y.assign rfl) ?_
   refine Run.to_end ?_
   refine Ex.go ?_
   refine Tr.to_ret ?_
   refine Ex.keep [] ?_
   exact Ex.ret2 rfl rfl rfl  ⟨rfl, rfl, .slice p15 (n + 1) c15, by rw [Oc.encE_ok hany (by omega)]⟩

theorem rright_c {V : Vw} {L : List Opn} {po : Option Addr} {co : Nat} (ho : Rd V [] 2 (.slice po L.length co) L.length (L.map Opn.cells).flatten) (hr : Opn.Rds V L) (hL : L.length ≤ 1000000) {p : Pc} {ph : Option Addr} {ch : Nat} (hh : Rd V [] 1 (.slice ph p.hw.length ch) p.hw.length (p.hw.map byteV)) (hLp : L.map Opn.c = p.os) (hf : Oc.few (L.map Opn.c) = true)  : Does Try.prog 45 [.agg #[.int .i64 p.op, .int .u32 p.xid, .int .i64 p.secs, .int .i64 p.flags, .int .u32 p.ci, .int .u32 p.yi, .int .u32 p.si, .int .u32 p.gi, .slice ph p.hw.length ch, .slice po L.length co]] V [] (Pv (.bool (Pc.right p)) V []) := by
 refine Does.intro Try.func45 rfl rfl (le rfl) (fun B => ?_)
 refine Tr.seq ?_
 refine Tr.region ?_
 refine Run.box rfl (lt rfl) (fun b1 => ?_)
 refine Run.val (lt rfl) (Y.assign rfl) ?_
 refine Run.to_end ?_
 refine Ex.go ?_
 refine Tr.seq ?_
 refine Tr.seq ?_
 refine Tr.region ?_
 refine Run.val (lt rfl) (Y.fieldAddr rfl Opt3_fo36_0) ?_
 refine Run.val (lt rfl) (Y.load rfl Opt3_ts3 (Kn.at 0 rfl) rfl) ?_
 refine Run.val (lt rfl) (Y.int rfl rfl rfl) ?_
 refine Run.val (lt rfl) (Y.move rfl) ?_
 rcases Bool.eq_false_or_eq_true (p.op != 1) with h2 | h2
 ·have g2 := h2
  try simp only [kb] at g2
  refine Run.on rfl rfl rfl h2 ?_
  refine Run.val (lt rfl) (Y.fieldAddr rfl Opt3_fo36_0) ?_
  refine Run.on rfl rfl rfl h2 ?_
  refine Run.val (lt rfl) (Y.load rfl Opt3_ts3 (Kn.at 0 rfl) rfl) ?_
  refine Run.on rfl rfl rfl h2 ?_
  refine Run.val (lt rfl) (Y.int rfl rfl rfl) ?_
  refine Run.val (lt rfl) (Y.pick_t rfl h2 rfl) ?_
  refine Run.val (lt rfl) (Y.move rfl) ?_
  rcases Bool.eq_false_or_eq_true (p.op != 2) with h3 | h3
  ·have g3 := h3
   try simp only [kb] at g3
   refine Run.off rfl rfl rfl h3 rfl (lt rfl) ?_
   refine Run.off rfl rfl rfl h3 rfl (lt rfl) ?_
   refine Run.off rfl rfl rfl h3 rfl (lt rfl) ?_
   refine Run.val (lt rfl) (Y.pick_t rfl h3 rfl) ?_
   refine Run.val (lt rfl) (Y.move rfl) ?_
   refine Run.off rfl rfl rfl rfl rfl (lt rfl) ?_
   refine Run.off rfl rfl rfl rfl rfl (lt rfl) ?_
   refine Run.off rfl rfl rfl rfl rfl (lt rfl) ?_
   refine Run.val (lt rfl) (Y.pick_t rfl rfl rfl) ?_
   refine Run.val (lt rfl) (Y.move rfl) ?_
   refine Run.off rfl rfl rfl rfl rfl (lt rfl) ?_
   refine Run.off rfl rfl rfl rfl rfl (lt rfl) ?_
   refine Run.off rfl rfl rfl rfl rfl (lt rfl) ?_
   refine Run.val (lt rfl) (Y.pick_t rfl rfl rfl) ?_
   refine Run.val (lt rfl) (Y.move rfl) ?_
   refine Run.off rfl rfl rfl rfl rfl (lt rfl) ?_
   refine Run.off rfl rfl rfl rfl rfl (lt rfl) ?_
   refine Run.off rfl rfl rfl rfl rfl (lt rfl) ?_
   refine Run.val (lt rfl) (Y.pick_t rfl rfl rfl) ?_
   refine Run.val (lt rfl) (Y.move rfl) ?_
   refine Run.off rfl rfl rfl rfl rfl (lt rfl) ?_
   refine Run.off rfl rfl rfl rfl rfl (lt rfl) ?_
   refine Run.off rfl rfl rfl rfl rfl (lt rfl) ?_
   refine Run.off rfl rfl rfl rfl rfl (lt rfl) ?_
   refine Run.val (lt rfl) (Y.pick_t rfl rfl rfl) ?_
   refine Run.val (lt rfl) (Y.move rfl) ?_
   refine Run.off rfl rfl rfl rfl rfl (lt rfl) ?_
   refine Run.off rfl rfl rfl rfl rfl (lt rfl) ?_
   refine Run.off rfl rfl rfl rfl rfl (lt rfl) ?_
   refine Run.off rfl rfl rfl rfl rfl (lt rfl) ?_
   refine Run.val (lt rfl) (Y.pick_t rfl rfl rfl) ?_
   refine Run.to_end ?_
   refine Ex.go ?_
   refine Tr.cond_t rfl rfl ?_
   refine Tr.seq ?_
   refine Tr.region ?_
   refine Run.val (lt rfl) (Y.assign rfl) ?_
   refine Run.to_end ?_
   refine Ex.go ?_
   refine Tr.to_ret ?_
   refine Ex.ret_then ?_
   refine Ex.keep [] ?_
   exact Ex.ret1 rfl rfl  ⟨congrArg Value.bool (by rw [Bool.eq_iff_iff]; unfold Pc.right; rw [← hLp]; simp only [Bool.and_eq_true, Bool.or_eq_true, decide_eq_true_eq, beq_iff_eq, Bool.false_eq_true]; exact ⟨fun h => by first | exact h.elim | omega, fun h => by omega⟩), rfl, rfl⟩
  ·have g3 := h3
   try simp only [kb] at g3
   refine Run.on rfl rfl rfl h3 ?_
   refine Run.val (lt rfl) (Y.fieldAddr rfl Opt3_fo36_2) ?_
   refine Run.on rfl rfl rfl h3 ?_
   refine Run.val (lt rfl) (Y.load rfl Opt3_ts3 (Kn.at 0 rfl) rfl) ?_
   refine Run.on rfl rfl rfl h3 ?_
   refine Run.val (lt rfl) (Y.int rfl rfl rfl) ?_
   refine Run.val (lt rfl) (Y.pick_f rfl h3 rfl) ?_
   refine Run.val (lt rfl) (Y.move rfl) ?_
   rcases Bool.eq_false_or_eq_true (decide (p.secs < 0)) with h4 | h4
   ·have g4 := h4
    try simp only [kb] at g4
    refine Run.off rfl rfl rfl h4 rfl (lt rfl) ?_
    refine Run.off rfl rfl rfl h4 rfl (lt rfl) ?_
    refine Run.off rfl rfl rfl h4 rfl (lt rfl) ?_
    refine Run.val (lt rfl) (Y.pick_t rfl h4 rfl) ?_
    refine Run.val (lt rfl) (Y.move rfl) ?_
    refine Run.off rfl rfl rfl rfl rfl (lt rfl) ?_
    refine Run.off rfl rfl rfl rfl rfl (lt rfl) ?_
    refine Run.off rfl rfl rfl rfl rfl (lt rfl) ?_
    refine Run.val (lt rfl) (Y.pick_t rfl rfl rfl) ?_
    refine Run.val (lt rfl) (Y.move rfl) ?_
    refine Run.off rfl rfl rfl rfl rfl (lt rfl) ?_
    refine Run.off rfl rfl rfl rfl rfl (lt rfl) ?_
    refine Run.off rfl rfl rfl rfl rfl (lt rfl) ?_
    refine Run.val (lt rfl) (Y.pick_t rfl rfl rfl) ?_
    refine Run.val (lt rfl) (Y.move rfl) ?_
    refine Run.off rfl rfl rfl rfl rfl (lt rfl) ?_
    refine Run.off rfl rfl rfl rfl rfl (lt rfl) ?_
    refine Run.off rfl rfl rfl rfl rfl (lt rfl) ?_
    refine Run.off rfl rfl rfl rfl rfl (lt rfl) ?_
    refine Run.val (lt rfl) (Y.pick_t rfl rfl rfl) ?_
    refine Run.val (lt rfl) (Y.move rfl) ?_
    refine Run.off rfl rfl rfl rfl rfl (lt rfl) ?_
    refine Run.off rfl rfl rfl rfl rfl (lt rfl) ?_
    refine Run.off rfl rfl rfl rfl rfl (lt rfl) ?_
    refine Run.off rfl rfl rfl rfl rfl (lt rfl) ?_
    refine Run.val (lt rfl) (Y.pick_t rfl rfl rfl) ?_
    refine Run.to_end ?_
    refine Ex.go ?_
    refine Tr.cond_t rfl rfl ?_
    refine Tr.seq ?_
    refine Tr.region ?_
    refine Run.val (lt rfl) (Y.assign rfl) ?_
    refine Run.to_end ?_
    refine Ex.go ?_
    refine Tr.to_ret ?_
    refine Ex.ret_then ?_
    refine Ex.keep [] ?_
    exact Ex.ret1 rfl rfl  ⟨congrArg Value.bool (by rw [Bool.eq_iff_iff]; unfold Pc.right; rw [← hLp]; simp only [Bool.and_eq_true, Bool.or_eq_true, decide_eq_true_eq, beq_iff_eq, Bool.false_eq_true]; exact ⟨fun h => by first | exact h.elim | omega, fun h => by omega⟩), rfl, rfl⟩
   ·have g4 := h4
    try simp only [kb] at g4
    refine Run.on rfl rfl rfl h4 ?_
    refine Run.val (lt rfl) (Y.fieldAddr rfl Opt3_fo36_2) ?_
    refine Run.on rfl rfl rfl h4 ?_
    refine Run.val (lt rfl) (Y.load rfl Opt3_ts3 (Kn.at 0 rfl) rfl) ?_
    refine Run.on rfl rfl rfl h4 ?_
    refine Run.val (lt rfl) (Y.int rfl rfl rfl) ?_
    refine Run.val (lt rfl) (Y.pick_f rfl h4 rfl) ?_
    refine Run.val (lt rfl) (Y.move rfl) ?_
    rcases Bool.eq_false_or_eq_true (decide (p.secs > 65535)) with h5 | h5
    ·have g5 := h5
     try simp only [kb] at g5
     refine Run.off rfl rfl rfl h5 rfl (lt rfl) ?_
     refine Run.off rfl rfl rfl h5 rfl (lt rfl) ?_
     refine Run.off rfl rfl rfl h5 rfl (lt rfl) ?_
     refine Run.val (lt rfl) (Y.pick_t rfl h5 rfl) ?_
     refine Run.val (lt rfl) (Y.move rfl) ?_
     refine Run.off rfl rfl rfl rfl rfl (lt rfl) ?_
     refine Run.off rfl rfl rfl rfl rfl (lt rfl) ?_
     refine Run.off rfl rfl rfl rfl rfl (lt rfl) ?_
     refine Run.val (lt rfl) (Y.pick_t rfl rfl rfl) ?_
     refine Run.val (lt rfl) (Y.move rfl) ?_
     refine Run.off rfl rfl rfl rfl rfl (lt rfl) ?_
     refine Run.off rfl rfl rfl rfl rfl (lt rfl) ?_
     refine Run.off rfl rfl rfl rfl rfl (lt rfl) ?_
     refine Run.off rfl rfl rfl rfl rfl (lt rfl) ?_
     refine Run.val (lt rfl) (Y.pick_t rfl rfl rfl) ?_
     refine Run.val (lt rfl) (Y.move rfl) ?_
     refine Run.off rfl rfl rfl rfl rfl (lt rfl) ?_
     refine Run.off rfl rfl rfl rfl rfl (lt rfl) ?_
     refine Run.off rfl rfl rfl rfl rfl (lt rfl) ?_
     refine Run.off rfl rfl rfl rfl rfl (lt rfl) ?_
     refine Run.val (lt rfl) (Y.pick_t rfl rfl rfl) ?_
     refine Run.to_end ?_
     refine Ex.go ?_
     refine Tr.cond_t rfl rfl ?_
     refine Tr.seq ?_
     refine Tr.region ?_
     refine Run.val (lt rfl) (Y.assign rfl) ?_
     refine Run.to_end ?_
     refine Ex.go ?_
     refine Tr.to_ret ?_
     refine Ex.ret_then ?_
     refine Ex.keep [] ?_
     exact Ex.ret1 rfl rfl  ⟨congrArg Value.bool (by rw [Bool.eq_iff_iff]; unfold Pc.right; rw [← hLp]; simp only [Bool.and_eq_true, Bool.or_eq_true, decide_eq_true_eq, beq_iff_eq, Bool.false_eq_true]; exact ⟨fun h => by first | exact h.elim | omega, fun h => by omega⟩), rfl, rfl⟩
    ·have g5 := h5
     try simp only [kb] at g5
     refine Run.on rfl rfl rfl h5 ?_
     refine Run.val (lt rfl) (Y.fieldAddr rfl Opt3_fo36_3) ?_
     refine Run.on rfl rfl rfl h5 ?_
     refine Run.val (lt rfl) (Y.load rfl Opt3_ts3 (Kn.at 0 rfl) rfl) ?_
     refine Run.on rfl rfl rfl h5 ?_
     refine Run.val (lt rfl) (Y.int rfl rfl rfl) ?_
     refine Run.val (lt rfl) (Y.pick_f rfl h5 rfl) ?_
     refine Run.val (lt rfl) (Y.move rfl) ?_
     rcases Bool.eq_false_or_eq_true (decide (p.flags < 0)) with h6 | h6
     ·have g6 := h6
      try simp only [kb] at g6
      refine Run.off rfl rfl rfl h6 rfl (lt rfl) ?_
      refine Run.off rfl rfl rfl h6 rfl (lt rfl) ?_
      refine Run.off rfl rfl rfl h6 rfl (lt rfl) ?_
      refine Run.val (lt rfl) (Y.pick_t rfl h6 rfl) ?_
      refine Run.val (lt rfl) (Y.move rfl) ?_
      refine Run.off rfl rfl rfl rfl rfl (lt rfl) ?_
      refine Run.off rfl rfl rfl rfl rfl (lt rfl) ?_
      refine Run.off rfl rfl rfl rfl rfl (lt rfl) ?_
      refine Run.off rfl rfl rfl rfl rfl (lt rfl) ?_
      refine Run.val (lt rfl) (Y.pick_t rfl rfl rfl) ?_
      refine Run.val (lt rfl) (Y.move rfl) ?_
      refine Run.off rfl rfl rfl rfl rfl (lt rfl) ?_
      refine Run.off rfl rfl rfl rfl rfl (lt rfl) ?_
      refine Run.off rfl rfl rfl rfl rfl (lt rfl) ?_
      refine Run.off rfl rfl rfl rfl rfl (lt rfl) ?_
      refine Run.val (lt rfl) (Y.pick_t rfl rfl rfl) ?_
      refine Run.to_end ?_
      refine Ex.go ?_
      refine Tr.cond_t rfl rfl ?_
      refine Tr.seq ?_
      refine Tr.region ?_
      refine Run.val (lt rfl) (Y.assign rfl) ?_
      refine Run.to_end ?_
      refine Ex.go ?_
      refine Tr.to_ret ?_
      refine Ex.ret_then ?_
      refine Ex.keep [] ?_
      exact Ex.ret1 rfl rfl  ⟨congrArg Value.bool (by rw [Bool.eq_iff_iff]; unfold Pc.right; rw [← hLp]; simp only [Bool.and_eq_true, Bool.or_eq_true, decide_eq_true_eq, beq_iff_eq, Bool.false_eq_true]; exact ⟨fun h => by first | exact h.elim | omega, fun h => by omega⟩), rfl, rfl⟩
     ·have g6 := h6
      try simp only [kb] at g6
      refine Run.on rfl rfl rfl h6 ?_
      refine Run.val (lt rfl) (Y.fieldAddr rfl Opt3_fo36_3) ?_
      refine Run.on rfl rfl rfl h6 ?_
      refine Run.val (lt rfl) (Y.load rfl Opt3_ts3 (Kn.at 0 rfl) rfl) ?_
      refine Run.on rfl rfl rfl h6 ?_
      refine Run.val (lt rfl) (Y.int rfl rfl rfl) ?_
      refine Run.val (lt rfl) (Y.pick_f rfl h6 rfl) ?_
      refine Run.val (lt rfl) (Y.move rfl) ?_
      rcases Bool.eq_false_or_eq_true (decide (p.flags > 65535)) with h7 | h7
      ·have g7 := h7
       try simp only [kb] at g7
       refine Run.off rfl rfl rfl h7 rfl (lt rfl) ?_
       refine Run.off rfl rfl rfl h7 rfl (lt rfl) ?_
       refine Run.off rfl rfl rfl h7 rfl (lt rfl) ?_
       refine Run.off rfl rfl rfl h7 rfl (lt rfl) ?_
       refine Run.val (lt rfl) (Y.pick_t rfl h7 rfl) ?_
       refine Run.val (lt rfl) (Y.move rfl) ?_
       refine Run.off rfl rfl rfl rfl rfl (lt rfl) ?_
       refine Run.off rfl rfl rfl rfl rfl (lt rfl) ?_
       refine Run.off rfl rfl rfl rfl rfl (lt rfl) ?_
       refine Run.off rfl rfl rfl rfl rfl (lt rfl) ?_
       refine Run.val (lt rfl) (Y.pick_t rfl rfl rfl) ?_
       refine Run.to_end ?_
       refine Ex.go ?_
       refine Tr.cond_t rfl rfl ?_
       refine Tr.seq ?_
       refine Tr.region ?_
       refine Run.val (lt rfl) (Y.assign rfl) ?_
       refine Run.to_end ?_
       refine Ex.go ?_
       refine Tr.to_ret ?_
       refine Ex.ret_then ?_
       refine Ex.keep [] ?_
       exact Ex.ret1 rfl rfl  ⟨congrArg Value.bool (by rw [Bool.eq_iff_iff]; unfold Pc.right; rw [← hLp]; simp only [Bool.and_eq_true, Bool.or_eq_true, decide_eq_true_eq, beq_iff_eq, Bool.false_eq_true]; exact ⟨fun h => by first | exact h.elim | omega, fun h => by omega⟩), rfl, rfl⟩
      ·have g7 := h7
       try simp only [kb] at g7
       refine Run.on rfl rfl rfl h7 ?_
       refine Run.val (lt rfl) (Y.fieldAddr rfl Opt3_fo36_8) ?_
       refine Run.on rfl rfl rfl h7 ?_
       refine Run.val (lt rfl) (Y.load rfl Opt3_ts22 (Kn.at 0 rfl) rfl) ?_
       refine Run.on rfl rfl rfl h7 ?_
       refine Run.val (lt rfl) (Y.lenSl rfl Opt3_es22) ?_
       refine Run.on rfl rfl rfl h7 ?_
       refine Run.val (lt rfl) (Y.int rfl rfl rfl) ?_
       refine Run.val (lt rfl) (Y.pick_f rfl h7 rfl) ?_
       refine Run.val (lt rfl) (Y.move rfl) ?_
       rcases Bool.eq_false_or_eq_true (decide (((p.hw.length : Nat) : Int) < 1)) with h8 | h8
       ·have g8 := h8
        try simp only [kb] at g8
        refine Run.off rfl rfl rfl h8 rfl (lt rfl) ?_
        refine Run.off rfl rfl rfl h8 rfl (lt rfl) ?_
        refine Run.off rfl rfl rfl h8 rfl (lt rfl) ?_
        refine Run.off rfl rfl rfl h8 rfl (lt rfl) ?_
        refine Run.val (lt rfl) (Y.pick_t rfl h8 rfl) ?_
        refine Run.to_end ?_
        refine Ex.go ?_
        refine Tr.cond_t rfl rfl ?_
        refine Tr.seq ?_
        refine Tr.region ?_
        refine Run.val (lt rfl) (Y.assign rfl) ?_
        refine Run.to_end ?_
        refine Ex.go ?_
        refine Tr.to_ret ?_
        refine Ex.ret_then ?_
        refine Ex.keep [] ?_
        exact Ex.ret1 rfl rfl  ⟨congrArg Value.bool (by rw [Bool.eq_iff_iff]; unfold Pc.right; rw [← hLp]; simp only [Bool.and_eq_true, Bool.or_eq_true, decide_eq_true_eq, beq_iff_eq, Bool.false_eq_true]; exact ⟨fun h => by first | exact h.elim | omega, fun h => by omega⟩), rfl, rfl⟩
       ·have g8 := h8
        try simp only [kb] at g8
        refine Run.on rfl rfl rfl h8 ?_
        refine Run.val (lt rfl) (Y.fieldAddr rfl Opt3_fo36_8) ?_
        refine Run.on rfl rfl rfl h8 ?_
        refine Run.val (lt rfl) (Y.load rfl Opt3_ts22 (Kn.at 0 rfl) rfl) ?_
        refine Run.on rfl rfl rfl h8 ?_
        refine Run.val (lt rfl) (Y.lenSl rfl Opt3_es22) ?_
        refine Run.on rfl rfl rfl h8 ?_
        refine Run.val (lt rfl) (Y.int rfl rfl rfl) ?_
        refine Run.val (lt rfl) (Y.pick_f rfl h8 rfl) ?_
        refine Run.to_end ?_
        refine Ex.go ?_
        rcases Bool.eq_false_or_eq_true (decide (((p.hw.length : Nat) : Int) > 16)) with h9 | h9
        ·have g9 := h9
         try simp only [kb] at g9
         refine Tr.cond_t rfl h9 ?_
         refine Tr.seq ?_
         refine Tr.region ?_
         refine Run.val (lt rfl) (Y.assign rfl) ?_
         refine Run.to_end ?_
         refine Ex.go ?_
         refine Tr.to_ret ?_
         refine Ex.ret_then ?_
         refine Ex.keep [] ?_
         exact Ex.ret1 rfl rfl  ⟨congrArg Value.bool (by rw [Bool.eq_iff_iff]; unfold Pc.right; rw [← hLp]; simp only [Bool.and_eq_true, Bool.or_eq_true, decide_eq_true_eq, beq_iff_eq, Bool.false_eq_true]; exact ⟨fun h => by first | exact h.elim | omega, fun h => by omega⟩), rfl, rfl⟩
        ·have g9 := h9
         try simp only [kb] at g9
         refine Tr.cond_f rfl h9 ?_
         refine Tr.to_end ?_
         refine Ex.go ?_
         refine Tr.seq ?_
         refine Tr.region ?_
         refine Run.val (lt rfl) (Y.fieldAddr rfl Opt3_fo36_9) ?_
         refine Run.val (lt rfl) (Y.load rfl Opt3_ts34 (Kn.at 0 rfl) rfl) ?_
         refine Run.call [] (l := [.tmp 47]) rfl rfl rfl (lt rfl) (renc_c ho hr hL hf) (fun v10 V2 H2 _ hR => ?_)
         obtain ⟨hV, rfl, z11, rfl⟩ := hR; replace hV := hV.symm; subst hV
         refine Run.val (lt rfl) (Y.move rfl) ?_
         refine Run.val (lt rfl) (Y.extract rfl rfl) ?_
         refine Run.val (lt rfl) (Y.extract rfl rfl) ?_
         refine Run.val (lt rfl) (Y.assign rfl) ?_
         refine Run.val (lt rfl) (Y.assign rfl) ?_
         refine Run.to_end ?_
         refine Ex.go ?_
         refine Tr.seq ?_
         refine Tr.region ?_
         refine Run.val (lt rfl) (Y.move rfl) ?_
         refine Run.val (lt rfl) (Y.int rfl rfl rfl) ?_
         refine Run.val (lt rfl) (Y.assign rfl) ?_
         refine Run.to_end ?_
         refine Ex.go ?_
         refine Tr.to_ret ?_
         refine Ex.keep [] ?_
         exact Ex.ret1 rfl rfl  ⟨congrArg Value.bool (by rw [Bool.eq_iff_iff]; unfold Pc.right; rw [← hLp]; simp only [Bool.and_eq_true, Bool.or_eq_true, decide_eq_true_eq, beq_iff_eq, Bool.false_eq_true]; exact ⟨fun h => by first | exact h.elim | omega, fun h => by omega⟩), rfl, rfl⟩
 ·have g2 := h2
  try simp only [kb] at g2
  refine Run.off rfl rfl rfl h2 rfl (lt rfl) ?_
  refine Run.off rfl rfl rfl h2 rfl (lt rfl) ?_
  refine Run.off rfl rfl rfl h2 rfl (lt rfl) ?_
  refine Run.val (lt rfl) (Y.pick_f rfl h2 rfl) ?_
  refine Run.val (lt rfl) (Y.move rfl) ?_
  refine Run.on rfl rfl rfl rfl ?_
  refine Run.val (lt rfl) (Y.fieldAddr rfl Opt3_fo36_2) ?_
  refine Run.on rfl rfl rfl rfl ?_
  refine Run.val (lt rfl) (Y.load rfl Opt3_ts3 (Kn.at 0 rfl) rfl) ?_
  refine Run.on rfl rfl rfl rfl ?_
  refine Run.val (lt rfl) (Y.int rfl rfl rfl) ?_
  refine Run.val (lt rfl) (Y.pick_f rfl rfl rfl) ?_
  refine Run.val (lt rfl) (Y.move rfl) ?_
  rcases Bool.eq_false_or_eq_true (decide (p.secs < 0)) with h12 | h12
  ·have g12 := h12
   try simp only [kb] at g12
   refine Run.off rfl rfl rfl h12 rfl (lt rfl) ?_
   refine Run.off rfl rfl rfl h12 rfl (lt rfl) ?_
   refine Run.off rfl rfl rfl h12 rfl (lt rfl) ?_
   refine Run.val (lt rfl) (Y.pick_t rfl h12 rfl) ?_
   refine Run.val (lt rfl) (Y.move rfl) ?_
   refine Run.off rfl rfl rfl rfl rfl (lt rfl) ?_
   refine Run.off rfl rfl rfl rfl rfl (lt rfl) ?_
   refine Run.off rfl rfl rfl rfl rfl (lt rfl) ?_
   refine Run.val (lt rfl) (Y.pick_t rfl rfl rfl) ?_
   refine Run.val (lt rfl) (Y.move rfl) ?_
   refine Run.off rfl rfl rfl rfl rfl (lt rfl) ?_
   refine Run.off rfl rfl rfl rfl rfl (lt rfl) ?_
   refine Run.off rfl rfl rfl rfl rfl (lt rfl) ?_
   refine Run.val (lt rfl) (Y.pick_t rfl rfl rfl) ?_
   refine Run.val (lt rfl) (Y.move rfl) ?_
   refine Run.off rfl rfl rfl rfl rfl (lt rfl) ?_
   refine Run.off rfl rfl rfl rfl rfl (lt rfl) ?_
   refine Run.off rfl rfl rfl rfl rfl (lt rfl) ?_
   refine Run.off rfl rfl rfl rfl rfl (lt rfl) ?_
   refine Run.val (lt rfl) (Y.pick_t rfl rfl rfl) ?_
   refine Run.val (lt rfl) (Y.move rfl) ?_
   refine Run.off rfl rfl rfl rfl rfl (lt rfl) ?_
   refine Run.off rfl rfl rfl rfl rfl (lt rfl) ?_
   refine Run.off rfl rfl rfl rfl rfl (lt rfl) ?_
   refine Run.off rfl rfl rfl rfl rfl (lt rfl) ?_
   refine Run.val (lt rfl) (Y.pick_t rfl rfl rfl) ?_
   refine Run.to_end ?_
   refine Ex.go ?_
   refine Tr.cond_t rfl rfl ?_
   refine Tr.seq ?_
   refine Tr.region ?_
   refine Run.val (lt rfl) (Y.assign rfl) ?_
   refine Run.to_end ?_
   refine Ex.go ?_
   refine Tr.to_ret ?_
   refine Ex.ret_then ?_
   refine Ex.keep [] ?_
   exact Ex.ret1 rfl rfl  ⟨congrArg Value.bool (by rw [Bool.eq_iff_iff]; unfold Pc.right; rw [← hLp]; simp only [Bool.and_eq_true, Bool.or_eq_true, decide_eq_true_eq, beq_iff_eq, Bool.false_eq_true]; exact ⟨fun h => by first | exact h.elim | omega, fun h => by omega⟩), rfl, rfl⟩
  ·have g12 := h12
   try simp only [kb] at g12
   refine Run.on rfl rfl rfl h12 ?_
   refine Run.val (lt rfl) (Y.fieldAddr rfl Opt3_fo36_2) ?_
   refine Run.on rfl rfl rfl h12 ?_
   refine Run.val (lt rfl) (Y.load rfl Opt3_ts3 (Kn.at 0 rfl) rfl) ?_
   refine Run.on rfl rfl rfl h12 ?_
   refine Run.val (lt rfl) (Y.int rfl rfl rfl) ?_
   refine Run.val (lt rfl) (Y.pick_f rfl h12 rfl) ?_
   refine Run.val (lt rfl) (Y.move rfl) ?_
   rcases Bool.eq_false_or_eq_true (decide (p.secs > 65535)) with h13 | h13
   ·have g13 := h13
    try simp only [kb] at g13
    refine Run.off rfl rfl rfl h13 rfl (lt rfl) ?_
    refine Run.off rfl rfl rfl h13 rfl (lt rfl) ?_
    refine Run.off rfl rfl rfl h13 rfl (lt rfl) ?_
    refine Run.val (lt rfl) (Y.pick_t rfl h13 rfl) ?_
    refine Run.val (lt rfl) (Y.move rfl) ?_
    refine Run.off rfl rfl rfl rfl rfl (lt rfl) ?_
    refine Run.off rfl rfl rfl rfl rfl (lt rfl) ?_
    refine Run.off rfl rfl rfl rfl rfl (lt rfl) ?_
    refine Run.val (lt rfl) (Y.pick_t rfl rfl rfl) ?_
    refine Run.val (lt rfl) (Y.move rfl) ?_
    refine Run.off rfl rfl rfl rfl rfl (lt rfl) ?_
    refine Run.off rfl rfl rfl rfl rfl (lt rfl) ?_
    refine Run.off rfl rfl rfl rfl rfl (lt rfl) ?_
    refine Run.off rfl rfl rfl rfl rfl (lt rfl) ?_
    refine Run.val (lt rfl) (Y.pick_t rfl rfl rfl) ?_
    refine Run.val (lt rfl) (Y.move rfl) ?_
    refine Run.off rfl rfl rfl rfl rfl (lt rfl) ?_
    refine Run.off rfl rfl rfl rfl rfl (lt rfl) ?_
    refine Run.off rfl rfl rfl rfl rfl (lt rfl) ?_
    refine Run.off rfl rfl rfl rfl rfl (lt rfl) ?_
    refine Run.val (lt rfl) (Y.pick_t rfl rfl rfl) ?_
    refine Run.to_end ?_
    refine Ex.go ?_
    refine Tr.cond_t rfl rfl ?_
    refine Tr.seq ?_
    refine Tr.region ?_
    refine Run.val (lt rfl) (Y.assign rfl) ?_
    refine Run.to_end ?_
    refine Ex.go ?_
    refine Tr.to_ret ?_
    refine Ex.ret_then ?_
    refine Ex.keep [] ?_
    exact Ex.ret1 rfl rfl  ⟨congrArg Value.bool (by rw [Bool.eq_iff_iff]; unfold Pc.right; rw [← hLp]; simp only [Bool.and_eq_true, Bool.or_eq_true, decide_eq_true_eq, beq_iff_eq, Bool.false_eq_true]; exact ⟨fun h => by first | exact h.elim | omega, fun h => by omega⟩), rfl, rfl⟩
   ·have g13 := h13
    try simp only [kb] at g13
    refine Run.on rfl rfl rfl h13 ?_
    refine Run.val (lt rfl) (Y.fieldAddr rfl Opt3_fo36_3) ?_
    refine Run.on rfl rfl rfl h13 ?_
    refine Run.val (lt rfl) (Y.load rfl Opt3_ts3 (Kn.at 0 rfl) rfl) ?_
    refine Run.on rfl rfl rfl h13 ?_
    refine Run.val (lt rfl) (Y.int rfl rfl rfl) ?_
    refine Run.val (lt rfl) (Y.pick_f rfl h13 rfl) ?_
    refine Run.val (lt rfl) (Y.move rfl) ?_
    rcases Bool.eq_false_or_eq_true (decide (p.flags < 0)) with h14 | h14
    ·have g14 := h14
     try simp only [kb] at g14
     refine Run.off rfl rfl rfl h14 rfl (lt rfl) ?_
     refine Run.off rfl rfl rfl h14 rfl (lt rfl) ?_
     refine Run.off rfl rfl rfl h14 rfl (lt rfl) ?_
     refine Run.val (lt rfl) (Y.pick_t rfl h14 rfl) ?_
     refine Run.val (lt rfl) (Y.move rfl) ?_
     refine Run.off rfl rfl rfl rfl rfl (lt rfl) ?_
     refine Run.off rfl rfl rfl rfl rfl (lt rfl) ?_
     refine Run.off rfl rfl rfl rfl rfl (lt rfl) ?_
     refine Run.off rfl rfl rfl rfl rfl (lt rfl) ?_
     refine Run.val (lt rfl) (Y.pick_t rfl rfl rfl) ?_
     refine Run.val (lt rfl) (Y.move rfl) ?_
     refine Run.off rfl rfl rfl rfl rfl (lt rfl) ?_
     refine Run.off rfl rfl rfl rfl rfl (lt rfl) ?_
     refine Run.off rfl rfl rfl rfl rfl (lt rfl) ?_
     refine Run.off rfl rfl rfl rfl rfl (lt rfl) ?_
     refine Run.val (lt rfl) (Y.pick_t rfl rfl rfl) ?_
     refine Run.to_end ?_
     refine Ex.go ?_
     refine Tr.cond_t rfl rfl ?_
     refine Tr.seq ?_
     refine Tr.region ?_
     refine Run.val (lt rfl) (Y.assign rfl) ?_
     refine Run.to_end ?_
     refine Ex.go ?_
     refine Tr.to_ret ?_
     refine Ex.ret_then ?_
     refine Ex.keep [] ?_
     exact Ex.ret1 rfl rfl  ⟨congrArg Value.bool (by rw [Bool.eq_iff_iff]; unfold Pc.right; rw [← hLp]; simp only [Bool.and_eq_true, Bool.or_eq_true, decide_eq_true_eq, beq_iff_eq, Bool.false_eq_true]; exact ⟨fun h => by first | exact h.elim | omega, fun h => by omega⟩), rfl, rfl⟩
    ·have g14 := h14
     try simp only [kb] at g14
     refine Run.on rfl rfl rfl h14 ?_
     refine Run.val (lt rfl) (Y.fieldAddr rfl Opt3_fo36_3) ?_
     refine Run.on rfl rfl rfl h14 ?_
     refine Run.val (lt rfl) (Y.load rfl Opt3_ts3 (Kn.at 0 rfl) rfl) ?_
     refine Run.on rfl rfl rfl h14 ?_
     refine Run.val (lt rfl) (Y.int rfl rfl rfl) ?_
     refine Run.val (lt rfl) (Y.pick_f rfl h14 rfl) ?_
     refine Run.val (lt rfl) (Y.move rfl) ?_
     rcases Bool.eq_false_or_eq_true (decide (p.flags > 65535)) with h15 | h15
     ·have g15 := h15
      try simp only [kb] at g15
      refine Run.off rfl rfl rfl h15 rfl (lt rfl) ?_
      refine Run.off rfl rfl rfl h15 rfl (lt rfl) ?_
      refine Run.off rfl rfl rfl h15 rfl (lt rfl) ?_
      refine Run.off rfl rfl rfl h15 rfl (lt rfl) ?_
      refine Run.val (lt rfl) (Y.pick_t rfl h15 rfl) ?_
      refine Run.val (lt rfl) (Y.move rfl) ?_
      refine Run.off rfl rfl rfl rfl rfl (lt rfl) ?_
      refine Run.off rfl rfl rfl rfl rfl (lt rfl) ?_
      refine Run.off rfl rfl rfl rfl rfl (lt rfl) ?_
      refine Run.off rfl rfl rfl rfl rfl (lt rfl) ?_
      refine Run.val (lt rfl) (Y.pick_t rfl rfl rfl) ?_
      refine Run.to_end ?_
      refine Ex.go ?_
      refine Tr.cond_t rfl rfl ?_
      refine Tr.seq ?_
      refine Tr.region ?_
      refine Run.val (lt rfl) (Y.assign rfl) ?_
      refine Run.to_end ?_
      refine Ex.go ?_
      refine Tr.to_ret ?_
      refine Ex.ret_then ?_
      refine Ex.keep [] ?_
      exact Ex.ret1 rfl rfl  ⟨congrArg Value.bool (by rw [Bool.eq_iff_iff]; unfold Pc.right; rw [← hLp]; simp only [Bool.and_eq_true, Bool.or_eq_true, decide_eq_true_eq, beq_iff_eq, Bool.false_eq_true]; exact ⟨fun h => by first | exact h.elim | omega, fun h => by omega⟩), rfl, rfl⟩
     ·have g15 := h15
      try simp only [kb] at g15
      refine Run.on rfl rfl rfl h15 ?_
      refine Run.val (lt rfl) (Y.fieldAddr rfl Opt3_fo36_8) ?_
      refine Run.on rfl rfl rfl h15 ?_
      refine Run.val (lt rfl) (Y.load rfl Opt3_ts22 (Kn.at 0 rfl) rfl) ?_
      refine Run.on rfl rfl rfl h15 ?_
      refine Run.val (lt rfl) (Y.lenSl rfl Opt3_es22) ?_
      refine Run.on rfl rfl rfl h15 ?_
      refine Run.val (lt rfl) (Y.int rfl rfl rfl) ?_
      refine Run.val (lt rfl) (Y.pick_f rfl h15 rfl) ?_
      refine Run.val (lt rfl) (Y.move rfl) ?_
      rcases Bool.eq_false_or_eq_true (decide (((p.hw.length : Nat) : Int) < 1)) with h16 | h16
      ·have g16 := h16
       try simp only [kb] at g16
       refine Run.off rfl rfl rfl h16 rfl (lt rfl) ?_
       refine Run.off rfl rfl rfl h16 rfl (lt rfl) ?_
       refine Run.off rfl rfl rfl h16 rfl (lt rfl) ?_
       refine Run.off rfl rfl rfl h16 rfl (lt rfl) ?_
       refine Run.val (lt rfl) (Y.pick_t rfl h16 rfl) ?_
       refine Run.to_end ?_
       refine Ex.go ?_
       refine Tr.cond_t rfl rfl ?_
       refine Tr.seq ?_
       refine Tr.region ?_
       refine Run.val (lt rfl) (Y.assign rfl) ?_
       refine Run.to_end ?_
       refine Ex.go ?_
       refine Tr.to_ret ?_
       refine Ex.ret_then ?_
       refine Ex.keep [] ?_
       exact Ex.ret1 rfl rfl  ⟨congrArg Value.bool (by rw [Bool.eq_iff_iff]; unfold Pc.right; rw [← hLp]; simp only [Bool.and_eq_true, Bool.or_eq_true, decide_eq_true_eq, beq_iff_eq, Bool.false_eq_true]; exact ⟨fun h => by first | exact h.elim | omega, fun h => by omega⟩), rfl, rfl⟩
      ·have g16 := h16
       try simp only [kb] at g16
       refine Run.on rfl rfl rfl h16 ?_
       refine Run.val (lt rfl) (Y.fieldAddr rfl Opt3_fo36_8) ?_
       refine Run.on rfl rfl rfl h16 ?_
       refine Run.val (lt rfl) (Y.load rfl Opt3_ts22 (Kn.at 0 rfl) rfl) ?_
       refine Run.on rfl rfl rfl h16 ?_
       refine Run.val (lt rfl) (Y.lenSl rfl Opt3_es22) ?_
       refine Run.on rfl rfl rfl h16 ?_
       refine Run.val (lt rfl) (Y.int rfl rfl rfl) ?_
       refine Run.val (lt rfl) (Y.pick_f rfl h16 rfl) ?_
       refine Run.to_end ?_
       refine Ex.go ?_
       rcases Bool.eq_false_or_eq_true (decide (((p.hw.length : Nat) : Int) > 16)) with h17 | h17
       ·have g17 := h17
        try simp only [kb] at g17
        refine Tr.cond_t rfl h17 ?_
        refine Tr.seq ?_
        refine Tr.region ?_
        refine Run.val (lt rfl) (Y.assign rfl) ?_
        refine Run.to_end ?_
        refine Ex.go ?_
        refine Tr.to_ret ?_
        refine Ex.ret_then ?_
        refine Ex.keep [] ?_
        exact Ex.ret1 rfl rfl  ⟨congrArg Value.bool (by rw [Bool.eq_iff_iff]; unfold Pc.right; rw [← hLp]; simp only [Bool.and_eq_true, Bool.or_eq_true, decide_eq_true_eq, beq_iff_eq, Bool.false_eq_true]; exact ⟨fun h => by first | exact h.elim | omega, fun h => by omega⟩), rfl, rfl⟩
       ·have g17 := h17
        try simp only [kb] at g17
        refine Tr.cond_f rfl h17 ?_
        refine Tr.to_end ?_
        refine Ex.go ?_
        refine Tr.seq ?_
        refine Tr.region ?_
        refine Run.val (lt rfl) (Y.fieldAddr rfl Opt3_fo36_9) ?_
        refine Run.val (lt rfl) (Y.load rfl Opt3_ts34 (Kn.at 0 rfl) rfl) ?_
        refine Run.call [] (l := [.tmp 47]) rfl rfl rfl (lt rfl) (renc_c ho hr hL hf) (fun v18 V2 H2 _ hR => ?_)
        obtain ⟨hV, rfl, z19, rfl⟩ := hR; replace hV := hV.symm; subst hV
        refine Run.val (lt rfl) (Y.move rfl) ?_
        refine Run.val (lt rfl) (Y.extract rfl rfl) ?_
        refine Run.val (lt rfl) (Y.extract rfl rfl) ?_
        refine Run.val (lt rfl) (Y.assign rfl) ?_
        refine Run.val (lt rfl) (Y.assign rfl) ?_
        refine Run.to_end ?_
        refine Ex.go ?_
        refine Tr.seq ?_
        refine Tr.region ?_
        refine Run.val (lt rfl) (Y.move rfl) ?_
        refine Run.val (lt rfl) (Y.int rfl rfl rfl) ?_
        refine Run.val (lt rfl) (Y.assign rfl) ?_
        refine Run.to_end ?_
        refine Ex.go ?_
        refine Tr.to_ret ?_
        refine Ex.keep [] ?_
        exact Ex.ret1 rfl rfl  ⟨congrArg Value.bool (by rw [Bool.eq_iff_iff]; unfold Pc.right; rw [← hLp]; simp only [Bool.and_eq_true, Bool.or_eq_true, decide_eq_true_eq, beq_iff_eq, Bool.false_eq_true]; exact ⟨fun h => by first | exact h.elim | omega, fun h => by omega⟩), rfl, rfl⟩

theorem rright_h {V : Vw} {H : Hp} {p : Pc} {hv ov : Value} (hp : Pc.R V p hv ov) (hf : Pc.few p = true) : Does Try.prog 45 [.agg (p.cells hv ov)] V H (Pv (.bool (Pc.right p)) V H) := by
  obtain ⟨ph, ch, rfl, _⟩ := hp.hw.form
  obtain ⟨L, hLp, ho, hr⟩ := hp.os
  obtain ⟨po, co, rfl, _⟩ := ho.form
  have hf' : Oc.few (L.map Opn.c) = true := by rw [hLp]; simp only [Pc.few, Bool.and_eq_true] at hf; exact hf.1
  have hL : L.length ≤ 1000000 := by have := (Oc.few_iff.1 hf').1; rw [List.length_map] at this; omega
  exact (rright_c ho hr hL hp.hw hLp hf').frame

theorem few2_c {V : Vw} {L : List Opn} {po : Option Addr} {co : Nat} (ho : Rd V [] 2 (.slice po L.length co) L.length (L.map Opn.cells).flatten) (hr : Opn.Rds V L)  : Does Try.prog 60 [.slice po L.length co] V [] (Pv (.bool (Oc.few (L.map Opn.c))) V []) := by
 refine Does.intro Try.func60 rfl rfl (le rfl) (fun B => ?_)
 refine Tr.seq ?_
 refine Tr.region ?_
 refine Run.val (lt rfl) (Y.assign rfl) ?_
 refine Run.to_end ?_
 refine Ex.go ?_
 refine Tr.seq ?_
 refine Tr.seq ?_
 refine Tr.region ?_
 refine Run.val (lt rfl) (Y.move rfl) ?_
 refine Run.val (lt rfl) (Y.lenSl rfl Opt3_es34) ?_
 refine Run.val (lt rfl) (Y.int rfl rfl rfl) ?_
 refine Run.to_end ?_
 refine Ex.go ?_
 rcases Bool.eq_false_or_eq_true (decide (((L.length : Nat) : Int) > 100)) with h1 | h1
 ·have g1 := h1
  try simp only [kb] at g1
  refine Tr.cond_t rfl h1 ?_
  refine Tr.seq ?_
  refine Tr.region ?_
  refine Run.val (lt rfl) (Y.assign rfl) ?_
  refine Run.to_end ?_
  refine Ex.go ?_
  refine Tr.to_ret ?_
  refine Ex.ret_then ?_
  exact Ex.ret1 rfl rfl  ⟨by rw [Oc.few_long (by omega)], rfl, rfl⟩
 ·have g1 := h1
  try simp only [kb] at g1
  refine Tr.cond_f rfl h1 ?_
  refine Tr.to_end ?_
  refine Ex.go ?_
  refine Tr.seq ?_
  refine Tr.seq ?_
  refine Tr.region ?_
  refine Run.val (lt rfl) (Y.assign rfl) ?_
  refine Run.to_end ?_
  refine Ex.go ?_
  refine Tr.block ?_
  refine Tr.loop (X := Nat) (fun i => V) (fun i => []) (fun i => [(0, .slice po L.length co), (3, .int .i64 (i : Int))]) (fun i => i ≤ L.length ∧ ∀ j, j < i → (L.getD j Opn.dflt).d.length ≤ 1000) (fun i => L.length - i) 0 ⟨Nat.zero_le _, fun j hj => absurd hj (Nat.not_lt_zero j)⟩ (fun a w i => ⟨i.1.sub (subB_cons (by first | rfl | exact congrArg (fun z => some (Value.int _ z)) (by omega)) (subB_cons (by first | rfl | exact congrArg (fun z => some (Value.int _ z)) (by omega)) (subB_nil _))), i.2⟩) ?_
  rintro i ⟨hi, hin⟩
  refine Tr.seq ?_
  refine Tr.seq ?_
  refine Tr.region ?_
  refine Run.val (lt rfl) (Y.move rfl) ?_
  refine Run.val (lt rfl) (Y.move rfl) ?_
  refine Run.val (lt rfl) (Y.lenSl rfl Opt3_es34) ?_
  refine Run.val (lt rfl) (Y.int rfl rfl rfl) ?_
  refine Run.to_end ?_
  refine Ex.go ?_
  rcases Bool.eq_false_or_eq_true (decide ((i : Int) < ((L.length : Nat) : Int))) with h2 | h2
  ·have g2 := h2
   try simp only [kb] at g2
   obtain ⟨b, off, c2, cs, e, fz, hw, hc, hko, hcs⟩ := ho.opened (by omega)
   obtain ⟨rfl, rfl⟩ : po = some ⟨b, off, none⟩ ∧ co = c2 := by cases hw; exact ⟨rfl, rfl⟩
   clear hw
   have hrow := row_at (f := Opn.cells) Opn.len hcs (i := i) (by omega) (Nat.le_refl _) Opn.dflt
   have hmem := getD_mem (l := L) (j := i) (by omega) Opn.dflt
   generalize hoe : L.getD i Opn.dflt = o at *
   have hro := hr o hmem
   obtain ⟨pd, cd, hov, _⟩ := hro.form
   rw [hov] at hro
   have hrow2 : ∀ j, j < 2 → cs[off + ((i : Nat) : Int).toNat * 2 + j]? = ([.int .i64 o.code, .slice pd o.d.length cd] : List Value)[j]? := fun j hj => by rw [hrow j hj]; simp only [Opn.cells, hov]
   refine Tr.cond_t rfl h2 ?_
   refine Tr.to_end ?_
   refine Ex.go ?_
   refine Tr.seq ?_
   refine Tr.block ?_
   refine Tr.seq ?_
   refine Tr.region ?_
   refine Run.val (lt rfl) (Y.move rfl) ?_
   refine Run.val (lt rfl) (Y.move rfl) ?_
   refine Run.val (lt rfl) (Y.idxAddr rfl rfl Opt3_es34 (by omega) (by omega)) ?_
   refine Run.val (lt rfl) (Y.fieldAddr rfl Opt3_fo76_1) ?_
   refine Run.val (lt rfl) (Y.load rfl Opt3_ts22 hko.of_nil (hrow2 1 (by decide))) ?_
   refine Run.val (lt rfl) (Y.lenSl rfl Opt3_es22) ?_
   refine Run.val (lt rfl) (Y.int rfl rfl rfl) ?_
   refine Run.to_end ?_
   refine Ex.go ?_
   rcases Bool.eq_false_or_eq_true (decide (((o.d.length : Nat) : Int) > 1000)) with h3 | h3
   ·have g3 := h3
    try simp only [kb] at g3
    refine Tr.cond_t rfl h3 ?_
    refine Tr.seq ?_
    refine Tr.region ?_
    refine Run.val (lt rfl) (Y.assign rfl) ?_
    refine Run.to_end ?_
    refine Ex.go ?_
    refine Tr.to_ret ?_
    refine Ex.ret_block ?_
    refine Ex.ret_then ?_
    refine Ex.ret_then ?_
    refine Ex.ret_block ?_
    refine Ex.ret_then ?_
    exact Ex.ret1 rfl rfl  ⟨by rw [Oc.few_no (i := i) (by omega) (by rw [hoe]; omega)], rfl, rfl⟩
   ·have g3 := h3
    try simp only [kb] at g3
    refine Tr.cond_f rfl h3 ?_
    refine Tr.to_end ?_
    refine Ex.end_block ?_
    refine Ex.go ?_
    refine Tr.region ?_
    refine Run.val (lt rfl) (Y.move rfl) ?_
    refine Run.val (lt rfl) (Y.add rfl rfl (by omega)) ?_
    refine Run.val (lt rfl) (Y.assign rfl) ?_
    refine Run.to_end ?_
    exact Ex.round (i + 1) ⟨by omega, upto hin (by rw [hoe]; omega)⟩ (by omega) rfl rfl (subB_cons (by first | rfl | exact congrArg (fun z => some (Value.int _ z)) (by omega)) (subB_cons (by first | rfl | exact congrArg (fun z => some (Value.int _ z)) (by omega)) (subB_nil _)))
  ·have g2 := h2
   try simp only [kb] at g2
   refine Tr.cond_f rfl h2 ?_
   refine Tr.to_exit ?_
   refine Ex.exit_then ?_
   refine Ex.exit_then ?_
   refine Ex.exit_in ?_
   refine Ex.go ?_
   refine Tr.seq ?_
   refine Tr.region ?_
   refine Run.val (lt rfl) (Y.assign rfl) ?_
   refine Run.to_end ?_
   refine Ex.go ?_
   refine Tr.to_ret ?_
   exact Ex.ret1 rfl rfl  ⟨by rw [Oc.few_yes (by omega) (fun j hj => hin j (by omega))], rfl, rfl⟩

theorem few3_c {V : Vw} {L : List Opn} {po : Option Addr} {co : Nat} (ho : Rd V [] 2 (.slice po L.length co) L.length (L.map Opn.cells).flatten) (hr : Opn.Rds V L) {p : Pc} {ph : Option Addr} {ch : Nat} (hh : Rd V [] 1 (.slice ph p.hw.length ch) p.hw.length (p.hw.map byteV)) (hLp : L.map Opn.c = p.os)  : Does Try.prog 29 [.agg #[.int .i64 p.op, .int .u32 p.xid, .int .i64 p.secs, .int .i64 p.flags, .int .u32 p.ci, .int .u32 p.yi, .int .u32 p.si, .int .u32 p.gi, .slice ph p.hw.length ch, .slice po L.length co]] V [] (Pv (.bool (Pc.few p)) V []) := by
 refine Does.intro Try.func29 rfl rfl (le rfl) (fun B => ?_)
 refine Tr.seq ?_
 refine Tr.region ?_
 refine Run.box rfl (lt rfl) (fun b1 => ?_)
 refine Run.val (lt rfl) (Y.assign rfl) ?_
 refine Run.to_end ?_
 refine Ex.go ?_
 refine Tr.seq ?_
 refine Tr.region ?_
 refine Run.val (lt rfl) (Y.fieldAddr rfl Opt3_fo36_9) ?_
 refine Run.val (lt rfl) (Y.load rfl Opt3_ts34 (Kn.at 0 rfl) rfl) ?_
 refine Run.call0 (l := [.tmp 5]) rfl rfl rfl (lt rfl) ((few2_c ho hr).frame) ?_
 refine Run.val (lt rfl) (Y.assign rfl) ?_
 refine Run.to_end ?_
 refine Ex.go ?_
 refine Tr.seq ?_
 refine Tr.region ?_
 refine Run.val (lt rfl) (Y.move rfl) ?_
 refine Run.val (lt rfl) (Y.move rfl) ?_
 rcases Bool.eq_false_or_eq_true (Oc.few (L.map Opn.c)) with h2 | h2
 ·have g2 := h2
  try simp only [kb] at g2
  refine Run.on rfl rfl rfl h2 ?_
  refine Run.val (lt rfl) (Y.fieldAddr rfl Opt3_fo36_8) ?_
  refine Run.on rfl rfl rfl h2 ?_
  refine Run.val (lt rfl) (Y.load rfl Opt3_ts22 (Kn.at 0 rfl) rfl) ?_
  refine Run.on rfl rfl rfl h2 ?_
  refine Run.val (lt rfl) (Y.lenSl rfl Opt3_es22) ?_
  refine Run.on rfl rfl rfl h2 ?_
  refine Run.val (lt rfl) (Y.int rfl rfl rfl) ?_
  refine Run.val (lt rfl) (Y.pick_t rfl h2 rfl) ?_
  refine Run.val (lt rfl) (Y.assign rfl) ?_
  refine Run.to_end ?_
  refine Ex.go ?_
  refine Tr.to_ret ?_
  refine Ex.keep [] ?_
  exact Ex.ret1 rfl rfl  ⟨congrArg Value.bool (by unfold Pc.few; rw [← hLp, h2, Bool.true_and]), rfl, rfl⟩
 ·have g2 := h2
  try simp only [kb] at g2
  refine Run.off rfl rfl rfl h2 rfl (lt rfl) ?_
  refine Run.off rfl rfl rfl h2 rfl (lt rfl) ?_
  refine Run.off rfl rfl rfl h2 rfl (lt rfl) ?_
  refine Run.off rfl rfl rfl h2 rfl (lt rfl) ?_
  refine Run.val (lt rfl) (Y.pick_f rfl h2 rfl) ?_
  refine Run.val (lt rfl) (Y.assign rfl) ?_
  refine Run.to_end ?_
  refine Ex.go ?_
  refine Tr.to_ret ?_
  refine Ex.keep [] ?_
  exact Ex.ret1 rfl rfl  ⟨congrArg Value.bool (by unfold Pc.few; rw [← hLp, h2, Bool.false_and]), rfl, rfl⟩

theorem few_h {V : Vw} {H : Hp} {p : Pc} {hv ov : Value} (hh : Rd V [] 1 hv p.hw.length (p.hw.map byteV)) (hs : Pc.Rs V ov p.os) : Does Try.prog 29 [.agg (p.cells hv ov)] V H (Pv (.bool (Pc.few p)) V H) := by
  obtain ⟨ph, ch, rfl, _⟩ := hh.form
  obtain ⟨L, hLp, ho, hr⟩ := hs
  obtain ⟨po, co, rfl, _⟩ := ho.form
  exact (few3_c ho hr hh hLp).frame

theorem same2_c {V : Vw} {L : List Opn} {po : Option Addr} {co : Nat} (ho : Rd V [] 2 (.slice po L.length co) L.length (L.map Opn.cells).flatten) (hr : Opn.Rds V L) (hL : L.length ≤ 1000000) {M : List Opn} {qo : Option Addr} {do_ : Nat} (ho2 : Rd V [] 2 (.slice qo M.length do_) M.length (M.map Opn.cells).flatten) (hr2 : Opn.Rds V M) (hLM : L.map Opn.c = M.map Opn.c)  : Does Try.prog 50 [.slice po L.length co, .slice qo M.length do_] V [] (Pv (.bool true) V []) := by
 have hlen := Oc.same_len hLM
 refine Does.intro Try.func50 rfl rfl (le rfl) (fun B => ?_)
 refine Tr.seq ?_
 refine Tr.region ?_
 refine Run.val (lt rfl) (Y.assign rfl) ?_
 refine Run.to_end ?_
 refine Ex.go ?_
 refine Tr.seq ?_
 refine Tr.seq ?_
 refine Tr.region ?_
 refine Run.val (lt rfl) (Y.move rfl) ?_
 refine Run.val (lt rfl) (Y.lenSl rfl Opt3_es34) ?_
 refine Run.val (lt rfl) (Y.move rfl) ?_
 refine Run.val (lt rfl) (Y.lenSl rfl Opt3_es34) ?_
 refine Run.val (lt rfl) (Y.int rfl rfl rfl) ?_
 refine Run.to_end ?_
 refine Ex.go ?_
 refine Tr.cond_f rfl (bne_eq_false_iff_eq.2 (by omega)) ?_
 refine Tr.to_end ?_
 refine Ex.go ?_
 refine Tr.seq ?_
 refine Tr.seq ?_
 refine Tr.region ?_
 refine Run.val (lt rfl) (Y.assign rfl) ?_
 refine Run.to_end ?_
 refine Ex.go ?_
 refine Tr.block ?_
 refine Tr.loop (X := Nat) (fun i => V) (fun i => []) (fun i => [(0, .slice po L.length co), (1, .slice qo M.length do_), (5, .int .i64 (i : Int))]) (fun i => i ≤ L.length) (fun i => L.length - i) 0 (Nat.zero_le _) (fun a w i => ⟨i.1.sub (subB_cons (by first | rfl | exact congrArg (fun z => some (Value.int _ z)) (by omega)) (subB_cons (by first | rfl | exact congrArg (fun z => some (Value.int _ z)) (by omega)) (subB_cons (by first | rfl | exact congrArg (fun z => some (Value.int _ z)) (by omega)) (subB_nil _)))), i.2⟩) ?_
 rintro i hi
 refine Tr.seq ?_
 refine Tr.seq ?_
 refine Tr.region ?_
 refine Run.val (lt rfl) (Y.move rfl) ?_
 refine Run.val (lt rfl) (Y.move rfl) ?_
 refine Run.val (lt rfl) (Y.lenSl rfl Opt3_es34) ?_
 refine Run.val (lt rfl) (Y.int rfl rfl rfl) ?_
 refine Run.to_end ?_
 refine Ex.go ?_
 rcases Bool.eq_false_or_eq_true (decide ((i : Int) < ((L.length : Nat) : Int))) with h1 | h1
 ·have g1 := h1
  try simp only [kb] at g1
  have hse := Oc.same_at hLM i
  obtain ⟨b, off, c2, cs, e, fz, hw, hc, hko, hcs⟩ := ho.opened (by omega)
  obtain ⟨rfl, rfl⟩ : po = some ⟨b, off, none⟩ ∧ co = c2 := by cases hw; exact ⟨rfl, rfl⟩
  clear hw
  have hrow := row_at (f := Opn.cells) Opn.len hcs (i := i) (by omega) (Nat.le_refl _) Opn.dflt
  have hmem := getD_mem (l := L) (j := i) (by omega) Opn.dflt
  generalize hoe : L.getD i Opn.dflt = o at *
  have hro := hr o hmem
  obtain ⟨pd, cd, hov, _⟩ := hro.form
  rw [hov] at hro
  have hrow2 : ∀ j, j < 2 → cs[off + ((i : Nat) : Int).toNat * 2 + j]? = ([.int .i64 o.code, .slice pd o.d.length cd] : List Value)[j]? := fun j hj => by rw [hrow j hj]; simp only [Opn.cells, hov]
  obtain ⟨b2, off2, c3, cs2, e2, fz2, hw2, hc2, hko2, hcs2⟩ := ho2.opened (by omega)
  obtain ⟨rfl, rfl⟩ : qo = some ⟨b2, off2, none⟩ ∧ do_ = c3 := by cases hw2; exact ⟨rfl, rfl⟩
  clear hw2
  have hrowb := row_at (f := Opn.cells) Opn.len hcs2 (i := i) (by omega) (Nat.le_refl _) Opn.dflt
  have hmem2 := getD_mem (l := M) (j := i) (by omega) Opn.dflt
  generalize hoe2 : M.getD i Opn.dflt = o2 at *
  have hro2 := hr2 o2 hmem2
  obtain ⟨pd2, cd2, hov2, _⟩ := hro2.form
  rw [hov2] at hro2
  have hrowb2 : ∀ j, j < 2 → cs2[off2 + ((i : Nat) : Int).toNat * 2 + j]? = ([.int .i64 o2.code, .slice pd2 o2.d.length cd2] : List Value)[j]? := fun j hj => by rw [hrowb j hj]; simp only [Opn.cells, hov2]
  refine Tr.cond_t rfl h1 ?_
  refine Tr.to_end ?_
  refine Ex.go ?_
  refine Tr.seq ?_
  refine Tr.block ?_
  refine Tr.seq ?_
  refine Tr.quiet Opt3_mo (by kernel_rfl) ?_
  refine RunQ.val (lt rfl) (Y.move rfl) ?_
  refine RunQ.val (lt rfl) (Y.move rfl) ?_
  refine RunQ.val (lt rfl) (Y.idxAddr rfl rfl Opt3_es34 (by omega) (by omega)) ?_
  refine RunQ.val (lt rfl) (Y.fieldAddr rfl Opt3_fo76_0) ?_
  refine RunQ.val (lt rfl) (Y.load rfl Opt3_ts3 hko.of_nil (hrow 0 (by decide))) ?_
  refine RunQ.val (lt rfl) (Y.move rfl) ?_
  refine RunQ.val (lt rfl) (Y.move rfl) ?_
  refine RunQ.val (lt rfl) (Y.idxAddr rfl rfl Opt3_es34 (by omega) (by omega)) ?_
  refine RunQ.val (lt rfl) (Y.fieldAddr rfl Opt3_fo76_0) ?_
  refine RunQ.val (lt rfl) (Y.load rfl Opt3_ts3 hko2.of_nil (hrowb2 0 (by decide))) ?_
  refine RunQ.val (lt rfl) (Y.int rfl rfl rfl) ?_
  refine RunQ.val (lt rfl) (Y.move rfl) ?_
  refine RunQ.on rfl rfl rfl (bne_eq_false_iff_eq.2 hse.1) ?_
  refine RunQ.val (lt rfl) (Y.move rfl) ?_
  refine RunQ.on rfl rfl rfl (bne_eq_false_iff_eq.2 hse.1) ?_
  refine RunQ.val (lt rfl) (Y.move rfl) ?_
  refine RunQ.on rfl rfl rfl (bne_eq_false_iff_eq.2 hse.1) ?_
  refine RunQ.val (lt rfl) (Y.idxAddr rfl rfl Opt3_es34 (by omega) (by omega)) ?_
  refine RunQ.on rfl rfl rfl (bne_eq_false_iff_eq.2 hse.1) ?_
  refine RunQ.val (lt rfl) (Y.fieldAddr rfl Opt3_fo76_1) ?_
  refine RunQ.on rfl rfl rfl (bne_eq_false_iff_eq.2 hse.1) ?_
  refine RunQ.val (lt rfl) (Y.load rfl Opt3_ts22 hko.of_nil (hrow2 1 (by decide))) ?_
  refine RunQ.on rfl rfl rfl (bne_eq_false_iff_eq.2 hse.1) ?_
  refine RunQ.val (lt rfl) (Y.bytesStr (bs := o.d) rfl Opt3_es22 Opt3_tg5 Opt3_st9 hro.of_nil) ?_
  refine RunQ.on rfl rfl rfl (bne_eq_false_iff_eq.2 hse.1) ?_
  refine RunQ.val (lt rfl) (Y.move rfl) ?_
  refine RunQ.on rfl rfl rfl (bne_eq_false_iff_eq.2 hse.1) ?_
  refine RunQ.val (lt rfl) (Y.move rfl) ?_
  refine RunQ.on rfl rfl rfl (bne_eq_false_iff_eq.2 hse.1) ?_
  refine RunQ.val (lt rfl) (Y.idxAddr rfl rfl Opt3_es34 (by omega) (by omega)) ?_
  refine RunQ.on rfl rfl rfl (bne_eq_false_iff_eq.2 hse.1) ?_
  refine RunQ.val (lt rfl) (Y.fieldAddr rfl Opt3_fo76_1) ?_
  refine RunQ.on rfl rfl rfl (bne_eq_false_iff_eq.2 hse.1) ?_
  refine RunQ.val (lt rfl) (Y.load rfl Opt3_ts22 hko2.of_nil (hrowb2 1 (by decide))) ?_
  refine RunQ.on rfl rfl rfl (bne_eq_false_iff_eq.2 hse.1) ?_
  refine RunQ.val (lt rfl) (Y.bytesStr (bs := o2.d) rfl Opt3_es22 Opt3_tg5 Opt3_st9 hro2.of_nil) ?_
  refine RunQ.on rfl rfl rfl (bne_eq_false_iff_eq.2 hse.1) ?_
  refine RunQ.val (lt rfl) (Y.neStr rfl rfl) ?_
  refine RunQ.val (lt rfl) (Y.pick_f rfl (bne_eq_false_iff_eq.2 hse.1) rfl) ?_
  refine RunQ.to_end ?_
  refine Ex.go ?_
  refine Tr.cond_f rfl (by rw [hse.2]; simp) ?_
  refine Tr.to_end ?_
  refine Ex.end_block ?_
  refine Ex.go ?_
  refine Tr.region ?_
  refine Run.val (lt rfl) (Y.move rfl) ?_
  refine Run.val (lt rfl) (Y.add rfl rfl (by omega)) ?_
  refine Run.val (lt rfl) (Y.assign rfl) ?_
  refine Run.to_end ?_
  exact Ex.round (i + 1) (by show i + 1 ≤ L.length; omega) (by omega) rfl rfl (subB_cons (by first | rfl | exact congrArg (fun z => some (Value.int _ z)) (by omega)) (subB_cons (by first | rfl | exact congrArg (fun z => some (Value.int _ z)) (by omega)) (subB_cons (by first | rfl | exact congrArg (fun z => some (Value.int _ z)) (by omega)) (subB_nil _))))
 ·have g1 := h1
  try simp only [kb] at g1
  refine Tr.cond_f rfl h1 ?_
  refine Tr.to_exit ?_
  refine Ex.exit_then ?_
  refine Ex.exit_then ?_
  refine Ex.exit_in ?_
  refine Ex.go ?_
  refine Tr.seq ?_
  refine Tr.region ?_
  refine Run.val (lt rfl) (Y.assign rfl) ?_
  refine Run.to_end ?_
  refine Ex.go ?_
  refine Tr.to_ret ?_
  exact Ex.ret1 rfl rfl  ⟨rfl, rfl, rfl⟩

theorem same3_c {V : Vw} {L : List Opn} {po : Option Addr} {co : Nat} (ho : Rd V [] 2 (.slice po L.length co) L.length (L.map Opn.cells).flatten) (hr : Opn.Rds V L) (hL : L.length ≤ 1000000) {M : List Opn} {qo : Option Addr} {do_ : Nat} (ho2 : Rd V [] 2 (.slice qo M.length do_) M.length (M.map Opn.cells).flatten) (hr2 : Opn.Rds V M) {p : Pc} {ph qh : Option Addr} {ch dh : Nat} (hh : Rd V [] 1 (.slice ph p.hw.length ch) p.hw.length (p.hw.map byteV)) (hh2 : Rd V [] 1 (.slice qh p.hw.length dh) p.hw.length (p.hw.map byteV)) (hLp : L.map Opn.c = p.os) (hMp : M.map Opn.c = p.os)  : Does Try.prog 20 [.agg #[.int .i64 p.op, .int .u32 p.xid, .int .i64 p.secs, .int .i64 p.flags, .int .u32 p.ci, .int .u32 p.yi, .int .u32 p.si, .int .u32 p.gi, .slice ph p.hw.length ch, .slice po L.length co], .agg #[.int .i64 p.op, .int .u32 p.xid, .int .i64 p.secs, .int .i64 p.flags, .int .u32 p.ci, .int .u32 p.yi, .int .u32 p.si, .int .u32 p.gi, .slice qh p.hw.length dh, .slice qo M.length do_]] V [] (Pv (.bool true) V []) := by
 refine Does.intro Try.func20 rfl rfl (le rfl) (fun B => ?_)
 refine Tr.seq ?_
 refine Tr.region ?_
 refine Run.box rfl (lt rfl) (fun b1 => ?_)
 refine Run.box rfl (lt rfl) (fun b2 => ?_)
 refine Run.val (lt rfl) (Y.assign rfl) ?_
 refine Run.to_end ?_
 refine Ex.go ?_
 refine Tr.seq ?_
 refine Tr.region ?_
 refine Run.val (lt rfl) (Y.fieldAddr rfl Opt3_fo36_9) ?_
 refine Run.val (lt rfl) (Y.load rfl Opt3_ts34 (Kn.at 1 rfl) rfl) ?_
 refine Run.val (lt rfl) (Y.fieldAddr rfl Opt3_fo36_9) ?_
 refine Run.val (lt rfl) (Y.load rfl Opt3_ts34 (Kn.at 0 rfl) rfl) ?_
 refine Run.call0 (l := [.tmp 7, .tmp 9]) rfl rfl rfl (lt rfl) ((same2_c ho hr hL ho2 hr2 (hLp.trans hMp.symm)).frame) ?_
 refine Run.val (lt rfl) (Y.assign rfl) ?_
 refine Run.to_end ?_
 refine Ex.go ?_
 refine Tr.seq ?_
 refine Tr.region ?_
 refine Run.val (lt rfl) (Y.move rfl) ?_
 refine Run.val (lt rfl) (Y.move rfl) ?_
 refine Run.on rfl rfl rfl rfl ?_
 refine Run.val (lt rfl) (Y.fieldAddr rfl Opt3_fo36_0) ?_
 refine Run.on rfl rfl rfl rfl ?_
 refine Run.val (lt rfl) (Y.load rfl Opt3_ts3 (Kn.at 1 rfl) rfl) ?_
 refine Run.on rfl rfl rfl rfl ?_
 refine Run.val (lt rfl) (Y.fieldAddr rfl Opt3_fo36_0) ?_
 refine Run.on rfl rfl rfl rfl ?_
 refine Run.val (lt rfl) (Y.load rfl Opt3_ts3 (Kn.at 0 rfl) rfl) ?_
 refine Run.on rfl rfl rfl rfl ?_
 refine Run.val (lt rfl) (Y.eqI_t rfl rfl) ?_
 refine Run.val (lt rfl) (Y.pick_t rfl rfl rfl) ?_
 refine Run.val (lt rfl) (Y.move rfl) ?_
 refine Run.on rfl rfl rfl rfl ?_
 refine Run.val (lt rfl) (Y.fieldAddr rfl Opt3_fo36_1) ?_
 refine Run.on rfl rfl rfl rfl ?_
 refine Run.val (lt rfl) (Y.load rfl Opt3_ts32 (Kn.at 1 rfl) rfl) ?_
 refine Run.on rfl rfl rfl rfl ?_
 refine Run.val (lt rfl) (Y.fieldAddr rfl Opt3_fo36_1) ?_
 refine Run.on rfl rfl rfl rfl ?_
 refine Run.val (lt rfl) (Y.load rfl Opt3_ts32 (Kn.at 0 rfl) rfl) ?_
 refine Run.on rfl rfl rfl rfl ?_
 refine Run.val (lt rfl) (Y.eqI_t rfl rfl) ?_
 refine Run.val (lt rfl) (Y.pick_t rfl rfl rfl) ?_
 refine Run.val (lt rfl) (Y.move rfl) ?_
 refine Run.on rfl rfl rfl rfl ?_
 refine Run.val (lt rfl) (Y.fieldAddr rfl Opt3_fo36_2) ?_
 refine Run.on rfl rfl rfl rfl ?_
 refine Run.val (lt rfl) (Y.load rfl Opt3_ts3 (Kn.at 1 rfl) rfl) ?_
 refine Run.on rfl rfl rfl rfl ?_
 refine Run.val (lt rfl) (Y.fieldAddr rfl Opt3_fo36_2) ?_
 refine Run.on rfl rfl rfl rfl ?_
 refine Run.val (lt rfl) (Y.load rfl Opt3_ts3 (Kn.at 0 rfl) rfl) ?_
 refine Run.on rfl rfl rfl rfl ?_
 refine Run.val (lt rfl) (Y.eqI_t rfl rfl) ?_
 refine Run.val (lt rfl) (Y.pick_t rfl rfl rfl) ?_
 refine Run.val (lt rfl) (Y.move rfl) ?_
 refine Run.on rfl rfl rfl rfl ?_
 refine Run.val (lt rfl) (Y.fieldAddr rfl Opt3_fo36_3) ?_
 refine Run.on rfl rfl rfl rfl ?_
 refine Run.val (lt rfl) (Y.load rfl Opt3_ts3 (Kn.at 1 rfl) rfl) ?_
 refine Run.on rfl rfl rfl rfl ?_
 refine Run.val (lt rfl) (Y.fieldAddr rfl Opt3_fo36_3) ?_
 refine Run.on rfl rfl rfl rfl ?_
 refine Run.val (lt rfl) (Y.load rfl Opt3_ts3 (Kn.at 0 rfl) rfl) ?_
 refine Run.on rfl rfl rfl rfl ?_
 refine Run.val (lt rfl) (Y.eqI_t rfl rfl) ?_
 refine Run.val (lt rfl) (Y.pick_t rfl rfl rfl) ?_
 refine Run.val (lt rfl) (Y.move rfl) ?_
 refine Run.on rfl rfl rfl rfl ?_
 refine Run.val (lt rfl) (Y.fieldAddr rfl Opt3_fo36_4) ?_
 refine Run.on rfl rfl rfl rfl ?_
 refine Run.val (lt rfl) (Y.load rfl Opt3_ts33 (Kn.at 1 rfl) rfl) ?_
 refine Run.on rfl rfl rfl rfl ?_
 refine Run.val (lt rfl) (Y.fieldAddr rfl Opt3_fo36_4) ?_
 refine Run.on rfl rfl rfl rfl ?_
 refine Run.val (lt rfl) (Y.load rfl Opt3_ts33 (Kn.at 0 rfl) rfl) ?_
 refine Run.on rfl rfl rfl rfl ?_
 refine Run.val (lt rfl) (Y.eqI_t rfl rfl) ?_
 refine Run.val (lt rfl) (Y.pick_t rfl rfl rfl) ?_
 refine Run.val (lt rfl) (Y.move rfl) ?_
 refine Run.on rfl rfl rfl rfl ?_
 refine Run.val (lt rfl) (Y.fieldAddr rfl Opt3_fo36_5) ?_
 refine Run.on rfl rfl rfl rfl ?_
 refine Run.val (lt rfl) (Y.load rfl Opt3_ts33 (Kn.at 1 rfl) rfl) ?_
 refine Run.on rfl rfl rfl rfl ?_
 refine Run.val (lt rfl) (Y.fieldAddr rfl Opt3_fo36_5) ?_
 refine Run.on rfl rfl rfl rfl ?_
 refine Run.val (lt rfl) (Y.load rfl Opt3_ts33 (Kn.at 0 rfl) rfl) ?_
 refine Run.on rfl rfl rfl rfl ?_
 refine Run.val (lt rfl) (Y.eqI_t rfl rfl) ?_
 refine Run.val (lt rfl) (Y.pick_t rfl rfl rfl) ?_
 refine Run.val (lt rfl) (Y.move rfl) ?_
 refine Run.on rfl rfl rfl rfl ?_
 refine Run.val (lt rfl) (Y.fieldAddr rfl Opt3_fo36_6) ?_
 refine Run.on rfl rfl rfl rfl ?_
 refine Run.val (lt rfl) (Y.load rfl Opt3_ts33 (Kn.at 1 rfl) rfl) ?_
 refine Run.on rfl rfl rfl rfl ?_
 refine Run.val (lt rfl) (Y.fieldAddr rfl Opt3_fo36_6) ?_
 refine Run.on rfl rfl rfl rfl ?_
 refine Run.val (lt rfl) (Y.load rfl Opt3_ts33 (Kn.at 0 rfl) rfl) ?_
 refine Run.on rfl rfl rfl rfl ?_
 refine Run.val (lt rfl) (Y.eqI_t rfl rfl) ?_
 refine Run.val (lt rfl) (Y.pick_t rfl rfl rfl) ?_
 refine Run.val (lt rfl) (Y.move rfl) ?_
 refine Run.on rfl rfl rfl rfl ?_
 refine Run.val (lt rfl) (Y.fieldAddr rfl Opt3_fo36_7) ?_
 refine Run.on rfl rfl rfl rfl ?_
 refine Run.val (lt rfl) (Y.load rfl Opt3_ts33 (Kn.at 1 rfl) rfl) ?_
 refine Run.on rfl rfl rfl rfl ?_
 refine Run.val (lt rfl) (Y.fieldAddr rfl Opt3_fo36_7) ?_
 refine Run.on rfl rfl rfl rfl ?_
 refine Run.val (lt rfl) (Y.load rfl Opt3_ts33 (Kn.at 0 rfl) rfl) ?_
 refine Run.on rfl rfl rfl rfl ?_
 refine Run.val (lt rfl) (Y.eqI_t rfl rfl) ?_
 refine Run.val (lt rfl) (Y.pick_t rfl rfl rfl) ?_
 refine Run.val (lt rfl) (Y.move rfl) ?_
 refine Run.on rfl rfl rfl rfl ?_
 refine Run.val (lt rfl) (Y.fieldAddr rfl Opt3_fo36_8) ?_
 refine Run.on rfl rfl rfl rfl ?_
 refine Run.val (lt rfl) (Y.load rfl Opt3_ts22 (Kn.at 1 rfl) rfl) ?_
 refine Run.on rfl rfl rfl rfl ?_
 refine Run.val (lt rfl) (Y.bytesStr (bs := p.hw) rfl Opt3_es22 Opt3_tg5 Opt3_st9 hh.of_nil) ?_
 refine Run.on rfl rfl rfl rfl ?_
 refine Run.val (lt rfl) (Y.fieldAddr rfl Opt3_fo36_8) ?_
 refine Run.on rfl rfl rfl rfl ?_
 refine Run.val (lt rfl) (Y.load rfl Opt3_ts22 (Kn.at 0 rfl) rfl) ?_
 refine Run.on rfl rfl rfl rfl ?_
 refine Run.val (lt rfl) (Y.bytesStr (bs := p.hw) rfl Opt3_es22 Opt3_tg5 Opt3_st9 hh2.of_nil) ?_
 refine Run.on rfl rfl rfl rfl ?_
 refine Run.val (lt rfl) (Y.eqStr rfl rfl) ?_
 refine Run.val (lt rfl) (Y.pick_t rfl rfl rfl) ?_
 refine Run.val (lt rfl) (Y.assign rfl) ?_
 refine Run.to_end ?_
 refine Ex.go ?_
 refine Tr.to_ret ?_
 refine Ex.keep [] ?_
 exact Ex.ret1 rfl rfl  ⟨congrArg Value.bool (beq_self_eq_true _), rfl, rfl⟩

theorem same_h {V : Vw} {H : Hp} {p : Pc} {hv ov hv2 ov2 : Value} (hh : Rd V [] 1 hv p.hw.length (p.hw.map byteV)) (hs : Pc.Rs V ov p.os) (hh2 : Rd V [] 1 hv2 p.hw.length (p.hw.map byteV)) (hs2 : Pc.Rs V ov2 p.os) (hl : p.os.length ≤ 1000000) : Does Try.prog 20 [.agg (p.cells hv ov), .agg (p.cells hv2 ov2)] V H (Pv (.bool true) V H) := by
  obtain ⟨ph, ch, rfl, _⟩ := hh.form
  obtain ⟨qh, dh, rfl, _⟩ := hh2.form
  obtain ⟨L, hLp, ho, hr⟩ := hs
  obtain ⟨M, hMp, ho2, hr2⟩ := hs2
  obtain ⟨po, co, rfl, _⟩ := ho.form
  obtain ⟨qo, do_, rfl, _⟩ := ho2.form
  exact (same3_c ho hr (by have := congrArg List.length hLp; rw [List.length_map] at this; omega) ho2 hr2 hh hh2 hLp hMp).frame

theorem bytes_c {V : Vw} {n : Int} (hn : 0 ≤ n ∧ n ≤ 4294967295)  : Does Try.prog 64 [.int .i64 n, .int .i64 4] V [] (fun u V' H' => V' = V ∧ ∃ v s', u = .tuple #[v, .int .i64 0] ∧ H' = [s'] ∧ Ow 5 1 v 4 ((Msg.be 4 n).map byteV) s') := by
 refine Does.intro Try.func64 rfl rfl (le rfl) (fun B => ?_)
 refine Tr.seq ?_
 refine Tr.region ?_
 refine Run.val (lt rfl) (Y.assign rfl) ?_
 refine Run.val (lt rfl) (Y.assign rfl) ?_
 refine Run.to_end ?_
 refine Ex.go ?_
 refine Tr.seq ?_
 refine Tr.seq ?_
 refine Tr.region ?_
 refine Run.val (lt rfl) (Y.move rfl) ?_
 refine Run.to_end ?_
 refine Ex.go ?_
 refine Tr.block ?_
 refine Tr.seq ?_
 refine Tr.seq ?_
 refine Tr.region ?_
 refine Run.val (lt rfl) (Y.int (r := .bool false) rfl rfl rfl) ?_
 refine Run.val (lt rfl) (Y.assign rfl) ?_
 refine Run.to_end ?_
 refine Ex.go ?_
 refine Tr.cond_f rfl rfl ?_
 refine Tr.seq ?_
 refine Tr.region ?_
 refine Run.val (lt rfl) (Y.int (r := .bool false) rfl rfl rfl) ?_
 refine Run.val (lt rfl) (Y.assign rfl) ?_
 refine Run.to_end ?_
 refine Ex.go ?_
 refine Tr.cond_f rfl rfl ?_
 refine Tr.region ?_
 refine Run.val (lt rfl) (Y.int (r := .bool true) rfl rfl rfl) ?_
 refine Run.val (lt rfl) (Y.assign rfl) ?_
 refine Run.to_end ?_
 refine Ex.go ?_
 refine Tr.cond_t rfl rfl ?_
 refine Tr.to_end ?_
 refine Ex.end_block ?_
 refine Ex.go ?_
 refine Tr.seq ?_
 refine Tr.seq ?_
 refine Tr.region ?_
 refine Run.val (lt rfl) (Y.move rfl) ?_
 refine Run.val (lt rfl) (Y.int rfl rfl rfl) ?_
 refine Run.val (lt rfl) (Y.move rfl) ?_
 rcases Bool.eq_false_or_eq_true (decide (n < 0)) with h1 | h1
 ·have g1 := h1
  try simp only [kb] at g1
  omega
 ·have g1 := h1
  try simp only [kb] at g1
  refine Run.on rfl rfl rfl h1 ?_
  refine Run.val (lt rfl) (Y.move rfl) ?_
  refine Run.on rfl rfl rfl h1 ?_
  refine Run.val (lt rfl) (Y.move rfl) ?_
  refine Run.on rfl rfl rfl h1 ?_
  refine Run.val (lt rfl) (Y.mul rfl rfl (by omega)) ?_
  refine Run.on rfl rfl rfl h1 ?_
  refine Run.val (lt rfl) (Y.shl (4294967296) rfl rfl (by decide) (by decide)) ?_
  refine Run.on rfl rfl rfl h1 ?_
  refine Run.val (lt rfl) (Y.int rfl rfl rfl) ?_
  refine Run.val (lt rfl) (Y.pick_f rfl h1 rfl) ?_
  refine Run.to_end ?_
  refine Ex.go ?_
  rcases Bool.eq_false_or_eq_true (decide (n ≥ 4294967296)) with h2 | h2
  ·have g2 := h2
   try simp only [kb] at g2
   omega
  ·have g2 := h2
   try simp only [kb] at g2
   refine Tr.cond_f rfl h2 ?_
   refine Tr.to_end ?_
   refine Ex.go ?_
   refine Tr.seq ?_
   refine Tr.region ?_
   refine Run.val (lt rfl) (Y.assign rfl) ?_
   refine Run.to_end ?_
   refine Ex.go ?_
   refine Tr.seq ?_
   refine Tr.seq ?_
   refine Tr.region ?_
   refine Run.nilseg ?_
   refine Run.val (lt rfl) (Y.move rfl) ?_
   refine Run.val (lt rfl) (Y.sub rfl rfl (by omega)) ?_
   refine Run.val (lt rfl) (Y.assign rfl) ?_
   refine Run.to_end ?_
   refine Ex.go ?_
   refine Tr.block ?_
   refine Tr.loop (X := Nat × Value × Sg) (fun x => V) (fun x => [x.2.2]) (fun x => [(0, .int .i64 n), (1, .int .i64 4), (6, x.2.1), (7, .int .i64 (3 - (x.1 : Int)))]) (fun x => x.1 ≤ 4 ∧ Ow 5 1 x.2.1 x.1 (((Msg.be 4 n).take x.1).map byteV) x.2.2) (fun x => 4 - x.1) (0, .slice none 0 0, []) ⟨Nat.zero_le _, Ow.nil _ _⟩ (fun a w i => ⟨i.1.sub (subB_cons (by first | rfl | exact congrArg (fun z => some (Value.int _ z)) (by omega)) (subB_cons (by first | rfl | exact congrArg (fun z => some (Value.int _ z)) (by omega)) (subB_cons (by first | rfl | exact congrArg (fun z => some (Value.int _ z)) (by omega)) (subB_cons (by first | rfl | exact congrArg (fun z => some (Value.int _ z)) (by omega)) (subB_nil _))))), i.2⟩) ?_
   rintro x ⟨hj, hx⟩
   refine Tr.seq ?_
   refine Tr.seq ?_
   refine Tr.region ?_
   refine Run.val (lt rfl) (Y.move rfl) ?_
   refine Run.val (lt rfl) (Y.int rfl rfl rfl) ?_
   refine Run.to_end ?_
   refine Ex.go ?_
   rcases Bool.eq_false_or_eq_true (decide ((3 - (x.1 : Int)) ≥ 0)) with h3 | h3
   ·have g3 := h3
    try simp only [kb] at g3
    refine Tr.cond_t rfl h3 ?_
    refine Tr.to_end ?_
    refine Ex.go ?_
    refine Tr.seq ?_
    refine Tr.block ?_
    refine Tr.region ?_
    refine Run.val (lt rfl) (Y.move rfl) ?_
    refine Run.val (lt rfl) (Y.move rfl) ?_
    refine Run.val (lt rfl) (Y.move rfl) ?_
    refine Run.val (lt rfl) (Y.mul rfl rfl (by omega)) ?_
    refine Run.val (lt rfl) (Y.shr (n / 256 ^ (4 - 1 - x.1)) rfl rfl (by omega) (Msg.shr_be (by omega) (by omega))) ?_
    refine Run.val (lt rfl) (Y.conv (n / 256 ^ (4 - 1 - x.1) % 256) rfl Opt3_it3_5 (wrap_u8_mod _)) ?_
    refine Run.buildSlice (l := [(0, .tmp 33)]) Opt3_es22 Opt3_zo5 rfl (by decide) rfl rfl (by decide) (lt rfl) (fun b4 => ?_)
    refine Run.append (n := x.1) (m := 1) (xs := ((Msg.be 4 n).take x.1).map byteV) (ys := [.int .u8 (n / 256 ^ (4 - 1 - x.1) % 256)]) rfl rfl Opt3_es22 Opt3_zi5 (by decide) (j := 1) rfl hx (Src.of_rd Opt3_es22 (Rd.one (Kn.at 0 rfl) rfl)) (by omega) (by omega) rfl (lt rfl) (fun v5 s6 ho7 hf => ?_)
    obtain ⟨p5, c5, rfl⟩ := hf
    refine Run.val (lt rfl) (Y.assign rfl) ?_
    refine Run.to_end ?_
    refine Ex.end_block ?_
    refine Ex.go ?_
    refine Tr.region ?_
    refine Run.val (lt rfl) (Y.move rfl) ?_
    refine Run.val (lt rfl) (Y.sub rfl rfl (by omega)) ?_
    refine Run.val (lt rfl) (Y.assign rfl) ?_
    refine Run.to_end ?_
    refine Ex.keep [1] ?_
    exact Ex.round (x.1 + 1, (.slice p5 (x.1 + 1) c5), s6) ⟨by show x.1 + 1 ≤ 4; omega, by have h := ho7; show Ow _ 1 (.slice p5 (x.1 + 1) c5) (x.1 + 1) (((Msg.be 4 n).take (x.1 + 1)).map byteV) s6; rw [Msg.be_step (by omega), List.map_append, List.map_cons, List.map_nil, byteV_of (by omega)]; exact h⟩ (by show 4 - (x.1 + 1) < 4 - x.1; omega) rfl rfl (subB_cons (by first | rfl | exact congrArg (fun z => some (Value.int _ z)) (by omega)) (subB_cons (by first | rfl | exact congrArg (fun z => some (Value.int _ z)) (by omega)) (subB_cons (by first | rfl | exact congrArg (fun z => some (Value.int _ z)) (by omega)) (subB_cons (by first | rfl | exact congrArg (fun z => some (Value.int _ z)) (by omega)) (subB_nil _)))))
   ·have g3 := h3
    try simp only [kb] at g3
    refine Tr.cond_f rfl h3 ?_
    refine Tr.to_exit ?_
    refine Ex.exit_then ?_
    refine Ex.exit_then ?_
    refine Ex.exit_in ?_
    refine Ex.go ?_
    refine Tr.seq ?_
    refine Tr.region ?_
    refine Run.val (lt rfl) (Y.move rfl) ?_
    refine Run.val (lt rfl) (Y.assign rfl) ?_
    refine Run.val (lt rfl) (Y.assign rfl) ?_
    refine Run.to_end ?_
    refine Ex.go ?_
    refine Tr.to_ret ?_
    exact Ex.ret2 rfl rfl rfl  ⟨rfl, _, _, rfl, rfl, by have h := hx; rw [show x.1 = 4 from by omega, List.take_of_length_le (by rw [Msg.be_length]; omega)] at h; exact h⟩

theorem rbytes_c {V : Vw} {n : Int} (hn : 0 ≤ n ∧ n ≤ 4294967295)  : Does Try.prog 59 [.int .i64 n, .int .i64 4] V [] (fun u V' H' => V' = V ∧ ∃ v s', u = .tuple #[v, .int .i64 0] ∧ H' = [s'] ∧ Ow 5 1 v 4 ((Msg.be 4 n).map byteV) s') := by
 refine Does.intro Try.func59 rfl rfl (le rfl) (fun B => ?_)
 refine Tr.seq ?_
 refine Tr.region ?_
 refine Run.val (lt rfl) (Y.assign rfl) ?_
 refine Run.val (lt rfl) (Y.assign rfl) ?_
 refine Run.to_end ?_
 refine Ex.go ?_
 refine Tr.seq ?_
 refine Tr.seq ?_
 refine Tr.region ?_
 refine Run.val (lt rfl) (Y.move rfl) ?_
 refine Run.val (lt rfl) (Y.int (r := .bool true) rfl rfl rfl) ?_
 refine Run.val (lt rfl) (Y.move rfl) ?_
 refine Run.on rfl rfl rfl rfl ?_
 refine Run.val (lt rfl) (Y.move rfl) ?_
 refine Run.on rfl rfl rfl rfl ?_
 refine Run.val (lt rfl) (Y.int (r := .bool true) rfl rfl rfl) ?_
 refine Run.val (lt rfl) (Y.pick_t rfl rfl rfl) ?_
 refine Run.val (lt rfl) (Y.move rfl) ?_
 refine Run.on rfl rfl rfl rfl ?_
 refine Run.val (lt rfl) (Y.move rfl) ?_
 refine Run.on rfl rfl rfl rfl ?_
 refine Run.val (lt rfl) (Y.int (r := .bool false) rfl rfl rfl) ?_
 refine Run.val (lt rfl) (Y.pick_t rfl rfl rfl) ?_
 refine Run.val (lt rfl) (Y.move rfl) ?_
 refine Run.on rfl rfl rfl rfl ?_
 refine Run.val (lt rfl) (Y.move rfl) ?_
 refine Run.on rfl rfl rfl rfl ?_
 refine Run.val (lt rfl) (Y.int rfl rfl rfl) ?_
 refine Run.val (lt rfl) (Y.pick_f rfl rfl rfl) ?_
 refine Run.to_end ?_
 refine Ex.go ?_
 rcases Bool.eq_false_or_eq_true (decide (n < 0)) with h1 | h1
 ·have g1 := h1
  try simp only [kb] at g1
  omega
 ·have g1 := h1
  try simp only [kb] at g1
  refine Tr.cond_f rfl h1 ?_
  refine Tr.to_end ?_
  refine Ex.go ?_
  refine Tr.seq ?_
  refine Tr.region ?_
  refine Run.val (lt rfl) (Y.move rfl) ?_
  refine Run.makeSlice (n := 4) rfl rfl Opt3_es22 Opt3_zi5 (by decide) (by omega) (by omega) (lt rfl) (fun b2 => ?_)
  rw [show rep (Value.int .u8 0).cells.toList 4 = Msg.row 4 0 n from Msg.row_zero 4 n]
  refine Run.val (lt rfl) (Y.assign rfl) ?_
  refine Run.to_end ?_
  refine Ex.go ?_
  refine Tr.seq ?_
  refine Tr.seq ?_
  refine Tr.region ?_
  refine Run.val (lt rfl) (Y.move rfl) ?_
  refine Run.val (lt rfl) (Y.sub rfl rfl (by omega)) ?_
  refine Run.val (lt rfl) (Y.assign rfl) ?_
  refine Run.to_end ?_
  refine Ex.go ?_
  refine Tr.block ?_
  refine Tr.loop (X := Nat) (fun x => V) (fun x => [[(b2, .cells (Msg.row 4 x n).toArray 5 (0, 0))]]) (fun x => [(0, .int .i64 (n / 256 ^ x)), (1, .int .i64 4), (6, .slice (some ⟨b2, 0, none⟩) 4 4), (7, .int .i64 (3 - (x : Int)))]) (fun x => x ≤ 4) (fun x => 4 - x) 0 (Nat.zero_le _) (fun a w i => ⟨i.1.sub (subB_cons (by first | rfl | exact congrArg (fun z => some (Value.int _ z)) (by omega)) (subB_cons (by first | rfl | exact congrArg (fun z => some (Value.int _ z)) (by omega)) (subB_cons (by first | rfl | exact congrArg (fun z => some (Value.int _ z)) (by omega)) (subB_cons (by first | rfl | exact congrArg (fun z => some (Value.int _ z)) (by omega)) (subB_nil _))))), i.2⟩) ?_
  rintro x hx
  refine Tr.seq ?_
  refine Tr.seq ?_
  refine Tr.region ?_
  refine Run.val (lt rfl) (Y.move rfl) ?_
  refine Run.val (lt rfl) (Y.int rfl rfl rfl) ?_
  refine Run.to_end ?_
  refine Ex.go ?_
  rcases Bool.eq_false_or_eq_true (decide ((3 - (x : Int)) ≥ 0)) with h3 | h3
  ·have g3 := h3
   try simp only [kb] at g3
   refine Tr.cond_t rfl h3 ?_
   refine Tr.to_end ?_
   refine Ex.go ?_
   refine Tr.seq ?_
   refine Tr.block ?_
   refine Tr.seq ?_
   refine Tr.region ?_
   refine Run.val (lt rfl) (Y.move rfl) ?_
   refine Run.val (lt rfl) (Y.move rfl) ?_
   refine Run.val (lt rfl) (Y.move rfl) ?_
   refine Run.val (lt rfl) (Y.rem (n / 256 ^ x % 256) rfl rfl (by decide) (Msg.tmod_256 hn.1 x)) ?_
   refine Run.val (lt rfl) (Y.conv (n / 256 ^ x % 256) rfl Opt3_it3_5 (wrap_u8 (by omega))) ?_
   refine Run.val (lt rfl) (Y.idxAddr rfl rfl Opt3_es22 (by omega) (by omega)) ?_
   refine Run.store (off := 0 + ((3 - (x : Int)).toNat * 1)) (z := 1) (c := Msg.row 4 x n) (s := [(b2, .cells (Msg.row 4 (x + 1) n).toArray 5 (0, 0))]) rfl rfl Opt3_sz5 (i := 0) rfl rfl (by rw [Msg.row_length (by omega)]; omega) rfl (by rw [show (3 : Int) - (x : Int) = ((4 : Nat) : Int) - 1 - (x : Int) from by omega, Msg.row_step (by omega) (by omega)]; rfl) ?_
   refine Run.to_end ?_
   refine Ex.go ?_
   refine Tr.region ?_
   refine Run.val (lt rfl) (Y.move rfl) ?_
   refine Run.val (lt rfl) (Y.quo (n / 256 ^ (x + 1)) rfl rfl (by decide) (Msg.tdiv_256 (show 0 ≤ n ∧ n ≤ 9223372036854775807 by omega) x)) ?_
   refine Run.val (lt rfl) (Y.assign rfl) ?_
   refine Run.to_end ?_
   refine Ex.end_block ?_
   refine Ex.go ?_
   refine Tr.region ?_
   refine Run.val (lt rfl) (Y.move rfl) ?_
   refine Run.val (lt rfl) (Y.sub rfl rfl (by omega)) ?_
   refine Run.val (lt rfl) (Y.assign rfl) ?_
   refine Run.to_end ?_
   exact Ex.round (x + 1) (by show x + 1 ≤ 4; omega) (by omega) rfl rfl (subB_cons (by first | rfl | exact congrArg (fun z => some (Value.int _ z)) (by omega)) (subB_cons (by first | rfl | exact congrArg (fun z => some (Value.int _ z)) (by omega)) (subB_cons (by first | rfl | exact congrArg (fun z => some (Value.int _ z)) (by omega)) (subB_cons (by first | rfl | exact congrArg (fun z => some (Value.int _ z)) (by omega)) (subB_nil _)))))
  ·have g3 := h3
   try simp only [kb] at g3
   refine Tr.cond_f rfl h3 ?_
   refine Tr.to_exit ?_
   refine Ex.exit_then ?_
   refine Ex.exit_then ?_
   refine Ex.exit_in ?_
   refine Ex.go ?_
   refine Tr.seq ?_
   refine Tr.seq ?_
   refine Tr.region ?_
   refine Run.val (lt rfl) (Y.move rfl) ?_
   refine Run.val (lt rfl) (Y.int rfl rfl rfl) ?_
   refine Run.to_end ?_
   refine Ex.go ?_
   rcases Bool.eq_false_or_eq_true (decide ((n / 256 ^ x) > 0)) with h4 | h4
   ·have g4 := h4
    try simp only [kb] at g4
    have hx4 : x = 4 := by omega
    subst hx4
    have h256 : (256 : Int) ^ 4 = 4294967296 := rfl
    have h0 : n / 256 ^ 4 = 0 := Int.ediv_eq_zero_of_lt hn.1 (by omega)
    omega
    
   ·have g4 := h4
    try simp only [kb] at g4
    refine Tr.cond_f rfl h4 ?_
    refine Tr.to_end ?_
    refine Ex.go ?_
    refine Tr.seq ?_
    refine Tr.region ?_
    refine Run.val (lt rfl) (Y.move rfl) ?_
    refine Run.val (lt rfl) (Y.assign rfl) ?_
    refine Run.val (lt rfl) (Y.assign rfl) ?_
    refine Run.to_end ?_
    refine Ex.go ?_
    refine Tr.to_ret ?_
    exact Ex.ret2 rfl rfl rfl  ⟨rfl, _, _, rfl, rfl, by rw [show x = 4 from by omega]; exact Msg.row_ow 4 n _ _ (by omega)⟩

theorem long_c {V : Vw} {n : Int} (hn : 0 ≤ n ∧ n ≤ 4294967295) {code : Int}  : Does Try.prog 40 [.int .i64 code, .int .u32 n] V [] (fun u V' H' => V' = V ∧ ∃ v s', u = .agg #[.int .i64 code, v] ∧ H' = [s'] ∧ Ow 5 1 v 4 ((Msg.be 4 n).map byteV) s') := by
 refine Does.intro Try.func40 rfl rfl (le rfl) (fun B => ?_)
 refine Tr.seq ?_
 refine Tr.region ?_
 refine Run.alloc Opt3_zo76 (lt rfl) (fun b1 => ?_)
 refine Run.to_end ?_
 refine Ex.go ?_
 refine Tr.seq ?_
 refine Tr.region ?_
 refine Run.val (lt rfl) (Y.move rfl) ?_
 refine Run.val (lt rfl) (Y.conv (n) rfl Opt3_it33_3 (wrap_i64 (by omega))) ?_
 refine Run.call [] (l := [.tmp 9, .const (.int .i64 4)]) rfl rfl rfl (lt rfl) (bytes_c (n := n) (by omega)) (fun v2 V2 H2 _ hR => ?_)
 obtain ⟨hV, z3, s4, rfl, rfl, ho5⟩ := hR; replace hV := hV.symm; subst hV; obtain ⟨p6, c7, rfl⟩ := ho5.form
 refine Run.val (lt rfl) (Y.move rfl) ?_
 refine Run.val (lt rfl) (Y.extract rfl rfl) ?_
 refine Run.val (lt rfl) (Y.extract rfl rfl) ?_
 refine Run.val (lt rfl) (Y.assign rfl) ?_
 refine Run.val (lt rfl) (Y.assign rfl) ?_
 refine Run.to_end ?_
 refine Ex.go ?_
 refine Tr.seq ?_
 refine Tr.region ?_
 refine Run.val (lt rfl) (Y.move rfl) ?_
 refine Run.val (lt rfl) (Y.move rfl) ?_
 refine Run.val (lt rfl) (Y.buildS (l := [(0, .tmp 13), (1, .tmp 14)]) Opt3_zo76 Opt3_pl76 rfl rfl) ?_
 refine Run.store (s := [(b1, .cells #[.int .i64 code, .slice p6 4 c7] 76 (0, 0))]) rfl rfl Opt3_sz76 (i := 0) rfl rfl (le rfl) rfl rfl ?_
 refine Run.to_end ?_
 refine Ex.go ?_
 refine Tr.to_ret ?_
 exact Ex.retCell [1] rfl rfl Opt3_ag76 (Kn.at 0 rfl) rfl ⟨rfl, _, s4, rfl, rfl, ho5⟩

theorem four_c {V : Vw} {n : Int} (hn : 0 ≤ n ∧ n ≤ 4294967295)  : Does Try.prog 44 [.int .i64 n] V [] (fun u V' H' => V' = V ∧ ∃ s', H' = [s'] ∧ Ow 5 1 u 4 ((Msg.be 4 n).map byteV) s') := by
 refine Does.intro Try.func44 rfl rfl (le rfl) (fun B => ?_)
 refine Tr.seq ?_
 refine Tr.region ?_
 refine Run.val (lt rfl) (Y.assign rfl) ?_
 refine Run.to_end ?_
 refine Ex.go ?_
 refine Tr.seq ?_
 refine Tr.region ?_
 refine Run.val (lt rfl) (Y.move rfl) ?_
 refine Run.call [] (l := [.tmp 6, .const (.int .i64 4)]) rfl rfl rfl (lt rfl) (rbytes_c (n := n) (by omega)) (fun v1 V2 H2 _ hR => ?_)
 obtain ⟨hV, z2, s3, rfl, rfl, ho4⟩ := hR; replace hV := hV.symm; subst hV; obtain ⟨p5, c6, rfl⟩ := ho4.form
 refine Run.val (lt rfl) (Y.move rfl) ?_
 refine Run.val (lt rfl) (Y.extract rfl rfl) ?_
 refine Run.val (lt rfl) (Y.extract rfl rfl) ?_
 refine Run.val (lt rfl) (Y.assign rfl) ?_
 refine Run.val (lt rfl) (Y.assign rfl) ?_
 refine Run.to_end ?_
 refine Ex.go ?_
 refine Tr.seq ?_
 refine Tr.region ?_
 refine Run.val (lt rfl) (Y.move rfl) ?_
 refine Run.val (lt rfl) (Y.assign rfl) ?_
 refine Run.to_end ?_
 refine Ex.go ?_
 refine Tr.to_ret ?_
 refine Ex.keep [0] ?_
 exact Ex.ret1 rfl rfl  ⟨rfl, s3, rfl, ho4⟩
end Go.Proofs.Ytelahacalnmilaa
