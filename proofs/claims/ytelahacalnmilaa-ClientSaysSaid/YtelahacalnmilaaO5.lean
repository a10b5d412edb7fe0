/- The arguments of the laws of layer 24, read; states of a law's loop.
Conditions: none; no program in sight. -/
import Derived.Test.YtelahacalnmilaaO4
import Derived.Test.YtelahacalnmilaaK21
set_option linter.unusedSimpArgs false
namespace Go.K
open Go.ChangeShapes Go.WideShapes Go.ChangeAt Go.RowKit
/-- What holds of the steps of a law's argument. -/
def CStp.Rs (V : Vw) (l : List CStp) : Prop := ∀ s, s ∈ l → (Rd V [] 1 s.hv s.p.hw.length (s.p.hw.map byteV) ∧ Pc.Rs V s.ov s.p.os) ∧ (0 ≤ s.addr ∧ s.addr ≤ 4294967295) ∧ (0 ≤ s.p.xid ∧ s.p.xid ≤ 4294967295) ∧ (0 ≤ s.p.yi ∧ s.p.yi ≤ 4294967295) ∧ (0 ≤ s.p.si ∧ s.p.si ≤ 4294967295)
theorem CStp.Rs.le {V V2 : Vw} {l : List CStp} (h : CStp.Rs V l) (hl : V.le V2) : CStp.Rs V2 l := fun s hs => ⟨⟨(h s hs).1.1.le hl, (h s hs).1.2.le hl⟩, (h s hs).2⟩
theorem CStp.Rs.at {V : Vw} {l : List CStp} (h : CStp.Rs V l) {s : CStp} (hs : s ∈ l) : Pc.R V s.p s.hv s.ov := ⟨(h s hs).1.1, (h s hs).1.2, (h s hs).2.2.1, (h s hs).2.2.2.1, (h s hs).2.2.2.2⟩
def i64g : Sh := .tag (0, .i64)
def u32g : Sh := .tag (0, .u32)
/-- How the cells of a step lie: b is the type of a byte, o that of an option. -/
def stepSh (b o : TypeId) : List Sh := [i64g, i64g, i64g, i64g, u32g, i64g, u32g, i64g, i64g, u32g, u32g, u32g, u32g, .sl b 1, .sl o 2]
section
variable {H : Type} {enc : TypeId × Value → H} {P : Program} {w : World} {base : Nat} {spare : Nat → Bool} {held : Bool}
theorem shV_i64 {v : Value} (h : shV enc P w base spare held i64g v) : ∃ n, v = .int .i64 n := by obtain ⟨n, h1, _⟩ := wfV_int (show wfV (0, .i64) v from h); exact ⟨n, h1⟩
theorem shV_u32 {v : Value} (h : shV enc P w base spare held u32g v) : ∃ n, v = .int .u32 n ∧ 0 ≤ n ∧ n ≤ 4294967295 := by
  obtain ⟨n, h1, h2⟩ := wfV_int (show wfV (0, .u32) v from h)
  exact ⟨n, h1, Go.bounds_u32 h2⟩
theorem sh_opts {b o : TypeId} {v : Value} (hb : tagOf P b = some (0, .u8)) (ho : shN P 2 o = some [i64g, .sl b 1]) (h : shV enc P w base spare held (.sl o 2) v) : ∃ os, Pc.Rs (allV w) v os := by
  obtain ⟨rows, hr, _, hq⟩ := h
  obtain ⟨L, hL, hL2⟩ := rows_of Opn.cells (fun o => Rd (allV w) [] 1 o.v o.d.length (o.d.map byteV)) (rows := rows) (fun q hqq => by
    obtain ⟨fuel, x, hd⟩ := hq q hqq
    have hsh := trod_sh 2 ho hd
    obtain ⟨v0, c0, rfl, h0, k0⟩ := shVs_cons hsh
    obtain ⟨v1, c1, rfl, h1, k1⟩ := shVs_cons k0
    obtain rfl := shVs_nil k1
    obtain ⟨n, rfl⟩ := shV_i64 h0
    obtain ⟨d, hd⟩ := sh_bytes hb h1
    exact ⟨⟨n, v1, d⟩, rfl, hd⟩)
  subst hL
  rw [List.length_map] at hr
  exact ⟨L.map Opn.c, L, rfl, hr, hL2⟩
/-- A slice of steps. -/
theorem open_steps {r : Reach} {b0 : Nat} {t e b o : TypeId} {v : Value} {dd : DataW H} {ps : List MemPlace} (ht : elemS P t = some (e, 15)) (hc : P.cellsOf e = 15) (he : shN P 4 e = some (stepSh b o)) (hb : tagOf P b = some (0, .u8)) (ho : shN P 2 o = some [i64g, .sl b 1])
    (hv : Value.okWide P w r b0 t v) (h : DataW.Trod enc P w base spare held t v dd ps) : ∃ l : List CStp, Rd (allV w) [] 15 v l.length (l.map CStp.cells).flatten ∧ l.length ≤ 9223372036854775807 ∧ CStp.Rs (allV w) l := by
  have hu := (under_elemS ht).1
  obtain ⟨a0, len, cap, rfl⟩ := okWide_slice hu hv
  obtain ⟨fuel, hf⟩ := h
  obtain ⟨v, hcs, rows, hr, hm, hq⟩ := trod_rows hu hc (by decide) (show DataW.trod enc P w base spare held fuel t _ = some _ from hf)
  have hv2 : v = .slice a0 len cap := by simpa [Value.cells] using hcs.symm
  subst hv2
  obtain ⟨l, hl, hl2⟩ := rows_of CStp.cells (fun s => (Rd (allV w) [] 1 s.hv s.p.hw.length (s.p.hw.map byteV) ∧ Pc.Rs (allV w) s.ov s.p.os) ∧ (0 ≤ s.addr ∧ s.addr ≤ 4294967295) ∧ (0 ≤ s.p.xid ∧ s.p.xid ≤ 4294967295) ∧ (0 ≤ s.p.yi ∧ s.p.yi ≤ 4294967295) ∧ (0 ≤ s.p.si ∧ s.p.si ≤ 4294967295)) (rows := rows) (fun q hqq => by
    obtain ⟨fuel, x, hd⟩ := hq q hqq
    have hsh := trod_sh 4 he hd
    unfold stepSh at hsh
    obtain ⟨v0, c0, rfl, h0, k0⟩ := shVs_cons hsh
    obtain ⟨v1, c1, rfl, h1, k1⟩ := shVs_cons k0
    obtain ⟨v2, c2, rfl, h2, k2⟩ := shVs_cons k1
    obtain ⟨v3, c3, rfl, h3, k3⟩ := shVs_cons k2
    obtain ⟨v4, c4, rfl, h4, k4⟩ := shVs_cons k3
    obtain ⟨v5, c5, rfl, h5, k5⟩ := shVs_cons k4
    obtain ⟨v6, c6, rfl, h6, k6⟩ := shVs_cons k5
    obtain ⟨v7, c7, rfl, h7, k7⟩ := shVs_cons k6
    obtain ⟨v8, c8, rfl, h8, k8⟩ := shVs_cons k7
    obtain ⟨v9, c9, rfl, h9, k9⟩ := shVs_cons k8
    obtain ⟨va, ca, rfl, ha, ka⟩ := shVs_cons k9
    obtain ⟨vb, cb, rfl, hbb, kb⟩ := shVs_cons ka
    obtain ⟨vc, cc, rfl, hcc, kc⟩ := shVs_cons kb
    obtain ⟨vd, cd, rfl, hdd, kd⟩ := shVs_cons kc
    obtain ⟨ve, ce, rfl, hee, ke⟩ := shVs_cons kd
    obtain rfl := shVs_nil ke
    obtain ⟨n0, rfl⟩ := shV_i64 h0
    obtain ⟨n1, rfl⟩ := shV_i64 h1
    obtain ⟨n2, rfl⟩ := shV_i64 h2
    obtain ⟨n3, rfl⟩ := shV_i64 h3
    obtain ⟨n4, rfl, w4⟩ := shV_u32 h4
    obtain ⟨n5, rfl⟩ := shV_i64 h5
    obtain ⟨n6, rfl, w6⟩ := shV_u32 h6
    obtain ⟨n7, rfl⟩ := shV_i64 h7
    obtain ⟨n8, rfl⟩ := shV_i64 h8
    obtain ⟨n9, rfl, _⟩ := shV_u32 h9
    obtain ⟨na, rfl, wa⟩ := shV_u32 ha
    obtain ⟨nb, rfl, wb⟩ := shV_u32 hbb
    obtain ⟨nc, rfl, _⟩ := shV_u32 hcc
    obtain ⟨hw, hhw⟩ := sh_bytes hb hdd
    obtain ⟨os, hos⟩ := sh_opts hb ho hee
    exact ⟨⟨n0, n1, n2, n3, n4, ⟨n5, n6, n7, n8, n9, na, nb, nc, hw, os⟩, vd, ve⟩, rfl, ⟨hhw, hos⟩, w4, w6, wa, wb⟩)
  subst hl
  rw [List.length_map] at hr hm
  exact ⟨l, hr, hm, hl2⟩
end
theorem open_str {H : Type} {enc : TypeId × Value → H} {P : Program} {w : World} {base : Nat} {spare : Nat → Bool} {held : Bool} {r : Reach} {b0 : Nat} {t : TypeId} {v : Value} {d : DataW H} {ps : List MemPlace} (ht : tagOf P t = some (2, .i64)) (h : DataW.Trod enc P w base spare held t v d ps) (hv : Value.okWide P w r b0 t v) : ∃ s, v = .string s ∧ s.size ≤ 9223372036854775807 := by
  have hu : P.underlying t = some .string := by
    unfold tagOf at ht
    cases hd : P.underlying t with
    | none => rw [hd] at ht; cases ht
    | some q => rw [hd] at ht; cases q <;> simp at ht; rfl
  obtain ⟨s, rfl⟩ := okWide_string hu hv
  obtain ⟨fuel, hf⟩ := h
  obtain ⟨s', h, hx, hs⟩ := DataW.trod_string hu hf
  have : s' = s := by simpa [Value.cells] using h.symm
  subst this
  exact ⟨s', rfl, by unfold maxLen at hs; exact hs⟩
/-- A law's loop over steps. -/
structure Lo where
  c : Cli
  V : Vw
  last : Pc
  hv : Value
  ov : Value
  i : Nat
theorem Pc.zero_R (V : Vw) : Pc.R V Cli.zeroP (.slice none 0 0) (.slice none 0 0) := ⟨Rd.nil _ _ _, Pc.Rs0 _, (show (0 : Int) ≤ 0 ∧ (0 : Int) ≤ 4294967295 by decide), (show (0 : Int) ≤ 0 ∧ (0 : Int) ≤ 4294967295 by decide), (show (0 : Int) ≤ 0 ∧ (0 : Int) ≤ 4294967295 by decide)⟩
namespace Cli
/-! the client that is tried first -/
def aw0 : Cli := new ⟨#[97]⟩ [1]
def aw1 : Cli := tickC aw0 0
def awq1 : Pc := sayP (turn aw0 0)
def aw2 : Cli := takeC aw1 (ans awq1 2 20 5) 0
def aw3 : Cli := tickC aw2 1
def awq2 : Pc := sayP (turn aw2 1)
def aw4 : Cli := takeC aw3 (ans awq2 5 20 5) 1
theorem few_zero : Pc.few zeroP = true := by decide
theorem fine_a : fine ⟨#[97]⟩ [1] := by unfold fine; decide
theorem inv0 : Inv 0 aw0 := Inv.new fine_a
theorem tp0 : tickP aw0 0 = [awq1] := (tick_y (by decide) (by decide) (by decide +kernel)).2.2
theorem inv1 : Inv 1 aw1 := inv0.tick 0
theorem fewq1 : awq1.few = true := few_sayP (inv0.turn (by decide))
theorem inv2 : Inv 1 aw2 := inv1.take (p := ans awq1 2 20 5) (show (0 : Int) ≤ 5 ∧ (5 : Int) ≤ 4294967295 by decide) (show (0 : Int) ≤ 9 ∧ (9 : Int) ≤ 4294967295 by decide) 0
theorem tp2 : tickP aw2 1 = [awq2] := (tick_y (by decide) (by decide +kernel) (by decide +kernel)).2.2
theorem inv3 : Inv 2 aw3 := inv2.tick 1
theorem fewq2 : awq2.few = true := few_sayP (inv2.turn (by decide))
theorem inv4 : Inv 2 aw4 := inv3.take (p := ans awq2 5 20 5) (show (0 : Int) ≤ 5 ∧ (5 : Int) ≤ 4294967295 by decide) (show (0 : Int) ≤ 9 ∧ (9 : Int) ≤ 4294967295 by decide) 1
theorem aw_end : takeE aw3 (ans awq2 5 20 5) 1 = 0 ∧ aw4.state = 3 ∧ aw4.addr = 5 ∧ until0 aw4 = 21 := by decide +kernel
end Cli
end Go.K
