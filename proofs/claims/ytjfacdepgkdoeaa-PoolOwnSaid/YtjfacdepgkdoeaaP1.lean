/- What the packages ratio and pool reckon: plain definitions.
Conditions: none; no program in sight. -/
import Derived.Test.YtjfacdepgkdoeaaF3
set_option linter.unusedSimpArgs false
namespace Go.Fl
open Ieee
abbrev one : Nat := 4607182418800017408
def fl (n : Int) : Nat := floatOfInt .f64 n
theorem fl_read {n : Int} (h0 : 0 ≤ n) (h : n < 4503599627370496) : ∃ m p, D.read (fl n) = .number false m p ∧ p ≤ 0 ∧ -1074 ≤ p ∧ m = n.toNat * 2 ^ (-p).toNat ∧ (n ≠ 0 → -52 ≤ p) ∧ m ≤ 9007199254740992 := by
  have e : fl n = D.nearest false n.toNat 0 := by
    unfold fl floatOfInt FloatKind.nearest FloatKind.encode
    show D.nearest (decide (n < 0)) n.natAbs 0 = _
    rw [decide_eq_false (by omega), show n.natAbs = n.toNat from by omega]
  obtain ⟨m, p, h1, h2, h3, h4, h5, h6⟩ := int_read (n := n.toNat) (by omega)
  exact ⟨m, p, by rw [e, h1], h2, h3, h4, fun hn => h5 (by omega), h6⟩
def bnd (n : Int) : Int := min (max n 0) 1073741824
theorem bnd_range (n : Int) : 0 ≤ bnd n ∧ bnd n ≤ 1073741824 := by unfold bnd; omega
def above0 (y : Nat) : Bool := D.order y 0 == some .gt
def above1 (y : Nat) : Bool := D.order y one == some .gt || D.order y one == some .eq
/-- What is left of a part of n when it is cut. -/
def partK (n : Int) (y : Nat) : Int := match floatBits .mul .f64 (fl n) y with
  | some r => (floatToIntVal .f64 r .i64).getD 0
  | none => 0
def part (n : Int) (y : Nat) : Int := if min n 1099511627776 < 1 ∨ above0 y = false then 0 else if above1 y = true then min n 1099511627776 else min (partK (min n 1099511627776) y) (min n 1099511627776)
theorem zero_num : (D.read 0).isNaN = false := by rw [read_zero]; rfl
theorem one_num : (D.read one).isNaN = false := by rw [read_one]; rfl
theorem part_facts {n : Int} {y : Nat} (h1 : 1 ≤ n) (h2 : n ≤ 1099511627776) (ha : above0 y = true) (hb : above1 y = false) :
    ∃ r, floatBits .mul .f64 (fl n) y = some r ∧ floatToIntVal .f64 r .i64 = some (partK n y) ∧ 0 ≤ partK n y ∧ (D.read r).isNaN = false ∧
      (D.order r (fl n) = some .lt ∧ partK n y ≤ n ∨ D.order r (fl n) = some .gt ∧ n ≤ partK n y ∨ D.order r (fl n) = some .eq ∧ n ≤ partK n y) := by
  have h0 : D.order y 0 = some .gt := by unfold above0 at ha; simpa using ha
  have hy : (D.read y).isNaN = false := by
    cases hn : (D.read y).isNaN with
    | false => rfl
    | true => rw [order_nan hn] at h0; cases h0
  have hlt : D.order y one = some .lt := by
    unfold above1 at hb
    rcases order_total hy one_num with h | h | h
    · exact h
    · rw [h] at hb; simp at hb
    · rw [h] at hb; simp at hb
  obtain ⟨m2, p2, hr2, hm2, hp2⟩ := part_read h0 hlt
  obtain ⟨m1, p1, hr1, hp1, _, hm1, _, _⟩ := fl_read (n := n) (by omega) (by omega)
  obtain ⟨r, k, e1, e2, e3, e4, e5⟩ := mul_part hr1 hp1 hm1 (by omega) (by omega) hr2 hm2 hp2
  have ef : floatToIntVal .f64 r .i64 = some (k : Int) := by
    unfold floatToIntVal
    have : (FloatKind.f64.decode r).toInt .zero = some (k : Int) := e2
    rw [this]
    simp only
    rw [if_pos ⟨by have : IntKind.i64.min = -9223372036854775808 := rfl; omega, by have : IntKind.i64.max = 9223372036854775807 := rfl; omega⟩]
  have em : floatBits .mul .f64 (fl n) y = some r := e1
  have ek : partK n y = k := by unfold partK; rw [em]; simp only; rw [ef]; rfl
  rw [ek]
  refine ⟨r, em, ef, by omega, e4, ?_⟩
  rcases e5 with ⟨h, h'⟩ | ⟨h, h'⟩ | ⟨h, h'⟩
  · exact .inl ⟨h, by omega⟩
  · exact .inr (.inl ⟨h, by omega⟩)
  · exact .inr (.inr ⟨h, by omega⟩)
theorem part_range {n : Int} (hn : 0 ≤ n) (y : Nat) : 0 ≤ part n y ∧ part n y ≤ n := by
  unfold part
  split
  · omega
  · rename_i hc
    split
    · omega
    · rename_i hb
      obtain ⟨r, _, _, h3, _⟩ := part_facts (n := min n 1099511627776) (y := y) (by omega) (by omega) (by cases h : above0 y <;> simp_all) (by simpa using hb)
      omega
def share (a b : Int) (y : Nat) : Int := min (max (part (bnd a + bnd b) y - bnd b) 0) (bnd a)
/-- The other one's part, less the part wanted. -/
def off (a b : Int) (y : Nat) : Nat := ((floatBits .quo .f64 (fl (bnd b)) (fl (bnd a + bnd b))).bind fun q => floatBits .sub .f64 q y).getD 0
theorem off_facts {a b : Int} {y : Nat} (h : bnd a + bnd b ≠ 0) (hy : (D.read y).isNaN = false) : ∃ q, floatBits .quo .f64 (fl (bnd b)) (fl (bnd a + bnd b)) = some q ∧ floatBits .sub .f64 q y = some (off a b y) ∧ (D.read (off a b y)).isNaN = false ∧ off a b y < 18446744073709551616 := by
  have ha := bnd_range a
  have hb := bnd_range b
  obtain ⟨m1, p1, hr1, hp1, _, _, _, hm1⟩ := fl_read (n := bnd b) (by omega) (by omega)
  obtain ⟨m2, p2, hr2, hp2, _, hm2, hp2', hm2'⟩ := fl_read (n := bnd a + bnd b) (by omega) (by omega)
  have h2 : m2 ≠ 0 := by rw [hm2]; exact Nat.mul_ne_zero (by omega) (Nat.ne_of_gt (Nat.two_pow_pos _))
  obtain ⟨q, m, p, e1, e2⟩ := div_int hr1 hr2 h2 hp1 (hp2' (by omega)) hm1 hm2'
  obtain ⟨r, e3, e4⟩ := sub_num e2 hy
  have eq1 : floatBits .quo .f64 (fl (bnd b)) (fl (bnd a + bnd b)) = some q := e1
  have eq2 : floatBits .sub .f64 q y = some r := e3
  have eo : off a b y = r := by unfold off; rw [eq1]; simp only [Option.bind_some]; rw [eq2]; rfl
  rw [eo]
  refine ⟨q, eq1, eq2, e4, ?_⟩
  have := D.sub_lt e3
  exact this
def uneven (a b : Int) (y : Nat) : Nat := if bnd a + bnd b = 0 then 0 else if (D.read y).isNaN = true then one else Go.K.fmin .f64 (off a b y % 9223372036854775808) one
def gives (id free backup : Int) (y s : Nat) : Int :=
  if D.order (uneven (bnd free) (bnd backup) y) s == some .gt then
    if id = 0 then share (bnd free) (bnd backup) y else if id = 1 then max (bnd backup - part (bnd free + bnd backup) y) 0 else 0
  else 0
end Go.Fl
