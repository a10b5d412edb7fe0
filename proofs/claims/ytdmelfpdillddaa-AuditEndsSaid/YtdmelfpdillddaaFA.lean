/- What floats of 64 bits give: plain facts on the words of IEEE 754.
Conditions: none; no program in sight. -/
import Derived.Laws.FloatArith
import Derived.Test.YtdmelfpdillddaaKB
set_option linter.unusedSimpArgs false
set_option linter.unusedVariables false
set_option linter.unusedSectionVars false
namespace Go.Fl
open Ieee
abbrev D : Format := double
theorem least : D.leastPlace = -1074 := rfl
theorem binade : D.binade = 4503599627370496 := rfl
theorem inf : D.infRung = 2047 * 4503599627370496 := rfl
theorem sgn : D.signWeight = 9223372036854775808 := rfl

/-- The datum of a rung. -/
def rungD (neg : Bool) (r : Nat) : Datum :=
  if r < 4503599627370496 then .number neg r (-1074)
  else if r < 2047 * 4503599627370496 then .number neg (4503599627370496 + r % 4503599627370496) (-1074 + (r / 4503599627370496 - 1 : Nat))
  else if r = 2047 * 4503599627370496 then .infinity neg
  else .nan neg (r - 2047 * 4503599627370496)
theorem read_word (neg : Bool) {r : Nat} (h : r < 9223372036854775808) : D.read (D.word neg r) = rungD neg r := by
  unfold Format.read Format.word rungD
  rw [least, binade, inf, sgn]
  have e1 : (if neg = true then 9223372036854775808 + r else r) % 9223372036854775808 = r := by cases neg <;> simp <;> omega
  have e2 : ((if neg = true then 9223372036854775808 + r else r) / 9223372036854775808 % 2 == 1) = neg := by
    cases neg
    · rw [if_neg (by decide), Nat.div_eq_of_lt h]; rfl
    · rw [if_pos rfl, Nat.add_div_left _ (by decide), Nat.div_eq_of_lt h]; rfl
  simp only [e1, e2]

/-- The place of the last digit kept, and what is kept. -/
def last (mag : Nat) (place : Int) : Int := max (place + mag.log2 - 52) (-1074)
def kept (neg : Bool) (mag : Nat) (place : Int) : Nat := Toward.even.cut neg (mag <<< (place - last mag place).toNat) (last mag place - place).toNat
theorem nearest_eq {neg : Bool} {mag : Nat} {place : Int} (h : mag ≠ 0) : D.nearest neg mag place = D.word neg (min ((last mag place + 1074).toNat * 4503599627370496 + kept neg mag place) (2047 * 4503599627370496)) := by
  unfold Format.nearest
  rw [if_neg h, least, binade, inf]
  rfl
/-- A number that is written is read as no NaN. -/
theorem read_nearest (neg : Bool) (mag : Nat) (place : Int) : ∃ r, r ≤ 2047 * 4503599627370496 ∧ D.read (D.nearest neg mag place) = rungD neg r := by
  by_cases h : mag = 0
  · refine ⟨0, by decide, ?_⟩
    unfold Format.nearest; rw [if_pos h]; exact read_word neg (by decide)
  · refine ⟨min ((last mag place + 1074).toNat * 4503599627370496 + kept neg mag place) (2047 * 4503599627370496), Nat.min_le_right _ _, ?_⟩
    rw [nearest_eq h]; exact read_word neg (by have := Nat.min_le_right ((last mag place + 1074).toNat * 4503599627370496 + kept neg mag place) (2047 * 4503599627370496); omega)

theorem cut_le (way : Toward) (neg : Bool) (n d : Nat) : way.cut neg n d ≤ n / 2 ^ min d (n.log2 + 2) + 1 := by
  unfold Toward.cut
  simp only [Nat.one_shiftLeft]
  have : ∀ b : Bool, b.toNat ≤ 1 := fun b => by cases b <;> decide
  exact Nat.add_le_add_left (this _) _
theorem cut_zero (neg : Bool) (n : Nat) : Toward.even.cut neg n 0 = n := by simp [Toward.cut, Nat.mod_one]
theorem last_ge (mag : Nat) (place : Int) : place + mag.log2 - 52 ≤ last mag place ∧ -1074 ≤ last mag place := by unfold last; omega
theorem kept_le (neg : Bool) (mag : Nat) (place : Int) : kept neg mag place ≤ 9007199254740992 := by
  obtain ⟨h1, h2⟩ := last_ge mag place
  have hm : mag < 2 ^ (mag.log2 + 1) := Nat.lt_log2_self
  have e53 : (2 : Nat) ^ 53 = 9007199254740992 := rfl
  unfold kept
  by_cases hc : last mag place ≤ place
  · have hd : (last mag place - place).toNat = 0 := by omega
    rw [hd, cut_zero, Nat.shiftLeft_eq]
    have hs : mag.log2 + 1 + (place - last mag place).toNat ≤ 53 := by unfold last at hc ⊢; omega
    have h3 : mag * 2 ^ (place - last mag place).toNat < 2 ^ (mag.log2 + 1) * 2 ^ (place - last mag place).toNat := Nat.mul_lt_mul_of_pos_right hm (Nat.two_pow_pos _)
    rw [← Nat.pow_add] at h3
    have h4 := Nat.pow_le_pow_right (show 0 < 2 by decide) hs
    omega
  · have ha : (place - last mag place).toNat = 0 := by omega
    rw [ha, Nat.shiftLeft_zero]
    refine Nat.le_trans (cut_le _ _ _ _) ?_
    by_cases hd : (last mag place - place).toNat ≤ mag.log2 + 2
    · rw [Nat.min_eq_left hd]
      have h5 : mag / 2 ^ (last mag place - place).toNat < 2 ^ 53 := by
        rw [Nat.div_lt_iff_lt_mul (Nat.two_pow_pos _), ← Nat.pow_add]
        exact Nat.lt_of_lt_of_le hm (Nat.pow_le_pow_right (by decide) (by omega))
      omega
    · rw [Nat.min_eq_right (by omega)]
      have h5 : mag / 2 ^ (mag.log2 + 2) = 0 := Nat.div_eq_of_lt (Nat.lt_of_lt_of_le hm (Nat.pow_le_pow_right (by decide) (by omega)))
      omega
/-- Where its first digit is not lost, what is kept has 53 digits. -/
theorem kept_ge (neg : Bool) {mag : Nat} {place : Int} (h : mag ≠ 0) (hl : -1074 < last mag place) : 4503599627370496 ≤ kept neg mag place := by
  have hm : 2 ^ mag.log2 ≤ mag := Nat.log2_self_le h
  have e52 : (2 : Nat) ^ 52 = 4503599627370496 := rfl
  have hl' : last mag place = place + mag.log2 - 52 := by unfold last at hl ⊢; omega
  unfold kept
  by_cases hc : last mag place ≤ place
  · have hd : (last mag place - place).toNat = 0 := by omega
    rw [hd, cut_zero, Nat.shiftLeft_eq]
    have hs : mag.log2 + (place - last mag place).toNat = 52 := by omega
    have h3 : 2 ^ mag.log2 * 2 ^ (place - last mag place).toNat ≤ mag * 2 ^ (place - last mag place).toNat := Nat.mul_le_mul_right _ hm
    rw [← Nat.pow_add, hs] at h3
    omega
  · have ha : (place - last mag place).toNat = 0 := by omega
    rw [ha, Nat.shiftLeft_zero]
    have hd : (last mag place - place).toNat = mag.log2 - 52 := by omega
    unfold Toward.cut
    simp only [Nat.one_shiftLeft]
    rw [hd, Nat.min_eq_left (by omega)]
    have h5 : 2 ^ 52 ≤ mag / 2 ^ (mag.log2 - 52) := by
      rw [Nat.le_div_iff_mul_le (Nat.two_pow_pos _), ← Nat.pow_add, show 52 + (mag.log2 - 52) = mag.log2 from by omega]; exact hm
    omega
/-- A number not too great is written as what is kept of it, at its place. -/
theorem read_small (neg : Bool) {mag : Nat} {place : Int} (h : mag ≠ 0) (hs : place + mag.log2 ≤ 900) : ∃ m p, D.read (D.nearest neg mag place) = .number neg m p ∧ last mag place ≤ p ∧ p ≤ last mag place + 1 ∧ m * 2 ^ (p - last mag place).toNat = kept neg mag place ∧ m ≤ 9007199254740992 := by
  obtain ⟨h1, h2⟩ := last_ge mag place
  have hk := kept_le neg mag place
  have hl : last mag place ≤ 900 := by unfold last; omega
  generalize hL : last mag place = L at *
  generalize hK : kept neg mag place = K at *
  obtain ⟨q, hq⟩ := Int.eq_ofNat_of_zero_le (show 0 ≤ L + 1074 by omega)
  have hR : (L + 1074).toNat * 4503599627370496 + K < 2047 * 4503599627370496 := by omega
  rw [nearest_eq h, hL, hK, Nat.min_eq_left (by omega), read_word neg (by omega)]
  unfold rungD
  by_cases hk52 : K < 4503599627370496
  · have hL0 : L = -1074 := by
      rcases Int.lt_or_le (-1074) L with h3 | h3
      · have := kept_ge neg h (place := place) (by omega); omega
      · omega
    rw [if_pos (by omega)]
    exact ⟨_, _, rfl, by omega, by omega, by rw [show (-1074 - L).toNat = 0 from by omega]; omega, by omega⟩
  · rw [if_neg (by omega), if_pos hR]
    by_cases hk53 : K < 9007199254740992
    · have e1 : ((L + 1074).toNat * 4503599627370496 + K) / 4503599627370496 = (L + 1074).toNat + 1 := by omega
      have e2 : ((L + 1074).toNat * 4503599627370496 + K) % 4503599627370496 = K - 4503599627370496 := by omega
      rw [e1, e2]
      exact ⟨_, _, rfl, by omega, by omega, by rw [show (-1074 + (((L + 1074).toNat + 1 - 1 : Nat) : Int) - L).toNat = 0 from by omega]; omega, by omega⟩
    · have e0 : K = 9007199254740992 := by omega
      have e1 : ((L + 1074).toNat * 4503599627370496 + K) / 4503599627370496 = (L + 1074).toNat + 2 := by omega
      have e2 : ((L + 1074).toNat * 4503599627370496 + K) % 4503599627370496 = 0 := by omega
      rw [e1, e2]
      exact ⟨_, _, rfl, by omega, by omega, by rw [show (-1074 + (((L + 1074).toNat + 2 - 1 : Nat) : Int) - L).toNat = 1 from by omega]; omega, by omega⟩

/-- A whole number that is not too great is written exactly. -/
theorem int_read {n : Nat} (h : n < 4503599627370496) : ∃ m p, D.read (D.nearest false n 0) = .number false m p ∧ p ≤ 0 ∧ -1074 ≤ p ∧ m = n * 2 ^ (-p).toNat ∧ (n ≠ 0 → -52 ≤ p) ∧ m ≤ 9007199254740992 := by
  by_cases h0 : n = 0
  · subst h0
    refine ⟨0, -1074, ?_, by decide, by decide, by rw [Nat.zero_mul], fun h => absurd rfl h, by decide⟩
    unfold Format.nearest; rw [if_pos rfl]; exact read_word false (by decide)
  · have hlog : n.log2 < 52 := (Nat.log2_lt h0).2 (by have : (2 : Nat) ^ 52 = 4503599627370496 := rfl; omega)
    have hL : last n 0 = n.log2 - 52 := by unfold last; omega
    obtain ⟨m, p, hr, hp1, hp2, hm, hm2⟩ := read_small false (place := 0) h0 (by omega)
    have hk : kept false n 0 = n * 2 ^ (52 - n.log2) := by
      unfold kept
      rw [hL, show ((n.log2 : Int) - 52 - 0).toNat = 0 from by omega, cut_zero, Nat.shiftLeft_eq, show (0 - ((n.log2 : Int) - 52)).toNat = 52 - n.log2 from by omega]
    rw [hk, hL] at hm
    rw [hL] at hp1 hp2
    refine ⟨m, p, hr, by omega, by omega, ?_, fun _ => by omega, hm2⟩
    rcases (show p = n.log2 - 52 ∨ p = n.log2 - 52 + 1 by omega) with e | e
    · rw [e, show ((n.log2 : Int) - 52 - (n.log2 - 52)).toNat = 0 from by omega] at hm
      rw [e, show (-((n.log2 : Int) - 52)).toNat = 52 - n.log2 from by omega]; omega
    · rw [e, show ((n.log2 : Int) - 52 + 1 - (n.log2 - 52)).toNat = 1 from by omega] at hm
      rw [e, show (-((n.log2 : Int) - 52 + 1)).toNat = 51 - n.log2 from by omega]
      have e2 : 2 ^ (52 - n.log2) = 2 ^ (51 - n.log2) * 2 := by rw [← Nat.pow_succ]; congr 1; omega
      rw [e2, ← Nat.mul_assoc] at hm
      omega
/-- The quotient of two whole numbers is a number. -/
theorem div_int {x y : Nat} {m1 m2 : Nat} {p1 p2 : Int} (hx : D.read x = .number false m1 p1) (hy : D.read y = .number false m2 p2) (h2 : m2 ≠ 0) (hp1 : p1 ≤ 0) (hp2 : -52 ≤ p2) (hm1 : m1 ≤ 9007199254740992) (hm2 : m2 ≤ 9007199254740992) :
    ∃ r m p, D.div x y = some r ∧ D.read r = .number false m p := by
  unfold Format.div
  rw [hx, hy]
  unfold Datum.quotient
  simp only
  rw [if_neg h2]
  simp only [Option.map_some, Option.some.injEq, Format.write, Bool.false_xor]
  generalize hmore : D.fractionBits + 2 + m2.log2 - m1.log2 = more
  generalize hQ : 2 * (m1 <<< more / m2) + (m1 <<< more % m2 != 0).toNat = Q
  by_cases h0 : Q = 0
  · refine ⟨_, 0, -1074, rfl, ?_⟩
    subst h0
    unfold Format.nearest; rw [if_pos rfl]; exact read_word false (by decide)
  · have e53 : (2 : Nat) ^ 54 = 18014398509481984 := rfl
    have hl2 : m2.log2 < 54 := (Nat.log2_lt h2).2 (by omega)
    have hmr : more ≤ 108 := by rw [← hmore]; have : D.fractionBits = 52 := rfl; omega
    have hQ2 : Q < 2 ^ 165 := by
      have h5 : m1 <<< more ≤ 9007199254740992 * 2 ^ 108 := by
        rw [Nat.shiftLeft_eq]; exact Nat.mul_le_mul hm1 (Nat.pow_le_pow_right (by decide) hmr)
      have h6 : m1 <<< more / m2 ≤ m1 <<< more := Nat.div_le_self _ _
      have h7 : ∀ b : Bool, b.toNat ≤ 1 := fun b => by cases b <;> decide
      have h8 := h7 (m1 <<< more % m2 != 0)
      have h9 : (2 : Nat) * (9007199254740992 * 2 ^ 108) + 1 < 2 ^ 165 := by decide
      omega
    have hlq : Q.log2 < 165 := (Nat.log2_lt h0).2 hQ2
    obtain ⟨m, p, hr, _⟩ := read_small false (place := p1 - p2 - more - 1) h0 (by omega)
    exact ⟨_, m, p, rfl, hr⟩
/-- What is left, when no NaN is taken from a number, is no NaN. -/
theorem sub_num {x y : Nat} {s : Bool} {m : Nat} {p : Int} (hx : D.read x = .number s m p) (hy : (D.read y).isNaN = false) : ∃ r, D.sub x y = some r ∧ (D.read r).isNaN = false := by
  have nn : ∀ (b : Bool) (r : Nat), r ≤ 2047 * 4503599627370496 → (rungD b r).isNaN = false := fun b r hr => by
    unfold rungD
    split
    · rfl
    · split
      · rfl
      · split
        · rfl
        · omega
  unfold Format.sub
  rw [hx]
  cases hd : D.read y with
  | nan t f => rw [hd] at hy; cases hy
  | infinity t =>
    refine ⟨_, rfl, ?_⟩
    show (D.read (D.word (!t) D.infRung)).isNaN = false
    rw [inf, read_word _ (by decide)]; exact nn _ _ (Nat.le_refl _)
  | number t n j =>
    refine ⟨_, rfl, ?_⟩
    simp only [Format.write]
    obtain ⟨r, hr, e⟩ := read_nearest (if (signed s m (p - min p j).toNat + signed (!t) n (j - min p j).toNat) = 0 then s && !t else decide (signed s m (p - min p j).toNat + signed (!t) n (j - min p j).toNat < 0)) (signed s m (p - min p j).toNat + signed (!t) n (j - min p j).toNat).natAbs (min p j)
    rw [e]; exact nn _ _ hr

theorem read_zero : D.read 0 = .number false 0 (-1074) := by decide
theorem read_one : D.read 4607182418800017408 = .number false 4503599627370496 (-52) := by decide
/-- A part above nought and below one. -/
theorem part_read {y : Nat} (h0 : D.order y 0 = some .gt) (h1 : D.order y 4607182418800017408 = some .lt) : ∃ m p, D.read y = .number false m p ∧ m ≠ 0 ∧ p + m.log2 < 0 := by
  unfold Format.order at h0 h1
  rw [read_zero] at h0
  rw [read_one] at h1
  cases hd : D.read y with
  | nan t f => rw [hd] at h0; cases h0
  | infinity t =>
    rw [hd] at h0 h1
    cases t
    · cases h1
    · cases h0
  | number t m p =>
    rw [hd] at h0 h1
    simp only [Datum.order, Option.some.injEq] at h0 h1
    rw [Int.compare_eq_gt] at h0
    rw [Int.compare_eq_lt] at h1
    have ht : t = false := by
      cases t
      · rfl
      · have h9 : ∀ a b : Nat, ¬ ((b : Int) < -(a : Int)) := fun a b => by omega
        simp only [signed, if_true, Bool.false_eq_true, if_false] at h0
        exact absurd h0 (h9 _ _)
    subst ht
    simp only [signed, Bool.false_eq_true, if_false, Nat.shiftLeft_eq] at h0 h1
    have hm : m ≠ 0 := by rintro rfl; simp at h0
    refine ⟨m, p, rfl, hm, ?_⟩
    have hmm : 2 ^ m.log2 ≤ m := Nat.log2_self_le hm
    generalize hb : min p (-52) = b at h1
    have h3 : m * 2 ^ (p - b).toNat < 4503599627370496 * 2 ^ (-52 - b).toNat := by omega
    have h4 : 2 ^ m.log2 * 2 ^ (p - b).toNat ≤ m * 2 ^ (p - b).toNat := Nat.mul_le_mul_right _ hmm
    have e52 : (4503599627370496 : Nat) = 2 ^ 52 := rfl
    rw [e52, ← Nat.pow_add] at h3
    rw [← Nat.pow_add] at h4
    have h5 : 2 ^ (m.log2 + (p - b).toNat) < 2 ^ (52 + (-52 - b).toNat) := Nat.lt_of_le_of_lt h4 h3
    have h6 := (Nat.pow_lt_pow_iff_right (show 1 < 2 by decide)).1 h5
    omega
theorem log2_mul {a b : Nat} (ha : a ≠ 0) (hb : b ≠ 0) : (a * b).log2 ≤ a.log2 + b.log2 + 1 := by
  have h1 : a < 2 ^ (a.log2 + 1) := Nat.lt_log2_self
  have h2 : b < 2 ^ (b.log2 + 1) := Nat.lt_log2_self
  have h3 : a * b < 2 ^ (a.log2 + 1) * 2 ^ (b.log2 + 1) := Nat.mul_lt_mul'' h1 h2
  rw [← Nat.pow_add] at h3
  have := (Nat.log2_lt (Nat.mul_ne_zero ha hb)).2 h3
  omega
/-- A part of a whole number: what is left of it when it is cut. -/
theorem mul_part {n x y : Nat} {m1 m2 : Nat} {p1 p2 : Int} (hx : D.read x = .number false m1 p1) (hp1 : p1 ≤ 0) (hm1 : m1 = n * 2 ^ (-p1).toNat) (hn : n ≠ 0) (hn2 : n < 4503599627370496) (hy : D.read y = .number false m2 p2) (hm2 : m2 ≠ 0) (hp2 : p2 + m2.log2 < 0) :
    ∃ r k : Nat, D.mul x y = some r ∧ (D.read r).toInt .zero = some (k : Int) ∧ k ≤ 9007199254740992 ∧ (D.read r).isNaN = false ∧ (D.order r x = some .lt ∧ k ≤ n ∨ D.order r x = some .gt ∧ n ≤ k ∨ D.order r x = some .eq ∧ n ≤ k) := by
  have hpos : 0 < 2 ^ (-p1).toNat := Nat.two_pow_pos _
  have hm1' : m1 ≠ 0 := by rw [hm1]; exact Nat.mul_ne_zero hn (Nat.ne_of_gt hpos)
  have hl1 : p1 + m1.log2 ≤ 51 := by
    have h1 : m1 < 2 ^ (52 + (-p1).toNat) := by
      rw [hm1, Nat.pow_add]; exact Nat.mul_lt_mul_of_pos_right (by have : (2 : Nat) ^ 52 = 4503599627370496 := rfl; omega) hpos
    have := (Nat.log2_lt hm1').2 h1
    omega
  have hl := log2_mul hm1' hm2
  obtain ⟨m, p, hr, hpa, hpb, hk, hm⟩ := read_small false (mag := m1 * m2) (place := p1 + p2) (Nat.mul_ne_zero hm1' hm2) (by omega)
  have hlast : last (m1 * m2) (p1 + p2) ≤ -1 := by unfold last; omega
  have hp0 : p ≤ 0 := by omega
  have hcut : Toward.zero.cut false (m <<< p.toNat) (-p).toNat = m / 2 ^ (-p).toNat := by
    rw [show p.toNat = 0 from by omega, Nat.shiftLeft_zero]
    unfold Toward.cut
    simp only [Nat.one_shiftLeft, Bool.toNat_false, Nat.add_zero]
    by_cases hc : (-p).toNat ≤ m.log2 + 2
    · rw [Nat.min_eq_left hc]
    · rw [Nat.min_eq_right (by omega)]
      have hml : m < 2 ^ (m.log2 + 1) := Nat.lt_log2_self
      rw [Nat.div_eq_of_lt (Nat.lt_of_lt_of_le hml (Nat.pow_le_pow_right (by decide) (by omega))), Nat.div_eq_of_lt (Nat.lt_of_lt_of_le hml (Nat.pow_le_pow_right (by decide) (by omega)))]
  refine ⟨D.nearest false (m1 * m2) (p1 + p2), m / 2 ^ (-p).toNat, ?_, ?_, Nat.le_trans (Nat.div_le_self _ _) hm, by rw [hr]; rfl, ?_⟩
  · unfold Format.mul; rw [hx, hy]; rfl
  · rw [hr]; unfold Datum.toInt Datum.integral
    simp only [hcut, signed, Bool.false_eq_true, if_false, Nat.shiftLeft_zero]
  · unfold Format.order
    rw [hr, hx]
    simp only [Datum.order, signed, Bool.false_eq_true, if_false, Nat.shiftLeft_eq, Option.some.injEq]
    generalize hb : min p p1 = b
    have e1 : m1 * 2 ^ (p1 - b).toNat = n * 2 ^ (-p).toNat * 2 ^ (p - b).toNat := by
      rw [hm1, Nat.mul_assoc, Nat.mul_assoc, ← Nat.pow_add, ← Nat.pow_add]; congr 2; omega
    have hq : 0 < 2 ^ (p - b).toNat := Nat.two_pow_pos _
    have hq2 : 0 < 2 ^ (-p).toNat := Nat.two_pow_pos _
    rw [Int.compare_eq_lt, Int.compare_eq_gt, Int.compare_eq_eq, e1]
    rcases Nat.lt_trichotomy m (n * 2 ^ (-p).toNat) with h | h | h
    · left
      refine ⟨?_, Nat.le_of_lt ((Nat.div_lt_iff_lt_mul hq2).2 h)⟩
      exact Int.ofNat_lt.2 (Nat.mul_lt_mul_of_pos_right h hq)
    · right; right
      exact ⟨by rw [h], (Nat.le_div_iff_mul_le hq2).2 (Nat.le_of_eq h.symm)⟩
    · right; left
      refine ⟨?_, (Nat.le_div_iff_mul_le hq2).2 (Nat.le_of_lt h)⟩
      exact Int.ofNat_lt.2 (Nat.mul_lt_mul_of_pos_right h hq)
end Go.Fl

namespace Go.K
section
variable {C : Cx} {V : Vw} {H : Hp} {L : Sl} {ty : TypeId}
def fltRes (op : BinOp) (k : FloatKind) (a b : Nat) : Option Value :=
  match op with
  | .eql => some (.bool (k.format.order a b == some .eq)) | .neq => some (.bool (k.format.order a b != some .eq))
  | .lss => some (.bool (k.format.order a b == some .lt)) | .leq => some (.bool (k.format.order a b == some .lt || k.format.order a b == some .eq))
  | .gtr => some (.bool (k.format.order a b == some .gt)) | .geq => some (.bool (k.format.order a b == some .gt || k.format.order a b == some .eq))
  | _ => none
theorem run_eqGuard_float {P : Program} {w : World} (op : BinOp) (t : TypeId) (x y : Operand) (k k' : FloatKind) (a b : Nat) : (eqGuard op t x y (.float k a) (.float k' b)).run P w = .ok () w := by
  unfold eqGuard; cases op <;> rfl
theorem Y.fcmp {x y : Operand} {k : FloatKind} {m n : Nat} {op : BinOp} {t t' : TypeId} {r : Value} (hx : ev L x = some (.float k m)) (hy : ev L y = some (.float k n)) (hr : fltRes op k m n = some r) : Yl C V H L (.binOp op t x y t') ty r := (fun V2 a w hle i o ho hty => by
  simp only [execOp, ho, i.1.ev hx, i.1.ev hy, Sem.run_bind, run_eqGuard_float, Result.andThen_ok]
  cases op <;> simp only [fltRes, Option.some.injEq, reduceCtorEq] at hr <;> subst hr <;> simp [binOp, Op.floatCmp])
theorem Y.farith {x y : Operand} {k : FloatKind} {m n r : Nat} {op : BinOp} {t t' : TypeId} (hx : ev L x = some (.float k m)) (hy : ev L y = some (.float k n)) (hr : floatBits op k m n = some r) : Yl C V H L (.binOp op t x y t') ty (.float k r) := (fun V2 a w hle i o ho hty => by
  simp only [execOp, ho, i.1.ev hx, i.1.ev hy, Sem.run_bind, run_eqGuard_float, Result.andThen_ok, run_float_arith w op t k m n r hr, Sem.run_pure])
theorem Y.fneg {x : Operand} {k : FloatKind} {m : Nat} {t : TypeId} (hx : ev L x = some (.float k m)) : Yl C V H L (.unOp .neg t x) ty (.float k (Op.negFloat k m)) := (fun V2 a w hle i o ho hty => by
  simp [execOp, ho, i.1.ev hx, Op.unary])
/-- number to float, float to number. -/
def fltT (P : Program) (s t : TypeId) : Option FloatKind := match P.underlying s, P.underlying t with
  | some _, some (.float k) => some k
  | _, _ => none
theorem Y.convIF {x : Operand} {q : IntKind} {k : FloatKind} {n : Int} {s t : TypeId} (hx : ev L x = some (.int q n)) (ht : fltT C.P s t = some k) : Yl C V H L (.convert s t x) ty (.float k (floatOfInt k n)) := (fun V2 a w hle i o ho hty => by
  unfold fltT at ht
  split at ht
  · rename_i u k' hs hd
    cases ht
    simp only [execOp, ho, i.1.ev hx, run_convert_int_float w s t q k n (by rw [hs]; rfl) hd, Sem.run_bind, Result.andThen_ok, Sem.run_pure]
  · cases ht)
theorem Y.convFI {x : Operand} {q : FloatKind} {k : IntKind} {b : Nat} {n : Int} {s t : TypeId} (hx : ev L x = some (.float q b)) (ht : intT C.P s t = some k) (hn : floatToIntVal q b k = some n) : Yl C V H L (.convert s t x) ty (.int k n) := (fun V2 a w hle i o ho hty => by
  unfold intT at ht
  split at ht
  · rename_i u k' hs hd
    cases ht
    simp only [execOp, ho, i.1.ev hx, run_convert_float_int w s t q k b n (by rw [hs]; rfl) hd hn, Sem.run_bind, Result.andThen_ok, Sem.run_pure]
  · cases ht)
def fmin (k : FloatKind) (x y : Nat) : Nat := match k.format.order x y with
  | some .lt => x
  | some .gt => y
  | _ => if (k.decode x).neg then x else y
theorem Y.minF {x y : Operand} {t : TypeId} {ts : Array TypeId} {k : FloatKind} {m n : Nat} (hx : ev L x = some (.float k m)) (hy : ev L y = some (.float k n)) (ho : k.format.order m n ≠ none) : Yl C V H L (.call { callee := .builtin .min, args := #[x, y], argTypes := ts }) t (.float k (fmin k m n)) := (fun V2 a w hle i o ho' hty => by
  have e : (Builtin.min2 (.float k m) (.float k n)).run C.P w = .ok (.float k (fmin k m n)) w := by
    unfold Builtin.min2 fmin
    cases h : k.format.order m n with
    | none => exact absurd h ho
    | some c => cases c <;> simp [h]
  simp [execOp, ho', resolve, invoke, builtin, Builtin.min_, i.1.ev hx, i.1.ev hy, e])
/-- A function of the library that has no body, and is made in place by e. -/
def isExt (P : Program) (f : FuncId) (e : Array Value → Sem Value) : Prop := ∃ fn, P.funcs[f]? = some fn ∧ (fn.name == "runtime.NumGoroutine") = false ∧ fn.body.isNone = true ∧ Extern.findNext fn = none ∧ Extern.find fn = some e
theorem Y.ext {x : Operand} {f : FuncId} {at_ : Array TypeId} {e : Array Value → Sem Value} {u v : Value} (hf : isExt C.P f e) (hx : ev L x = some u) (he : ∀ w, (e #[u]).run C.P w = .ok v w) :
    Yl C V H L (.call { callee := .value (.func f), args := #[x], argTypes := at_ }) ty v := (fun V2 a w hle i o ho hty => by
  obtain ⟨fn, h1, h2, h3, h4, h5⟩ := hf
  have e1 := i.1.ev hx
  have e2 : a.eval (.func f) = .func (.func f) #[] #[] := i.1.ev (x := .func f) rfl
  have hr := run_callFunc_extern h1 h2 h3 h4 h5 #[u] w
  rw [he w] at hr
  simp only [execOp, ho, resolve, e2, Deferred.ofValue, Sem.run_bind, Sem.run_pure, Result.andThen_ok, invoke, List.map_toArray, List.map_cons, List.map_nil, e1]
  simpa using hr)
end
end Go.K

namespace Go.Fl
open Ieee
theorem abs_bits {b : Nat} (h : b < 18446744073709551616) : IntKind.u64.wrap ((BitVec.ofInt IntKind.u64.bits (b : Int) &&& ~~~BitVec.ofInt IntKind.u64.bits 9223372036854775808).toNat : Int) = ((b % 9223372036854775808 : Nat) : Int) := by
  have hb : IntKind.u64.bits = 64 := rfl
  rw [hb, BitVec.toNat_and, BitVec.toNat_not, BitVec.toNat_ofInt, BitVec.toNat_ofInt]
  have e1 : ((b : Int) % ((2 ^ 64 : Nat) : Int)).toNat = b := by
    have : ((2 ^ 64 : Nat) : Int) = 18446744073709551616 := rfl
    rw [this]; omega
  have e2 : ((9223372036854775808 : Int) % ((2 ^ 64 : Nat) : Int)).toNat = 9223372036854775808 := rfl
  rw [e1, e2, show (2 : Nat) ^ 64 - 1 - 9223372036854775808 = 2 ^ 63 - 1 from rfl, Nat.and_two_pow_sub_one_eq_mod]
  have e3 : (2 : Nat) ^ 63 = 9223372036854775808 := rfl
  rw [e3]
  have hw : ∀ z : Int, 0 ≤ z ∧ z ≤ 18446744073709551615 → IntKind.u64.wrap z = z := fun z hz => by
    have e4 : (2 ^ IntKind.u64.bits : Int) = 18446744073709551616 := rfl
    simp only [IntKind.wrap, e4, show IntKind.u64.signed = false from rfl, Bool.false_and, Bool.false_eq_true, if_false]
    omega
  exact hw _ (by omega)
theorem read_abs (b : Nat) : (D.read (b % 9223372036854775808)).isNaN = (D.read b).isNaN := by
  unfold Format.read
  rw [least, binade, inf, sgn, Nat.mod_mod]
  simp only
  split
  · rfl
  · split
    · rfl
    · split <;> rfl
theorem order_none {x y : Nat} (hx : (D.read x).isNaN = false) (hy : (D.read y).isNaN = false) : D.order x y ≠ none := by
  unfold Format.order
  cases hd : D.read x <;> cases he : D.read y <;> simp_all [Datum.order, Datum.isNaN]
theorem order_nan {x : Nat} (hx : (D.read x).isNaN = true) (y : Nat) : D.order x y = none := by
  unfold Format.order
  cases hd : D.read x <;> simp_all [Datum.order, Datum.isNaN]
theorem order_self (x : Nat) : (D.order x x != some .eq) = (D.read x).isNaN := by
  unfold Format.order
  cases hd : D.read x with
  | nan s f => rfl
  | infinity s => cases s <;> rfl
  | number s m p =>
    simp only [Datum.order, Datum.isNaN]
    rw [Int.compare_eq_eq.2 rfl]; rfl
theorem order_total {x y : Nat} (hx : (D.read x).isNaN = false) (hy : (D.read y).isNaN = false) : D.order x y = some .lt ∨ D.order x y = some .eq ∨ D.order x y = some .gt := by
  have := order_none hx hy
  cases h : D.order x y with
  | none => exact absurd h this
  | some c => cases c <;> simp
end Go.Fl

namespace Go.Fl
open Ieee
abbrev one : Nat := 4607182418800017408
def fl (n : Int) : Nat := floatOfInt .f64 n
theorem fl_read {n : Int} (h0 : 0 ≤ n) (h : n < 4503599627370496) : ∃ m p, D.read (fl n) = .number false m p ∧ p ≤ 0 ∧ -1074 ≤ p ∧ m = n.toNat * 2 ^ (-p).toNat ∧ (n ≠ 0 → -52 ≤ p) ∧ m ≤ 9007199254740992 := by
  have e : fl n = D.nearest false n.toNat 0 := by
    unfold fl floatOfInt FloatKind.nearest FloatKind.encode
    show D.nearest (decide (n < 0)) n.natAbs 0 = _
    rw [decide_eq_false (by omega), show n.natAbs = n.toNat from by omega]
  obtain ⟨m, p, h1, h2, h3, h4, h5, h6⟩ := int_read (n := n.toNat) (by omega)
  exact ⟨m, p, by rw [e, h1], h2, h3, h4, fun hn => h5 (by omega), h6⟩
def bnd (n : Int) : Int := min (max n 0) 1073741824
theorem bnd_range (n : Int) : 0 ≤ bnd n ∧ bnd n ≤ 1073741824 := by unfold bnd; omega
def above0 (y : Nat) : Bool := D.order y 0 == some .gt
def above1 (y : Nat) : Bool := D.order y one == some .gt || D.order y one == some .eq
/-- What is left of a part of n when it is cut. -/
def partK (n : Int) (y : Nat) : Int := match floatBits .mul .f64 (fl n) y with
  | some r => (floatToIntVal .f64 r .i64).getD 0
  | none => 0
def part (n : Int) (y : Nat) : Int := if min n 1099511627776 < 1 ∨ above0 y = false then 0 else if above1 y = true then min n 1099511627776 else min (partK (min n 1099511627776) y) (min n 1099511627776)
theorem zero_num : (D.read 0).isNaN = false := by rw [read_zero]; rfl
theorem one_num : (D.read one).isNaN = false := by rw [read_one]; rfl
theorem part_facts {n : Int} {y : Nat} (h1 : 1 ≤ n) (h2 : n ≤ 1099511627776) (ha : above0 y = true) (hb : above1 y = false) :
    ∃ r, floatBits .mul .f64 (fl n) y = some r ∧ floatToIntVal .f64 r .i64 = some (partK n y) ∧ 0 ≤ partK n y ∧ (D.read r).isNaN = false ∧
      (D.order r (fl n) = some .lt ∧ partK n y ≤ n ∨ D.order r (fl n) = some .gt ∧ n ≤ partK n y ∨ D.order r (fl n) = some .eq ∧ n ≤ partK n y) := by
  have h0 : D.order y 0 = some .gt := by unfold above0 at ha; simpa using ha
  have hy : (D.read y).isNaN = false := by
    cases hn : (D.read y).isNaN with
    | false => rfl
    | true => rw [order_nan hn] at h0; cases h0
  have hlt : D.order y one = some .lt := by
    unfold above1 at hb
    rcases order_total hy one_num with h | h | h
    · exact h
    · rw [h] at hb; simp at hb
    · rw [h] at hb; simp at hb
  obtain ⟨m2, p2, hr2, hm2, hp2⟩ := part_read h0 hlt
  obtain ⟨m1, p1, hr1, hp1, _, hm1, _, _⟩ := fl_read (n := n) (by omega) (by omega)
  obtain ⟨r, k, e1, e2, e3, e4, e5⟩ := mul_part hr1 hp1 hm1 (by omega) (by omega) hr2 hm2 hp2
  have ef : floatToIntVal .f64 r .i64 = some (k : Int) := by
    unfold floatToIntVal
    have : (FloatKind.f64.decode r).toInt .zero = some (k : Int) := e2
    rw [this]
    simp only
    rw [if_pos ⟨by have : IntKind.i64.min = -9223372036854775808 := rfl; omega, by have : IntKind.i64.max = 9223372036854775807 := rfl; omega⟩]
  have em : floatBits .mul .f64 (fl n) y = some r := e1
  have ek : partK n y = k := by unfold partK; rw [em]; simp only; rw [ef]; rfl
  rw [ek]
  refine ⟨r, em, ef, by omega, e4, ?_⟩
  rcases e5 with ⟨h, h'⟩ | ⟨h, h'⟩ | ⟨h, h'⟩
  · exact .inl ⟨h, by omega⟩
  · exact .inr (.inl ⟨h, by omega⟩)
  · exact .inr (.inr ⟨h, by omega⟩)
theorem part_range {n : Int} (hn : 0 ≤ n) (y : Nat) : 0 ≤ part n y ∧ part n y ≤ n := by
  unfold part
  split
  · omega
  · rename_i hc
    split
    · omega
    · rename_i hb
      obtain ⟨r, _, _, h3, _⟩ := part_facts (n := min n 1099511627776) (y := y) (by omega) (by omega) (by cases h : above0 y <;> simp_all) (by simpa using hb)
      omega
def share (a b : Int) (y : Nat) : Int := min (max (part (bnd a + bnd b) y - bnd b) 0) (bnd a)
/-- The other one's part, less the part wanted. -/
def off (a b : Int) (y : Nat) : Nat := ((floatBits .quo .f64 (fl (bnd b)) (fl (bnd a + bnd b))).bind fun q => floatBits .sub .f64 q y).getD 0
theorem off_facts {a b : Int} {y : Nat} (h : bnd a + bnd b ≠ 0) (hy : (D.read y).isNaN = false) : ∃ q, floatBits .quo .f64 (fl (bnd b)) (fl (bnd a + bnd b)) = some q ∧ floatBits .sub .f64 q y = some (off a b y) ∧ (D.read (off a b y)).isNaN = false ∧ off a b y < 18446744073709551616 := by
  have ha := bnd_range a
  have hb := bnd_range b
  obtain ⟨m1, p1, hr1, hp1, _, _, _, hm1⟩ := fl_read (n := bnd b) (by omega) (by omega)
  obtain ⟨m2, p2, hr2, hp2, _, hm2, hp2', hm2'⟩ := fl_read (n := bnd a + bnd b) (by omega) (by omega)
  have h2 : m2 ≠ 0 := by rw [hm2]; exact Nat.mul_ne_zero (by omega) (Nat.ne_of_gt (Nat.two_pow_pos _))
  obtain ⟨q, m, p, e1, e2⟩ := div_int hr1 hr2 h2 hp1 (hp2' (by omega)) hm1 hm2'
  obtain ⟨r, e3, e4⟩ := sub_num e2 hy
  have eq1 : floatBits .quo .f64 (fl (bnd b)) (fl (bnd a + bnd b)) = some q := e1
  have eq2 : floatBits .sub .f64 q y = some r := e3
  have eo : off a b y = r := by unfold off; rw [eq1]; simp only [Option.bind_some]; rw [eq2]; rfl
  rw [eo]
  refine ⟨q, eq1, eq2, e4, ?_⟩
  have := D.sub_lt e3
  exact this
def uneven (a b : Int) (y : Nat) : Nat := if bnd a + bnd b = 0 then 0 else if (D.read y).isNaN = true then one else Go.K.fmin .f64 (off a b y % 9223372036854775808) one
def gives (id free backup : Int) (y s : Nat) : Int :=
  if D.order (uneven (bnd free) (bnd backup) y) s == some .gt then
    if id = 0 then share (bnd free) (bnd backup) y else if id = 1 then max (bnd backup - part (bnd free + bnd backup) y) 0 else 0
  else 0
end Go.Fl

namespace Go.Fl
open Ieee
section
variable {n N : Int} {y : Nat}
theorem part_a (hN : min n 1099511627776 = N) (h : N < 1) : part n y = 0 := by unfold part; rw [if_pos (.inl (by omega))]
theorem part_b (h : above0 y = false) : part n y = 0 := by unfold part; rw [if_pos (.inr h)]
theorem part_c (hN : min n 1099511627776 = N) (h1 : ¬ N < 1) (h2 : above0 y = true) (h3 : above1 y = true) : part n y = N := by
  unfold part; rw [hN, if_neg (by rw [h2]; simp; omega), if_pos h3]
theorem part_d (hN : min n 1099511627776 = N) (h1 : ¬ N < 1) (h2 : above0 y = true) (h3 : above1 y = false) : part n y = min (partK N y) N := by
  unfold part; rw [hN, if_neg (by rw [h2]; simp; omega), if_neg (by rw [h3]; decide)]
theorem above_nan (h : (D.read y).isNaN = true) : above0 y = false := by unfold above0; rw [order_nan h]; rfl
theorem above_le (h : (D.order y 0 == some .lt || D.order y 0 == some .eq) = true) : above0 y = false := by
  unfold above0
  cases ho : D.order y 0 with
  | none => rfl
  | some c => rw [ho] at h; cases c <;> first | rfl | (simp at h)
theorem above_gt (h0 : (D.read y).isNaN = false) (h : (D.order y 0 == some .lt || D.order y 0 == some .eq) = false) : above0 y = true := by
  unfold above0
  rcases order_total h0 zero_num with ho | ho | ho <;> rw [ho] at h ⊢ <;> first | rfl | (simp at h)
theorem part_ge {r : Nat} {k : Int} (ho : D.order r (fl N) = some .lt ∧ k ≤ N ∨ D.order r (fl N) = some .gt ∧ N ≤ k ∨ D.order r (fl N) = some .eq ∧ N ≤ k) (h : (D.order r (fl N) == some .gt || D.order r (fl N) == some .eq) = true) : min k N = N := by
  rcases ho with ⟨e, _⟩ | ⟨_, e⟩ | ⟨_, e⟩
  · rw [e] at h; simp at h
  · omega
  · omega
theorem part_lt {r : Nat} {k : Int} (ho : D.order r (fl N) = some .lt ∧ k ≤ N ∨ D.order r (fl N) = some .gt ∧ N ≤ k ∨ D.order r (fl N) = some .eq ∧ N ≤ k) (h : (D.order r (fl N) == some .gt || D.order r (fl N) == some .eq) = false) : min k N = k := by
  rcases ho with ⟨_, e⟩ | ⟨e, _⟩ | ⟨e, _⟩
  · omega
  · rw [e] at h; simp at h
  · rw [e] at h; simp at h
end
end Go.Fl

namespace Go.Fl
theorem bnd_id {n : Int} (h : 0 ≤ n ∧ n ≤ 1073741824) : bnd n = n := by unfold bnd; omega
theorem gives_cases (id f b : Int) (y s : Nat) (hf : 0 ≤ f ∧ f ≤ 1073741824) (hb : 0 ≤ b ∧ b ≤ 1073741824) :
    (id = 0 → gives id f b y s = 0 ∨ gives id f b y s = min (max (part (f + b) y - b) 0) f) ∧ (id = 1 → gives id f b y s = 0 ∨ gives id f b y s = max (b - part (f + b) y) 0) := by
  unfold gives share
  rw [bnd_id hf, bnd_id hb, bnd_id hf, bnd_id hb]
  constructor
  · intro h; subst h; split
    · right; rfl
    · left; rfl
  · intro h; subst h; split
    · right; rfl
    · left; rfl
/-- Either the unevenness is over the slack for both, or nothing is given. -/
theorem one_facts {f b : Int} {y s : Nat} (hf : 0 ≤ f ∧ f ≤ 536870912) (hb : 0 ≤ b ∧ b ≤ 536870912) :
    let a := gives 0 f b y s; let c := gives 1 f b y s
    (0 ≤ a ∧ a ≤ f) ∧ (0 ≤ c ∧ c ≤ b) ∧ ¬ (a > 0 ∧ c > 0) ∧ gives 0 (f - a + c) (b + a - c) y s = 0 ∧ gives 1 (f - a + c) (b + a - c) y s = 0 := by
  intro a c
  have hr := part_range (n := f + b) (by omega) y
  have h0 := (gives_cases 0 f b y s (by omega) (by omega)).1 rfl
  have h1 := (gives_cases 1 f b y s (by omega) (by omega)).2 rfl
  have ha : 0 ≤ a ∧ a ≤ f := by rcases h0 with h | h <;> (show 0 ≤ gives 0 f b y s ∧ gives 0 f b y s ≤ f) <;> omega
  have hc : 0 ≤ c ∧ c ≤ b := by rcases h1 with h | h <;> (show 0 ≤ gives 1 f b y s ∧ gives 1 f b y s ≤ b) <;> omega
  have hno : ¬ (a > 0 ∧ c > 0) := by
    show ¬ (gives 0 f b y s > 0 ∧ gives 1 f b y s > 0)
    rcases h0 with h | h <;> rcases h1 with h' | h' <;> omega
  refine ⟨ha, hc, hno, ?_⟩
  by_cases hz : a = 0 ∧ c = 0
  · rw [hz.1, hz.2, Int.sub_zero, Int.add_zero, Int.add_zero, Int.sub_zero]; exact hz
  · have e : f - a + c + (b + a - c) = f + b := by omega
    have g0 := (gives_cases 0 (f - a + c) (b + a - c) y s (by omega) (by omega)).1 rfl
    have g1 := (gives_cases 1 (f - a + c) (b + a - c) y s (by omega) (by omega)).2 rfl
    rw [e] at g0 g1
    have k0 : a = 0 ∨ a = min (max (part (f + b) y - b) 0) f := h0
    have k1 : c = 0 ∨ c = max (b - part (f + b) y) 0 := h1
    constructor
    · rcases g0 with g | g
      · exact g
      · rw [g]; rcases k0 with k | k <;> rcases k1 with k' | k' <;> omega
    · rcases g1 with g | g
      · exact g
      · rw [g]; rcases k0 with k | k <;> rcases k1 with k' | k' <;> omega
end Go.Fl

namespace Go.Fl
open Ieee
theorem signed_up (s : Bool) (m a d : Nat) : signed s m (a + d) = signed s m a * 2 ^ d := by
  unfold signed
  rw [Nat.shiftLeft_eq, Nat.shiftLeft_eq, Nat.pow_add, ← Nat.mul_assoc]
  have e : ((m * 2 ^ a * 2 ^ d : Nat) : Int) = ((m * 2 ^ a : Nat) : Int) * 2 ^ d := by rw [Int.natCast_mul, Int.natCast_pow]; rfl
  cases s
  · simp only [Bool.false_eq_true, if_false]; exact e
  · simp only [if_true]; rw [e, Int.neg_mul]
theorem compare_scale (a b : Int) (d : Nat) : compare (a * 2 ^ d) (b * 2 ^ d) = compare a b := by
  have hp : (0 : Int) < 2 ^ d := Int.pow_pos (by decide)
  rcases Int.lt_trichotomy a b with h | h | h
  · rw [Int.compare_eq_lt.2 h, Int.compare_eq_lt.2 (Int.mul_lt_mul_of_pos_right h hp)]
  · rw [h, Int.compare_eq_eq.2 rfl, Int.compare_eq_eq.2 rfl]
  · rw [Int.compare_eq_gt.2 h, Int.compare_eq_gt.2 (Int.mul_lt_mul_of_pos_right h hp)]
/-- Two numbers compare as they do over any common place. -/
theorem order_at (s t : Bool) (m n : Nat) (i j K : Int) (h : K ≤ min i j) : Datum.order (.number s m i) (.number t n j) = some (compare (signed s m (i - K).toNat) (signed t n (j - K).toNat)) := by
  simp only [Datum.order, Option.some.injEq]
  rw [show (i - K).toNat = (i - min i j).toNat + (min i j - K).toNat from by omega, show (j - K).toNat = (j - min i j).toNat + (min i j - K).toNat from by omega, signed_up, signed_up, compare_scale]
theorem signed_nonneg (m a : Nat) : 0 ≤ signed false m a := by unfold signed; simp only [Bool.false_eq_true, if_false]; exact Int.natCast_nonneg _
theorem signed_zero (s : Bool) (a : Nat) : signed s 0 a = 0 := by unfold signed; cases s <;> simp
theorem signed_neg (m a : Nat) : signed true m a = -signed false m a := by unfold signed; simp
theorem signed_pos {m : Nat} (h : m ≠ 0) (a : Nat) : 0 < signed false m a := by
  unfold signed; simp only [Bool.false_eq_true, if_false]; rw [Nat.shiftLeft_eq]
  have := Nat.mul_pos (Nat.pos_of_ne_zero h) (Nat.two_pow_pos a)
  omega
/-- What equals one compares as one does. -/
theorem order_eq_one {z : Nat} (h : D.order z one = some .eq) (s : Nat) : D.order z s = D.order one s := by
  unfold Format.order at h ⊢
  rw [read_one] at h ⊢
  cases hz : D.read z with
  | nan t f => rw [hz] at h; cases h
  | infinity t => rw [hz] at h; cases t <;> cases h
  | number t m p =>
    rw [hz] at h
    cases hs : D.read s with
    | nan u f => rfl
    | infinity u => rfl
    | number u n j =>
      have hK : min (min p j) (-52) ≤ min p (-52) := by omega
      rw [order_at _ _ _ _ _ _ _ hK] at h
      rw [order_at t u m n p j (min (min p j) (-52)) (by omega), order_at false u 4503599627370496 n (-52) j (min (min p j) (-52)) (by omega)]
      simp only [Option.some.injEq] at h
      rw [Int.compare_eq_eq.1 h]
theorem sign_of (x : Nat) : (D.read x).neg = (x / 9223372036854775808 % 2 == 1) := by
  unfold Format.read
  rw [sgn]
  simp only
  split
  · rfl
  · split
    · rfl
    · split <;> rfl
theorem read_abs_of (x : Nat) : D.read (x % 9223372036854775808) = (match D.read x with | .number _ m p => .number false m p | .infinity _ => .infinity false | .nan _ f => .nan false f) := by
  unfold Format.read
  rw [sgn, Nat.mod_mod, Nat.div_eq_of_lt (Nat.mod_lt _ (by decide))]
  simp only
  split
  · rfl
  · split
    · rfl
    · split <;> rfl
/-- Below nought: the sign is turned by cutting it off. -/
theorem neg_lt {x : Nat} (hx : x < 18446744073709551616) (h : D.order x 0 = some .lt) : Op.negFloat .f64 x = x % 9223372036854775808 := by
  have hs : (D.read x).neg = true := by
    unfold Format.order at h; rw [read_zero] at h
    cases hd : D.read x with
    | nan t f => rw [hd] at h; cases h
    | infinity t => rw [hd] at h; cases t; cases h; rfl
    | number t m p =>
      rw [hd] at h
      cases t
      · simp only [Datum.order, Option.some.injEq] at h
        rw [Int.compare_eq_lt, signed_zero] at h
        have := signed_nonneg m (p - min p (-1074)).toNat
        omega
      · rfl
  rw [sign_of] at hs
  have h63 : x / 9223372036854775808 % 2 = 1 := by simpa using hs
  unfold Op.negFloat
  show x ^^^ 2 ^ 63 = x % 9223372036854775808
  have e63 : (9223372036854775808 : Nat) = 2 ^ 63 := rfl
  have e64 : (18446744073709551616 : Nat) = 2 ^ 64 := rfl
  rw [e63] at h63 ⊢
  rw [e64] at hx
  apply Nat.eq_of_testBit_eq
  intro i
  rw [Nat.testBit_xor, Nat.testBit_mod_two_pow, Nat.testBit_two_pow]
  by_cases h1 : i < 63
  · simp [h1, show ¬ 63 = i from by omega]
  · by_cases h2 : i = 63
    · subst h2
      have : x.testBit 63 = true := by rw [Nat.testBit_eq_decide_div_mod_eq]; simpa using h63
      simp [this]
    · have : x.testBit i = false := Nat.testBit_lt_two_pow (Nat.lt_of_lt_of_le hx (Nat.pow_le_pow_right (by decide) (by omega)))
      simp [this, h1, show ¬ 63 = i from fun e => h2 e.symm]
/-- Not below nought: the sign plays no part. -/
theorem abs_ge {x : Nat} (hn : (D.read x).isNaN = false) (h : D.order x 0 ≠ some .lt) (s : Nat) : D.order (x % 9223372036854775808) s = D.order x s := by
  unfold Format.order at h ⊢
  rw [read_abs_of]
  rw [read_zero] at h
  cases hd : D.read x with
  | nan t f => rw [hd] at hn; cases hn
  | infinity t => rw [hd] at h; cases t; rfl; exact absurd rfl h
  | number t m p =>
    cases t
    · rfl
    · rw [hd] at h
      have hm : m = 0 := by
        refine Decidable.byContradiction fun hm => h ?_
        simp only [Datum.order, Option.some.injEq]
        rw [Int.compare_eq_lt, signed_zero, signed_neg]
        have := signed_pos hm (p - min p (-1074)).toNat
        omega
      subst hm
      cases D.read s with
      | nan u f => rfl
      | infinity u => rfl
      | number u n j => simp only [Datum.order, signed_zero]
def runeven (a b : Int) (y : Nat) : Nat :=
  if bnd a + bnd b = 0 then 0 else if (D.read y).isNaN = true then one else
    if D.order (if D.order (off a b y) 0 == some .lt then Op.negFloat .f64 (off a b y) else off a b y) one == some .gt then one else (if D.order (off a b y) 0 == some .lt then Op.negFloat .f64 (off a b y) else off a b y)
theorem runeven_gt (a b : Int) (y s : Nat) : (D.order (runeven a b y) s == some .gt) = (D.order (uneven a b y) s == some .gt) := by
  unfold runeven uneven
  by_cases h0 : bnd a + bnd b = 0
  · rw [if_pos h0, if_pos h0]
  · rw [if_neg h0, if_neg h0]
    by_cases hy : (D.read y).isNaN = true
    · rw [if_pos hy, if_pos hy]
    · rw [if_neg hy, if_neg hy]
      obtain ⟨q, _, _, hn, hlt⟩ := off_facts (a := a) (b := b) (y := y) h0 (by simpa using hy)
      generalize off a b y = x at *
      have hz : ∀ s, D.order (if D.order x 0 == some .lt then Op.negFloat .f64 x else x) s = D.order (x % 9223372036854775808) s := fun s => by
        by_cases hl : D.order x 0 = some .lt
        · rw [if_pos (by rw [hl]; rfl), neg_lt hlt hl]
        · rw [if_neg (by simpa using hl), abs_ge hn hl]
      generalize (if D.order x 0 == some .lt then Op.negFloat .f64 x else x) = x1 at *
      have hzn : (D.read (x % 9223372036854775808)).isNaN = false := by rw [read_abs]; exact hn
      have hneg : (FloatKind.f64.decode (x % 9223372036854775808)).neg = false := by
        show (D.read (x % 9223372036854775808)).neg = false
        rw [sign_of, Nat.div_eq_of_lt (Nat.mod_lt _ (by decide))]; rfl
      rw [hz one]
      unfold Go.K.fmin
      rcases order_total hzn one_num with h | h | h
      · rw [h]
        have e : FloatKind.f64.format.order (x % 9223372036854775808) 4607182418800017408 = some .lt := h
        rw [e, if_neg (by decide), hz s]
      · rw [h]
        have e : FloatKind.f64.format.order (x % 9223372036854775808) 4607182418800017408 = some .eq := h
        rw [e, hneg, if_neg (by decide), hz s, order_eq_one h s]; rfl
      · rw [h]
        have e : FloatKind.f64.format.order (x % 9223372036854775808) 4607182418800017408 = some .gt := h
        rw [e, if_pos (by decide)]
theorem bnd_bnd (n : Int) : bnd (bnd n) = bnd n := by unfold bnd; omega
theorem uneven_bnd (a b : Int) (y : Nat) : uneven (bnd a) (bnd b) y = uneven a b y := by unfold uneven off; rw [bnd_bnd, bnd_bnd]
theorem rgives_gt (a b : Int) (y s : Nat) : (D.order (runeven a b y) s == some .gt) = (D.order (uneven (bnd a) (bnd b) y) s == some .gt) := by rw [uneven_bnd]; exact runeven_gt a b y s
theorem rmin_eq (a b : Int) (y : Nat) : max (bnd b - part (bnd a + bnd b) y) 0 = min (max (bnd b - part (bnd a + bnd b) y) 0) (bnd b) := by
  have ha := bnd_range a
  have hb := bnd_range b
  have hp := part_range (n := bnd a + bnd b) (by omega) y
  omega
end Go.Fl
