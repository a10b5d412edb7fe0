/- What floats of 64 bits give: plain facts on the words of IEEE 754.
Conditions: none; no program in sight. -/
import Derived.Laws.FloatArith
namespace Go.Fl
open Ieee
abbrev D : Format := double
theorem least : D.leastPlace = -1074 := rfl
theorem binade : D.binade = 4503599627370496 := rfl
theorem inf : D.infRung = 2047 * 4503599627370496 := rfl
theorem sgn : D.signWeight = 9223372036854775808 := rfl

/-- The datum of a rung. -/
def rungD (neg : Bool) (r : Nat) : Datum :=
  if r < 4503599627370496 then .number neg r (-1074)
  else if r < 2047 * 4503599627370496 then .number neg (4503599627370496 + r % 4503599627370496) (-1074 + (r / 4503599627370496 - 1 : Nat))
  else if r = 2047 * 4503599627370496 then .infinity neg
  else .nan neg (r - 2047 * 4503599627370496)
theorem read_word (neg : Bool) {r : Nat} (h : r < 9223372036854775808) : D.read (D.word neg r) = rungD neg r := by
  unfold Format.read Format.word rungD
  rw [least, binade, inf, sgn]
  have e1 : (if neg = true then 9223372036854775808 + r else r) % 9223372036854775808 = r := by cases neg <;> simp <;> omega
  have e2 : ((if neg = true then 9223372036854775808 + r else r) / 9223372036854775808 % 2 == 1) = neg := by
    cases neg
    · rw [if_neg (by decide), Nat.div_eq_of_lt h]; rfl
    · rw [if_pos rfl, Nat.add_div_left _ (by decide), Nat.div_eq_of_lt h]; rfl
  simp only [e1, e2]

/-- The place of the last digit kept, and what is kept. -/
def last (mag : Nat) (place : Int) : Int := max (place + mag.log2 - 52) (-1074)
def kept (neg : Bool) (mag : Nat) (place : Int) : Nat := Toward.even.cut neg (mag <<< (place - last mag place).toNat) (last mag place - place).toNat
theorem nearest_eq {neg : Bool} {mag : Nat} {place : Int} (h : mag ≠ 0) : D.nearest neg mag place = D.word neg (min ((last mag place + 1074).toNat * 4503599627370496 + kept neg mag place) (2047 * 4503599627370496)) := by
  unfold Format.nearest
  rw [if_neg h, least, binade, inf]
  rfl
/-- A number that is written is read as no NaN. -/
theorem read_nearest (neg : Bool) (mag : Nat) (place : Int) : ∃ r, r ≤ 2047 * 4503599627370496 ∧ D.read (D.nearest neg mag place) = rungD neg r := by
  by_cases h : mag = 0
  · refine ⟨0, by decide, ?_⟩
    unfold Format.nearest; rw [if_pos h]; exact read_word neg (by decide)
  · refine ⟨min ((last mag place + 1074).toNat * 4503599627370496 + kept neg mag place) (2047 * 4503599627370496), Nat.min_le_right _ _, ?_⟩
    rw [nearest_eq h]; exact read_word neg (by have := Nat.min_le_right ((last mag place + 1074).toNat * 4503599627370496 + kept neg mag place) (2047 * 4503599627370496); omega)

theorem cut_le (way : Toward) (neg : Bool) (n d : Nat) : way.cut neg n d ≤ n / 2 ^ min d (n.log2 + 2) + 1 := by
  unfold Toward.cut
  simp only [Nat.one_shiftLeft]
  have : ∀ b : Bool, b.toNat ≤ 1 := fun b => by cases b <;> decide
  exact Nat.add_le_add_left (this _) _
theorem cut_zero (neg : Bool) (n : Nat) : Toward.even.cut neg n 0 = n := by simp [Toward.cut, Nat.mod_one]
theorem last_ge (mag : Nat) (place : Int) : place + mag.log2 - 52 ≤ last mag place ∧ -1074 ≤ last mag place := by unfold last; omega
theorem kept_le (neg : Bool) (mag : Nat) (place : Int) : kept neg mag place ≤ 9007199254740992 := by
  obtain ⟨h1, h2⟩ := last_ge mag place
  have hm : mag < 2 ^ (mag.log2 + 1) := Nat.lt_log2_self
  have e53 : (2 : Nat) ^ 53 = 9007199254740992 := rfl
  unfold kept
  by_cases hc : last mag place ≤ place
  · have hd : (last mag place - place).toNat = 0 := by omega
    rw [hd, cut_zero, Nat.shiftLeft_eq]
    have hs : mag.log2 + 1 + (place - last mag place).toNat ≤ 53 := by unfold last at hc ⊢; omega
    have h3 : mag * 2 ^ (place - last mag place).toNat < 2 ^ (mag.log2 + 1) * 2 ^ (place - last mag place).toNat := Nat.mul_lt_mul_of_pos_right hm (Nat.two_pow_pos _)
    rw [← Nat.pow_add] at h3
    have h4 := Nat.pow_le_pow_right (show 0 < 2 by decide) hs
    omega
  · have ha : (place - last mag place).toNat = 0 := by omega
    rw [ha, Nat.shiftLeft_zero]
    refine Nat.le_trans (cut_le _ _ _ _) ?_
    by_cases hd : (last mag place - place).toNat ≤ mag.log2 + 2
    · rw [Nat.min_eq_left hd]
      have h5 : mag / 2 ^ (last mag place - place).toNat < 2 ^ 53 := by
        rw [Nat.div_lt_iff_lt_mul (Nat.two_pow_pos _), ← Nat.pow_add]
        exact Nat.lt_of_lt_of_le hm (Nat.pow_le_pow_right (by decide) (by omega))
      omega
    · rw [Nat.min_eq_right (by omega)]
      have h5 : mag / 2 ^ (mag.log2 + 2) = 0 := Nat.div_eq_of_lt (Nat.lt_of_lt_of_le hm (Nat.pow_le_pow_right (by decide) (by omega)))
      omega
/-- Where its first digit is not lost, what is kept has 53 digits. -/
theorem kept_ge (neg : Bool) {mag : Nat} {place : Int} (h : mag ≠ 0) (hl : -1074 < last mag place) : 4503599627370496 ≤ kept neg mag place := by
  have hm : 2 ^ mag.log2 ≤ mag := Nat.log2_self_le h
  have e52 : (2 : Nat) ^ 52 = 4503599627370496 := rfl
  have hl' : last mag place = place + mag.log2 - 52 := by unfold last at hl ⊢; omega
  unfold kept
  by_cases hc : last mag place ≤ place
  · have hd : (last mag place - place).toNat = 0 := by omega
    rw [hd, cut_zero, Nat.shiftLeft_eq]
    have hs : mag.log2 + (place - last mag place).toNat = 52 := by omega
    have h3 : 2 ^ mag.log2 * 2 ^ (place - last mag place).toNat ≤ mag * 2 ^ (place - last mag place).toNat := Nat.mul_le_mul_right _ hm
    rw [← Nat.pow_add, hs] at h3
    omega
  · have ha : (place - last mag place).toNat = 0 := by omega
    rw [ha, Nat.shiftLeft_zero]
    have hd : (last mag place - place).toNat = mag.log2 - 52 := by omega
    unfold Toward.cut
    simp only [Nat.one_shiftLeft]
    rw [hd, Nat.min_eq_left (by omega)]
    have h5 : 2 ^ 52 ≤ mag / 2 ^ (mag.log2 - 52) := by
      rw [Nat.le_div_iff_mul_le (Nat.two_pow_pos _), ← Nat.pow_add, show 52 + (mag.log2 - 52) = mag.log2 from by omega]; exact hm
    omega
/-- A number not too great is written as what is kept of it, at its place. -/
theorem read_small (neg : Bool) {mag : Nat} {place : Int} (h : mag ≠ 0) (hs : place + mag.log2 ≤ 900) : ∃ m p, D.read (D.nearest neg mag place) = .number neg m p ∧ last mag place ≤ p ∧ p ≤ last mag place + 1 ∧ m * 2 ^ (p - last mag place).toNat = kept neg mag place ∧ m ≤ 9007199254740992 := by
  obtain ⟨h1, h2⟩ := last_ge mag place
  have hk := kept_le neg mag place
  have hl : last mag place ≤ 900 := by unfold last; omega
  generalize hL : last mag place = L at *
  generalize hK : kept neg mag place = K at *
  obtain ⟨q, hq⟩ := Int.eq_ofNat_of_zero_le (show 0 ≤ L + 1074 by omega)
  have hR : (L + 1074).toNat * 4503599627370496 + K < 2047 * 4503599627370496 := by omega
  rw [nearest_eq h, hL, hK, Nat.min_eq_left (by omega), read_word neg (by omega)]
  unfold rungD
  by_cases hk52 : K < 4503599627370496
  · have hL0 : L = -1074 := by
      rcases Int.lt_or_le (-1074) L with h3 | h3
      · have := kept_ge neg h (place := place) (by omega); omega
      · omega
    rw [if_pos (by omega)]
    exact ⟨_, _, rfl, by omega, by omega, by rw [show (-1074 - L).toNat = 0 from by omega]; omega, by omega⟩
  · rw [if_neg (by omega), if_pos hR]
    by_cases hk53 : K < 9007199254740992
    · have e1 : ((L + 1074).toNat * 4503599627370496 + K) / 4503599627370496 = (L + 1074).toNat + 1 := by omega
      have e2 : ((L + 1074).toNat * 4503599627370496 + K) % 4503599627370496 = K - 4503599627370496 := by omega
      rw [e1, e2]
      exact ⟨_, _, rfl, by omega, by omega, by rw [show (-1074 + (((L + 1074).toNat + 1 - 1 : Nat) : Int) - L).toNat = 0 from by omega]; omega, by omega⟩
    · have e0 : K = 9007199254740992 := by omega
      have e1 : ((L + 1074).toNat * 4503599627370496 + K) / 4503599627370496 = (L + 1074).toNat + 2 := by omega
      have e2 : ((L + 1074).toNat * 4503599627370496 + K) % 4503599627370496 = 0 := by omega
      rw [e1, e2]
      exact ⟨_, _, rfl, by omega, by omega, by rw [show (-1074 + (((L + 1074).toNat + 2 - 1 : Nat) : Int) - L).toNat = 1 from by omega]; omega, by omega⟩

/-- A whole number that is not too great is written exactly. -/
theorem int_read {n : Nat} (h : n < 4503599627370496) : ∃ m p, D.read (D.nearest false n 0) = .number false m p ∧ p ≤ 0 ∧ -1074 ≤ p ∧ m = n * 2 ^ (-p).toNat ∧ (n ≠ 0 → -52 ≤ p) ∧ m ≤ 9007199254740992 := by
  by_cases h0 : n = 0
  · subst h0
    refine ⟨0, -1074, ?_, by decide, by decide, by rw [Nat.zero_mul], fun h => absurd rfl h, by decide⟩
    unfold Format.nearest; rw [if_pos rfl]; exact read_word false (by decide)
  · have hlog : n.log2 < 52 := (Nat.log2_lt h0).2 (by have : (2 : Nat) ^ 52 = 4503599627370496 := rfl; omega)
    have hL : last n 0 = n.log2 - 52 := by unfold last; omega
    obtain ⟨m, p, hr, hp1, hp2, hm, hm2⟩ := read_small false (place := 0) h0 (by omega)
    have hk : kept false n 0 = n * 2 ^ (52 - n.log2) := by
      unfold kept
      rw [hL, show ((n.log2 : Int) - 52 - 0).toNat = 0 from by omega, cut_zero, Nat.shiftLeft_eq, show (0 - ((n.log2 : Int) - 52)).toNat = 52 - n.log2 from by omega]
    rw [hk, hL] at hm
    rw [hL] at hp1 hp2
    refine ⟨m, p, hr, by omega, by omega, ?_, fun _ => by omega, hm2⟩
    rcases (show p = n.log2 - 52 ∨ p = n.log2 - 52 + 1 by omega) with e | e
    · rw [e, show ((n.log2 : Int) - 52 - (n.log2 - 52)).toNat = 0 from by omega] at hm
      rw [e, show (-((n.log2 : Int) - 52)).toNat = 52 - n.log2 from by omega]; omega
    · rw [e, show ((n.log2 : Int) - 52 + 1 - (n.log2 - 52)).toNat = 1 from by omega] at hm
      rw [e, show (-((n.log2 : Int) - 52 + 1)).toNat = 51 - n.log2 from by omega]
      have e2 : 2 ^ (52 - n.log2) = 2 ^ (51 - n.log2) * 2 := by rw [← Nat.pow_succ]; congr 1; omega
      rw [e2, ← Nat.mul_assoc] at hm
      omega
/-- The quotient of two whole numbers is a number. -/
theorem div_int {x y : Nat} {m1 m2 : Nat} {p1 p2 : Int} (hx : D.read x = .number false m1 p1) (hy : D.read y = .number false m2 p2) (h2 : m2 ≠ 0) (hp1 : p1 ≤ 0) (hp2 : -52 ≤ p2) (hm1 : m1 ≤ 9007199254740992) (hm2 : m2 ≤ 9007199254740992) :
    ∃ r m p, D.div x y = some r ∧ D.read r = .number false m p := by
  unfold Format.div
  rw [hx, hy]
  unfold Datum.quotient
  simp only
  rw [if_neg h2]
  simp only [Option.map_some, Option.some.injEq, Format.write, Bool.false_xor]
  generalize hmore : D.fractionBits + 2 + m2.log2 - m1.log2 = more
  generalize hQ : 2 * (m1 <<< more / m2) + (m1 <<< more % m2 != 0).toNat = Q
  by_cases h0 : Q = 0
  · refine ⟨_, 0, -1074, rfl, ?_⟩
    subst h0
    unfold Format.nearest; rw [if_pos rfl]; exact read_word false (by decide)
  · have e53 : (2 : Nat) ^ 54 = 18014398509481984 := rfl
    have hl2 : m2.log2 < 54 := (Nat.log2_lt h2).2 (by omega)
    have hmr : more ≤ 108 := by rw [← hmore]; have : D.fractionBits = 52 := rfl; omega
    have hQ2 : Q < 2 ^ 165 := by
      have h5 : m1 <<< more ≤ 9007199254740992 * 2 ^ 108 := by
        rw [Nat.shiftLeft_eq]; exact Nat.mul_le_mul hm1 (Nat.pow_le_pow_right (by decide) hmr)
      have h6 : m1 <<< more / m2 ≤ m1 <<< more := Nat.div_le_self _ _
      have h7 : ∀ b : Bool, b.toNat ≤ 1 := fun b => by cases b <;> decide
      have h8 := h7 (m1 <<< more % m2 != 0)
      have h9 : (2 : Nat) * (9007199254740992 * 2 ^ 108) + 1 < 2 ^ 165 := by decide
      omega
    have hlq : Q.log2 < 165 := (Nat.log2_lt h0).2 hQ2
    obtain ⟨m, p, hr, _⟩ := read_small false (place := p1 - p2 - more - 1) h0 (by omega)
    exact ⟨_, m, p, rfl, hr⟩
/-- What is left, when no NaN is taken from a number, is no NaN. -/
theorem sub_num {x y : Nat} {s : Bool} {m : Nat} {p : Int} (hx : D.read x = .number s m p) (hy : (D.read y).isNaN = false) : ∃ r, D.sub x y = some r ∧ (D.read r).isNaN = false := by
  have nn : ∀ (b : Bool) (r : Nat), r ≤ 2047 * 4503599627370496 → (rungD b r).isNaN = false := fun b r hr => by
    unfold rungD
    split
    · rfl
    · split
      · rfl
      · split
        · rfl
        · omega
  unfold Format.sub
  rw [hx]
  cases hd : D.read y with
  | nan t f => rw [hd] at hy; cases hy
  | infinity t =>
    refine ⟨_, rfl, ?_⟩
    show (D.read (D.word (!t) D.infRung)).isNaN = false
    rw [inf, read_word _ (by decide)]; exact nn _ _ (Nat.le_refl _)
  | number t n j =>
    refine ⟨_, rfl, ?_⟩
    simp only [Format.write]
    obtain ⟨r, hr, e⟩ := read_nearest (if (signed s m (p - min p j).toNat + signed (!t) n (j - min p j).toNat) = 0 then s && !t else decide (signed s m (p - min p j).toNat + signed (!t) n (j - min p j).toNat < 0)) (signed s m (p - min p j).toNat + signed (!t) n (j - min p j).toNat).natAbs (min p j)
    rw [e]; exact nn _ _ hr

theorem read_zero : D.read 0 = .number false 0 (-1074) := by decide
theorem read_one : D.read 4607182418800017408 = .number false 4503599627370496 (-52) := by decide
/-- A part above nought and below one. -/
theorem part_read {y : Nat} (h0 : D.order y 0 = some .gt) (h1 : D.order y 4607182418800017408 = some .lt) : ∃ m p, D.read y = .number false m p ∧ m ≠ 0 ∧ p + m.log2 < 0 := by
  unfold Format.order at h0 h1
  rw [read_zero] at h0
  rw [read_one] at h1
  cases hd : D.read y with
  | nan t f => rw [hd] at h0; cases h0
  | infinity t =>
    rw [hd] at h0 h1
    cases t
    · cases h1
    · cases h0
  | number t m p =>
    rw [hd] at h0 h1
    simp only [Datum.order, Option.some.injEq] at h0 h1
    rw [Int.compare_eq_gt] at h0
    rw [Int.compare_eq_lt] at h1
    have ht : t = false := by
      cases t
      · rfl
      · have h9 : ∀ a b : Nat, ¬ ((b : Int) < -(a : Int)) := fun a b => by omega
        simp only [signed, if_true, Bool.false_eq_true, if_false] at h0
        exact absurd h0 (h9 _ _)
    subst ht
    simp only [signed, Bool.false_eq_true, if_false, Nat.shiftLeft_eq] at h0 h1
    have hm : m ≠ 0 := by rintro rfl; simp at h0
    refine ⟨m, p, rfl, hm, ?_⟩
    have hmm : 2 ^ m.log2 ≤ m := Nat.log2_self_le hm
    generalize hb : min p (-52) = b at h1
    have h3 : m * 2 ^ (p - b).toNat < 4503599627370496 * 2 ^ (-52 - b).toNat := by omega
    have h4 : 2 ^ m.log2 * 2 ^ (p - b).toNat ≤ m * 2 ^ (p - b).toNat := Nat.mul_le_mul_right _ hmm
    have e52 : (4503599627370496 : Nat) = 2 ^ 52 := rfl
    rw [e52, ← Nat.pow_add] at h3
    rw [← Nat.pow_add] at h4
    have h5 : 2 ^ (m.log2 + (p - b).toNat) < 2 ^ (52 + (-52 - b).toNat) := Nat.lt_of_le_of_lt h4 h3
    have h6 := (Nat.pow_lt_pow_iff_right (show 1 < 2 by decide)).1 h5
    omega
theorem log2_mul {a b : Nat} (ha : a ≠ 0) (hb : b ≠ 0) : (a * b).log2 ≤ a.log2 + b.log2 + 1 := by
  have h1 : a < 2 ^ (a.log2 + 1) := Nat.lt_log2_self
  have h2 : b < 2 ^ (b.log2 + 1) := Nat.lt_log2_self
  have h3 : a * b < 2 ^ (a.log2 + 1) * 2 ^ (b.log2 + 1) := Nat.mul_lt_mul'' h1 h2
  rw [← Nat.pow_add] at h3
  have := (Nat.log2_lt (Nat.mul_ne_zero ha hb)).2 h3
  omega
/-- A part of a whole number: what is left of it when it is cut. -/
theorem mul_part {n x y : Nat} {m1 m2 : Nat} {p1 p2 : Int} (hx : D.read x = .number false m1 p1) (hp1 : p1 ≤ 0) (hm1 : m1 = n * 2 ^ (-p1).toNat) (hn : n ≠ 0) (hn2 : n < 4503599627370496) (hy : D.read y = .number false m2 p2) (hm2 : m2 ≠ 0) (hp2 : p2 + m2.log2 < 0) :
    ∃ r k : Nat, D.mul x y = some r ∧ (D.read r).toInt .zero = some (k : Int) ∧ k ≤ 9007199254740992 ∧ (D.read r).isNaN = false ∧ (D.order r x = some .lt ∧ k ≤ n ∨ D.order r x = some .gt ∧ n ≤ k ∨ D.order r x = some .eq ∧ n ≤ k) := by
  have hpos : 0 < 2 ^ (-p1).toNat := Nat.two_pow_pos _
  have hm1' : m1 ≠ 0 := by rw [hm1]; exact Nat.mul_ne_zero hn (Nat.ne_of_gt hpos)
  have hl1 : p1 + m1.log2 ≤ 51 := by
    have h1 : m1 < 2 ^ (52 + (-p1).toNat) := by
      rw [hm1, Nat.pow_add]; exact Nat.mul_lt_mul_of_pos_right (by have : (2 : Nat) ^ 52 = 4503599627370496 := rfl; omega) hpos
    have := (Nat.log2_lt hm1').2 h1
    omega
  have hl := log2_mul hm1' hm2
  obtain ⟨m, p, hr, hpa, hpb, hk, hm⟩ := read_small false (mag := m1 * m2) (place := p1 + p2) (Nat.mul_ne_zero hm1' hm2) (by omega)
  have hlast : last (m1 * m2) (p1 + p2) ≤ -1 := by unfold last; omega
  have hp0 : p ≤ 0 := by omega
  have hcut : Toward.zero.cut false (m <<< p.toNat) (-p).toNat = m / 2 ^ (-p).toNat := by
    rw [show p.toNat = 0 from by omega, Nat.shiftLeft_zero]
    unfold Toward.cut
    simp only [Nat.one_shiftLeft, Bool.toNat_false, Nat.add_zero]
    by_cases hc : (-p).toNat ≤ m.log2 + 2
    · rw [Nat.min_eq_left hc]
    · rw [Nat.min_eq_right (by omega)]
      have hml : m < 2 ^ (m.log2 + 1) := Nat.lt_log2_self
      rw [Nat.div_eq_of_lt (Nat.lt_of_lt_of_le hml (Nat.pow_le_pow_right (by decide) (by omega))), Nat.div_eq_of_lt (Nat.lt_of_lt_of_le hml (Nat.pow_le_pow_right (by decide) (by omega)))]
  refine ⟨D.nearest false (m1 * m2) (p1 + p2), m / 2 ^ (-p).toNat, ?_, ?_, Nat.le_trans (Nat.div_le_self _ _) hm, by rw [hr]; rfl, ?_⟩
  · unfold Format.mul; rw [hx, hy]; rfl
  · rw [hr]; unfold Datum.toInt Datum.integral
    simp only [hcut, signed, Bool.false_eq_true, if_false, Nat.shiftLeft_zero]
  · unfold Format.order
    rw [hr, hx]
    simp only [Datum.order, signed, Bool.false_eq_true, if_false, Nat.shiftLeft_eq, Option.some.injEq]
    generalize hb : min p p1 = b
    have e1 : m1 * 2 ^ (p1 - b).toNat = n * 2 ^ (-p).toNat * 2 ^ (p - b).toNat := by
      rw [hm1, Nat.mul_assoc, Nat.mul_assoc, ← Nat.pow_add, ← Nat.pow_add]; congr 2; omega
    have hq : 0 < 2 ^ (p - b).toNat := Nat.two_pow_pos _
    have hq2 : 0 < 2 ^ (-p).toNat := Nat.two_pow_pos _
    rw [Int.compare_eq_lt, Int.compare_eq_gt, Int.compare_eq_eq, e1]
    rcases Nat.lt_trichotomy m (n * 2 ^ (-p).toNat) with h | h | h
    · left
      refine ⟨?_, Nat.le_of_lt ((Nat.div_lt_iff_lt_mul hq2).2 h)⟩
      exact Int.ofNat_lt.2 (Nat.mul_lt_mul_of_pos_right h hq)
    · right; right
      exact ⟨by rw [h], (Nat.le_div_iff_mul_le hq2).2 (Nat.le_of_eq h.symm)⟩
    · right; left
      refine ⟨?_, (Nat.le_div_iff_mul_le hq2).2 (Nat.le_of_lt h)⟩
      exact Int.ofNat_lt.2 (Nat.mul_lt_mul_of_pos_right h hq)
end Go.Fl
