/- The reference's unevenness compares as the program's own: plain facts.
Conditions: none; no program in sight. -/
import Derived.Test.YtjfacdepgkdoeaaP3
set_option linter.unusedSimpArgs false
namespace Go.Fl
open Ieee
theorem signed_up (s : Bool) (m a d : Nat) : signed s m (a + d) = signed s m a * 2 ^ d := by
  unfold signed
  rw [Nat.shiftLeft_eq, Nat.shiftLeft_eq, Nat.pow_add, ← Nat.mul_assoc]
  have e : ((m * 2 ^ a * 2 ^ d : Nat) : Int) = ((m * 2 ^ a : Nat) : Int) * 2 ^ d := by rw [Int.natCast_mul, Int.natCast_pow]; rfl
  cases s
  · simp only [Bool.false_eq_true, if_false]; exact e
  · simp only [if_true]; rw [e, Int.neg_mul]
theorem compare_scale (a b : Int) (d : Nat) : compare (a * 2 ^ d) (b * 2 ^ d) = compare a b := by
  have hp : (0 : Int) < 2 ^ d := Int.pow_pos (by decide)
  rcases Int.lt_trichotomy a b with h | h | h
  · rw [Int.compare_eq_lt.2 h, Int.compare_eq_lt.2 (Int.mul_lt_mul_of_pos_right h hp)]
  · rw [h, Int.compare_eq_eq.2 rfl, Int.compare_eq_eq.2 rfl]
  · rw [Int.compare_eq_gt.2 h, Int.compare_eq_gt.2 (Int.mul_lt_mul_of_pos_right h hp)]
/-- Two numbers compare as they do over any common place. -/
theorem order_at (s t : Bool) (m n : Nat) (i j K : Int) (h : K ≤ min i j) : Datum.order (.number s m i) (.number t n j) = some (compare (signed s m (i - K).toNat) (signed t n (j - K).toNat)) := by
  simp only [Datum.order, Option.some.injEq]
  rw [show (i - K).toNat = (i - min i j).toNat + (min i j - K).toNat from by omega, show (j - K).toNat = (j - min i j).toNat + (min i j - K).toNat from by omega, signed_up, signed_up, compare_scale]
theorem signed_nonneg (m a : Nat) : 0 ≤ signed false m a := by unfold signed; simp only [Bool.false_eq_true, if_false]; exact Int.natCast_nonneg _
theorem signed_zero (s : Bool) (a : Nat) : signed s 0 a = 0 := by unfold signed; cases s <;> simp
theorem signed_neg (m a : Nat) : signed true m a = -signed false m a := by unfold signed; simp
theorem signed_pos {m : Nat} (h : m ≠ 0) (a : Nat) : 0 < signed false m a := by
  unfold signed; simp only [Bool.false_eq_true, if_false]; rw [Nat.shiftLeft_eq]
  have := Nat.mul_pos (Nat.pos_of_ne_zero h) (Nat.two_pow_pos a)
  omega
/-- What equals one compares as one does. -/
theorem order_eq_one {z : Nat} (h : D.order z one = some .eq) (s : Nat) : D.order z s = D.order one s := by
  unfold Format.order at h ⊢
  rw [read_one] at h ⊢
  cases hz : D.read z with
  | nan t f => rw [hz] at h; cases h
  | infinity t => rw [hz] at h; cases t <;> cases h
  | number t m p =>
    rw [hz] at h
    cases hs : D.read s with
    | nan u f => rfl
    | infinity u => rfl
    | number u n j =>
      have hK : min (min p j) (-52) ≤ min p (-52) := by omega
      rw [order_at _ _ _ _ _ _ _ hK] at h
      rw [order_at t u m n p j (min (min p j) (-52)) (by omega), order_at false u 4503599627370496 n (-52) j (min (min p j) (-52)) (by omega)]
      simp only [Option.some.injEq] at h
      rw [Int.compare_eq_eq.1 h]
theorem sign_of (x : Nat) : (D.read x).neg = (x / 9223372036854775808 % 2 == 1) := by
  unfold Format.read
  rw [sgn]
  simp only
  split
  · rfl
  · split
    · rfl
    · split <;> rfl
theorem read_abs_of (x : Nat) : D.read (x % 9223372036854775808) = (match D.read x with | .number _ m p => .number false m p | .infinity _ => .infinity false | .nan _ f => .nan false f) := by
  unfold Format.read
  rw [sgn, Nat.mod_mod, Nat.div_eq_of_lt (Nat.mod_lt _ (by decide))]
  simp only
  split
  · rfl
  · split
    · rfl
    · split <;> rfl
/-- Below nought: the sign is turned by cutting it off. -/
theorem neg_lt {x : Nat} (hx : x < 18446744073709551616) (h : D.order x 0 = some .lt) : Op.negFloat .f64 x = x % 9223372036854775808 := by
  have hs : (D.read x).neg = true := by
    unfold Format.order at h; rw [read_zero] at h
    cases hd : D.read x with
    | nan t f => rw [hd] at h; cases h
    | infinity t => rw [hd] at h; cases t; cases h; rfl
    | number t m p =>
      rw [hd] at h
      cases t
      · simp only [Datum.order, Option.some.injEq] at h
        rw [Int.compare_eq_lt, signed_zero] at h
        have := signed_nonneg m (p - min p (-1074)).toNat
        omega
      · rfl
  rw [sign_of] at hs
  have h63 : x / 9223372036854775808 % 2 = 1 := by simpa using hs
  unfold Op.negFloat
  show x ^^^ 2 ^ 63 = x % 9223372036854775808
  have e63 : (9223372036854775808 : Nat) = 2 ^ 63 := rfl
  have e64 : (18446744073709551616 : Nat) = 2 ^ 64 := rfl
  rw [e63] at h63 ⊢
  rw [e64] at hx
  apply Nat.eq_of_testBit_eq
  intro i
  rw [Nat.testBit_xor, Nat.testBit_mod_two_pow, Nat.testBit_two_pow]
  by_cases h1 : i < 63
  · simp [h1, show ¬ 63 = i from by omega]
  · by_cases h2 : i = 63
    · subst h2
      have : x.testBit 63 = true := by rw [Nat.testBit_eq_decide_div_mod_eq]; simpa using h63
      simp [this]
    · have : x.testBit i = false := Nat.testBit_lt_two_pow (Nat.lt_of_lt_of_le hx (Nat.pow_le_pow_right (by decide) (by omega)))
      simp [this, h1, show ¬ 63 = i from fun e => h2 e.symm]
/-- Not below nought: the sign plays no part. -/
theorem abs_ge {x : Nat} (hn : (D.read x).isNaN = false) (h : D.order x 0 ≠ some .lt) (s : Nat) : D.order (x % 9223372036854775808) s = D.order x s := by
  unfold Format.order at h ⊢
  rw [read_abs_of]
  rw [read_zero] at h
  cases hd : D.read x with
  | nan t f => rw [hd] at hn; cases hn
  | infinity t => rw [hd] at h; cases t; rfl; exact absurd rfl h
  | number t m p =>
    cases t
    · rfl
    · rw [hd] at h
      have hm : m = 0 := by
        refine Decidable.byContradiction fun hm => h ?_
        simp only [Datum.order, Option.some.injEq]
        rw [Int.compare_eq_lt, signed_zero, signed_neg]
        have := signed_pos hm (p - min p (-1074)).toNat
        omega
      subst hm
      cases D.read s with
      | nan u f => rfl
      | infinity u => rfl
      | number u n j => simp only [Datum.order, signed_zero]
def runeven (a b : Int) (y : Nat) : Nat :=
  if bnd a + bnd b = 0 then 0 else if (D.read y).isNaN = true then one else
    if D.order (if D.order (off a b y) 0 == some .lt then Op.negFloat .f64 (off a b y) else off a b y) one == some .gt then one else (if D.order (off a b y) 0 == some .lt then Op.negFloat .f64 (off a b y) else off a b y)
theorem runeven_gt (a b : Int) (y s : Nat) : (D.order (runeven a b y) s == some .gt) = (D.order (uneven a b y) s == some .gt) := by
  unfold runeven uneven
  by_cases h0 : bnd a + bnd b = 0
  · rw [if_pos h0, if_pos h0]
  · rw [if_neg h0, if_neg h0]
    by_cases hy : (D.read y).isNaN = true
    · rw [if_pos hy, if_pos hy]
    · rw [if_neg hy, if_neg hy]
      obtain ⟨q, _, _, hn, hlt⟩ := off_facts (a := a) (b := b) (y := y) h0 (by simpa using hy)
      generalize off a b y = x at *
      have hz : ∀ s, D.order (if D.order x 0 == some .lt then Op.negFloat .f64 x else x) s = D.order (x % 9223372036854775808) s := fun s => by
        by_cases hl : D.order x 0 = some .lt
        · rw [if_pos (by rw [hl]; rfl), neg_lt hlt hl]
        · rw [if_neg (by simpa using hl), abs_ge hn hl]
      generalize (if D.order x 0 == some .lt then Op.negFloat .f64 x else x) = x1 at *
      have hzn : (D.read (x % 9223372036854775808)).isNaN = false := by rw [read_abs]; exact hn
      have hneg : (FloatKind.f64.decode (x % 9223372036854775808)).neg = false := by
        show (D.read (x % 9223372036854775808)).neg = false
        rw [sign_of, Nat.div_eq_of_lt (Nat.mod_lt _ (by decide))]; rfl
      rw [hz one]
      unfold Go.K.fmin
      rcases order_total hzn one_num with h | h | h
      · rw [h]
        have e : FloatKind.f64.format.order (x % 9223372036854775808) 4607182418800017408 = some .lt := h
        rw [e, if_neg (by decide), hz s]
      · rw [h]
        have e : FloatKind.f64.format.order (x % 9223372036854775808) 4607182418800017408 = some .eq := h
        rw [e, hneg, if_neg (by decide), hz s, order_eq_one h s]; rfl
      · rw [h]
        have e : FloatKind.f64.format.order (x % 9223372036854775808) 4607182418800017408 = some .gt := h
        rw [e, if_pos (by decide)]
theorem bnd_bnd (n : Int) : bnd (bnd n) = bnd n := by unfold bnd; omega
theorem uneven_bnd (a b : Int) (y : Nat) : uneven (bnd a) (bnd b) y = uneven a b y := by unfold uneven off; rw [bnd_bnd, bnd_bnd]
theorem rgives_gt (a b : Int) (y s : Nat) : (D.order (runeven a b y) s == some .gt) = (D.order (uneven (bnd a) (bnd b) y) s == some .gt) := by rw [uneven_bnd]; exact runeven_gt a b y s
theorem rmin_eq (a b : Int) (y : Nat) : max (bnd b - part (bnd a + bnd b) y) 0 = min (max (bnd b - part (bnd a + bnd b) y) 0) (bnd b) := by
  have ha := bnd_range a
  have hb := bnd_range b
  have hp := part_range (n := bnd a + bnd b) (by omega) y
  omega
end Go.Fl
