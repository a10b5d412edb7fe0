/- More plain facts on floats, and what the packages ratio and pool reckon.
Conditions: none; no program in sight. -/
import Derived.Test.YtjfacdepgkdoeaaF2
set_option linter.unusedSimpArgs false
namespace Go.Fl
open Ieee
theorem abs_bits {b : Nat} (h : b < 18446744073709551616) : IntKind.u64.wrap ((BitVec.ofInt IntKind.u64.bits (b : Int) &&& ~~~BitVec.ofInt IntKind.u64.bits 9223372036854775808).toNat : Int) = ((b % 9223372036854775808 : Nat) : Int) := by
  have hb : IntKind.u64.bits = 64 := rfl
  rw [hb, BitVec.toNat_and, BitVec.toNat_not, BitVec.toNat_ofInt, BitVec.toNat_ofInt]
  have e1 : ((b : Int) % ((2 ^ 64 : Nat) : Int)).toNat = b := by
    have : ((2 ^ 64 : Nat) : Int) = 18446744073709551616 := rfl
    rw [this]; omega
  have e2 : ((9223372036854775808 : Int) % ((2 ^ 64 : Nat) : Int)).toNat = 9223372036854775808 := rfl
  rw [e1, e2, show (2 : Nat) ^ 64 - 1 - 9223372036854775808 = 2 ^ 63 - 1 from rfl, Nat.and_two_pow_sub_one_eq_mod]
  have e3 : (2 : Nat) ^ 63 = 9223372036854775808 := rfl
  rw [e3]
  have hw : ∀ z : Int, 0 ≤ z ∧ z ≤ 18446744073709551615 → IntKind.u64.wrap z = z := fun z hz => by
    have e4 : (2 ^ IntKind.u64.bits : Int) = 18446744073709551616 := rfl
    simp only [IntKind.wrap, e4, show IntKind.u64.signed = false from rfl, Bool.false_and, Bool.false_eq_true, if_false]
    omega
  exact hw _ (by omega)
theorem read_abs (b : Nat) : (D.read (b % 9223372036854775808)).isNaN = (D.read b).isNaN := by
  unfold Format.read
  rw [least, binade, inf, sgn, Nat.mod_mod]
  simp only
  split
  · rfl
  · split
    · rfl
    · split <;> rfl
theorem order_none {x y : Nat} (hx : (D.read x).isNaN = false) (hy : (D.read y).isNaN = false) : D.order x y ≠ none := by
  unfold Format.order
  cases hd : D.read x <;> cases he : D.read y <;> simp_all [Datum.order, Datum.isNaN]
theorem order_nan {x : Nat} (hx : (D.read x).isNaN = true) (y : Nat) : D.order x y = none := by
  unfold Format.order
  cases hd : D.read x <;> simp_all [Datum.order, Datum.isNaN]
theorem order_self (x : Nat) : (D.order x x != some .eq) = (D.read x).isNaN := by
  unfold Format.order
  cases hd : D.read x with
  | nan s f => rfl
  | infinity s => cases s <;> rfl
  | number s m p =>
    simp only [Datum.order, Datum.isNaN]
    rw [Int.compare_eq_eq.2 rfl]; rfl
theorem order_total {x y : Nat} (hx : (D.read x).isNaN = false) (hy : (D.read y).isNaN = false) : D.order x y = some .lt ∨ D.order x y = some .eq ∨ D.order x y = some .gt := by
  have := order_none hx hy
  cases h : D.order x y with
  | none => exact absurd h this
  | some c => cases c <;> simp
end Go.Fl
