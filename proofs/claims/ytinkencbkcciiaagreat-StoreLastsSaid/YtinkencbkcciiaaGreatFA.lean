/- What floats of 64 bits give: plain facts on the words of IEEE 754.
Conditions: none; no program in sight. -/
import Derived.Laws.FloatArith
import Derived.Test.YtinkencbkcciiaaGreatKB
set_option linter.unusedSimpArgs false
set_option linter.unusedVariables false
set_option linter.unusedSectionVars false
namespace Go.Fl
open Ieee
abbrev D : Format := double
theorem least : D.leastPlace = -1074 := rfl
theorem inf : D.infRung = 2047 * 4503599627370496 := rfl
def last (mag : Nat) (place : Int) : Int := max (place + mag.log2 - 52) (-1074)
def kept (neg : Bool) (mag : Nat) (place : Int) : Nat := Toward.even.cut neg (mag <<< (place - last mag place).toNat) (last mag place - place).toNat
theorem cut_le (way : Toward) (neg : Bool) (n d : Nat) : way.cut neg n d ≤ n / 2 ^ min d (n.log2 + 2) + 1 := by
  unfold Toward.cut
  simp only [Nat.one_shiftLeft]
  have : ∀ b : Bool,b.toNat ≤ 1 := fun b => by cases b <;> decide
  exact Nat.add_le_add_left (this _) _
theorem cut_zero (neg : Bool) (n : Nat) : Toward.even.cut neg n 0 = n := by simp [Toward.cut,Nat.mod_one]
theorem last_ge (mag : Nat) (place : Int) : place + mag.log2 - 52 ≤ last mag place ∧ -1074 ≤ last mag place := by unfold last; omega
theorem kept_le (neg : Bool) (mag : Nat) (place : Int) : kept neg mag place ≤ 9007199254740992 := by
  obtain ⟨h1,h2⟩ := last_ge mag place
  have hm : mag < 2 ^ (mag.log2 + 1) := Nat.lt_log2_self
  have e53 : (2 : Nat) ^ 53 = 9007199254740992 := rfl
  unfold kept
  by_cases hc : last mag place ≤ place
  · have hd : (last mag place - place).toNat = 0 := by omega
    rw [hd,cut_zero,Nat.shiftLeft_eq]
    have hs : mag.log2 + 1 + (place - last mag place).toNat ≤ 53 := by unfold last at hc ⊢; omega
    have h3 : mag * 2 ^ (place - last mag place).toNat < 2 ^ (mag.log2 + 1) * 2 ^ (place - last mag place).toNat := Nat.mul_lt_mul_of_pos_right hm (Nat.two_pow_pos _)
    rw [← Nat.pow_add] at h3
    have h4 := Nat.pow_le_pow_right (show 0 < 2 by decide) hs
    omega
  · have ha : (place - last mag place).toNat = 0 := by omega
    rw [ha,Nat.shiftLeft_zero]
    refine Nat.le_trans (cut_le _ _ _ _) ?_
    by_cases hd : (last mag place - place).toNat ≤ mag.log2 + 2
    · rw [Nat.min_eq_left hd]
      have h5 : mag / 2 ^ (last mag place - place).toNat < 2 ^ 53 := by
        rw [Nat.div_lt_iff_lt_mul (Nat.two_pow_pos _),← Nat.pow_add]
        exact Nat.lt_of_lt_of_le hm (Nat.pow_le_pow_right (by decide) (by omega))
      omega
    · rw [Nat.min_eq_right (by omega)]
      have h5 : mag / 2 ^ (mag.log2 + 2) = 0 := Nat.div_eq_of_lt (Nat.lt_of_lt_of_le hm (Nat.pow_le_pow_right (by decide) (by omega)))
      omega
end Go.Fl
namespace Go.K
section
variable {C : Cx} {V : Vw} {H : Hp} {L : Sl} {ty : TypeId}
end
end Go.K
namespace Go.Fl
open Ieee
end Go.Fl
namespace Go.Fl
open Ieee
abbrev one : Nat := 4607182418800017408
def fl (n : Int) : Nat := floatOfInt .f64 n
def bnd (n : Int) : Int := min (max n 0) 1073741824
def above0 (y : Nat) : Bool := D.order y 0 == some .gt
def above1 (y : Nat) : Bool := D.order y one == some .gt || D.order y one == some .eq
def partK (n : Int) (y : Nat) : Int := match floatBits .mul .f64 (fl n) y with
  | some r => (floatToIntVal .f64 r .i64).getD 0
  | none => 0
def part (n : Int) (y : Nat) : Int := if min n 1099511627776 < 1 ∨ above0 y = false then 0 else if above1 y = true then min n 1099511627776 else min (partK (min n 1099511627776) y) (min n 1099511627776)
def off (a b : Int) (y : Nat) : Nat := ((floatBits .quo .f64 (fl (bnd b)) (fl (bnd a + bnd b))).bind fun q => floatBits .sub .f64 q y).getD 0
end Go.Fl
namespace Go.Fl
open Ieee
section
variable {n N : Int} {y : Nat}
end
end Go.Fl
namespace Go.Fl
end Go.Fl
namespace Go.Fl
open Ieee
end Go.Fl
