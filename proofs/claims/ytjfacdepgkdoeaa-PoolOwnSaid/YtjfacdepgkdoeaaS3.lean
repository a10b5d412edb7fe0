/- Numbers of 64 bits without a sign, as the sort uses them.
Conditions: as each theorem names them; no program in sight. -/
import Derived.Test.YtjfacdepgkdoeaaS2
set_option linter.unusedSectionVars false
set_option linter.unusedVariables false
set_option linter.unusedSimpArgs false
namespace Go.K
theorem wrap_u64_mod (n : Int) : IntKind.u64.wrap n = n % 18446744073709551616 := by
  unfold IntKind.wrap
  have h : IntKind.u64.signed = false := rfl
  have hb : (2 : Int) ^ IntKind.u64.bits = 18446744073709551616 := by decide
  simp only [h, hb, Bool.false_and, Bool.false_eq_true, if_false]
theorem wrap_u64 {n : Int} (h : 0 ≤ n ∧ n ≤ 18446744073709551615) : IntKind.u64.wrap n = n := by rw [wrap_u64_mod]; omega
theorem wrap_u64_bd (n : Int) : 0 ≤ IntKind.u64.wrap n ∧ IntKind.u64.wrap n ≤ 18446744073709551615 := by rw [wrap_u64_mod]; omega
def xorU (a b : Int) : Int := IntKind.u64.wrap ((BitVec.ofInt IntKind.u64.bits a ^^^ BitVec.ofInt IntKind.u64.bits b).toNat)
def andU (a b : Int) : Int := IntKind.u64.wrap ((BitVec.ofInt IntKind.u64.bits a &&& BitVec.ofInt IntKind.u64.bits b).toNat)
def shlU (a : Int) (n : Nat) : Int := IntKind.u64.wrap (a * 2 ^ n)
def shrU (a : Int) (n : Nat) : Int := a.fdiv (2 ^ n)
theorem xorU_bd (a b : Int) : 0 ≤ xorU a b ∧ xorU a b ≤ 18446744073709551615 := wrap_u64_bd _
theorem andU_nat {a : Int} {m : Nat} (h : m ≤ 18446744073709551615) : ∃ o : Nat, andU a (m : Int) = (o : Int) ∧ o ≤ m := by
  refine ⟨(BitVec.ofInt IntKind.u64.bits a &&& BitVec.ofInt IntKind.u64.bits (m : Int)).toNat, ?_, ?_⟩
  · unfold andU
    have := (BitVec.ofInt IntKind.u64.bits a &&& BitVec.ofInt IntKind.u64.bits (m : Int)).isLt
    have hb : (2 : Nat) ^ IntKind.u64.bits = 18446744073709551616 := by decide
    exact wrap_u64 (by omega)
  · rw [BitVec.toNat_and]
    refine Nat.le_trans Nat.and_le_right ?_
    rw [BitVec.toNat_ofInt]
    have hb : (2 : Nat) ^ IntKind.u64.bits = 18446744073709551616 := by decide
    rw [hb]; omega
theorem subU {m : Nat} (h : 1 ≤ m) (h2 : m ≤ 18446744073709551615) : intRes .sub .u64 (m : Int) 1 = some (.int .u64 ((m - 1 : Nat) : Int)) := by
  have e : (m : Int) - 1 = ((m - 1 : Nat) : Int) := by omega
  simp only [intRes, e]
  rw [wrap_u64 (by omega)]
theorem shl_one {k : Nat} (h : k ≤ 40) : IntKind.u64.wrap (1 * 2 ^ min ((k : Int)).toNat IntKind.u64.bits) = ((2 ^ k : Nat) : Int) := by
  have hm : min ((k : Int)).toNat IntKind.u64.bits = k := by
    have : IntKind.u64.bits = 64 := rfl
    rw [this]; omega
  have hp : (2 : Nat) ^ k ≤ 2 ^ 40 := Nat.pow_le_pow_right (by omega) h
  rw [hm, Int.one_mul]
  have e : (2 : Int) ^ k = ((2 ^ k : Nat) : Int) := by norm_cast
  have h4 : (2 : Nat) ^ 40 = 1099511627776 := by decide
  rw [e]; generalize 2 ^ k = z at hp ⊢
  exact wrap_u64 ⟨by omega, by omega⟩
section
variable {C : Cx} {V : Vw} {H : Hp} {L : Sl} {ty : TypeId}
theorem Y.shrN {x y : Operand} {k k' : IntKind} {m q : Nat} {n : Int} {t t' : TypeId} (hx : ev L x = some (.int k (m : Int))) (hy : ev L y = some (.int k' n)) (hn : 0 ≤ n) (hq : (2 : Int) ^ min n.toNat k.bits = ((q : Nat) : Int)) : Yl C V H L (.binOp .shr t x y t') ty (.int k ((m / q : Nat) : Int)) :=
  Y.shr _ hx hy hn (by rw [hq, Int.fdiv_eq_ediv_of_nonneg _ (by omega)]; rfl)
end
theorem len_bound {s t q m : Nat} (hq : q * 2 ^ s ≤ m) (ht : 2 ^ t ≤ 2 * q) : 2 ^ (s + t) ≤ 2 * m := by
  rw [Nat.pow_add]
  calc 2 ^ s * 2 ^ t ≤ 2 ^ s * (2 * q) := Nat.mul_le_mul_left _ ht
    _ = 2 * (q * 2 ^ s) := by rw [Nat.mul_comm q, Nat.mul_left_comm]
    _ ≤ 2 * m := Nat.mul_le_mul_left _ hq
end Go.K
