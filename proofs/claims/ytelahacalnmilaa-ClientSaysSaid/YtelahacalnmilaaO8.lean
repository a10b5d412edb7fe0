/- A packet's bytes, as cells.
Conditions: none; no program in sight. -/
import Derived.Test.YtelahacalnmilaaO7
import Derived.Test.YtelahacalnmilaaK12
set_option linter.unusedSimpArgs false
namespace Go.K
theorem rep_zeros : ∀ m, rep (Value.int .u8 0).cells.toList m = (Pc.zeros m).map byteV
  | 0 => rfl
  | m + 1 => by
    have := rep_zeros m
    show (Value.int .u8 0).cells.toList ++ rep (Value.int .u8 0).cells.toList m = _
    rw [this]; rfl
theorem rep_one (m : Nat) : (rep (Value.int .u8 0).cells.toList m).all one = true := by rw [rep_zeros]; exact all_one_bytes _
namespace Pc
theorem encP_row (p : Pc) : (encP p).map byteV = [.int .u8 (p.op % 256), .int .u8 1, .int .u8 (((p.hw.length : Nat) : Int) % 256), .int .u8 0] ++ ((Msg.be 4 p.xid).map byteV ++ ((Msg.be 2 p.secs).map byteV ++ ((Msg.be 2 p.flags).map byteV ++ ((Msg.be 4 p.ci).map byteV ++ ((Msg.be 4 p.yi).map byteV ++ ((Msg.be 4 p.si).map byteV ++ ((Msg.be 4 p.gi).map byteV ++ (p.hw.map byteV ++ (rep (Value.int .u8 0).cells.toList (208 - p.hw.length) ++ ([.int .u8 99, .int .u8 130, .int .u8 83, .int .u8 99] ++ (Oc.encO p.os).map byteV)))))))))) := by
  rw [rep_zeros, Oc.bc_row, Oc.bc_row]
  simp only [encP, encH, List.map_append, List.map_cons, List.map_nil, List.append_assoc]
  rfl
end Pc
end Go.K
namespace Go.K
theorem Pc.right_facts {p : Pc} (h : p.right = true) : (p.op = 1 ∨ p.op = 2) ∧ (1 ≤ p.hw.length ∧ p.hw.length ≤ 16) ∧ (0 ≤ p.secs ∧ p.secs ≤ 65535) ∧ (0 ≤ p.flags ∧ p.flags ≤ 65535) ∧ Oc.encE p.os = 0 := by
  unfold Pc.right at h
  simp only [Bool.and_eq_true, Bool.or_eq_true, decide_eq_true_eq, beq_iff_eq] at h
  omega
theorem Oc.encE_small {l : List Oc} (h : Oc.encE l = 0) : Oc.tot l ≤ 1023 := by
  unfold Oc.encE at h
  split at h
  · cases h
  · split at h
    · cases h
    · omega
end Go.K
