/- More on readers of bytes.
Conditions: none; no program in sight. -/
import Derived.Test.YtelahacalnmilaaM5
set_option linter.unusedSimpArgs false
namespace Go.K
section
variable {C : Cx} {V : Vw} {H : Hp} {L : Sl} {ty : TypeId}
theorem Y.lenRd {x : Operand} {t e : TypeId} {z k n : Nat} {v : Value} {xs : List Value} {V0 : Vw} {H0 : Hp} (hx : ev L x = some v) (ht : elemS C.P t = some (e, z)) (hr : Rd V0 H0 k v n xs) : Yl C V H L (.call { callee := .builtin .len, args := #[x], argTypes := #[t] }) ty (.int .i64 n) := by
  obtain ⟨p, c, rfl, _⟩ := hr.form
  exact Y.lenSl hx ht
theorem rd_u8 (s : Msg.Rs) : 0 ≤ val (Msg.rd 1 s).1 ∧ val (Msg.rd 1 s).1 ≤ 255 := by
  have := Msg.rd_val 1 s
  have e : (256 : Int) ^ 1 = 256 := rfl
  omega
theorem rd_u32 (s : Msg.Rs) : 0 ≤ val (Msg.rd 4 s).1 ∧ val (Msg.rd 4 s).1 ≤ 4294967295 := by
  have := Msg.rd_val 4 s
  have e : (256 : Int) ^ 4 = 4294967296 := rfl
  omega
end
namespace Msg
theorem bad_of {bs : List UInt8} {g : Msg × Rs} (e : dec1 bs = g) : bad bs = ((g.2.2 || decide ((g.2.1.length : Int) > 0)) || !right g.1) := by unfold bad; rw [e]
theorem decO_le (g : Msg × Rs) : (decO g).2.1.length ≤ g.2.1.length := by
  unfold decO; split <;> exact rd_le _ _
theorem decO_kind (g : Msg × Rs) : (decO g).1.kind = g.1.kind := by unfold decO; split <;> rfl
end Msg
end Go.K
