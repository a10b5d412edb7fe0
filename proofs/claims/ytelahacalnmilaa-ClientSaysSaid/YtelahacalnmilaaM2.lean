/- Facts on messages which the laws of layer 4 need: plain Lean.
Conditions: none; no program in sight. -/
import Derived.Test.YtelahacalnmilaaM1
import Derived.Test.YtelahacalnmilaaK10
namespace Go.K
namespace Msg
/-- A right message with another kind, that has no field of its own: right just if it has no such field. -/
theorem right_other {m : Msg} {k : Int} (h : right m = true) (hk : k = 4 ∨ k = 5) :
    right ⟨k, m.life, m.seen, m.xid, m.state, m.addr, m.bind, m.client, m.pot, m.at_, m.ok⟩ = same ⟨k, m.life, m.seen, m.xid, m.state, m.addr, m.bind, m.client, m.pot, m.at_, m.ok⟩ ⟨k, m.life, m.seen, 0, 0, 0, 0, ⟨#[]⟩, 0, 0, false⟩ := by
  have hb := right_bounds h
  rw [Bool.eq_iff_iff, right_iff, same_iff]
  simp only [Msg.mk.injEq, true_and]
  constructor
  · rintro ⟨_, _, ⟨h1, _⟩ | ⟨h1, _⟩ | ⟨h1, _⟩ | h1⟩
    · omega
    · omega
    · omega
    · exact h1.2
  · intro h1; exact ⟨hb.2.1, hb.2.2.1, .inr (.inr (.inr ⟨hk, h1⟩))⟩
theorem right_kind {m : Msg} (h : right m = true) : m.kind = 1 ∨ m.kind = 2 ∨ m.kind = 3 ∨ m.kind = 4 ∨ m.kind = 5 := by
  have := (right_bounds h).1; omega
theorem right_bad {m : Msg} (hk : m.kind < 1 ∨ 5 < m.kind) : right m = false := by
  cases h : right m with
  | false => rfl
  | true => have := right_kind h; omega
theorem enc_at0 {m : Msg} (h : right m = true) : ((enc m).map byteV)[0]? = some (.int .u8 m.kind) := by
  have hb : ∃ t, enc m = UInt8.ofNat (m.kind % 256).toNat :: t := by
    rcases right_kind h with h | h | h | h | h
    · rw [enc_1 h, h]; exact ⟨_, rfl⟩
    · rw [enc_2 h, h]; exact ⟨_, rfl⟩
    · rw [enc_3 h, h]; exact ⟨_, rfl⟩
    · rw [enc_0 (by omega) (by omega) (by omega)]; exact ⟨_, rfl⟩
    · rw [enc_0 (by omega) (by omega) (by omega)]; exact ⟨_, rfl⟩
  obtain ⟨t, ht⟩ := hb
  have := (right_bounds h).1
  rw [ht, List.map_cons, List.getElem?_cons_zero, byteV_of (by omega)]
  rw [Int.emod_eq_of_lt (by omega) (by omega)]
theorem size_at {m : Msg} (h : right m = true) : (#[.int .i64 0, .int .i64 14, .int .i64 (31 + (m.client.size : Int)), .int .i64 14, .int .i64 9, .int .i64 9] : Array Value)[m.kind.toNat]? = some (.int .i64 ((enc m).length : Int)) := by
  rcases right_kind h with h | h | h | h | h
  · rw [enc_1 h, h]; simp [be_length]
  · rw [enc_2 h, h]; simp [be_length, ByteArray.toList_eq]; omega
  · rw [enc_3 h, h]; simp [be_length]
  · rw [enc_0 (by omega) (by omega) (by omega), h]; simp [be_length]
  · rw [enc_0 (by omega) (by omega) (by omega), h]; simp [be_length]
theorem enc_pos {m : Msg} (h : right m = true) : 0 < (enc m).length := by
  have := enc_at0 h
  rw [List.getElem?_eq_some_iff] at this
  obtain ⟨h1, _⟩ := this; simpa using h1
end Msg
end Go.K
