/- The reference's decoder: what its walk needs.
Conditions: none; no program in sight. -/
import Derived.Test.YtelahacalnmilaaM6
import Derived.Test.YtelahacalnmilaaK12
set_option linter.unusedSimpArgs false
namespace Go.K
section
variable {V : Vw} {H : Hp}
theorem Kn.of_nil {b : Nat} {o : Obj} (h : Kn V [] b o) : Kn V H b o := h.imp id (fun h => by cases h)
theorem Ow.open {e : TypeId} {k : Nat} {v : Value} {n : Nat} {xs : List Value} {s : Sg} (h : Ow e k v n xs s) (hn : 0 < n) : ∃ b cap cur, v = .slice (some ⟨b, 0, none⟩) n cap ∧ s = [(b, .cells cur e (0, 0))] ∧ n ≤ cap ∧ ∀ j, j < n * k → cur[0 + j]? = xs[j]? := by
  obtain ⟨_, ⟨_, h2, _⟩ | ⟨b, cap, cur, h1, h2, h3, _, _, h4⟩⟩ := h
  · omega
  · exact ⟨b, cap, cur, h1, h2, h3, fun j hj => by rw [Nat.zero_add]; exact h4 j hj⟩
namespace Msg
theorem sl_length (bs : List UInt8) (l m : Nat) (hm : m ≤ bs.length) : (sl bs l m).length = m - l := by unfold sl; simp; omega
theorem pad_length (bs : List UInt8) : (Msg.pad bs).length = (bs.length - 9) + 30 := by unfold Msg.pad; simp
theorem by_bounds (l : List UInt8) (i : Nat) : 0 ≤ by_ l i ∧ by_ l i ≤ 255 := by have := u8_lt (l.getD i 0); unfold by_; omega
theorem by_at {l : List UInt8} {i : Nat} (h : i < l.length) : (l.map byteV)[i]? = some (.int .u8 (by_ l i)) := map_at byteV 0 h
theorem pad_cells (bs : List UInt8) : (([] : List Value) ++ (sl bs 9 bs.length).map byteV) ++ rep (Value.int .u8 0).cells.toList 30 = (Msg.pad bs).map byteV := by
  have e : sl bs 9 bs.length = bs.drop 9 := by unfold sl; rw [List.take_of_length_le (by simp)]
  rw [e, List.nil_append]; unfold Msg.pad; rw [List.map_append]; rfl
theorem sl_val (bs : List UInt8) (l m : Nat) (h : m - l ≤ 6) : 0 ≤ val (sl bs l m) ∧ val (sl bs l m) ≤ 281474976710655 := val_small (by unfold sl; simp; omega)
theorem sl_u32 (bs : List UInt8) : 0 ≤ val (sl bs 4 8) ∧ val (sl bs 4 8) ≤ 4294967295 := by
  obtain ⟨h1, h2⟩ := val_bounds (sl bs 4 8)
  have h3 : (256 : Int) ^ (sl bs 4 8).length ≤ 256 ^ 4 := pow_le256 (by unfold sl; simp; omega)
  have h4 : (256 : Int) ^ 4 = 4294967296 := rfl
  omega
theorem rbad_len {bs : List UInt8} (h : ¬ (9 ≤ bs.length ∧ bs.length ≤ 100)) : rbad bs = true := by unfold rbad; rw [decide_eq_false h]; rfl
theorem rbad_right {bs : List UInt8} (h : right (parse bs) = false) : rbad bs = true := by unfold rbad; rw [h]; simp
theorem eq_bytes (a b : List UInt8) : ((⟨a.toArray⟩ : ByteArray).toList == (⟨b.toArray⟩ : ByteArray).toList) = decide (a = b) := by
  rw [ByteArray.toList_eq, ByteArray.toList_eq]
  by_cases h : a = b
  · subst h; simp
  · rw [decide_eq_false h]; simpa using h
theorem rbad_ne {bs : List UInt8} (h : ((⟨(enc (parse bs)).toArray⟩ : ByteArray).toList == (⟨bs.toArray⟩ : ByteArray).toList) = false) : rbad bs = true := by
  rw [eq_bytes] at h; unfold rbad; rw [h]; simp
theorem rbad_ok {bs : List UInt8} (h1 : 9 ≤ bs.length ∧ bs.length ≤ 100) (h2 : right (parse bs) = true) (h : ((⟨(enc (parse bs)).toArray⟩ : ByteArray).toList == (⟨bs.toArray⟩ : ByteArray).toList) = true) : rbad bs = false := by
  rw [eq_bytes] at h; unfold rbad; rw [h, h2, decide_eq_true h1]; rfl
end Msg
theorem rd_sl {p : Option Addr} {c : Nat} {bs : List UInt8} (hv : Rd V H 1 (.slice p bs.length c) bs.length (bs.map byteV)) (l m : Nat) (hl : l ≤ m) (hm : m ≤ bs.length) :
    Rd V H 1 (.slice (if c = l then p else p.map (·.add (l * 1))) (m - l) (c - l)) (Msg.sl bs l m).length ((Msg.sl bs l m).map byteV) := by
  refine Rd.congr (Rd.resize (hv.slice l m hl hm) (Msg.sl_length bs l m hm).symm) ?_
  rw [Nat.mul_one, Nat.mul_one, ← List.map_drop, ← List.map_take]; rfl
end
end Go.K
