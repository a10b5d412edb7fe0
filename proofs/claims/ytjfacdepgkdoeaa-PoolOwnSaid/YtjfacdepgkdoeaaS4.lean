/- Slices of one's own as arrays of elements, and back; what a sorted list is.
Conditions: none; no program in sight. -/
import Derived.Test.YtjfacdepgkdoeaaS3
set_option linter.unusedSectionVars false
set_option linter.unusedVariables false
set_option linter.unusedSimpArgs false
namespace Go.K
open Go.Sort
section
variable {α : Type} [Inhabited α] {enc : α → List Value} {k : Nat} {lt : α → α → Bool}
theorem Ow.toD (he : Enc enc k) {e : TypeId} {v : Value} {l : List α} {s : Sg} (h : Ow e k v l.length (l.flatMap enc) s) :
    (v = .slice none 0 0 ∧ l = [] ∧ s = []) ∨ ∃ b cap rest, v = .slice (some ⟨b, 0, none⟩) l.length cap ∧ s = sgD enc e b rest l.toArray ∧ l.length ≤ cap ∧ cap ≤ maxLen ∧ l.length * k + rest.length = cap * k := by
  obtain ⟨h1, ⟨h2, h3, h4⟩ | ⟨b, cap, cur, h2, h3, h4, h5, h6, h7⟩⟩ := h
  · exact .inl ⟨h2, List.length_eq_zero_iff.1 h3, h4⟩
  · have hle : l.length * k ≤ cap * k := Nat.mul_le_mul_right k h4
    refine .inr ⟨b, cap, cur.toList.drop (l.length * k), h2, ?_, h4, h5, by simp [h6]; omega⟩
    rw [h3]; unfold sgD cel
    have e1 : l.flatMap enc = cur.toList.take (l.length * k) := by
      apply List.ext_getElem?
      intro j
      rw [List.getElem?_take]
      split
      · rename_i hj; rw [← h7 j hj]; simp
      · rename_i hj; rw [List.getElem?_eq_none (by rw [h1]; omega)]
    rw [show l.toArray.toList = l by simp, e1, List.take_append_drop]
theorem Ow.ofD (he : Enc enc k) {e : TypeId} {b cap : Nat} {rest : List Value} {l : List α} (h1 : l.length ≤ cap) (h2 : cap ≤ maxLen) (h3 : l.length * k + rest.length = cap * k) :
    Ow e k (.slice (some ⟨b, 0, none⟩) l.length cap) l.length (l.flatMap enc) (sgD enc e b rest l.toArray) := by
  refine ⟨flat_len he l, .inr ⟨b, cap, _, rfl, rfl, h1, h2, ?_, fun j hj => ?_⟩⟩
  · have := cel_len he (d := l.toArray) (rest := rest); simp at this ⊢; rw [this]; exact h3
  · unfold cel; rw [List.getElem?_toArray, List.getElem?_append_left (by simp [flat_len he]; exact hj)]
/-- Sorted: no later one is less than an earlier one. -/
def Srt (lt : α → α → Bool) (l : List α) : Prop := l.Pairwise fun x y => lt y x = false
theorem srt_of {d : Array α} (h : SortedIn lt 0 d.size d) : Srt lt d.toList := by
  refine List.pairwise_iff_getElem.2 fun i j hi hj hij => ?_
  have := h i j (Nat.zero_le _) hij (by simpa using hj)
  rw [getElem!_pos d i (by simpa using hi), getElem!_pos d j (by simpa using hj)] at this
  simpa using this
theorem perm_of {d d' : Array α} (h : PermIn 0 d.size d d') : d'.toList.Perm d.toList := by
  have h2 := h.2.2
  rw [Array.extract_eq_self_of_le (Nat.le_of_eq h.1), show d.extract 0 d.size = d by simp] at h2
  exact h2
end
/-- A number's cells. -/
def nU (x : Int) : List Value := [.int .u32 x]
theorem nU_enc : Enc nU 1 := ⟨fun _ => rfl, fun _ => rfl⟩
def nI (x : Int) : List Value := [.int .i64 x]
theorem nI_enc : Enc nI 1 := ⟨fun _ => rfl, fun _ => rfl⟩
end Go.K
