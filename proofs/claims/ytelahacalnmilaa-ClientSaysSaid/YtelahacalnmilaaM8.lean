/- What the laws on decoding need.
Conditions: none; no program in sight. -/
import Derived.Test.YtelahacalnmilaaM7
set_option linter.unusedSimpArgs false
namespace Go.K
section
variable {C : Cx} {V : Vw} {H : Hp} {L : Sl} {Q : Exit → Act → World → Prop} {ops : Array Oper} {os : List Oper}
/-- What was owned is shown to all, and stays as it is. -/
theorem Run.show {s : Sg} (k : ∀ V2 : Vw, V.le V2 → (∀ b o, s.lookup b = some o → V2 b = some o) → Run C ops V2 H L os Q) : Run C ops V (s :: H) L os Q := fun a w i =>
  k (fun c => match s.lookup c with | some o => some o | none => V c) (fun b o h => by
    have hn := i.2.vd b o h
    have hl : s.lookup b = none := by
      cases hl : s.lookup b with
      | none => rfl
      | some o' => exact absurd (mem_keys (H := s :: H) (o := o') (by rw [List.flatten_cons]; exact List.mem_append_left _ (lookup_mem hl))) hn
    simp only [hl]; exact h) (fun b o h => by simp only [h]) a w ⟨i.1, i.2.leak⟩
theorem Ow.show {e : TypeId} {k : Nat} {v : Value} {n : Nat} {xs : List Value} {s : Sg} {V2 : Vw} (h : Ow e k v n xs s) (hs : ∀ b o, s.lookup b = some o → V2 b = some o) : Rd V2 H k v n xs := by
  obtain ⟨h1, h2⟩ := h
  refine ⟨h1, ?_⟩
  rcases h2 with ⟨rfl, rfl, rfl⟩ | ⟨b, cap, cur, rfl, rfl, h3, h4, h5, h6⟩
  · exact ⟨none, 0, rfl, Nat.le_refl _, .inl rfl⟩
  · exact ⟨_, cap, rfl, h3, .inr ⟨b, 0, cur, e, (0, 0), rfl, .inl (hs b _ (by simp [List.lookup])), fun j hj => by rw [Nat.zero_add]; exact h6 j hj⟩⟩
end
namespace Msg
theorem same_dec {m : Msg} (h : right m = true) (ha : 0 ≤ m.addr ∧ m.addr ≤ 4294967295) : same (dec1 (enc m)).1 m = true := (same_iff _ _).2 (dec1_of_enc h ha)
theorem same_self (m : Msg) : same m m = true := (same_iff _ _).2 rfl
theorem bad_init {m : Msg} (h : right m = true) (ha : 0 ≤ m.addr ∧ m.addr ≤ 4294967295) : bad (sl (enc m) 0 ((enc m).length - 1)) = true := by
  have hb := enc_bounds h
  refine bad_less h ha (t := (enc m).drop ((enc m).length - 1)) ?_ ?_
  · intro e; have := congrArg List.length e; simp at this; omega
  · unfold sl; simp
theorem enc_eq_same {m n : Msg} (h : right m = true) (ha : 0 ≤ m.addr ∧ m.addr ≤ 4294967295) (h' : right n = true) (ha' : 0 ≤ n.addr ∧ n.addr ≤ 4294967295) :
    (((⟨(enc m).toArray⟩ : ByteArray).toList == (⟨(enc n).toArray⟩ : ByteArray).toList) == same m n) = true := by
  rw [eq_bytes, beq_iff_eq, Bool.eq_iff_iff, decide_eq_true_eq, same_iff]
  exact ⟨enc_inj h ha h' ha', fun e => by rw [e]⟩
end Msg
end Go.K
