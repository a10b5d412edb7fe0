/- What is owned is opened, or shown to all.
Conditions: none; nothing here speaks of a program. -/
import Derived.Test.YtjfacdepgkdoeaaK12
set_option linter.unusedSimpArgs false
namespace Go.K
section
variable {V : Vw} {H : Hp}
theorem Kn.of_nil {b : Nat} {o : Obj} (h : Kn V [] b o) : Kn V H b o := h.imp id (fun h => by cases h)
theorem Ow.open {e : TypeId} {k : Nat} {v : Value} {n : Nat} {xs : List Value} {s : Sg} (h : Ow e k v n xs s) (hn : 0 < n) : ∃ b cap cur, v = .slice (some ⟨b, 0, none⟩) n cap ∧ s = [(b, .cells cur e (0, 0))] ∧ n ≤ cap ∧ ∀ j, j < n * k → cur[0 + j]? = xs[j]? := by
  obtain ⟨_, ⟨_, h2, _⟩ | ⟨b, cap, cur, h1, h2, h3, _, _, h4⟩⟩ := h
  · omega
  · exact ⟨b, cap, cur, h1, h2, h3, fun j hj => by rw [Nat.zero_add]; exact h4 j hj⟩
end
section
variable {C : Cx} {V : Vw} {H : Hp} {L : Sl} {Q : Exit → Act → World → Prop} {ops : Array Oper} {os : List Oper}
/-- What was owned is shown to all, and stays as it is. -/
theorem Run.show {s : Sg} (k : ∀ V2 : Vw, V.le V2 → (∀ b o, s.lookup b = some o → V2 b = some o) → Run C ops V2 H L os Q) : Run C ops V (s :: H) L os Q := fun a w i =>
  k (fun c => match s.lookup c with | some o => some o | none => V c) (fun b o h => by
    have hn := i.2.vd b o h
    have hl : s.lookup b = none := by
      cases hl : s.lookup b with
      | none => rfl
      | some o' => exact absurd (mem_keys (H := s :: H) (o := o') (by rw [List.flatten_cons]; exact List.mem_append_left _ (lookup_mem hl))) hn
    simp only [hl]; exact h) (fun b o h => by simp only [h]) a w ⟨i.1, i.2.leak⟩
theorem Ow.show {e : TypeId} {k : Nat} {v : Value} {n : Nat} {xs : List Value} {s : Sg} {V2 : Vw} (h : Ow e k v n xs s) (hs : ∀ b o, s.lookup b = some o → V2 b = some o) : Rd V2 H k v n xs := by
  obtain ⟨h1, h2⟩ := h
  refine ⟨h1, ?_⟩
  rcases h2 with ⟨rfl, rfl, rfl⟩ | ⟨b, cap, cur, rfl, rfl, h3, h4, h5, h6⟩
  · exact ⟨none, 0, rfl, Nat.le_refl _, .inl rfl⟩
  · exact ⟨_, cap, rfl, h3, .inr ⟨b, 0, cur, e, (0, 0), rfl, .inl (hs b _ (by simp [List.lookup])), fun j hj => by rw [Nat.zero_add]; exact h6 j hj⟩⟩
end
end Go.K
