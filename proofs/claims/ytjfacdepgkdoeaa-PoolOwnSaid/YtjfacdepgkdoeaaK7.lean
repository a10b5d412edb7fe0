/- Small words for the walks: a slice that is read, opened; its elements; arrays.
Conditions: none; nothing here speaks of a program. -/
import Derived.Test.YtjfacdepgkdoeaaK6
namespace Go.K
section
variable {C : Cx} {V : Vw} {H : Hp} {L : Sl} {Q : Exit → Act → World → Prop} {ops : Array Oper} {os : List Oper}
variable {ty : TypeId} {pos : String} {aft : Array Edge} {d : Nat}

theorem Rd.opened {k : Nat} {v : Value} {n : Nat} {xs : List Value} (h : Rd V H k v n xs) (hn : 0 < n) :
    ∃ b off c cs e fz, v = .slice (some ⟨b, off, none⟩) n c ∧ n ≤ c ∧ Kn V H b (.cells cs e fz) ∧ ∀ j, j < n * k → cs[off + j]? = xs[j]? := by
  obtain ⟨_, p, c, h2, h3, h4⟩ := h
  rcases h4 with h4 | ⟨b, off, cs, e, fz, a1, a2, a3⟩
  · omega
  · exact ⟨b, off, c, cs, e, fz, by rw [h2, a1], h3, a2, a3⟩
theorem Rd.form {k : Nat} {v : Value} {n : Nat} {xs : List Value} (h : Rd V H k v n xs) : ∃ p c, v = .slice p n c ∧ n ≤ c := by
  obtain ⟨_, p, c, h2, h3, _⟩ := h; exact ⟨p, c, h2, h3⟩
theorem Rd.len {k : Nat} {v : Value} {n : Nat} {xs : List Value} (h : Rd V H k v n xs) : xs.length = n * k := h.1
theorem Rd.nil (V : Vw) (H : Hp) (k : Nat) : Rd V H k (.slice none 0 0) 0 [] := ⟨by simp, none, 0, rfl, Nat.le_refl _, .inl rfl⟩
theorem Rd.one {b : Nat} {e : TypeId} {fz : Nat × Nat} {k n : Nat} {cs : Array Value} (hk : Kn V H b (.cells cs e fz)) (hs : cs.size = n * k) : Rd V H k (.slice (some ⟨b, 0, none⟩) n n) n cs.toList :=
  ⟨by simpa using hs, _, _, rfl, Nat.le_refl _, .inr ⟨b, 0, cs, e, fz, rfl, hk, fun j hj => by simp⟩⟩

theorem at1 {cs : Array Value} {off n i : Nat} {xs : List Value} {v : Value} (h : ∀ j, j < n * 1 → cs[off + j]? = xs[j]?) (hi : i < n) (hx : xs[i]? = some v) : cs[off + (i : Int).toNat * 1]? = some v := by
  rw [Int.toNat_natCast, Nat.mul_one]; exact (h i (by omega)).trans hx
theorem map_at {α : Type} (f : α → Value) {l : List α} {i : Nat} (z : α) (h : i < l.length) : (l.map f)[i]? = some (f (l.getD i z)) := by
  rw [List.getElem?_map, List.getElem?_eq_getElem h]; simp [List.getD_eq_getElem?_getD, List.getElem?_eq_getElem h]
theorem take_succ_getD {α : Type} (l : List α) (i : Nat) (z : α) (h : i < l.length) : l.take (i + 1) = l.take i ++ [l.getD i z] := by
  rw [List.take_succ_eq_append_getElem h]; simp [List.getD_eq_getElem?_getD, List.getElem?_eq_getElem h]

theorem le {m n : Nat} (h : Nat.ble m n = true) : m ≤ n := Nat.le_of_ble_eq_true h

/-- What a test says, in words that linear arithmetic reads. -/
theorem kb : (∀ (p : Prop) [Decidable p], (decide p = true) = p) ∧ (∀ (p : Prop) [Decidable p], (decide p = false) = ¬ p) ∧ (∀ b : Bool, ((!b) = true) = (b = false)) ∧ (∀ b : Bool, ((!b) = false) = (b = true)) ∧
    (∀ a b : Int, ((a == b) = true) = (a = b)) ∧ (∀ a b : Int, ((a == b) = false) = ¬ (a = b)) ∧ (∀ a b : Int, ((a != b) = true) = ¬ (a = b)) ∧ (∀ a b : Int, ((a != b) = false) = (a = b)) ∧
    (∀ a b : Bool, ((a && b) = true) = (a = true ∧ b = true)) ∧ (∀ a b : Bool, ((a && b) = false) = (a = false ∨ b = false)) ∧ (∀ a b : Bool, ((a || b) = true) = (a = true ∨ b = true)) ∧ (∀ a b : Bool, ((a || b) = false) = (a = false ∧ b = false)) ∧
    (∀ a b : Int, (¬ a < b) = (b ≤ a)) ∧ (∀ a b : Int, (¬ a ≤ b) = (b < a)) := by
  refine ⟨?_, ?_, ?_, ?_, ?_, ?_, ?_, ?_, ?_, ?_, ?_, ?_, ?_, ?_⟩ <;> intros <;> first | (simp; done) | (rename_i a b; cases a <;> cases b <;> simp)

/-! arrays in a variable -/
def arrT (P : Program) (t : TypeId) : Option (Nat × Nat) := match P.underlying t with
  | some (.array n e) => (sizeT P e).map fun z => (n, z)
  | _ => none
theorem Y.idxArr {x y : Operand} {t : TypeId} {z n : Nat} {b off : Nat} {k : IntKind} {j : Int} (hx : ev L x = some (.pointer (some ⟨b, off, none⟩))) (hy : ev L y = some (.int k j)) (ht : arrT C.P t = some (n, z)) (h0 : 0 ≤ j) (h1 : j.toNat < n) :
    Yl C V H L (.indexAddr t x y) ty (.pointer (some ⟨b, off + j.toNat * z, none⟩)) := (fun V2 a w hle i o ho hty => by
  unfold arrT at ht
  cases hu : C.P.underlying t with
  | none => rw [hu] at ht; cases ht
  | some u =>
    rw [hu] at ht
    cases u <;> simp only [reduceCtorEq] at ht
    rename_i n' e
    cases hs : sizeT C.P e with
    | none => rw [hs] at ht; cases ht
    | some z' =>
      rw [hs] at ht
      simp only [Option.map_some, Option.some.injEq, Prod.mk.injEq] at ht
      obtain ⟨rfl, rfl⟩ := ht
      have hs' := run_sizeOf (w := w) hs
      have hj : 0 ≤ j ∧ j < (n' : Int) := ⟨h0, by omega⟩
      simp [execOp, ho, i.1.ev hx, i.1.ev hy, Instr.indexAt, Instr.sureAddr, asIntOf, run_underlying hu, hs', hj, Addr.add_plain])
end
end Go.K
