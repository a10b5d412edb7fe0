/- What is given, as a slice; lists held against one another.
Conditions: none; no program in sight. -/
import Derived.Test.YtjfacdepgkdoeaaL1
import Derived.Test.YtjfacdepgkdoeaaK25
set_option linter.unusedSimpArgs false
set_option linter.unusedVariables false
namespace Go.K
theorem Le.enc : Enc Le.cells 8 := ⟨fun _ => rfl, fun _ => rfl⟩
theorem getD_ne {α : Type} [BEq α] [LawfulBEq α] {l m : List α} {i : Nat} {d : α} (h : l.getD i d ≠ m.getD i d) : (l == m) = false := by
  rw [beq_eq_false_iff_ne]; intro e; exact h (by rw [e])
theorem getD_eq {α : Type} [BEq α] [LawfulBEq α] {l m : List α} {d : α} (hl : l.length = m.length) (h : ∀ j, j < l.length → l.getD j d = m.getD j d) : (l == m) = true := by
  rw [beq_iff_eq]
  refine List.ext_getElem hl fun j h1 h2 => ?_
  have := h j h1
  rw [List.getD_eq_getElem?_getD, List.getD_eq_getElem?_getD, List.getElem?_eq_getElem h1, List.getElem?_eq_getElem h2] at this
  exact this
theorem len_ne {α : Type} [BEq α] [LawfulBEq α] {l m : List α} (h : l.length ≠ m.length) : (l == m) = false := by
  rw [beq_eq_false_iff_ne]; intro e; exact h (by rw [e])
theorem upto_succ {p : Nat → Prop} {i : Nat} (h : ∀ j, j < i → p j) (hi : p i) : ∀ j, j < i + 1 → p j := fun j hj => by
  by_cases e : j = i
  · subst e; exact hi
  · exact h j (by omega)
namespace Le
/-- The reference's own. -/
def rsel (id : Int) (l : List Le) : List Int := if id = 0 then sel 0 l else if id = 1 then sel 1 l else []
theorem rsel_le (id : Int) (l : List Le) : (rsel id l).length ≤ l.length := by
  unfold rsel; split
  · exact sel_le _ _
  · split
    · exact sel_le _ _
    · simp
theorem sel_takeL {b : Int} {l : List Le} {i : Nat} (h : i < l.length) (hb : ((l.getD i dflt).bind == b) = true) : (sel b (l.take (i + 1))).length = (sel b (l.take i)).length + 1 := by rw [sel_take h hb]; simp
theorem sel_take0L {b : Int} {l : List Le} {i : Nat} (h : i < l.length) (hb : ((l.getD i dflt).bind == b) = false) : (sel b (l.take (i + 1))).length = (sel b (l.take i)).length := by rw [sel_take0 h hb]
theorem rsel_yes {id : Int} (b : Int) {l : List Le} {i : Nat} (hid : id = 0 ∧ b = 0 ∨ id = 1 ∧ b = 1) (h : i < l.length) (hb : ((l.getD i dflt).bind == b) = true) : rsel id (l.take (i + 1)) = rsel id (l.take i) ++ [(l.getD i dflt).addr] := by
  unfold rsel
  rcases hid with ⟨rfl, rfl⟩ | ⟨rfl, rfl⟩
  · rw [if_pos rfl, if_pos rfl, sel_take h hb]
  · rw [if_neg (by decide), if_pos rfl, if_neg (by decide), if_pos rfl, sel_take h hb]
theorem rsel_no {id : Int} {l : List Le} {i : Nat} (h : i < l.length) (h0 : id = 0 → ((l.getD i dflt).bind == 0) = false) (h1 : id = 1 → ((l.getD i dflt).bind == 1) = false) : rsel id (l.take (i + 1)) = rsel id (l.take i) := by
  unfold rsel
  by_cases e : id = 0
  · rw [if_pos e, if_pos e, sel_take0 h (h0 e)]
  · rw [if_neg e, if_neg e]
    by_cases e1 : id = 1
    · rw [if_pos e1, if_pos e1, sel_take0 h (h1 e1)]
    · rw [if_neg e1, if_neg e1]
theorem ins_cat {x : Int} {o : List Int} {n a : Nat} (hn : o.length = n) (ha : spot x o = a) : (([] ++ (o.drop 0).take (a - 0)) ++ [x]) ++ ((o.drop a).take (n - a)) = ins x o := by
  subst hn ha
  rw [ins_eq, List.take_of_length_le (l := o.drop (spot x o)) (by rw [List.length_drop]; exact Nat.le_refl _)]; simp
theorem rsel_own {id : Int} {b : Int} (l : List Le) (h : if id = 0 then b = 0 else id = 1 ∧ b = 1) : rsel id l = sel b l := by
  unfold rsel
  by_cases e : id = 0
  · rw [if_pos e] at h; subst h; rw [if_pos e]
  · rw [if_neg e] at h; rw [if_neg e, if_pos h.1, h.2]
end Le
namespace Le
open Go.Fl
variable {id : Int} {l : List Le} {y s : Nat}
theorem chosen_drop {b : Int} (F : Nat) (hF : (sel b l).length = F) (G : Nat) (hG : G ≤ F) : ((isort (sel b l)).drop (F - G)).take (F - (F - G)) = (isort (sel b l)).drop ((isort (sel b l)).length - G) := by
  rw [List.take_of_length_le (by rw [List.length_drop, isort_length]; omega), isort_length, hF]
theorem chosen_rd {V : Vw} {H : Hp} {b : Int} {p : Option Addr} {n c : Nat} (hid : if id = 0 then b = 0 else b = 1) (h : Rd V H 1 (.slice p n c) n ((((isort (sel b l)).drop ((sel b l).length - (gives id (sel 0 l).length (sel 1 l).length y s).toNat)).take n).flatMap nU))
    (hn : n = (sel b l).length - ((sel b l).length - (gives id (sel 0 l).length (sel 1 l).length y s).toNat)) (hl : l.length ≤ 300) : Rd V H 1 (.slice p n c) (chosen id l y s).length ((chosen id l y s).flatMap nU) := by
  have hg := gives_le id l y s hl
  have hb : (gives id (sel 0 l).length (sel 1 l).length y s).toNat ≤ (sel b l).length := by
    by_cases e : id = 0
    · rw [if_pos e] at hid; subst hid; have := hg.2.1 e; omega
    · rw [if_neg e] at hid; subst hid; have := hg.2.2.1 e; omega
  have e1 : chosen id l y s = (isort (sel b l)).drop ((isort (sel b l)).length - (gives id (sel 0 l).length (sel 1 l).length y s).toNat) := by
    unfold chosen
    by_cases e : id = 0
    · rw [if_pos e] at hid; subst hid; rw [if_pos e]
    · rw [if_neg e] at hid; subst hid; rw [if_neg e]
  have e2 : (chosen id l y s).length = n := by rw [e1, List.length_drop, isort_length, hn]
  rw [e2, e1, ← chosen_drop _ rfl _ hb, ← hn]; exact h
end Le
namespace Le
open Go.Fl
theorem rchosen_rd {V : Vw} {H : Hp} {id : Int} {l : List Le} {y s : Nat} {p : Option Addr} {n c : Nat} (h : Rd V H 1 (.slice p n c) n ((((isort (rsel id l)).drop ((rsel id l).length - (gives id (sel 0 l).length (sel 1 l).length y s).toNat)).take n).flatMap nU))
    (hn : n = (rsel id l).length - ((rsel id l).length - (gives id (sel 0 l).length (sel 1 l).length y s).toNat)) (hl : l.length ≤ 300) : Rd V H 1 (.slice p n c) (chosen id l y s).length ((chosen id l y s).flatMap nU) := by
  by_cases e0 : id = 0
  · have e := rsel_own (id := id) (b := 0) l (by rw [if_pos e0])
    rw [e] at h hn; exact chosen_rd (by rw [if_pos e0]) h hn hl
  · by_cases e1 : id = 1
    · have e := rsel_own (id := id) (b := 1) l (by rw [if_neg e0]; exact ⟨e1, rfl⟩)
      rw [e] at h hn; exact chosen_rd (by rw [if_neg e0]) h hn hl
    · have hg := (gives_le id l y s hl).2.2.2 e0 e1
      have hr : rsel id l = [] := by unfold rsel; rw [if_neg e0, if_neg e1]
      have hc : chosen id l y s = [] := by
        unfold chosen
        simp only [if_neg e0, hg]
        rw [List.drop_of_length_le (by simp)]
      rw [hr] at hn h
      have : n = 0 := by rw [hn]; simp
      subst this
      rw [hc]
      refine ⟨by simp, p, c, rfl, Nat.zero_le _, .inl rfl⟩
theorem chosen_len (id : Int) (l : List Le) (y s : Nat) : (chosen id l y s).length ≤ l.length := by
  unfold chosen
  dsimp only
  rw [List.length_drop]
  split
  · have := sel_le 0 l; rw [isort_length]; omega
  · have := sel_le 1 l; rw [isort_length]; omega
theorem rsel_len {id : Int} {l : List Le} {y s : Nat} (hl : l.length ≤ 300) : (gives id (sel 0 l).length (sel 1 l).length y s).toNat ≤ (rsel id l).length := by
  have hg := gives_le id l y s hl
  unfold rsel
  by_cases e : id = 0
  · rw [if_pos e]; have := hg.2.1 e; omega
  · rw [if_neg e]
    by_cases e1 : id = 1
    · rw [if_pos e1]; have := hg.2.2.1 e; omega
    · rw [if_neg e1]; have := hg.2.2.2 e e1; simp; omega
end Le
end Go.K
