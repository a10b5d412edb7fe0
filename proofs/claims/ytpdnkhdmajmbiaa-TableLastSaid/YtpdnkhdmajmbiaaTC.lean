/- The document's table: what is found in it, told of a beginning of it.
Conditions: none; no program in sight. -/
import Derived.Test.YtpdnkhdmajmbiaaTB
set_option linter.unusedSimpArgs false
set_option linter.unusedVariables false
set_option linter.unusedSectionVars false
namespace Go.K
namespace Le
variable {l : List Le} {i : Nat} {b now : Int} {c : ByteArray}
theorem bnd_yes (hi : i < l.length) (h : (l.getD i dflt).bind = b) : bnd (l.take (i + 1)) b = bnd (l.take i) b ++ [l.getD i dflt] := by
  rw [take_succ_getD l i dflt hi]; exact fil_yes (beq_iff_eq.2 h)
theorem bnd_no (hi : i < l.length) (h : (l.getD i dflt).bind ≠ b) : bnd (l.take (i + 1)) b = bnd (l.take i) b := by
  rw [take_succ_getD l i dflt hi]; exact fil_no (beq_false_of_ne h)
theorem ofc_yes (hi : i < l.length) (h : ((l.getD i dflt).client.toList == c.toList) = true) (k : 2 ≤ (l.getD i dflt).bind ∧ (l.getD i dflt).bind ≤ 4) : ofc (l.take (i + 1)) c = ofc (l.take i) c ++ [l.getD i dflt] := by
  rw [take_succ_getD l i dflt hi]; refine fil_yes ?_
  rw [h, held_iff.2 k]; rfl
theorem ofc_no (hi : i < l.length) (h : ((l.getD i dflt).client.toList == c.toList) = false ∨ ¬ (2 ≤ (l.getD i dflt).bind ∧ (l.getD i dflt).bind ≤ 4)) : ofc (l.take (i + 1)) c = ofc (l.take i) c := by
  rw [take_succ_getD l i dflt hi]; refine fil_no ?_
  rcases h with h | h
  · rw [h]; rfl
  · rw [show held (l.getD i dflt).bind = false from by cases hc : held (l.getD i dflt).bind; rfl; exact absurd (held_iff.1 hc) h, Bool.and_false]
theorem due_yes (hi : i < l.length) (h : (l.getD i dflt).bind = 2) (k : (l.getD i dflt).till ≤ now) : dueR now (l.take (i + 1)) = dins (l.getD i dflt) (dueR now (l.take i)) := by
  rw [take_succ_getD l i dflt hi, dueR_snoc, if_pos (by unfold isdue; rw [beq_iff_eq.2 h, decide_eq_true k]; rfl)]
theorem due_no (hi : i < l.length) (h : (l.getD i dflt).bind ≠ 2 ∨ ¬ (l.getD i dflt).till ≤ now) : dueR now (l.take (i + 1)) = dueR now (l.take i) := by
  rw [take_succ_getD l i dflt hi, dueR_snoc, if_neg]
  unfold isdue; simp only [Bool.and_eq_true, beq_iff_eq, decide_eq_true_eq]; omega
theorem due_few (now : Int) (l : List Le) : (dueR now l).length ≤ l.length := by
  unfold dueR
  suffices h : ∀ (m o : List Le), (m.foldl (fun o x => if isdue now x then dins x o else o) o).length ≤ o.length + m.length by simpa using h l []
  intro m
  induction m with
  | nil => intro o; simp
  | cons x m ih =>
    intro o
    rw [List.foldl_cons]
    split
    · have := ih (dins x o); rw [dins_len] at this; simp only [List.length_cons]; omega
    · have := ih o; simp only [List.length_cons]; omega
theorem bnd_none (h : ∀ j, j < l.length → (l.getD j dflt).bind ≠ b) : bnd l b = [] := by
  refine List.filter_eq_nil_iff.2 fun x hx => ?_
  obtain ⟨j, hj, rfl⟩ := List.getElem_of_mem hx
  have := h j hj
  rw [List.getD_eq_getElem?_getD, List.getElem?_eq_getElem hj] at this
  simpa using this
theorem first_hit (h : ∀ j, j < i → (l.getD j dflt).bind ≠ b) (hi : i < l.length) (he : (l.getD i dflt).bind = b) : first l b = ((l.getD i dflt).addr, true) := by
  have e : bnd l b = l.getD i dflt :: bnd (l.drop (i + 1)) b := by
    have h1 : bnd (l.take i) b = [] := bnd_none fun j hj => by
      have hj' : j < i := by rw [List.length_take] at hj; omega
      have := h j hj'
      rwa [List.getD_eq_getElem?_getD, List.getElem?_take_of_lt hj', ← List.getD_eq_getElem?_getD]
    have h2 : l = l.take i ++ (l.getD i dflt :: l.drop (i + 1)) := by
      rw [List.getD_eq_getElem?_getD, List.getElem?_eq_getElem hi]
      exact (List.take_append_drop i l).symm.trans (by rw [List.drop_eq_getElem_cons hi]; rfl)
    conv => lhs; rw [h2]
    unfold bnd at h1 ⊢
    rw [List.filter_append, h1, List.nil_append, List.filter_cons_of_pos (by simpa using he)]
  unfold first; rw [e]
theorem first_none (h : ∀ j, j < l.length → (l.getD j dflt).bind ≠ b) : first l b = (0, false) := first_nil (bnd_none h)
end Le
end Go.K

namespace Go.K
namespace Le
variable {l ls : List Le} {i n : Nat} {b now : Int} {c : ByteArray} {x : Le}
def long (n : Nat) (ls : List Le) : Bool := ls.any (fun x => decide (x.client.size > 200)) || (decide (n > 50) || decide (ls.length > 200))
theorem long_f (h : long n ls = false) : n ≤ 50 ∧ ls.length ≤ 200 := by
  unfold long at h
  simp only [Bool.or_eq_false_iff, decide_eq_false_iff_not] at h
  omega
theorem mem_getD (hi : i < l.length) : l.getD i dflt ∈ l := by
  rw [List.getD_eq_getElem?_getD, List.getElem?_eq_getElem hi]; exact List.getElem_mem hi
theorem long_at (hi : i < ls.length) (h : (ls.getD i dflt).client.size > 200) : long n ls = true := by
  unfold long
  rw [List.any_eq_true.2 ⟨_, mem_getD hi, decide_eq_true h⟩]; rfl
theorem long_no (h : ∀ j, j < ls.length → ¬ (ls.getD j dflt).client.size > 200) : long n ls = (decide (n > 50) || decide (ls.length > 200)) := by
  unfold long
  rw [show ls.any (fun x => decide (x.client.size > 200)) = false from List.any_eq_false.2 fun y hy => by
    obtain ⟨j, hj, rfl⟩ := List.getElem_of_mem hy
    have := h j hj
    rw [List.getD_eq_getElem?_getD, List.getElem?_eq_getElem hj] at this
    simpa using this]
  rfl
def sets (l ls : List Le) : List Le := ls.foldl (fun l x => (setE l x).2) l
theorem sets_take (l : List Le) (hi : i < ls.length) : sets l (ls.take (i + 1)) = (setE (sets l (ls.take i)) (ls.getD i dflt)).2 := by
  unfold sets; rw [take_succ_getD ls i dflt hi, List.foldl_append]; rfl
theorem any_take (p : Le → Bool) (hi : i < l.length) : (l.take (i + 1)).any p = ((l.take i).any p || p (l.getD i dflt)) := by
  rw [take_succ_getD l i dflt hi, List.any_append]; simp
theorem get_some (a : Int) (l : List Le) : (get l a).isSome = l.any (fun y => y.addr == a) := by unfold get; rw [Bool.eq_iff_iff, List.find?_isSome, List.any_eq_true]
theorem set_zero (l : List Le) (x : Le) : ((setE l x).1 == 0) = (l.any (fun y => y.addr == x.addr) && right x) := by
  rw [← get_some]
  unfold setE
  cases hr : right x
  · rw [if_pos rfl, Bool.and_false]; rfl
  · rw [if_neg (by simp), Bool.and_true]
    cases hg : get l x.addr <;> rfl
theorem put_getD (x : Le) (hi : i < l.length) : (put l x).getD i dflt = if (l.getD i dflt).addr = x.addr then x else l.getD i dflt := by
  unfold put
  rw [List.getD_eq_getElem?_getD, List.getElem?_map, List.getElem?_eq_getElem hi, List.getD_eq_getElem?_getD, List.getElem?_eq_getElem hi]; rfl
theorem set_at1 (hi : i < l.length) (h : ((setE l x).1 == 0) = true) (k : (l.getD i dflt).addr = x.addr) : (setE l x).2.getD i dflt = x := by
  have h0 := h
  rw [set_zero, ← get_some, Bool.and_eq_true] at h
  obtain ⟨y, hy⟩ := Option.isSome_iff_exists.1 h.1
  rw [setE_ok h.2 hy]; show (put l x).getD i dflt = x
  rw [put_getD x hi, if_pos k]
theorem set_at0 (hi : i < l.length) (h : ((setE l x).1 == 0) = false ∨ (l.getD i dflt).addr ≠ x.addr) : (setE l x).2.getD i dflt = l.getD i dflt := by
  unfold setE at h ⊢
  split
  · rfl
  · rename_i hr
    rw [if_neg hr] at h
    cases hg : get l x.addr with
    | none => rfl
    | some y =>
      rw [hg] at h
      show (put l x).getD i dflt = _
      rw [put_getD x hi, if_neg]
      rcases h with h | h
      · cases h
      · exact h
/-! one of each -/
def Bs (l : List Le) : Prop := ∀ x, x ∈ l → 0 ≤ x.bind ∧ x.bind ≤ 5
theorem new_bs (as : List Int) : Bs (new as) := fun x hx => by
  obtain ⟨a, _, rfl⟩ := List.mem_map.1 hx
  exact ⟨Int.le_refl _, show (0 : Int) ≤ 5 by decide⟩
theorem put_bs (h : Bs l) (k : 0 ≤ x.bind ∧ x.bind ≤ 5) : Bs (put l x) := fun y hy => by
  obtain ⟨z, hz, rfl⟩ := List.mem_map.1 hy
  split
  · exact k
  · exact h z hz
theorem setE_bs (h : Bs l) (x : Le) : Bs (setE l x).2 := by
  unfold setE; split
  · exact h
  · rename_i hr
    split
    · exact h
    · have hr : right x = true := by simpa using hr
      exact put_bs h (right_iff.1 hr).2.2.2.2.2.1
def upTo (l : List Le) (b : Int) : Nat := (l.filter fun x => decide (x.bind < b)).length
theorem upTo_zero (h : Bs l) : upTo l 0 = 0 := by
  unfold upTo
  rw [List.length_eq_zero_iff, List.filter_eq_nil_iff]
  intro x hx; have := h x hx; simp; omega
theorem upTo_succ (l : List Le) (b : Int) : upTo l (b + 1) = upTo l b + (bnd l b).length := by
  unfold upTo bnd
  induction l with
  | nil => rfl
  | cons x l ih =>
    rw [List.filter_cons, List.filter_cons, List.filter_cons]
    by_cases h1 : x.bind < b
    · rw [if_pos (by simp; omega), if_pos (by simpa using h1), if_neg (by simp; omega)]; simp only [List.length_cons]; omega
    · by_cases h2 : x.bind = b
      · rw [if_pos (by simp; omega), if_neg (by simpa using h1), if_pos (by simpa using h2)]; simp only [List.length_cons]; omega
      · rw [if_neg (by simp; omega), if_neg (by simpa using h1), if_neg (by simpa using h2)]; exact ih
theorem upTo_all (h : Bs l) (hb : b > 5) : upTo l b = l.length := by
  unfold upTo
  rw [List.filter_eq_self.2 fun x hx => by have := h x hx; simp; omega]
theorem bnd_new (as : List Int) : (bnd (new as) 0).length = as.length := by
  unfold bnd
  rw [List.filter_eq_self.2 fun x hx => by obtain ⟨a, _, rfl⟩ := List.mem_map.1 hx; rfl]
  exact new_len as
theorem first_is (l : List Le) (b : Int) : (first l b).2 = decide ((((bnd l b).length : Nat) : Int) > 0) := by
  unfold first
  cases h : bnd l b with
  | nil => rfl
  | cons x t => show true = _; rw [decide_eq_true]; simp only [List.length_cons]; omega
theorem first_least (hr : Ris l) (hi : i < l.length) (hb : (l.getD i dflt).bind = b) : (first l b).1 ≤ (l.getD i dflt).addr := by
  have hm : l.getD i dflt ∈ bnd l b := List.mem_filter.2 ⟨mem_getD hi, by simpa using hb⟩
  have hs : Ris (bnd l b) := ris_filter hr _
  unfold first
  cases h : bnd l b with
  | nil => rw [h] at hm; cases hm
  | cons x t =>
    show x.addr ≤ _
    rw [h] at hm hs
    rcases List.mem_cons.1 hm with e | hm
    · rw [e]; exact Int.le_refl _
    · exact Int.le_of_lt ((List.pairwise_cons.1 hs).1 _ hm)
/-! what is due -/
theorem cntdue_yes (hi : i < l.length) (h : (l.getD i dflt).bind = 2) (k : (l.getD i dflt).till ≤ now) : ((l.take (i + 1)).filter (isdue now)).length = ((l.take i).filter (isdue now)).length + 1 := by
  rw [take_succ_getD l i dflt hi, fil_yes (by unfold isdue; rw [beq_iff_eq.2 h, decide_eq_true k]; rfl), List.length_append]; rfl
theorem cntdue_no (hi : i < l.length) (h : (l.getD i dflt).bind ≠ 2 ∨ ¬ (l.getD i dflt).till ≤ now) : ((l.take (i + 1)).filter (isdue now)).length = ((l.take i).filter (isdue now)).length := by
  rw [take_succ_getD l i dflt hi, fil_no]
  unfold isdue; rw [Bool.and_eq_false_iff, beq_eq_false_iff_ne, decide_eq_false_iff_not]; exact h
theorem due_cnt (hr : Ris l) (now : Int) : (l.filter (isdue now)).length = (dueR now l).length := (dueR_spec hr).1.length_eq.symm
theorem due_next (hr : Ris l) (h : i + 1 < (dueR now l).length) : ((dueR now l).getD i dflt).till < ((dueR now l).getD (i + 1) dflt).till ∨ ((dueR now l).getD i dflt).till = ((dueR now l).getD (i + 1) dflt).till ∧ ((dueR now l).getD i dflt).addr < ((dueR now l).getD (i + 1) dflt).addr := by
  obtain ⟨hp, hs⟩ := dueR_spec (now := now) hr
  have hd : (dueR now l).Pairwise fun x y => x.addr ≠ y.addr := (hp.pairwise_iff (fun h => h.symm)).2 ((ris_filter hr _).imp fun h => by omega)
  have h1 := List.pairwise_iff_getElem.1 hs i (i + 1) (by omega) h (by omega)
  have h2 := List.pairwise_iff_getElem.1 hd i (i + 1) (by omega) h (by omega)
  rw [List.getD_eq_getElem?_getD, List.getElem?_eq_getElem (show i < _ by omega), List.getD_eq_getElem?_getD, List.getElem?_eq_getElem h]
  simp only [Option.getD_some]
  unfold ltBy at h1
  omega
theorem due_pre (hr : Ris l) {a b : Int} (hab : a ≤ b) : (dueR b l).take (dueR a l).length = dueR a l ∧ (dueR a l).length ≤ (dueR b l).length := by
  obtain ⟨pa, sa⟩ := dueR_spec (now := a) hr
  obtain ⟨pb, sb⟩ := dueR_spec (now := b) hr
  let p : Le → Bool := fun x => decide (x.till ≤ a)
  have e1 : (dueR a l).Perm ((dueR b l).filter p) := by
    refine pa.trans (List.Perm.trans (List.Perm.of_eq ?_) (pb.filter p).symm)
    rw [List.filter_filter]
    refine List.filter_congr fun x _ => ?_
    show isdue a x = (decide (x.till ≤ a) && isdue b x)
    unfold isdue
    by_cases h : x.till ≤ a
    · rw [decide_eq_true h, decide_eq_true (show x.till ≤ b by omega), Bool.true_and]
    · rw [decide_eq_false h, Bool.and_false, Bool.false_and]
  have e2 : (dueR b l) = dueR a l ++ (dueR b l).filter (fun x => !p x) := by
    refine (uniq_of (k := Le.till) hr (fun x hx => (List.mem_filter.1 (pb.mem_iff.1 hx)).1) sb ?_ ?_)
    · refine List.pairwise_append.2 ⟨sa, sb.sublist List.filter_sublist, fun x hx y hy => ?_⟩
      have hx := (List.mem_filter.1 (pa.mem_iff.1 hx)).2
      have hy := (List.mem_filter.1 hy).2
      have hy : ¬ y.till ≤ a := by simpa [p] using hy
      unfold isdue at hx
      simp only [Bool.and_eq_true, decide_eq_true_eq] at hx
      unfold ltBy; omega
    · exact (List.filter_append_perm p (dueR b l)).symm.trans (e1.symm.append_right _)
  constructor
  · conv => lhs; rw [e2]
    exact List.take_left
  · rw [e2, List.length_append]; omega
end Le
namespace Rg
def p13 : List Rg := [⟨1, 3⟩]
theorem p13_ok : Oks p13 := by
  intro r hr
  obtain rfl := List.mem_singleton.1 hr
  exact ⟨by decide, by decide, by decide, by decide⟩
theorem pool13 : pool p13 = (p13, 0) := by decide +kernel
theorem adr13 : adr p13 = [1, 2, 3] := by decide +kernel
end Rg
namespace Le
def q13 : Le := ⟨2, 1, ⟨#[]⟩, 0, 0, 0, 0, 0⟩
theorem aw1 : (setE (new [1, 2, 3]) q13).1 = 0 := by decide +kernel
theorem aw2 : first (setE (new [1, 2, 3]) q13).2 1 = (2, true) := by decide +kernel
theorem aw3 : (bnd (setE (new [1, 2, 3]) q13).2 0).length = 2 := by decide +kernel
end Le
end Go.K
