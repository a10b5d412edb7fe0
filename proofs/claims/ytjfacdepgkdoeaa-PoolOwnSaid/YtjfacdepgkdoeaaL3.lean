/- What PoolOwn asks of plain lists.
Conditions: none; no program in sight. -/
import Derived.Test.YtjfacdepgkdoeaaL2
set_option linter.unusedSimpArgs false
set_option linter.unusedVariables false
namespace Go.K
/-- A set of numbers, as a map to true. -/
def yes (l : List Int) : List (Int × Value) := l.map fun x => (x, .bool true)
theorem yes_get (l : List Int) (k : Int) : mget (yes l) k = if l.contains k then some (.bool true) else none := by
  induction l with
  | nil => rfl
  | cons x l ih =>
    by_cases e : k = x
    · subst e; simp [yes, mget, List.lookup]
    · have hb : (k == x) = false := by simp [e]
      have hb2 : (x == k) = false := by simp; exact fun q => e q.symm
      simp only [yes, mget, List.map_cons, List.lookup, hb, List.contains_cons, Bool.false_or] at ih ⊢; exact ih
theorem yes_look (l : List Int) (k : Int) : (mget (yes l) k).getD (.bool false) = .bool (l.contains k) := by
  rw [yes_get]; cases l.contains k <;> rfl
theorem yes_push {l : List Int} {k : Int} (h : l.contains k = false) : mset (yes l) k (.bool true) = yes (l ++ [k]) := by
  rw [mset_none (by rw [yes_get, h]; rfl)]; simp [yes]
theorem yes_push' {l : List Int} {k : Int} (h : ¬ k ∈ l) : mset (yes l) k (.bool true) = yes (l ++ [k]) := yes_push (by simpa using h)
theorem nodup_snoc {l : List Int} {x : Int} (h : l.Nodup) (hx : l.contains x = false) : (l ++ [x]).Nodup := by
  refine List.nodup_append.2 ⟨h, by simp, fun a ha b hb => ?_⟩
  rw [List.mem_singleton] at hb; subst hb
  intro e; subst e; simp at hx; exact hx ha
namespace Le
def adrs (l : List Le) : List Int := l.map (·.addr)
theorem adrs_take {l : List Le} {i : Nat} (h : i < l.length) : adrs (l.take (i + 1)) = adrs (l.take i) ++ [(l.getD i dflt).addr] := by
  unfold adrs; rw [take_succ_getD l i dflt h]; simp
theorem sel_sub (b : Int) (l : List Le) : (sel b l).Sublist (adrs l) := (List.filter_sublist ..).map _
/-- How many of one's own are among the given. -/
def cnt (b : Int) (g : List Int) (l : List Le) : Nat := ((sel b l).filter fun x => g.contains x).length
theorem cnt_yes {b : Int} {g : List Int} {l : List Le} {i : Nat} (h : i < l.length) (hb : ((l.getD i dflt).bind == b) = true) (hg : g.contains (l.getD i dflt).addr = true) : cnt b g (l.take (i + 1)) = cnt b g (l.take i) + 1 := by
  unfold cnt; rw [sel_take h hb, List.filter_append, List.length_append]; simp [List.filter, hg] at hg ⊢; simp [hg]
theorem cnt_no {b : Int} {g : List Int} {l : List Le} {i : Nat} (h : i < l.length) (hb : ((l.getD i dflt).bind == b) = false ∨ g.contains (l.getD i dflt).addr = false) : cnt b g (l.take (i + 1)) = cnt b g (l.take i) := by
  unfold cnt
  by_cases e : ((l.getD i dflt).bind == b) = true
  · have hg := hb.resolve_left (by rw [e]; decide)
    rw [sel_take h e, List.filter_append, List.length_append]; simp at hg; simp [List.filter, hg]
  · rw [sel_take0 h (by simpa using e)]
theorem cnt_le (b : Int) (g : List Int) (l : List Le) : cnt b g l ≤ l.length := Nat.le_trans (List.length_filter_le _ _) (sel_le b l)
section
variable {b : Int} {l : List Le} {y s : Nat}
theorem chosen_is (hb : b = 0 ∨ b = 1) : ∃ k, chosen b l y s = (isort (sel b l)).drop k := by
  unfold chosen
  rcases hb with rfl | rfl
  · exact ⟨_, by rw [if_pos rfl]⟩
  · exact ⟨_, by rw [if_neg (by decide)]⟩
theorem chosen_up (hb : b = 0 ∨ b = 1) (hn : (adrs l).Nodup) : (chosen b l y s).Pairwise (· < ·) := by
  obtain ⟨k, hk⟩ := chosen_is (l := l) (y := y) (s := s) hb
  rw [hk]
  refine List.Pairwise.sublist (List.drop_sublist k _) ?_
  have h1 : (isort (sel b l)).Nodup := (isort_perm _).nodup_iff.2 ((sel_sub b l).nodup hn)
  have h2 := isort_up (sel b l)
  have := List.Pairwise.and h2 h1
  exact this.imp fun {x z} h => by have := h.1; have := h.2; omega
theorem chosen_nodup (hb : b = 0 ∨ b = 1) (hn : (adrs l).Nodup) : (chosen b l y s).Nodup := (chosen_up hb hn).imp fun h => by omega
theorem chosen_lt (hb : b = 0 ∨ b = 1) (hn : (adrs l).Nodup) {i : Nat} (hi : i + 1 < (chosen b l y s).length) : (chosen b l y s).getD i 0 < (chosen b l y s).getD (i + 1) 0 := by
  have := List.pairwise_iff_getElem.1 (chosen_up (y := y) (s := s) hb hn) i (i + 1) (by omega) hi (by omega)
  simpa [List.getD_eq_getElem?_getD, List.getElem?_eq_getElem hi, List.getElem?_eq_getElem (show i < (chosen b l y s).length by omega)] using this
theorem chosen_new (hb : b = 0 ∨ b = 1) (hn : (adrs l).Nodup) {i : Nat} (hi : i < (chosen b l y s).length) : ¬ (chosen b l y s).getD i 0 ∈ (chosen b l y s).take i := by
  have h := chosen_nodup (y := y) (s := s) hb hn
  have h2 := (take_succ_getD (chosen b l y s) i 0 hi)
  have h3 : ((chosen b l y s).take (i + 1)).Nodup := (List.take_sublist _ _).nodup h
  rw [h2] at h3
  intro hc
  exact (List.nodup_append.1 h3).2.2 _ hc _ (List.mem_singleton_self _) rfl
theorem cnt_all (hb : b = 0 ∨ b = 1) (hn : (adrs l).Nodup) : cnt b (chosen b l y s) l = (chosen b l y s).length := by
  obtain ⟨k, hk⟩ := chosen_is (l := l) (y := y) (s := s) hb
  unfold cnt
  rw [((isort_perm (sel b l)).filter _).symm.length_eq, hk]
  have h1 : (isort (sel b l)).Nodup := (isort_perm _).nodup_iff.2 ((sel_sub b l).nodup hn)
  have h2 : isort (sel b l) = (isort (sel b l)).take k ++ (isort (sel b l)).drop k := (List.take_append_drop k _).symm
  generalize isort (sel b l) = o at *
  generalize o.take k = pre at *
  generalize o.drop k = g at *
  subst h2
  have h3 := List.nodup_append.1 h1
  rw [List.filter_append, List.filter_eq_nil_iff.2 (fun x hx => by simp; exact fun hg => h3.2.2 x hx x hg rfl), List.filter_eq_self.2 (fun x hx => by simpa using hx)]; simp
theorem chosen_max (hb : b = 0 ∨ b = 1) {i : Nat} (hi : i < l.length) (h1 : ((l.getD i dflt).bind == b) = true) (h2 : (chosen b l y s).contains (l.getD i dflt).addr = false) (h3 : 0 < (chosen b l y s).length) : (l.getD i dflt).addr ≤ (chosen b l y s).getD 0 0 := by
  obtain ⟨k, hk⟩ := chosen_is (l := l) (y := y) (s := s) hb
  have hm : (l.getD i dflt).addr ∈ isort (sel b l) := (isort_perm _).mem_iff.2 (by
    unfold sel
    refine List.mem_map.2 ⟨l.getD i dflt, List.mem_filter.2 ⟨?_, h1⟩, rfl⟩
    rw [List.getD_eq_getElem?_getD, List.getElem?_eq_getElem hi]; exact List.getElem_mem hi)
  have hu := isort_up (sel b l)
  rw [hk] at h2 h3 ⊢
  rw [← List.take_append_drop k (isort (sel b l))] at hm hu
  rcases List.mem_append.1 hm with hm | hm
  · refine (List.pairwise_append.1 hu).2.2 _ hm _ ?_
    rw [List.getD_eq_getElem?_getD, List.getElem?_eq_getElem h3]; exact List.getElem_mem h3
  · simp at h2; exact absurd hm h2
end
end Le
end Go.K
