/- The times at which a client was promised an address, joined: as ranges are (lib R2), in plain Lean.
Conditions: none; no program in sight. -/
import Derived.Test.YtdmelfpdillddaaAA
import Derived.Test.YtdmelfpdillddaaRA
import Derived.Test.YtdmelfpdillddaaKB
set_option linter.unusedSimpArgs false
set_option linter.unusedVariables false
set_option linter.unusedSectionVars false
namespace Go.K
namespace Pr

/-- What a client was promised of an address, as it was told. -/
def mine (a : Int) (c : ByteArray) (l : List Pr) : List Rg := (l.filter (ec a c)).map fun p => ⟨p.from_, p.till⟩
def spans (a : Int) (c : ByteArray) (l : List Pr) : List Rg := Rg.can (mine a c l)
variable {a : Int} {c : ByteArray} {l : List Pr} {i : Nat}
theorem ec_right {p : Pr} (h : ec a c p = true) : right p = true := by unfold ec at h; simp only [Bool.and_eq_true] at h; exact h.2
theorem mine_ok {r : Rg} (h : r ∈ mine a c l) : r.low ≤ r.high ∧ 0 ≤ r.low ∧ r.high ≤ 1099511627776 := by
  obtain ⟨p, hp, rfl⟩ := List.mem_map.1 h
  have hr := ec_right (List.mem_filter.1 hp).2
  unfold right at hr
  rw [decide_eq_true_eq] at hr
  exact ⟨hr.2.2.2.2.2.1, hr.2.2.2.2.1, hr.2.2.2.2.2.2⟩
theorem mine_odd {r : Rg} (h : r ∈ mine a c l) : Rg.odd r = false := by have := (mine_ok h).1; unfold Rg.odd; rw [decide_eq_false_iff_not]; omega
theorem mine_yes (hi : i < l.length) (h : ec a c (l.getD i dflt) = true) : mine a c (l.take (i + 1)) = mine a c (l.take i) ++ [⟨(l.getD i dflt).from_, (l.getD i dflt).till⟩] := by
  unfold mine; rw [take_succ_getD l i dflt hi, List.filter_append, List.filter_cons_of_pos h, List.map_append]; rfl
theorem mine_no (hi : i < l.length) (h : ec a c (l.getD i dflt) = false) : mine a c (l.take (i + 1)) = mine a c (l.take i) := by
  unfold mine; rw [take_succ_getD l i dflt hi, List.filter_append, List.filter_cons_of_neg (by rw [h]; simp), List.filter_nil, List.append_nil]
theorem mine_le (a : Int) (c : ByteArray) (l : List Pr) : (mine a c l).length ≤ l.length := by unfold mine; rw [List.length_map]; exact List.length_filter_le _ _
theorem mine_mem (hi : i < l.length) (h : ec a c (l.getD i dflt) = true) : (⟨(l.getD i dflt).from_, (l.getD i dflt).till⟩ : Rg) ∈ mine a c l :=
  List.mem_map.2 ⟨_, List.mem_filter.2 ⟨by rw [List.getD_eq_getElem?_getD, List.getElem?_eq_getElem hi]; exact List.getElem_mem hi, h⟩, rfl⟩
theorem spans_spec : Rg.Can (spans a c l) ∧ ∀ t, Rg.In (spans a c l) t ↔ Rg.In (mine a c l) t := Rg.can_spec fun r h => mine_odd h
/-! the document's way: what is next, grown as far as it goes -/
/-- What was told so far: all up to a moment. -/
def Told (F o : List Rg) (from_ : Int) : Prop := Rg.Can o ∧ (∀ t, Rg.In o t ↔ Rg.In F t ∧ t ≤ from_) ∧ (∀ r, r ∈ o → r.high ≤ from_) ∧ (o = [] ∧ from_ = -1 ∨ ∀ r, r ∈ F → r.high ≤ from_ ∨ r.low > from_ + 1)
theorem told_nil {F : List Rg} (h : ∀ r, r ∈ F → 0 ≤ r.low) : Told F [] (-1) := by
  refine ⟨⟨fun r hr => absurd hr List.not_mem_nil, List.Pairwise.nil⟩, fun t => ⟨fun k => ?_, fun k => ?_⟩, fun r hr => absurd hr List.not_mem_nil, .inl ⟨rfl, rfl⟩⟩
  · obtain ⟨r, hr, _⟩ := k; exact absurd hr List.not_mem_nil
  · obtain ⟨⟨r, hr, h1, h2⟩, ht⟩ := k; have := h r hr; omega
theorem told_end {F o : List Rg} {f : Int} (h : Told F o f) (hF : ∀ r, r ∈ F → r.low ≤ r.high) (hn : ∀ r, r ∈ F → r.high ≤ f) {m : List Rg} (hm : Rg.Can m) (hi : ∀ t, Rg.In m t ↔ Rg.In F t) : o = m :=
  Rg.can_one h.1 hm fun t => by
    rw [h.2.1, hi]
    exact ⟨fun k => k.1, fun k => ⟨k, by obtain ⟨r, hr, h1, h2⟩ := k; have := hn r hr; omega⟩⟩
/-- It grows. -/
def Grown (F : List Rg) (next to : Int) : Prop := next ≤ to ∧ ∀ t, next ≤ t → t ≤ to → Rg.In F t
theorem grown_one {F : List Rg} {r : Rg} (hr : r ∈ F) (h : r.low ≤ r.high) : Grown F r.low r.low := ⟨Int.le_refl _, fun t h1 h2 => ⟨r, hr, by omega, by omega⟩⟩
theorem grown_more {F : List Rg} {next to : Int} {r : Rg} (h : Grown F next to) (hr : r ∈ F) (h1 : r.low ≤ to + 1) (h2 : r.high > to) : Grown F next r.high :=
  ⟨by have := h.1; omega, fun t k1 k2 => by
    by_cases k : t ≤ to
    · exact h.2 t k1 k
    · exact ⟨r, hr, by omega, k2⟩⟩
theorem told_more {F o : List Rg} {f next to : Int} (h : Told F o f) (hF : ∀ r, r ∈ F → r.low ≤ r.high) (h0 : ∀ r, r ∈ F → 0 ≤ r.low) (hx : ∃ r, r ∈ F ∧ r.high > f ∧ r.low = next) (hl : ∀ r, r ∈ F → r.high > f → next ≤ r.low) (hg : Grown F next to) (hs : ∀ r, r ∈ F → r.low ≤ to + 1 → r.high ≤ to) : Told F (o ++ [⟨next, to⟩]) to := by
  obtain ⟨hc, hin, hb, hgap⟩ := h
  obtain ⟨r0, hr0, hr1, hr2⟩ := hx
  have hnf : f < next := by
    rcases hgap with ⟨_, hf⟩ | hgap
    · have := h0 r0 hr0; omega
    · have := hgap r0 hr0; omega
  have hon : ∀ r, r ∈ o → r.high + 1 < next := fun r hr => by
    rcases hgap with ⟨ho, _⟩ | hgap
    · rw [ho] at hr; cases hr
    · have := hgap r0 hr0; have := hb r hr; omega
  have hto := hg.1
  refine ⟨⟨fun r hr => ?_, ?_⟩, fun t => ?_, fun r hr => ?_, .inr fun r hr => ?_⟩
  · rcases List.mem_append.1 hr with hr | hr
    · exact hc.1 r hr
    · obtain rfl := List.mem_singleton.1 hr; exact hto
  · refine List.pairwise_append.2 ⟨hc.2, List.pairwise_singleton .., fun r hr s hs => ?_⟩
    obtain rfl := List.mem_singleton.1 hs; exact hon r hr
  · constructor
    · rintro ⟨r, hr, k1, k2⟩
      rcases List.mem_append.1 hr with hr | hr
      · have := (hin t).1 ⟨r, hr, k1, k2⟩; exact ⟨this.1, by omega⟩
      · obtain rfl := List.mem_singleton.1 hr; exact ⟨hg.2 t k1 k2, k2⟩
    · rintro ⟨k, kt⟩
      by_cases e : t ≤ f
      · obtain ⟨r, hr, k1, k2⟩ := (hin t).2 ⟨k, e⟩
        exact ⟨r, List.mem_append_left _ hr, k1, k2⟩
      · obtain ⟨r, hr, k1, k2⟩ := k
        have := hl r hr (by omega)
        exact ⟨⟨next, to⟩, List.mem_append_right _ (List.mem_singleton.2 rfl), by show next ≤ t; omega, kt⟩
  · rcases List.mem_append.1 hr with hr | hr
    · have := hon r hr; omega
    · obtain rfl := List.mem_singleton.1 hr; exact Int.le_refl _
  · by_cases k : r.low ≤ to + 1
    · exact .inl (hs r hr k)
    · exact .inr (by omega)
/-! the measures of the document's loops: how many end later -/
def later (l : List Pr) (a : Int) (c : ByteArray) (f : Int) : Nat := ((mine a c l).filter fun r => decide (r.high > f)).length
theorem filter_less {α : Type} {p q : α → Bool} : ∀ {l : List α}, (∀ x, x ∈ l → p x = true → q x = true) → ∀ {x : α}, x ∈ l → p x = false → q x = true → (l.filter p).length < (l.filter q).length
  | y :: l, h, x, hx, h1, h2 => by
    have hle : ∀ {m : List α}, (∀ x, x ∈ m → p x = true → q x = true) → (m.filter p).length ≤ (m.filter q).length := fun {m} => by
      induction m with
      | nil => intro _; exact Nat.le_refl _
      | cons z m ih =>
        intro hm
        have i1 := ih fun x hx => hm x (List.mem_cons_of_mem _ hx)
        rw [List.filter_cons, List.filter_cons]
        split
        · rename_i hz; rw [if_pos (hm z (List.mem_cons_self ..) hz)]; simp only [List.length_cons]; omega
        · split
          · simp only [List.length_cons]; omega
          · exact i1
    rcases List.mem_cons.1 hx with rfl | hx
    · rw [List.filter_cons_of_neg (by rw [h1]; simp), List.filter_cons_of_pos h2]
      have := hle (m := l) fun y hy => h y (List.mem_cons_of_mem _ hy)
      simp only [List.length_cons]; omega
    · have := filter_less (fun y hy => h y (List.mem_cons_of_mem _ hy)) hx h1 h2
      rw [List.filter_cons, List.filter_cons]
      split
      · rename_i hz; rw [if_pos (h y (List.mem_cons_self ..) hz)]; simp only [List.length_cons]; omega
      · split
        · simp only [List.length_cons]; omega
        · exact this
theorem later_less {f g : Int} {r : Rg} (hfg : f ≤ g) (hr : r ∈ mine a c l) (h1 : r.high > f) (h2 : r.high ≤ g) : later l a c g < later l a c f :=
  filter_less (fun x _ h => by rw [decide_eq_true_eq] at h ⊢; omega) hr (by rw [decide_eq_false_iff_not]; omega) (by rw [decide_eq_true_eq]; exact h1)
end Pr
end Go.K

namespace Go.K
theorem nodup_perm {α : Type} : ∀ {l m : List α}, l.Nodup → m.Nodup → (∀ x, x ∈ l ↔ x ∈ m) → l.Perm m
  | [], m, _, _, h => by
    cases m with
    | nil => exact List.Perm.nil
    | cons y t => exact absurd ((h y).2 (List.mem_cons_self ..)) List.not_mem_nil
  | x :: l, m, h1, h2, h => by
    obtain ⟨s, t, rfl⟩ := List.append_of_mem ((h x).1 (List.mem_cons_self ..))
    have p : (s ++ x :: t).Perm (x :: (s ++ t)) := List.perm_middle
    have h3 := (p.nodup_iff).1 h2
    obtain ⟨k1, k2⟩ := List.nodup_cons.1 h1
    obtain ⟨k3, k4⟩ := List.nodup_cons.1 h3
    refine (List.Perm.cons x (nodup_perm k2 k4 fun y => ?_)).trans p.symm
    have hy := h y
    rw [p.mem_iff, List.mem_cons, List.mem_cons] at hy
    constructor
    · intro hm
      rcases hy.1 (.inr hm) with rfl | e
      · exact absurd hm k1
      · exact e
    · intro hm
      rcases hy.2 (.inr hm) with rfl | e
      · exact absurd hm k3
      · exact e
theorem nodup_le {α : Type} : ∀ {l m : List α}, l.Nodup → (∀ x, x ∈ l → x ∈ m) → l.length ≤ m.length
  | [], m, _, _ => Nat.zero_le _
  | x :: l, m, h1, h => by
    obtain ⟨s, t, rfl⟩ := List.append_of_mem (h x (List.mem_cons_self ..))
    obtain ⟨k1, k2⟩ := List.nodup_cons.1 h1
    have := nodup_le (m := s ++ t) k2 fun y hy => by
      have := h y (List.mem_cons_of_mem _ hy)
      rw [List.mem_append, List.mem_cons] at this
      rw [List.mem_append]
      rcases this with e | rfl | e
      · exact .inl e
      · exact absurd hy k1
      · exact .inr e
    simp only [List.length_append, List.length_cons] at this ⊢; omega
namespace Pr
theorem add1_nodup {l : List Int} (h : l.Nodup) (k : Int) : (add1 l k).Nodup := by
  unfold add1; split
  · exact h
  · rename_i hc
    refine (List.perm_append_comm (l₁ := [k])).nodup_iff.1 (List.nodup_cons.2 ⟨?_, h⟩)
    simpa using hc
theorem dd_nodup (l : List Int) : (dd l).Nodup := by
  have : ∀ (l acc : List Int), acc.Nodup → (l.foldl add1 acc).Nodup := fun l => by
    induction l with
    | nil => intro acc h; exact h
    | cons y l ih => intro acc h; exact ih _ (add1_nodup h y)
  exact this l [] List.nodup_nil
theorem held_nodup (l : List Pr) (t : Int) : (held l t).Nodup := (isort_perm _).nodup_iff.2 (dd_nodup _)
theorem held_ext {l m : List Pr} {t s : Int} (h : ∀ a, (∃ q, q ∈ l ∧ holds q t = true ∧ q.addr = a) ↔ ∃ q, q ∈ m ∧ holds q s = true ∧ q.addr = a) : held l t = held m s :=
  up_unique (held_up l t) (held_up m s) (nodup_perm (held_nodup l t) (held_nodup m s) fun a => by rw [held_mem, held_mem]; exact h a)
theorem held_perm {l m : List Pr} (p : l.Perm m) (t : Int) : held l t = held m t := held_ext fun a => by simp only [p.mem_iff]
theorem many_perm {l m : List Pr} (p : l.Perm m) : many l = many m := funext fun t => by unfold many; rw [held_perm p]
theorem peak_best (l : List Pr) : Best l (frs l) (peak l) := by
  rw [← peak_b]; exact best_b (frs l) [] (0, 0) (fun t h => many_one h) (.inl ⟨rfl, rfl⟩)
/-- The order plays no part. -/
theorem peak_perm {l m : List Pr} (p : l.Perm m) : peak l = peak m := by
  have h := peak_best l
  unfold Best at h
  rw [many_perm p] at h
  exact best_one (l := m) h (peak_best m) ((p.filter _).map _)
theorem many_more (l : List Pr) (p : Pr) (t : Int) : many l t ≤ many (l ++ [p]) t := by
  have := nodup_le (m := held (l ++ [p]) t) (held_nodup l t) fun x hx => by
    obtain ⟨q, h1, h2⟩ := held_mem.1 hx
    exact held_mem.2 ⟨q, List.mem_append_left _ h1, h2⟩
  unfold many; omega
/-- A promise more makes no peak less. -/
theorem peak_more (l : List Pr) (p : Pr) : (peak l).1 ≤ (peak (l ++ [p])).1 := by
  have hm := peak_best (l ++ [p])
  have h0 : ∀ z, Best (l ++ [p]) (frs (l ++ [p])) z → 0 ≤ z.1 := fun z hz => by
    rcases hz with ⟨_, rfl⟩ | ⟨_, h, _⟩
    · exact Int.le_refl _
    · have := many_le (l ++ [p]) z.2; omega
  rcases peak_best l with ⟨_, h⟩ | ⟨h1, h2, _⟩
  · rw [h]; exact h0 _ hm
  · have hin : (peak l).2 ∈ frs (l ++ [p]) := by
      unfold frs at h1 ⊢
      rw [List.filter_append, List.map_append]; exact List.mem_append_left _ h1
    have hle := many_more l p (peak l).2
    rcases hm with ⟨h, _⟩ | ⟨_, _, h3⟩
    · rw [h] at hin; cases hin
    · have := h3 _ hin; omega
/-! an end -/
variable {a now t : Int} {c d : ByteArray} {l : List Pr} {p q : Pr}
theorem e1_cases (h : q ∈ e1 a c now p) : ec a c p = true ∧ p.from_ ≤ now ∧ q = ⟨p.srv, p.addr, p.client, p.from_, min p.till now⟩ ∨ ec a c p = false ∧ q = p := by
  cases hc : ec a c p with
  | false => rw [e1_keep hc] at h; exact .inr ⟨rfl, List.mem_singleton.1 h⟩
  | true =>
    by_cases hn : p.from_ > now
    · rw [e1_skip hc hn] at h; cases h
    · rw [e1_cut hc hn] at h; exact .inl ⟨rfl, by omega, List.mem_singleton.1 h⟩
theorem e1_again (h : q ∈ e1 a c now p) : e1 a c now q = [q] := by
  rcases e1_cases h with ⟨_, h2, rfl⟩ | ⟨h1, rfl⟩
  · cases hc : ec a c ⟨p.srv, p.addr, p.client, p.from_, min p.till now⟩ with
    | false => rw [e1_keep hc]
    | true =>
      rw [e1_cut hc (show ¬ p.from_ > now by omega)]
      show [(⟨p.srv, p.addr, p.client, p.from_, min (min p.till now) now⟩ : Pr)] = _
      rw [show min (min p.till now) now = min p.till now by omega]
  · rw [e1_keep h1]
theorem endd_again (a : Int) (c : ByteArray) (now : Int) (l : List Pr) : endd a c now (endd a c now l) = endd a c now l := by
  have : ∀ m : List Pr, (∀ q, q ∈ m → e1 a c now q = [q]) → endd a c now m = m := fun m => by
    induction m with
    | nil => intro _; rfl
    | cons q m ih =>
      intro h
      unfold endd at ih ⊢
      rw [List.flatMap_cons, h q (List.mem_cons_self ..), ih fun z hz => h z (List.mem_cons_of_mem _ hz)]; rfl
  refine this _ fun q hq => ?_
  obtain ⟨p, _, hp⟩ := List.mem_flatMap.1 hq
  exact e1_again hp
theorem e1_holds {x : Int} (ht : t ≤ now) : (∃ q, q ∈ e1 a c now p ∧ holds q t = true ∧ q.addr = x) ↔ (holds p t = true ∧ p.addr = x) := by
  cases hc : ec a c p with
  | false => rw [e1_keep hc]; simp
  | true =>
    by_cases hn : p.from_ > now
    · rw [e1_skip hc hn]
      constructor
      · rintro ⟨q, hq, _⟩; cases hq
      · rintro ⟨h, _⟩
        unfold holds at h; simp only [Bool.and_eq_true, decide_eq_true_eq] at h; omega
    · rw [e1_cut hc hn]
      simp only [List.mem_singleton, exists_eq_left]
      have e : holds ⟨p.srv, p.addr, p.client, p.from_, min p.till now⟩ t = holds p t := by
        have hr := ec_right hc
        unfold right at hr; rw [decide_eq_true_eq] at hr
        rw [Bool.eq_iff_iff]
        unfold holds right
        simp only [Bool.and_eq_true, decide_eq_true_eq]
        omega
      rw [e]
theorem held_endd (ht : t ≤ now) : held l t = held (endd a c now l) t := held_ext fun x => by
  unfold endd
  simp only [List.mem_flatMap]
  constructor
  · rintro ⟨p, hp, h⟩
    obtain ⟨q, hq, k⟩ := (e1_holds (a := a) (c := c) ht).2 h
    exact ⟨q, ⟨p, hp, hq⟩, k⟩
  · rintro ⟨q, ⟨p, hp, hq⟩, k⟩
    exact ⟨p, hp, (e1_holds (a := a) (c := c) ht).1 ⟨q, hq, k⟩⟩
theorem mine_endd (h : (d.toList == c.toList) = false) : mine a d l = mine a d (endd a c now l) := by
  induction l with
  | nil => rfl
  | cons p l ih =>
    have e : mine a d (p :: l) = mine a d [p] ++ mine a d l := by unfold mine; rw [show p :: l = [p] ++ l from rfl, List.filter_append, List.map_append]
    have e2 : mine a d (endd a c now (p :: l)) = mine a d (e1 a c now p) ++ mine a d (endd a c now l) := by unfold mine endd; rw [List.flatMap_cons, List.filter_append, List.map_append]
    rw [e, e2, ih]
    congr 1
    cases hc : ec a c p with
    | false => rw [e1_keep hc]
    | true =>
      have hcl : p.client.toList = c.toList := by unfold ec at hc; simp only [Bool.and_eq_true, beq_iff_eq] at hc; exact hc.1.2
      have hne : ∀ q : Pr, q.client = p.client → ec a d q = false := fun q hq => by
        unfold ec; rw [hq, hcl]
        have : (c.toList == d.toList) = false := by rw [beq_eq_false_iff_ne] at h ⊢; exact fun e => h e.symm
        rw [this, Bool.and_false, Bool.false_and]
      have hnil : ∀ m : List Pr, (∀ q, q ∈ m → q.client = p.client) → mine a d m = [] := fun m hm => by
        unfold mine; rw [List.filter_eq_nil_iff.2 fun q hq => by rw [hne q (hm q hq)]; simp]; rfl
      rw [hnil [p] fun q hq => by rw [List.mem_singleton.1 hq], hnil _ fun q hq => by
        rcases e1_cases hq with ⟨_, _, rfl⟩ | ⟨_, rfl⟩ <;> rfl]
theorem spans_endd (h : (d.toList == c.toList) = false) : spans a d l = spans a d (endd a c now l) := by unfold spans; rw [← mine_endd h]
/-- Behind an end nothing of that client and address is promised later. -/
theorem spans_over {r : Rg} (h : r ∈ spans a c (endd a c now l)) : r.high ≤ now := by
  have hc := (spans_spec (a := a) (c := c) (l := endd a c now l))
  have hlh := hc.1.1 r h
  obtain ⟨s, hs, k1, k2⟩ := (hc.2 r.high).1 ⟨r, h, hlh, Int.le_refl _⟩
  obtain ⟨q, hq, rfl⟩ := List.mem_map.1 hs
  obtain ⟨h1, h2⟩ := List.mem_filter.1 hq
  obtain ⟨p, _, hp⟩ := List.mem_flatMap.1 h1
  rcases e1_cases hp with ⟨_, _, rfl⟩ | ⟨h3, rfl⟩
  · have k2 : r.high ≤ min p.till now := k2; omega
  · rw [h3] at h2; cases h2
/-! apart -/
/-- Two spans meet: then two promises clash. -/
theorem spans_clash {a : Int} {x y : Rg} (hcd : (c.toList == d.toList) = false) (hx : x ∈ spans a c l) (hy : y ∈ spans a d l) (h1 : x.low ≤ y.high) (h2 : y.low ≤ x.high) : ∃ p q, p ∈ l ∧ q ∈ l ∧ clash p q = true ∧ clash q p = true := by
  have sx := (spans_spec (a := a) (c := c) (l := l))
  have sy := (spans_spec (a := a) (c := d) (l := l))
  have lx := sx.1.1 x hx
  have ly := sy.1.1 y hy
  obtain ⟨r, hr, r1, r2⟩ := (sx.2 (max x.low y.low)).1 ⟨x, hx, by omega, by omega⟩
  obtain ⟨s, hs, s1, s2⟩ := (sy.2 (max x.low y.low)).1 ⟨y, hy, by omega, by omega⟩
  obtain ⟨p, hp, rfl⟩ := List.mem_map.1 hr
  obtain ⟨q, hq, rfl⟩ := List.mem_map.1 hs
  obtain ⟨p1, p2⟩ := List.mem_filter.1 hp
  obtain ⟨q1, q2⟩ := List.mem_filter.1 hq
  have r1 : p.from_ ≤ max x.low y.low := r1
  have r2 : max x.low y.low ≤ p.till := r2
  have s1 : q.from_ ≤ max x.low y.low := s1
  have s2 : max x.low y.low ≤ q.till := s2
  unfold ec at p2 q2
  simp only [Bool.and_eq_true, beq_iff_eq] at p2 q2
  have hne : (p.client.toList == q.client.toList) = false := by rw [p2.1.2, q2.1.2]; exact hcd
  have hne2 : (q.client.toList == p.client.toList) = false := by rw [beq_eq_false_iff_ne] at hne ⊢; exact fun e => hne e.symm
  refine ⟨p, q, p1, q1, ?_, ?_⟩
  · unfold clash meet
    rw [p2.2, q2.2, hne, p2.1.1, q2.1.1]; simp; omega
  · unfold clash meet
    rw [p2.2, q2.2, hne2, p2.1.1, q2.1.1]; simp; omega
/-- Two promises clash: then spans meet. -/
theorem clash_spans {p q : Pr} (hp : p ∈ l) (hq : q ∈ l) (h : clash p q = true) : ∃ x y, x ∈ spans p.addr p.client l ∧ y ∈ spans q.addr q.client l ∧ x.low ≤ y.high ∧ y.low ≤ x.high := by
  unfold clash meet at h
  simp only [Bool.and_eq_true, decide_eq_true_eq, beq_iff_eq] at h
  obtain ⟨⟨_, _⟩, ⟨hp2, hq2⟩, hm⟩ := h
  have sx := (spans_spec (a := p.addr) (c := p.client) (l := l))
  have sy := (spans_spec (a := q.addr) (c := q.client) (l := l))
  have lp := right_le hp2
  have lq := right_le hq2
  have mem : ∀ z : Pr, z ∈ l → right z = true → (⟨z.from_, z.till⟩ : Rg) ∈ mine z.addr z.client l := fun z hz hr => List.mem_map.2 ⟨z, List.mem_filter.2 ⟨hz, by unfold ec; simp [hr]⟩, rfl⟩
  obtain ⟨x, hx, x1, x2⟩ := (sx.2 (max p.from_ q.from_)).2 ⟨_, mem p hp hp2, by show p.from_ ≤ _; omega, by show _ ≤ p.till; omega⟩
  obtain ⟨y, hy, y1, y2⟩ := (sy.2 (max p.from_ q.from_)).2 ⟨_, mem q hq hq2, by show q.from_ ≤ _; omega, by show _ ≤ q.till; omega⟩
  exact ⟨x, y, hx, hy, by omega, by omega⟩
end Pr
end Go.K

namespace Go.K
namespace Rg
def sp2 (r : Rg) : List Value := [.int .i64 r.low, .int .i64 r.high]
theorem sp2_enc : Enc sp2 2 := ⟨fun _ => rfl, fun _ => rfl⟩
theorem sp2_len (r : Rg) : r.sp2.length = 2 := rfl
def yp (r : Rg) : List Value := [.agg r.sp2.toArray]
end Rg
end Go.K

namespace Go.K
namespace Pr
variable {l : List Pr} {c d : ByteArray} {a : Int}
theorem at_mem {p : Pr} (h : p ∈ l) : ∃ i, i < l.length ∧ l.getD i dflt = p := by
  obtain ⟨i, hi, e⟩ := List.getElem_of_mem h
  exact ⟨i, hi, by rw [List.getD_eq_getElem?_getD, List.getElem?_eq_getElem hi]; exact e⟩
theorem mem_at {i : Nat} (h : i < l.length) : l.getD i dflt ∈ l := by
  rw [List.getD_eq_getElem?_getD, List.getElem?_eq_getElem h]; exact List.getElem_mem h
theorem clash_self (p : Pr) : clash p p = false := by unfold clash; simp
/-- Spans that meet: then there is a clash. -/
theorem met_first {x y : Rg} (hcd : (c.toList == d.toList) = false) (hx : x ∈ spans a c l) (hy : y ∈ spans a d l) (h1 : x.low ≤ y.high) (h2 : y.low ≤ x.high) {i j : Int} (h : First l i j) : 0 ≤ i := by
  rcases h with ⟨_, _, h⟩ | ⟨i', j', rfl, _⟩
  · obtain ⟨p, q, hp, hq, k1, k2⟩ := spans_clash hcd hx hy h1 h2
    obtain ⟨m, hm, rfl⟩ := at_mem hp
    obtain ⟨n, hn, rfl⟩ := at_mem hq
    rcases Nat.lt_trichotomy m n with e | e | e
    · have := h n hn m e; rw [k1] at this; cases this
    · subst e; rw [clash_self] at k1; cases k1
    · have := h m hm n e; rw [k2] at this; cases this
  · omega
/-- No spans meet: then there is no clash. -/
theorem apart_first (hn : ∀ k, k < l.length → ∀ m, m < k → (l.getD k dflt).addr = (l.getD m dflt).addr → ((l.getD k dflt).client.toList == (l.getD m dflt).client.toList) = false →
    ∀ x, x ∈ spans (l.getD k dflt).addr (l.getD k dflt).client l → ∀ y, y ∈ spans (l.getD m dflt).addr (l.getD m dflt).client l → ¬ (x.low ≤ y.high ∧ y.low ≤ x.high)) {i j : Int} (h : First l i j) : i < 0 := by
  rcases h with ⟨rfl, _, _⟩ | ⟨m, k, rfl, _, hmk, hk, hc, _⟩
  · omega
  · exfalso
    have hcc := hc
    unfold clash at hcc
    simp only [Bool.and_eq_true, beq_iff_eq, Bool.not_eq_true'] at hcc
    obtain ⟨x, y, hx, hy, h1, h2⟩ := clash_spans (mem_at (show m < l.length by omega)) (mem_at hk) hc
    refine hn k hk m hmk hcc.1.1.symm ?_ y hy x hx ⟨h2, h1⟩
    have := hcc.1.2
    rw [beq_eq_false_iff_ne] at this ⊢
    exact fun e => this e.symm
end Pr
end Go.K

namespace Go.K
namespace Rg
/-- A range that meets nothing of what is joined. -/
def Gap (l : List Rg) (r : Rg) : Prop := join l = [] ∨ ∃ o q, join l = o ++ [q] ∧ ¬ r.low ≤ q.high + 1
def Tm (l : List Rg) : Prop := ∀ r, r ∈ l → r.low ≤ r.high ∧ 0 ≤ r.low ∧ r.high ≤ 1099511627776
theorem Tm.perm {l m : List Rg} (h : Tm l) (p : m.Perm l) : Tm m := fun r hr => h r (p.mem_iff.1 hr)
theorem Tm.bd {l : List Rg} (h : Tm l) (i : Nat) : (l.getD i dflt).low ≤ (l.getD i dflt).high ∧ 0 ≤ (l.getD i dflt).low ∧ (l.getD i dflt).high ≤ 1099511627776 := by
  by_cases hi : i < l.length
  · exact h _ (by rw [List.getD_eq_getElem?_getD, List.getElem?_eq_getElem hi]; exact List.getElem_mem hi)
  · rw [List.getD_eq_getElem?_getD, List.getElem?_eq_none (by omega)]; exact ⟨by decide, by decide, by decide⟩
theorem Tm.odd {l : List Rg} (h : Tm l) : ∀ r, r ∈ l → Rg.odd r = false := fun r hr => by have := (h r hr).1; unfold Rg.odd; rw [decide_eq_false_iff_not]; omega
theorem gap_zero (l : List Rg) (r : Rg) : Gap (l.take 0) r := .inl rfl
theorem gap_up {l o : List Rg} {q r : Rg} (h : join l = o ++ [q]) (hr : ¬ r.low ≤ q.high + 1) : Gap l r := .inr ⟨o, q, h, hr⟩
theorem join_in {l : List Rg} {i : Nat} (hi : i < l.length) (h : Gap (l.take i) (l.getD i dflt)) : join (l.take (i + 1)) = join (l.take i) ++ [⟨(l.getD i dflt).low, (l.getD i dflt).high⟩] := by
  rw [take_succ_getD l i dflt hi]; exact join_new h
theorem join_on {l o : List Rg} {i : Nat} {lo hi : Int} (h0 : i < l.length) (h : join (l.take i) = o ++ [⟨lo, hi⟩]) (hq : (l.getD i dflt).low ≤ hi + 1) : join (l.take (i + 1)) = o ++ [⟨lo, max hi (l.getD i dflt).high⟩] := by
  rw [take_succ_getD l i dflt h0]; exact join_up h hq
theorem join_take_len {l o : List Rg} {r : Rg} {i : Nat} (hi : i ≤ l.length) (h : join (l.take i) = o ++ [r]) : o.length < l.length := by
  have := join_len (l.take i); rw [h, List.length_append, List.length_singleton, List.length_take] at this; omega
end Rg
namespace Pr
variable {a : Int} {c : ByteArray} {l : List Pr} {i : Nat} {f n to : Int}
theorem mine_tm (a : Int) (c : ByteArray) (l : List Pr) : Rg.Tm (mine a c l) := fun r hr => mine_ok hr
/-- The least one that ends later. -/
def Nxt (F : List Rg) (f n : Int) : Prop := (n = -2 ∧ ∀ r, r ∈ F → r.high ≤ f) ∨ (∃ r, r ∈ F ∧ r.high > f ∧ r.low = n) ∧ ∀ r, r ∈ F → r.high > f → n ≤ r.low
theorem nxt_nil (f : Int) : Nxt [] f (-2) := .inl ⟨rfl, fun r h => absurd h List.not_mem_nil⟩
theorem nxt_mono {F : List Rg} {r : Rg} (h : Nxt F f n) (k : ¬ (r.high > f ∧ (n = -2 ∨ r.low < n))) : Nxt (F ++ [r]) f n := by
  rcases h with ⟨h1, h2⟩ | ⟨⟨q, h1, h2, h3⟩, h4⟩
  · refine .inl ⟨h1, fun s hs => ?_⟩
    rcases List.mem_append.1 hs with hs | hs
    · exact h2 s hs
    · obtain rfl := List.mem_singleton.1 hs; omega
  · refine .inr ⟨⟨q, List.mem_append_left _ h1, h2, h3⟩, fun s hs hf => ?_⟩
    rcases List.mem_append.1 hs with hs | hs
    · exact h4 s hs hf
    · obtain rfl := List.mem_singleton.1 hs; omega
theorem nxt_new {F : List Rg} {r : Rg} (h : Nxt F f n) (k : r.high > f) (k2 : n = -2 ∨ r.low < n) (h0 : ∀ r, r ∈ F → 0 ≤ r.low) : Nxt (F ++ [r]) f r.low := by
  refine .inr ⟨⟨r, List.mem_append_right _ (List.mem_singleton.2 rfl), k, rfl⟩, fun s hs hf => ?_⟩
  rcases List.mem_append.1 hs with hs | hs
  · rcases h with ⟨h1, h2⟩ | ⟨⟨q, h1, h2, h3⟩, h4⟩
    · have := h2 s hs; omega
    · have := h4 s hs hf; have := h0 q h1; omega
  · obtain rfl := List.mem_singleton.1 hs; exact Int.le_refl _
theorem nxt_yes (hi : i < l.length) (h : Nxt (mine a c (l.take i)) f n) (he : ec a c (l.getD i dflt) = true) (hh : (l.getD i dflt).till > f) (hn : n = -2 ∨ (l.getD i dflt).from_ < n) : Nxt (mine a c (l.take (i + 1))) f (l.getD i dflt).from_ := by
  rw [mine_yes hi he]; exact nxt_new h hh hn fun r hr => (mine_ok hr).2.1
theorem nxt_no (hi : i < l.length) (h : Nxt (mine a c (l.take i)) f n) (k : ec a c (l.getD i dflt) = false ∨ ¬ (l.getD i dflt).till > f ∨ (n ≠ -2 ∧ ¬ (l.getD i dflt).from_ < n)) : Nxt (mine a c (l.take (i + 1))) f n := by
  cases he : ec a c (l.getD i dflt) with
  | false => rw [mine_no hi he]; exact h
  | true =>
    rw [mine_yes hi he]
    refine nxt_mono h ?_
    rcases k with k | k | k
    · rw [k] at he; cases he
    · exact fun z => k z.1
    · rintro ⟨_, z | z⟩
      · exact k.1 z
      · exact k.2 z
/-- What grew as far as it goes. -/
def Full (F : List Rg) (to : Int) : Prop := ∀ r, r ∈ F → r.low ≤ to + 1 → r.high ≤ to
theorem full_nil (to : Int) : Full [] to := fun r h => absurd h List.not_mem_nil
theorem full_no (hi : i < l.length) (h : Full (mine a c (l.take i)) to) (k : ec a c (l.getD i dflt) = false ∨ ¬ (l.getD i dflt).from_ ≤ to + 1 ∨ ¬ (l.getD i dflt).till > to) : Full (mine a c (l.take (i + 1))) to := by
  cases he : ec a c (l.getD i dflt) with
  | false => rw [mine_no hi he]; exact h
  | true =>
    rw [mine_yes hi he]
    intro r hr hl
    rcases List.mem_append.1 hr with hr | hr
    · exact h r hr hl
    · obtain rfl := List.mem_singleton.1 hr
      dsimp only at hl ⊢
      rcases k with k | k | k
      · rw [k] at he; cases he
      · omega
      · omega
theorem grown_bd {F : List Rg} (h : Grown F n to) (hF : Rg.Tm F) : 0 ≤ to ∧ to ≤ 1099511627776 := by
  obtain ⟨r, hr, h1, h2⟩ := h.2 to h.1 (Int.le_refl _)
  have := hF r hr; omega
theorem nxt_grown (h : Nxt (mine a c l) f n) (hn : n ≠ -2) : Grown (mine a c l) n n := by
  rcases h with ⟨h, _⟩ | ⟨⟨r, hr, _, rfl⟩, _⟩
  · exact absurd h hn
  · exact grown_one hr (mine_ok hr).1
theorem grow_in (hi : i < l.length) (h : Grown (mine a c l) n to) (he : ec a c (l.getD i dflt) = true) (h1 : (l.getD i dflt).from_ ≤ to + 1) (h2 : (l.getD i dflt).till > to) : Grown (mine a c l) n (l.getD i dflt).till := grown_more h (mine_mem hi he) h1 h2
theorem later_in (hi : i < l.length) (he : ec a c (l.getD i dflt) = true) (h2 : (l.getD i dflt).till > to) : later l a c (l.getD i dflt).till < later l a c to := later_less (by omega) (mine_mem hi he) h2 (Int.le_refl _)
theorem later_all (l : List Pr) (a : Int) (c : ByteArray) (f : Int) : later l a c f ≤ l.length := Nat.le_trans (List.length_filter_le _ _) (mine_le a c l)
theorem later_told {o : List Rg} (h : Nxt (mine a c l) f n) (hn : n ≠ -2) (hg : Grown (mine a c l) n to) (hs : Full (mine a c l) to) (hk : o.length + later l a c f ≤ 60) (hf : f ≤ to) : later l a c to < later l a c f ∧ (o ++ [(⟨n, to⟩ : Rg)]).length + later l a c to ≤ 60 := by
  rcases h with ⟨h, _⟩ | ⟨⟨r, hr, h1, rfl⟩, _⟩
  · exact absurd h hn
  · have := later_less (l := l) (a := a) (c := c) (f := f) (g := to) hf hr h1 (hs r hr (by have := hg.1; omega))
    exact ⟨this, by rw [List.length_append, List.length_singleton]; omega⟩
theorem told_next {o : List Rg} (ht : Told (mine a c l) o f) (h : Nxt (mine a c l) f n) (hn : n ≠ -2) (hg : Grown (mine a c l) n to) (hs : Full (mine a c l) to) : Told (mine a c l) (o ++ [⟨n, to⟩]) to ∧ f ≤ to := by
  rcases h with ⟨h, _⟩ | ⟨hx, hl⟩
  · exact absurd h hn
  · refine ⟨told_more ht (fun r hr => (mine_ok hr).1) (fun r hr => (mine_ok hr).2.1) hx hl hg hs, ?_⟩
    obtain ⟨r, hr, h1, rfl⟩ := hx
    have := hs r hr (by have := hg.1; omega); omega
theorem told_all {o : List Rg} (ht : Told (mine a c l) o f) (h : Nxt (mine a c l) f n) (hn : n = -2) : o = spans a c l := by
  rcases h with ⟨_, h⟩ | ⟨⟨r, hr, _, rfl⟩, _⟩
  · exact told_end ht (fun r hr => (mine_ok hr).1) h spans_spec.1 spans_spec.2
  · have := (mine_ok hr).2.1; omega
/-- No spans of two promises' meet. -/
def Ap (l : List Pr) (k m : Nat) : Prop := (l.getD k dflt).addr = (l.getD m dflt).addr → ((l.getD k dflt).client.toList == (l.getD m dflt).client.toList) = false → ∀ x, x ∈ spans (l.getD k dflt).addr (l.getD k dflt).client l → ∀ y, y ∈ spans (l.getD m dflt).addr (l.getD m dflt).client l → ¬ (x.low ≤ y.high ∧ y.low ≤ x.high)
theorem rg_mem {xs : List Rg} {x : Rg} (h : x ∈ xs) : ∃ i, i < xs.length ∧ xs.getD i Rg.dflt = x := by
  obtain ⟨i, hi, e⟩ := List.getElem_of_mem h
  exact ⟨i, hi, by rw [List.getD_eq_getElem?_getD, List.getElem?_eq_getElem hi]; exact e⟩
theorem rg_at {xs : List Rg} {i : Nat} (h : i < xs.length) : xs.getD i Rg.dflt ∈ xs := by rw [List.getD_eq_getElem?_getD, List.getElem?_eq_getElem h]; exact List.getElem_mem h
def Mt (x y : Rg) : Prop := x.low ≤ y.high ∧ y.low ≤ x.high
theorem ap_all {k m : Nat} (h : ∀ p, p < (spans (l.getD k dflt).addr (l.getD k dflt).client l).length → ∀ q, q < (spans (l.getD m dflt).addr (l.getD m dflt).client l).length → ¬ Mt ((spans (l.getD k dflt).addr (l.getD k dflt).client l).getD p Rg.dflt) ((spans (l.getD m dflt).addr (l.getD m dflt).client l).getD q Rg.dflt)) : Ap l k m := fun _ _ x hx y hy => by
  obtain ⟨p, hp, rfl⟩ := rg_mem hx
  obtain ⟨q, hq, rfl⟩ := rg_mem hy
  exact h p hp q hq
theorem rev_drop {l : List Pr} {j : Nat} (h : j < l.length) : (l.drop j).reverse = (l.drop (j + 1)).reverse ++ [l.getD j dflt] := by
  rw [List.drop_eq_getElem_cons h, List.reverse_cons, List.getD_eq_getElem?_getD, List.getElem?_eq_getElem h]; rfl
theorem rev_more {l : List Pr} {x : Pr} : ((l ++ [x]).drop (l.length + 1)).reverse = [] := by rw [List.drop_of_length_le (by rw [List.length_append, List.length_singleton]; omega)]; rfl
theorem meas {x y : Nat} {g2 g1 : Bool} (h1 : g1 = true) (k : (g2 = false ∧ x = y) ∨ x < y) : 2 * x + g2.toNat < 2 * y + g1.toNat := by
  subst h1
  rcases k with ⟨rfl, rfl⟩ | k
  · simp
  · cases g2 <;> simp <;> omega
theorem later_step {P : Prop} {g : Bool} {t1 t2 t3 : Int} (h : (g = false ∧ t2 = t1 ∧ P) ∨ (g = true ∧ later l a c t2 < later l a c t1)) (k : later l a c t3 < later l a c t2) : later l a c t3 < later l a c t1 := by
  rcases h with ⟨_, rfl, _⟩ | ⟨_, h⟩
  · exact k
  · omega
theorem spans_len (a : Int) (c : ByteArray) (l : List Pr) : (spans a c l).length ≤ l.length := Nat.le_trans (Rg.can_len _) (mine_le a c l)
end Pr
end Go.K
