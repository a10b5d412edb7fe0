/- What the reference's pool asks of plain lists.
Conditions: none; no program in sight. -/
import Derived.Test.YtinkencbkcciiaaGreatRB
set_option linter.unusedSimpArgs false
set_option linter.unusedVariables false
set_option linter.unusedSectionVars false
namespace Go.K
namespace Rg
theorem in_take {l : List Rg} {i : Nat} {a : Int} (h : In (l.take i) a) : ∃ j,j < i ∧ j < l.length ∧ (l.getD j dflt).low ≤ a ∧ a ≤ (l.getD j dflt).high := by
  obtain ⟨r,hr,h1,h2⟩ := h
  obtain ⟨j,hj,rfl⟩ := List.mem_iff_getElem.1 hr
  rw [List.length_take] at hj
  rw [List.getElem_take] at h1 h2
  refine ⟨j,by omega,by omega,?_⟩
  rw [List.getD_eq_getElem?_getD,List.getElem?_eq_getElem (by omega)]; exact ⟨h1,h2⟩
theorem at_at2 {l : List Rg} {i : Nat} {n : Int} (hi : i < l.length) (h0 : 0 ≤ n - ((adr (l.take i)).length : Int)) (h1 : n - ((adr (l.take i)).length : Int) < size (l.getD i dflt)) :
    at_ (adr l) n = ((l.getD i dflt).low + (n - ((adr (l.take i)).length : Int)),0) := by
  have h := adr_at (l := l) (i := i) (j := (n - ((adr (l.take i)).length : Int)).toNat) hi (by omega)
  have e : (n : Int) = (((adr (l.take i)).length + (n - ((adr (l.take i)).length : Int)).toNat : Nat) : Int) := by omega
  rw [e,at_at h.1,h.2,← e]
  simp only [Prod.mk.injEq,and_true]; omega
def hasB (l : List Rg) (a : Int) : Bool := l.any fun r => decide (r.low ≤ a) && decide (a ≤ r.high)
theorem hasB_in {l : List Rg} {a : Int} : hasB l a = true ↔ In l a := by
  unfold hasB In; rw [List.any_eq_true]; simp only [Bool.and_eq_true,decide_eq_true_eq]
theorem hasB_no {l : List Rg} {a : Int} (h : ∀ j,j < l.length → ¬ ((l.getD j dflt).low ≤ a ∧ a ≤ (l.getD j dflt).high)) : hasB l a = false := by
  refine Bool.eq_false_iff.2 fun hc => ?_
  have := hasB_in.1 hc
  rw [← List.take_length (l := l)] at this
  obtain ⟨k,hk,_,hk2⟩ := in_take this
  exact h k hk hk2
theorem hasB_yes {l : List Rg} {a : Int} {j : Nat} (hj : j < l.length) (h1 : (l.getD j dflt).low ≤ a) (h2 : a ≤ (l.getD j dflt).high) : hasB l a = true := hasB_in.2 ⟨_,getD_mem' hj _,h1,h2⟩
def nxs (a best : Int) (r : Rg) : Int := if max r.low a ≤ r.high ∧ (best < 0 ∨ max r.low a < best) then max r.low a else best
def nx (l : List Rg) (a : Int) : Int := l.foldl (nxs a) (-1)
theorem nx_take {l : List Rg} {i : Nat} {a : Int} (h : i < l.length) : nx (l.take (i + 1)) a = nxs a (nx (l.take i) a) (l.getD i dflt) := by
  unfold nx; rw [take_succ_getD l i dflt h,List.foldl_append]; rfl
theorem nx_yes {a b : Int} {r : Rg} (h : max r.low a ≤ r.high) (k : b < 0 ∨ max r.low a < b) : nxs a b r = max r.low a := if_pos ⟨h,k⟩
theorem nx_no {a b : Int} {r : Rg} (h : ¬ max r.low a ≤ r.high ∨ ¬ (b < 0 ∨ max r.low a < b)) : nxs a b r = b := if_neg fun hc => h.elim (fun k => k hc.1) (fun k => k hc.2)
def NX (l : List Rg) (a n : Int) : Prop := (n = -1 ∧ ∀ x,a ≤ x → ¬ In l x) ∨ (a ≤ n ∧ In l n ∧ ∀ x,a ≤ x → x < n → ¬ In l x)
theorem nx_is {a : Int} (ha : 0 ≤ a) : ∀ (l m : List Rg) (b : Int),NX m a b → NX (m ++ l) a (l.foldl (nxs a) b)
  | [],m,b,h => by simpa using h
  | r :: l,m,b,h => by
    rw [List.foldl_cons,show m ++ r :: l = (m ++ [r]) ++ l by simp]
    refine nx_is ha l (m ++ [r]) _ ?_
    have hin : ∀ x,In (m ++ [r]) x ↔ In m x ∨ (r.low ≤ x ∧ x ≤ r.high) := fun x => by
      unfold In
      constructor
      · rintro ⟨q,hq,h1,h2⟩
        rcases List.mem_append.1 hq with hq | hq
        · exact .inl ⟨q,hq,h1,h2⟩
        · rw [List.mem_singleton] at hq; subst hq; exact .inr ⟨h1,h2⟩
      · rintro (⟨q,hq,h1,h2⟩ | h)
        · exact ⟨q,List.mem_append_left _ hq,h1,h2⟩
        · exact ⟨r,by simp,h⟩
    by_cases hc : max r.low a ≤ r.high ∧ (b < 0 ∨ max r.low a < b)
    · rw [show nxs a b r = max r.low a from if_pos hc]
      refine .inr ⟨by omega,(hin _).2 (.inr ⟨by omega,hc.1⟩),fun x hx hx2 hI => ?_⟩
      rcases (hin x).1 hI with hI | hI
      · rcases h with ⟨_,h⟩ | ⟨h1,h2,h3⟩
        · exact h x hx hI
        · exact h3 x hx (by omega) hI
      · omega
    · rw [show nxs a b r = b from if_neg hc]
      rcases h with ⟨h1,h⟩ | ⟨h1,h2,h3⟩
      · subst h1
        refine .inl ⟨rfl,fun x hx hI => ?_⟩
        rcases (hin x).1 hI with hI | hI
        · exact h x hx hI
        · exact hc ⟨by omega,.inl (by omega)⟩
      · refine .inr ⟨h1,(hin _).2 (.inl h2),fun x hx hx2 hI => ?_⟩
        rcases (hin x).1 hI with hI | hI
        · exact h3 x hx hx2 hI
        · by_cases h5 : max r.low a ≤ r.high
          · exact hc ⟨h5,.inr (by omega)⟩
          · omega
theorem nx_spec (l : List Rg) {a : Int} (ha : 0 ≤ a) : NX l a (nx l a) := by
  have := nx_is ha l [] (-1) (.inl ⟨rfl,fun x _ ⟨_,h,_⟩ => by cases h⟩)
  rw [List.nil_append] at this; exact this
theorem can_lt {C : List Rg} (h : Can C) {i j : Nat} (hij : i < j) (hj : j < C.length) : (C.getD i dflt).high + 1 < (C.getD j dflt).low := by
  rw [List.getD_eq_getElem?_getD,List.getD_eq_getElem?_getD,List.getElem?_eq_getElem (by omega),List.getElem?_eq_getElem hj]
  exact List.pairwise_iff_getElem.1 h.2 i j (by omega) hj hij
theorem can_lh {C : List Rg} (h : Can C) {i : Nat} (hi : i < C.length) : (C.getD i dflt).low ≤ (C.getD i dflt).high := h.1 _ (getD_mem' hi _)
theorem in_at {C : List Rg} {x : Int} (h : In C x) : ∃ j,j < C.length ∧ (C.getD j dflt).low ≤ x ∧ x ≤ (C.getD j dflt).high := by
  rw [← List.take_length (l := C)] at h
  obtain ⟨k,hk,_,hk2⟩ := in_take h
  exact ⟨k,hk,hk2⟩
theorem at_in {C : List Rg} {x : Int} {j : Nat} (h : j < C.length) (h1 : (C.getD j dflt).low ≤ x) (h2 : x ≤ (C.getD j dflt).high) : In C x := ⟨_,getD_mem' h _,h1,h2⟩
def lowk (C : List Rg) (k : Nat) : Int := if k < C.length then (C.getD k dflt).low else -1
theorem nx_low {l C : List Rg} (hC : Can C) (e : ∀ x,In C x ↔ In l x) {k : Nat} {a : Int} (ha : 0 ≤ a) (h1 : ∀ j,j < k → j < C.length → (C.getD j dflt).high < a) (h2 : k < C.length → a ≤ (C.getD k dflt).low) : nx l a = lowk C k := by
  have h := nx_spec l ha
  unfold lowk
  by_cases hk : k < C.length
  · rw [if_pos hk]
    have hl := can_lh hC hk
    have hin : In C (C.getD k dflt).low := at_in hk (by omega) hl
    rcases h with ⟨_,h⟩ | ⟨g1,g2,g3⟩
    · exact absurd ((e _).1 hin) (h _ (h2 hk))
    · have a1 : ¬ (C.getD k dflt).low < nx l a := fun hc => g3 _ (h2 hk) hc ((e _).1 hin)
      obtain ⟨j,hj,j1,j2⟩ := in_at ((e _).2 g2)
      by_cases hjk : j < k
      · have := h1 j hjk hj; omega
      · by_cases hjk2 : j = k
        · subst hjk2; omega
        · have := can_lt hC (i := k) (j := j) (by omega) hj; omega
  · rw [if_neg hk]
    rcases h with ⟨h,_⟩ | ⟨g1,g2,g3⟩
    · exact h
    · obtain ⟨j,hj,j1,j2⟩ := in_at ((e _).2 g2)
      have := h1 j (by omega) hj; omega
theorem nx_first {l C : List Rg} (hC : Can C) (e : ∀ x,In C x ↔ In l x) (ok : Oks C) : nx l 0 = lowk C 0 := nx_low hC e (Int.le_refl _) (fun j h => absurd h (Nat.not_lt_zero j)) (fun _ => (ok.bd 0).1)
theorem nx_next {l C : List Rg} (hC : Can C) (e : ∀ x,In C x ↔ In l x) (ok : Oks C) {k : Nat} (hk : k < C.length) : nx l ((C.getD k dflt).high + 1) = lowk C (k + 1) := by
  have := ok.bd k
  refine nx_low hC e (by omega) (fun j hj hj2 => ?_) (fun h => by have := can_lt hC (i := k) (j := k + 1) (by omega) h; omega)
  by_cases hjk : j = k
  · subst hjk; omega
  · have := can_lt hC (i := j) (j := k) (by omega) hk
    have := can_lh hC hk; omega
theorem has_inside {l C : List Rg} (e : ∀ x,In C x ↔ In l x) {k : Nat} {h : Int} (hk : k < C.length) (h1 : (C.getD k dflt).low ≤ h) (h2 : h < (C.getD k dflt).high) : hasB l (h + 1) = true := hasB_in.2 ((e _).1 (at_in hk (by omega) (by omega)))
theorem has_behind {l C : List Rg} (hC : Can C) (e : ∀ x,In C x ↔ In l x) {k : Nat} (hk : k < C.length) : hasB l ((C.getD k dflt).high + 1) = false := by
  refine Bool.eq_false_iff.2 fun hc => ?_
  obtain ⟨j,hj,j1,j2⟩ := in_at ((e _).2 (hasB_in.1 hc))
  have hl := can_lh hC hk
  by_cases h1 : j < k
  · have := can_lt hC h1 hk; omega
  · by_cases h2 : j = k
    · subst h2; omega
    · have := can_lt hC (i := k) (j := j) (by omega) hj; omega
theorem cnt_ge {C : List Rg} (hC : Can C) (k : Nat) : cnt (C.take k) ≤ cnt C := by
  have e : cnt C = cnt (C.take k) + cnt (C.drop k) := by
    rw [show cnt C = cnt (C.take k ++ C.drop k) from by rw [List.take_append_drop]]
    unfold cnt; rw [List.map_append,List.sum_append]
  have : ∀ l : List Rg,(∀ r,r ∈ l → r.low ≤ r.high) → 0 ≤ cnt l := fun l => by
    induction l with
    | nil => intro _; simp [cnt]
    | cons r l ih =>
                  intro h; have := ih fun q hq => h q (List.mem_cons_of_mem _ hq); have h0 := h r (List.mem_cons_self ..); have e : cnt (r :: l) = size r + cnt l := by simp [cnt]
                  rw [e]; unfold size; omega
  have := this (C.drop k) fun r hr => hC.1 r (List.mem_of_mem_drop hr)
  omega
theorem cnt_nn {C : List Rg} (hC : Can C) (k : Nat) : 0 ≤ cnt (C.take k) := by
  rw [cnt_adr (l := C.take k) fun r hr => hC.1 r (List.mem_of_mem_take hr)]; omega
theorem lowk_nn {C : List Rg} (ok : Oks C) (k : Nat) : (lowk C k ≥ 0 ∧ k < C.length ∧ lowk C k = (C.getD k dflt).low) ∨ (lowk C k = -1 ∧ ¬ k < C.length) := by
  unfold lowk
  by_cases h : k < C.length
  · rw [if_pos h]; exact .inl ⟨(ok.bd k).1,h,rfl⟩
  · rw [if_neg h]; exact .inr ⟨rfl,h⟩
theorem odd_at {l : List Rg} {i : Nat} (hi : i < l.length) (h : (l.getD i dflt).high < (l.getD i dflt).low) : l.any odd = true := List.any_eq_true.2 ⟨_,getD_mem' hi _,decide_eq_true h⟩
theorem odd_none {l : List Rg} (h : ∀ i,i < l.length → ¬ (l.getD i dflt).high < (l.getD i dflt).low) : l.any odd = false := by
  refine Bool.eq_false_iff.2 fun hc => ?_
  obtain ⟨r,hr,hb⟩ := List.any_eq_true.1 hc
  obtain ⟨j,hj,rfl⟩ := List.mem_iff_getElem.1 hr
  have := h j hj
  rw [List.getD_eq_getElem?_getD,List.getElem?_eq_getElem hj] at this
  exact this (of_decide_eq_true hb)
end Rg
end Go.K
namespace Go.K
namespace Rg
def s1 (x : Option (Nat × Nat)) (c : UInt8) : Option (Nat × Nat) := match x with
  | none => none
  | some (a,p) => if c.toNat = 46 then some ((a * 256 + p % 256) % 4294967296,0) else if c.toNat < 48 ∨ c.toNat > 57 ∨ p > 255 then none else some (a,p * 10 + (c.toNat - 48))
def f1 (L : List UInt8) : Option (Nat × Nat) := L.foldl s1 (some (0,0))
def s2 (x : Option (Nat × Nat)) (c : UInt8) : Option (Nat × Nat) := match x with
  | none => none
  | some (n,p) => match (if c.toNat = 46 then some (n * 256 + p,0) else if 48 ≤ c.toNat ∧ c.toNat ≤ 57 then some (n,p * 10 + (c.toNat - 48)) else none) with
    | none => none
    | some (n,p) => if p > 255 ∨ n > 4294967295 then none else some (n,p)
def f2 (L : List UInt8) : Option (Nat × Nat) := L.foldl s2 (some (0,0))
def ends (s : ByteArray) (x : Option Nat) : Int × Int := match x with
  | none => (0,2)
  | some a => if (txt a).toList == s.toList then ((a : Int),0) else (0,2)
def p1 (s : ByteArray) : Int × Int := if s.size > 15 then (0,2) else ends s ((f1 s.toList).map fun x => (x.1 * 256 + x.2 % 256) % 4294967296)
def p2 (s : ByteArray) : Int × Int := if s.size > 15 then (0,2) else ends s ((f2 s.toList).bind fun x => if x.1 * 256 + x.2 > 4294967295 then none else some (x.1 * 256 + x.2))
end Rg
end Go.K
