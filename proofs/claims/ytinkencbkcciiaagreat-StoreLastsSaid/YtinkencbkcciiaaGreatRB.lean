/- The addresses of some ranges, one by one, in plain Lean.
Conditions: none; no program in sight. -/
import Derived.Test.YtinkencbkcciiaaGreatRA
set_option linter.unusedSimpArgs false
set_option linter.unusedVariables false
set_option linter.unusedSectionVars false
namespace Go.K
namespace Rg
def run (r : Rg) : List Int := (List.range (size r).toNat).map fun (i : Nat) => r.low + (i : Int)
def adr (l : List Rg) : List Int := l.flatMap run
theorem run_len (r : Rg) : (run r).length = (size r).toNat := by unfold run; simp
theorem adr_take {l : List Rg} {i : Nat} (h : i < l.length) : adr (l.take (i + 1)) = adr (l.take i) ++ run (l.getD i dflt) := by unfold adr; rw [take_succ_getD l i dflt h]; simp
theorem adr_len_take {l : List Rg} {i : Nat} (h : i < l.length) : (adr (l.take (i + 1))).length = (adr (l.take i)).length + (size (l.getD i dflt)).toNat := by rw [adr_take h,List.length_append,run_len]
theorem adr_cut (l : List Rg) (i : Nat) : adr l = adr (l.take i) ++ adr (l.drop i) := by unfold adr; rw [← List.flatMap_append,List.take_append_drop]
theorem adr_at {l : List Rg} {i j : Nat} (h : i < l.length) (hj : (j : Int) < size (l.getD i dflt)) : (adr (l.take i)).length + j < (adr l).length ∧ (adr l).getD ((adr (l.take i)).length + j) 0 = (l.getD i dflt).low + (j : Int) := by
  have hr : j < (run (l.getD i dflt)).length := by rw [run_len]; omega
  rw [adr_cut l (i + 1),adr_take h]
  refine ⟨by rw [List.length_append,List.length_append]; omega,?_⟩
  rw [List.getD_eq_getElem?_getD,List.getElem?_append_left (by rw [List.length_append]; omega),List.getElem?_append_right (by omega),show (adr (l.take i)).length + j - (adr (l.take i)).length = j by omega]
  unfold run
  rw [List.getElem?_map,List.getElem?_range (by omega)]; rfl
theorem adr_len_le : ∀ {l : List Rg},Oks l → (adr l).length ≤ 4294967296 * l.length
  | [],_ => by simp [adr]
  | r :: l,h => by
    have ih := adr_len_le (l := l) fun q hq => h q (List.mem_cons_of_mem _ hq)
    have hr := (h r (List.mem_cons_self ..)).all
    have e : adr (r :: l) = run r ++ adr l := by simp [adr]
    rw [e,List.length_append,run_len,List.length_cons]; unfold size; omega
def ix (as : List Int) : List (Int × Int) := (List.range as.length).map fun (i : Nat) => ((i : Int),as.getD i 0)
def iv (p : Int × Int) : List Value := [.int .i64 p.1,.int .u32 p.2]
theorem ix_len (as : List Int) : (ix as).length = as.length := by unfold ix; simp
theorem ix_at {as : List Int} {k : Nat} (h : k < as.length) : (ix as)[k]? = some ((k : Int),as.getD k 0) := by
  unfold ix; rw [List.getElem?_map,List.getElem?_range h]; rfl
theorem ix_take {as : List Int} {k : Nat} (h : k < as.length) : (ix as).take (k + 1) = (ix as).take k ++ [((k : Int),as.getD k 0)] := by
  rw [List.take_add_one,ix_at h]; rfl
theorem ix_mem {as : List Int} {k : Nat} (h : k < as.length) : ((k : Int),as.getD k 0) ∈ ix as := List.mem_of_getElem? (ix_at h)
theorem ix_full (as : List Int) : (ix as).take as.length = ix as := List.take_of_length_le (by rw [ix_len]; exact Nat.le_refl _)
theorem snoc_all {p : Int × Int → Prop} {xs : List (Int × Int)} {x : Int × Int} (h : ∀ q,q ∈ xs → p q) (hx : p x) : ∀ q,q ∈ xs ++ [x] → p q := fun q hq => by
  rcases List.mem_append.1 hq with hq | hq
  · exact h q hq
  · rw [List.mem_singleton] at hq; subst hq; exact hx
def at_ (as : List Int) (n : Int) : Int × Int := if 0 ≤ n ∧ n < as.length then (as.getD n.toNat 0,0) else (0,4)
theorem at_none {as : List Int} {n : Int} (h : ∀ p,p ∈ ix as → p.1 ≠ n) : at_ as n = (0,4) := by
  unfold at_
  by_cases hc : 0 ≤ n ∧ n < as.length
  · exfalso
    have := h _ (ix_mem (as := as) (k := n.toNat) (by omega))
    simp only at this; omega
  · rw [if_neg hc]
theorem snoc_inj {ys zs : List (Int × Int)} {p q : Int × Int} (h : ys ++ [p] = zs ++ [q]) : ys = zs ∧ p = q := by
  have := List.append_inj' h rfl
  exact ⟨this.1,by simpa using this.2⟩
theorem at_some {as : List Int} {n : Int} {xs ys : List (Int × Int)} {p : Int × Int} (hS : ∃ k,k < as.length ∧ xs = (ix as).take (k + 1)) (hx : xs = ys ++ [p]) (hp : p.1 = n) : at_ as n = (p.2,0) := by
  obtain ⟨k,hk,e⟩ := hS
  rw [ix_take hk,hx] at e
  obtain ⟨_,rfl⟩ := snoc_inj e
  simp only at hp; subst hp
  unfold at_; rw [if_pos ⟨by omega,by omega⟩]; rfl
end Rg
end Go.K
namespace Go.K
section
variable {C : Cx} {V : Vw} {H : Hp} {L : Sl} {ty : TypeId}
end
namespace Rg
def fg (n : Nat) : List UInt8 := if n < 10 then [UInt8.ofNat (48 + n)] else fg (n / 10) ++ fg (n % 10)
termination_by n
decreasing_by all_goals omega
def fgS (n : Nat) : ByteArray := ⟨(fg n).toArray⟩
def prt (m i : Nat) : Nat := m / 2 ^ (24 - 8 * i) % 256
def dot : ByteArray := ⟨#[46]⟩
def txtU (m : Nat) : Nat → ByteArray
  | 0 => ⟨#[]⟩
  | i + 1 => (if i > 0 then txtU m i ++ dot else txtU m i) ++ fgS (prt m i)
def txt (m : Nat) : ByteArray := txtU m 4
theorem nil_size : (⟨#[]⟩ : ByteArray).size = 0 := rfl
end Rg
end Go.K
namespace Go.K
namespace Rg
def l0 : List Rg := [⟨5,7⟩,⟨1,4⟩]
def l1 : List Rg := [⟨1,7⟩]
theorem mem_run {r : Rg} {a : Int} : a ∈ run r ↔ r.low ≤ a ∧ a ≤ r.high := by
  unfold run size
  simp only [List.mem_map,List.mem_range]
  constructor
  · rintro ⟨i,hi,rfl⟩; omega
  · intro h; exact ⟨(a - r.low).toNat,by omega,by omega⟩
theorem mem_adr {l : List Rg} {a : Int} : a ∈ adr l ↔ In l a := by
  unfold adr In
  simp only [List.mem_flatMap,mem_run]
theorem adr_up : ∀ {l : List Rg},Can l → (adr l).Pairwise (· < ·)
  | [],_ => List.Pairwise.nil
  | r :: l,h => by
    have h2 := List.pairwise_cons.1 h.2
    have e : adr (r :: l) = run r ++ adr l := by simp [adr]
    rw [e,List.pairwise_append]
    refine ⟨?_,adr_up ⟨fun q hq => h.1 q (List.mem_cons_of_mem _ hq),h2.2⟩,fun a ha b hb => ?_⟩
    · unfold run
      rw [List.pairwise_map]
      exact List.pairwise_lt_range.imp fun hh => by omega
    · obtain ⟨q,hq,q1,q2⟩ := mem_adr.1 hb
      have := h2.1 q hq
      have := mem_run.1 ha
      omega
theorem cnt_adr : ∀ {l : List Rg},(∀ r,r ∈ l → r.low ≤ r.high) → cnt l = ((adr l).length : Int)
  | [],_ => rfl
  | r :: l,h => by
    have ih := cnt_adr (l := l) fun q hq => h q (List.mem_cons_of_mem _ hq)
    have hr := h r (List.mem_cons_self ..)
    have e : adr (r :: l) = run r ++ adr l := by simp [adr]
    have e2 : cnt (r :: l) = size r + cnt l := by simp [cnt]
    rw [e,e2,ih,List.length_append,run_len]; unfold size; omega
theorem at_at {as : List Int} {i : Nat} (hi : i < as.length) : at_ as (i : Int) = (as.getD i 0,0) := by
  unfold at_; rw [if_pos ⟨by omega,by omega⟩]; rfl
theorem at_out {as : List Int} {n : Int} (h : n < 0 ∨ (as.length : Int) ≤ n) : at_ as n = (0,4) := by
  unfold at_; rw [if_neg (by omega)]
end Rg
end Go.K
