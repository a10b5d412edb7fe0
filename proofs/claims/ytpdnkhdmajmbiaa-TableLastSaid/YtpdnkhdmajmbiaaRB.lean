/- The addresses of some ranges, one by one, in plain Lean.
Conditions: none; no program in sight. -/
import Derived.Test.YtpdnkhdmajmbiaaRA
set_option linter.unusedSimpArgs false
set_option linter.unusedVariables false
set_option linter.unusedSectionVars false
namespace Go.K
namespace Rg
def run (r : Rg) : List Int := (List.range (size r).toNat).map fun (i : Nat) => r.low + (i : Int)
/-- The addresses of some ranges, in order. -/
def adr (l : List Rg) : List Int := l.flatMap run
theorem run_len (r : Rg) : (run r).length = (size r).toNat := by unfold run; simp
theorem adr_take {l : List Rg} {i : Nat} (h : i < l.length) : adr (l.take (i + 1)) = adr (l.take i) ++ run (l.getD i dflt) := by unfold adr; rw [take_succ_getD l i dflt h]; simp
theorem adr_len_take {l : List Rg} {i : Nat} (h : i < l.length) : (adr (l.take (i + 1))).length = (adr (l.take i)).length + (size (l.getD i dflt)).toNat := by rw [adr_take h, List.length_append, run_len]
theorem adr_cut (l : List Rg) (i : Nat) : adr l = adr (l.take i) ++ adr (l.drop i) := by unfold adr; rw [← List.flatMap_append, List.take_append_drop]
theorem adr_at {l : List Rg} {i j : Nat} (h : i < l.length) (hj : (j : Int) < size (l.getD i dflt)) : (adr (l.take i)).length + j < (adr l).length ∧ (adr l).getD ((adr (l.take i)).length + j) 0 = (l.getD i dflt).low + (j : Int) := by
  have hr : j < (run (l.getD i dflt)).length := by rw [run_len]; omega
  rw [adr_cut l (i + 1), adr_take h]
  refine ⟨by rw [List.length_append, List.length_append]; omega, ?_⟩
  rw [List.getD_eq_getElem?_getD, List.getElem?_append_left (by rw [List.length_append]; omega), List.getElem?_append_right (by omega), show (adr (l.take i)).length + j - (adr (l.take i)).length = j by omega]
  unfold run
  rw [List.getElem?_map, List.getElem?_range (by omega)]; rfl
theorem adr_len_le : ∀ {l : List Rg}, Oks l → (adr l).length ≤ 4294967296 * l.length
  | [], _ => by simp [adr]
  | r :: l, h => by
    have ih := adr_len_le (l := l) fun q hq => h q (List.mem_cons_of_mem _ hq)
    have hr := (h r (List.mem_cons_self ..)).all
    have e : adr (r :: l) = run r ++ adr l := by simp [adr]
    rw [e, List.length_append, run_len, List.length_cons]; unfold size; omega
/-- Numbered. -/
def ix (as : List Int) : List (Int × Int) := (List.range as.length).map fun (i : Nat) => ((i : Int), as.getD i 0)
def iv (p : Int × Int) : List Value := [.int .i64 p.1, .int .u32 p.2]
theorem ix_len (as : List Int) : (ix as).length = as.length := by unfold ix; simp
theorem ix_at {as : List Int} {k : Nat} (h : k < as.length) : (ix as)[k]? = some ((k : Int), as.getD k 0) := by
  unfold ix; rw [List.getElem?_map, List.getElem?_range h]; rfl
theorem ix_take {as : List Int} {k : Nat} (h : k < as.length) : (ix as).take (k + 1) = (ix as).take k ++ [((k : Int), as.getD k 0)] := by
  rw [List.take_add_one, ix_at h]; rfl
theorem ix_mem {as : List Int} {k : Nat} (h : k < as.length) : ((k : Int), as.getD k 0) ∈ ix as := List.mem_of_getElem? (ix_at h)
theorem ix_mem_take {as : List Int} {k j : Nat} (h : k < as.length) (hj : j < k) : ((j : Int), as.getD j 0) ∈ (ix as).take k := by
  refine List.mem_of_getElem? (i := j) ?_
  rw [List.getElem?_take_of_lt hj]; exact ix_at (by omega)
theorem ix_full (as : List Int) : (ix as).take as.length = ix as := List.take_of_length_le (by rw [ix_len]; exact Nat.le_refl _)
theorem snoc_all {p : Int × Int → Prop} {xs : List (Int × Int)} {x : Int × Int} (h : ∀ q, q ∈ xs → p q) (hx : p x) : ∀ q, q ∈ xs ++ [x] → p q := fun q hq => by
  rcases List.mem_append.1 hq with hq | hq
  · exact h q hq
  · rw [List.mem_singleton] at hq; subst hq; exact hx
/-- What At answers. -/
def at_ (as : List Int) (n : Int) : Int × Int := if 0 ≤ n ∧ n < as.length then (as.getD n.toNat 0, 0) else (0, 4)
theorem at_none {as : List Int} {n : Int} (h : ∀ p, p ∈ ix as → p.1 ≠ n) : at_ as n = (0, 4) := by
  unfold at_
  by_cases hc : 0 ≤ n ∧ n < as.length
  · exfalso
    have := h _ (ix_mem (as := as) (k := n.toNat) (by omega))
    simp only at this; omega
  · rw [if_neg hc]
theorem snoc_inj {ys zs : List (Int × Int)} {p q : Int × Int} (h : ys ++ [p] = zs ++ [q]) : ys = zs ∧ p = q := by
  have := List.append_inj' h rfl
  exact ⟨this.1, by simpa using this.2⟩
theorem at_some {as : List Int} {n : Int} {xs ys : List (Int × Int)} {p : Int × Int} (hS : ∃ k, k < as.length ∧ xs = (ix as).take (k + 1)) (hx : xs = ys ++ [p]) (hp : p.1 = n) : at_ as n = (p.2, 0) := by
  obtain ⟨k, hk, e⟩ := hS
  rw [ix_take hk, hx] at e
  obtain ⟨_, rfl⟩ := snoc_inj e
  simp only at hp; subst hp
  unfold at_; rw [if_pos ⟨by omega, by omega⟩]; rfl
/-- What Index answers. -/
def idx (as : List Int) (a : Int) : Int := ixf (fun b => b == a) as
theorem idx_none {as : List Int} {a : Int} (h : ∀ p, p ∈ ix as → p.2 ≠ a) : idx as a = -1 := by
  refine ixf_none (d := 0) fun j hj => ?_
  have := h _ (ix_mem hj)
  simpa using this
theorem idx_some {as : List Int} {a : Int} {xs ys : List (Int × Int)} {p : Int × Int} (hS : ∃ k, k < as.length ∧ xs = (ix as).take (k + 1)) (hx : xs = ys ++ [p]) (hn : ∀ q, q ∈ ys → q.2 ≠ a) (hp : p.2 = a) : idx as a = p.1 := by
  obtain ⟨k, hk, e⟩ := hS
  rw [ix_take hk, hx] at e
  obtain ⟨rfl, rfl⟩ := snoc_inj e
  refine ixf_at (d := 0) (fun j hj => ?_) hk (by simpa using hp)
  have := hn _ (ix_mem_take hk hj)
  simpa using this
theorem idx_bd (as : List Int) (a : Int) : -1 ≤ idx as a ∧ idx as a < as.length ∨ idx as a = -1 := by
  unfold idx
  rcases ixf_cases (fun b => b == a) as 0 with ⟨h, _⟩ | ⟨i, h, hi, _⟩
  · exact .inr h
  · exact .inl ⟨by omega, by omega⟩
end Rg
end Go.K

namespace Go.K
theorem and_low2 (n c d : Int) (j : Nat) (hj : j ≤ 62) (hc : c = ((2 ^ j - 1 : Nat) : Int)) (hd : d = ((2 ^ j : Nat) : Int)) : IntKind.i64.wrap ((BitVec.ofInt IntKind.i64.bits n &&& BitVec.ofInt IntKind.i64.bits c).toNat : Int) = n % d := by
  have hb : IntKind.i64.bits = 64 := rfl
  have hp : (2 : Nat) ^ j ≤ 2 ^ 62 := Nat.pow_le_pow_right (by decide) hj
  have hp0 : 0 < (2 : Nat) ^ j := Nat.two_pow_pos j
  rw [hb, BitVec.toNat_and, BitVec.toNat_ofInt, BitVec.toNat_ofInt, hc, hd]
  have e2 : (((2 ^ j - 1 : Nat) : Int) % ((2 ^ 64 : Nat) : Int)).toNat = 2 ^ j - 1 := by
    have : ((2 ^ 64 : Nat) : Int) = 18446744073709551616 := rfl
    rw [this]; omega
  rw [e2, Nat.and_two_pow_sub_one_eq_mod]
  have hm : (n % ((2 ^ 64 : Nat) : Int)).toNat % 2 ^ j < 2 ^ j := Nat.mod_lt _ hp0
  rw [wrap_i64 (by omega)]
  have hnn : 0 ≤ n % ((2 ^ 64 : Nat) : Int) := Int.emod_nonneg _ (by decide)
  rw [Int.natCast_emod, Int.toNat_of_nonneg hnn]
  refine Int.emod_emod_of_dvd n ?_
  exact Int.natCast_dvd_natCast.2 (Nat.pow_dvd_pow 2 (by omega))
section
variable {C : Cx} {V : Vw} {H : Hp} {L : Sl} {ty : TypeId}
theorem Y.sliceStr {x y z : Operand} {t : TypeId} {s : ByteArray} {l m : Nat} {k k' : IntKind} (hx : ev L x = some (.string s)) (hy : ev L y = some (.int k (l : Int))) (hz : ev L z = some (.int k' (m : Int))) (ht : strT C.P t = true) (h1 : l ≤ m) (h2 : m ≤ s.size) :
    Yl C V H L (.slice t x (some y) (some z) none) ty (.string (s.extract l m)) := (fun V2 a w hle i o ho hty => by
  have hu := under_str ht
  have hb : ∀ (q : Operand) (kk : IntKind) (z y : Nat) (cd : BoundsCode), ev L q = some (.int kk (z : Int)) → z ≤ y → (Instr.sliceBound (a.eval q) y cd).run C.P w = .ok z w := fun q kk z y cd hq hz => by
    simp only [Instr.sliceBound, i.1.ev hq, asIntOf, Sem.run_bind, Sem.run_pure, Result.andThen_ok, Sem.run_ite]
    rw [if_pos ⟨by omega, by omega⟩]
    simp
  have hbs : (Instr.sliceBounds false s.size s.size ((some y).map a.eval) ((some z).map a.eval) none).run C.P w = .ok (l, m, s.size) w := by
    simp [Instr.sliceBounds, hb z k' m s.size .sliceAlen hz h2, hb y k l m .sliceB hy h1]
  simp only [execOp, ho, i.1.ev hx, Instr.sliceAt, Sem.run_bind, run_underlying hu, Result.andThen_ok, Instr.slice, hbs, Option.map_none, Sem.run_pure, Option.isSome_none]
  simp only [Option.map_some] at hbs ⊢
  simp [hbs])
end
namespace Rg
def fg (n : Nat) : List UInt8 := if n < 10 then [UInt8.ofNat (48 + n)] else fg (n / 10) ++ fg (n % 10)
termination_by n
decreasing_by all_goals omega
theorem fg_lt {n : Nat} (h : n < 10) : fg n = [UInt8.ofNat (48 + n)] := by rw [fg, if_pos h]
theorem fg_ge {n : Nat} (h : ¬ n < 10) : fg n = fg (n / 10) ++ fg (n % 10) := by rw [fg, if_neg h]
theorem fg_len {n : Nat} (h : n ≤ 255) : (fg n).length ≤ 3 := by
  have one : ∀ k, k < 10 → (fg k).length = 1 := fun k hk => by rw [fg_lt hk]; rfl
  by_cases h1 : n < 10
  · rw [one n h1]; decide
  · rw [fg_ge h1, List.length_append, one (n % 10) (by omega)]
    by_cases h2 : n / 10 < 10
    · rw [one _ h2]; decide
    · rw [fg_ge h2, List.length_append, one (n / 10 / 10) (by omega), one (n / 10 % 10) (by omega)]; decide
/-- A number's figures. -/
def fgS (n : Nat) : ByteArray := ⟨(fg n).toArray⟩
theorem fgS_size {n : Nat} (h : n ≤ 255) : (fgS n).size ≤ 3 := by
  have := fg_len h
  show (fg n).toArray.size ≤ 3; simpa using this
theorem fgS_ge {n : Nat} (h : ¬ n < 10) : fgS (n / 10) ++ fgS (n % 10) = fgS n := by
  apply ByteArray.ext
  rw [ByteArray.data_append]; unfold fgS; rw [fg_ge h]; simp
def ten : ByteArray := ⟨#[48, 49, 50, 51, 52, 53, 54, 55, 56, 57]⟩
theorem ten_all : ((List.range 10).all fun n => decide ((ten.extract n (n + 1)).data.toList = [UInt8.ofNat (48 + n)])) = true := by decide +kernel
theorem ten_at {n : Nat} (h : n < 10) : ten.extract n (n + 1) = fgS n := by
  have := of_decide_eq_true (List.all_eq_true.1 ten_all n (List.mem_range.2 h))
  apply ByteArray.ext
  unfold fgS; rw [fg_lt h, ← this]
def prt (m i : Nat) : Nat := m / 2 ^ (24 - 8 * i) % 256
theorem prt_le (m i : Nat) : prt m i ≤ 255 := by unfold prt; omega
def dot : ByteArray := ⟨#[46]⟩
/-- The text of the first parts of an address. -/
def txtU (m : Nat) : Nat → ByteArray
  | 0 => ⟨#[]⟩
  | i + 1 => (if i > 0 then txtU m i ++ dot else txtU m i) ++ fgS (prt m i)
def txt (m : Nat) : ByteArray := txtU m 4
theorem dot_size : dot.size = 1 := rfl
theorem nil_size : (⟨#[]⟩ : ByteArray).size = 0 := rfl
theorem txtU_size (m : Nat) : ∀ i, (txtU m i).size ≤ 4 * i
  | 0 => by simp [txtU, nil_size]
  | i + 1 => by
    have ih := txtU_size m i
    have hf := fgS_size (prt_le m i)
    unfold txtU
    split <;> simp only [ByteArray.size_append, dot_size] <;> omega
theorem txtU_dot {m i : Nat} (h : 0 < i) : txtU m (i + 1) = txtU m i ++ dot ++ fgS (prt m i) := by rw [txtU, if_pos h]
theorem txtU_no {m : Nat} : txtU m 1 = txtU m 0 ++ fgS (prt m 0) := by
  show (if 0 > 0 then txtU m 0 ++ dot else txtU m 0) ++ fgS (prt m 0) = _
  rw [if_neg (by decide)]
theorem shr_part {i : Nat} (h : i < 4) : (2 : Int) ^ min (24 - 8 * (i : Int)).toNat IntKind.u32.bits = ((2 ^ (24 - 8 * i) : Nat) : Int) := by
  have : i = 0 ∨ i = 1 ∨ i = 2 ∨ i = 3 := by omega
  rcases this with rfl | rfl | rfl | rfl <;> decide
theorem and_part (m i : Nat) : intRes .and .i64 ((m / 2 ^ (24 - 8 * i) : Nat) : Int) 255 = some (.int .i64 ((prt m i : Nat) : Int)) := by
  simp only [intRes]
  rw [and_low2 _ 255 256 8 (by decide) rfl rfl]
  rfl
theorem part_bd {m : Nat} (h : m ≤ 4294967295) (i : Nat) : m / 2 ^ (24 - 8 * i) ≤ 4294967295 := Nat.le_trans (Nat.div_le_self _ _) h
end Rg
end Go.K

namespace Go.K
namespace Rg
def l0 : List Rg := [⟨5, 7⟩, ⟨1, 4⟩]
def l1 : List Rg := [⟨1, 7⟩]
theorem pool0 : pool l0 = (l1, 0) := by decide +kernel
theorem l0_ok : Oks l0 := fun r hr => by simp [l0] at hr; rcases hr with rfl | rfl <;> exact ⟨by decide, by decide, by decide, by decide⟩
theorem l1_ok : Oks l1 := fun r hr => by simp [l1] at hr; subst hr; exact ⟨by decide, by decide, by decide, by decide⟩
theorem idx1 : idx (adr l1) 3 = 2 := by decide +kernel
theorem any_same {l m : List Rg} (h : ∀ r, r ∈ m ↔ r ∈ l) (p : Rg → Bool) : m.any p = l.any p := by
  rw [Bool.eq_iff_iff, List.any_eq_true, List.any_eq_true]
  exact ⟨fun ⟨r, a, b⟩ => ⟨r, (h r).1 a, b⟩, fun ⟨r, a, b⟩ => ⟨r, (h r).2 a, b⟩⟩
theorem can_same {l m : List Rg} (h : ∀ r, r ∈ m ↔ r ∈ l) (o : l.any odd = false) : can m = can l := by
  have a := can_spec (odd_all (l := m) (by rw [any_same h]; exact o))
  have b := can_spec (odd_all o)
  exact can_one a.1 b.1 fun x => (a.2 x).trans (Iff.trans ⟨fun ⟨r, p, q⟩ => ⟨r, (h r).1 p, q⟩, fun ⟨r, p, q⟩ => ⟨r, (h r).2 p, q⟩⟩ (b.2 x).symm)
/-- A pool asks only what its ranges are. -/
theorem pool_same {l m : List Rg} (h : ∀ r, r ∈ m ↔ r ∈ l) : pool m = pool l := by
  cases o : l.any odd with
  | true => rw [pool_odd o, pool_odd (by rw [any_same h]; exact o)]
  | false =>
    have o2 : m.any odd = false := by rw [any_same h]; exact o
    by_cases c : cnt (can l) > 256
    · rw [pool_full o c, pool_full o2 (by rw [can_same h o]; exact c)]
    · rw [pool_ok o c, pool_ok o2 (by rw [can_same h o]; exact c), can_same h o]
theorem pool_cases (l : List Rg) : ((pool l).2 = 0 ∧ Can (pool l).1 ∧ cnt (pool l).1 ≤ 256) ∨ ((pool l).2 ≠ 0 ∧ (pool l).1 = []) := by
  cases o : l.any odd with
  | true => rw [pool_odd o]; exact .inr ⟨by decide, rfl⟩
  | false =>
    by_cases c : cnt (can l) > 256
    · rw [pool_full o c]; exact .inr ⟨by decide, rfl⟩
    · rw [pool_ok o c]; exact .inl ⟨rfl, (can_spec (odd_all o)).1, by show cnt (can l) ≤ 256; omega⟩
theorem can_idem {l : List Rg} (h : Can l) : l.any odd = false ∧ can l = l := by
  have o : ∀ r, r ∈ l → odd r = false := fun r hr => decide_eq_false (by have := h.1 r hr; omega)
  refine ⟨Bool.eq_false_iff.2 fun hc => ?_, can_one (can_spec o).1 h (can_spec o).2⟩
  obtain ⟨r, hr, hb⟩ := List.any_eq_true.1 hc
  rw [o r hr] at hb; cases hb
/-- A pool of a pool is that pool. -/
theorem pool_idem (l : List Rg) : pool (pool l).1 = ((pool l).1, 0) := by
  rcases pool_cases l with ⟨_, hc, hn⟩ | ⟨_, he⟩
  · have := can_idem hc
    rw [pool_ok this.1 (by rw [this.2]; omega), this.2]
  · rw [he]; decide +kernel
theorem turned_same (l : List Rg) : ∀ r, r ∈ (((l ++ l.reverse).drop (l.length / 2)).take ((l ++ l.reverse).length - l.length / 2)) ↔ r ∈ l := fun r => by
  rw [List.take_of_length_le (by rw [List.length_drop]; exact Nat.le_refl _)]
  constructor
  · intro h
    have := List.mem_of_mem_drop h
    simpa using this
  · intro h
    rw [List.drop_append_of_le_length (by omega)]
    exact List.mem_append_right _ (by simpa using h)
theorem rev_take {l : List Rg} {k : Nat} (h : k < l.length) : l.reverse.take (k + 1) = l.reverse.take k ++ [l.getD (l.length - 1 - k) dflt] := by
  rw [take_succ_getD l.reverse k dflt (by simpa using h)]
  congr 2
  rw [List.getD_eq_getElem?_getD, List.getD_eq_getElem?_getD, List.getElem?_reverse h]
theorem mem_run {r : Rg} {a : Int} : a ∈ run r ↔ r.low ≤ a ∧ a ≤ r.high := by
  unfold run size
  simp only [List.mem_map, List.mem_range]
  constructor
  · rintro ⟨i, hi, rfl⟩; omega
  · intro h; exact ⟨(a - r.low).toNat, by omega, by omega⟩
theorem mem_adr {l : List Rg} {a : Int} : a ∈ adr l ↔ In l a := by
  unfold adr In
  simp only [List.mem_flatMap, mem_run]
theorem adr_up : ∀ {l : List Rg}, Can l → (adr l).Pairwise (· < ·)
  | [], _ => List.Pairwise.nil
  | r :: l, h => by
    have h2 := List.pairwise_cons.1 h.2
    have e : adr (r :: l) = run r ++ adr l := by simp [adr]
    rw [e, List.pairwise_append]
    refine ⟨?_, adr_up ⟨fun q hq => h.1 q (List.mem_cons_of_mem _ hq), h2.2⟩, fun a ha b hb => ?_⟩
    · unfold run
      rw [List.pairwise_map]
      exact List.pairwise_lt_range.imp fun hh => by omega
    · obtain ⟨q, hq, q1, q2⟩ := mem_adr.1 hb
      have := h2.1 q hq
      have := mem_run.1 ha
      omega
theorem cnt_adr : ∀ {l : List Rg}, (∀ r, r ∈ l → r.low ≤ r.high) → cnt l = ((adr l).length : Int)
  | [], _ => rfl
  | r :: l, h => by
    have ih := cnt_adr (l := l) fun q hq => h q (List.mem_cons_of_mem _ hq)
    have hr := h r (List.mem_cons_self ..)
    have e : adr (r :: l) = run r ++ adr l := by simp [adr]
    have e2 : cnt (r :: l) = size r + cnt l := by simp [cnt]
    rw [e, e2, ih, List.length_append, run_len]; unfold size; omega
theorem up_lt {as : List Int} (h : as.Pairwise (· < ·)) {i j : Nat} (hij : i < j) (hj : j < as.length) : as.getD i 0 < as.getD j 0 := by
  rw [List.getD_eq_getElem?_getD, List.getD_eq_getElem?_getD, List.getElem?_eq_getElem (by omega), List.getElem?_eq_getElem hj]
  exact List.pairwise_iff_getElem.1 h i j (by omega) hj hij
theorem idx_up {as : List Int} (h : as.Pairwise (· < ·)) {i : Nat} (hi : i < as.length) : idx as (as.getD i 0) = (i : Int) := by
  refine ixf_at (d := 0) (fun j hj => ?_) hi (by simp)
  have := up_lt h hj hi
  exact beq_eq_false_iff_ne.2 (by omega)
theorem at_at {as : List Int} {i : Nat} (hi : i < as.length) : at_ as (i : Int) = (as.getD i 0, 0) := by
  unfold at_; rw [if_pos ⟨by omega, by omega⟩]; rfl
theorem at_out {as : List Int} {n : Int} (h : n < 0 ∨ (as.length : Int) ≤ n) : at_ as n = (0, 4) := by
  unfold at_; rw [if_neg (by omega)]
theorem idx_in (as : List Int) (a : Int) : decide (idx as a ≥ 0) = as.contains a := by
  have := ixf_any (fun b => b == a) as 0
  unfold idx; rw [this]
  rw [Bool.eq_iff_iff]; simp [List.any_eq_true]
/-- The one ahead. -/
def prev (as : List Int) (i : Nat) : Int := if i = 0 then 0 else as.getD (i - 1) 0
theorem prev_succ (as : List Int) (i : Nat) : prev as (i + 1) = as.getD i 0 := by unfold prev; rw [if_neg (by omega)]; rfl
theorem prev_lt {as : List Int} (h : as.Pairwise (· < ·)) {i : Nat} (hi : i < as.length) (h0 : 0 < i) : prev as i < as.getD i 0 := by
  unfold prev; rw [if_neg (by omega)]; exact up_lt h (by omega) hi
theorem adr_bd {l : List Rg} (h : Oks l) (i : Nat) : 0 ≤ (adr l).getD i 0 ∧ (adr l).getD i 0 ≤ 4294967295 := by
  by_cases hi : i < (adr l).length
  · have hm : (adr l).getD i 0 ∈ adr l := getD_mem' hi 0
    obtain ⟨r, hr, h1, h2⟩ := mem_adr.1 hm
    have := (h r hr).all
    omega
  · rw [List.getD_eq_getElem?_getD, List.getElem?_eq_none (by omega)]; decide
theorem has_take {as : List Int} {i : Nat} {a : Int} (h : i < as.length) : (as.take (i + 1)).contains a = ((as.take i).contains a || as.getD i 0 == a) := by
  rw [take_succ_getD as i 0 h, Bool.eq_iff_iff]
  simp only [List.contains_eq_mem, List.mem_append, List.mem_singleton, decide_eq_true_eq, Bool.or_eq_true, beq_iff_eq]
  exact ⟨fun h => h.imp id Eq.symm, fun h => h.imp id Eq.symm⟩
end Rg
end Go.K
