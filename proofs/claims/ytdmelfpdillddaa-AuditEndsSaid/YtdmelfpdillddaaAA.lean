/- Promises in plain Lean: which may be, which hold, which clash, who holds what at a moment.
Conditions: none; no program in sight. -/
import Derived.Test.YtdmelfpdillddaaLA
import Derived.Test.YtdmelfpdillddaaKC
set_option linter.unusedSimpArgs false
set_option linter.unusedVariables false
set_option linter.unusedSectionVars false
namespace Go.K
structure Pr where
  srv : Int
  addr : Int
  client : ByteArray
  from_ : Int
  till : Int
theorem str_nil (s : ByteArray) : (s.toList == (⟨#[]⟩ : ByteArray).toList) = decide (s.size = 0) := by
  have h1 : s.toList.length = s.size := by rw [ByteArray.toList_eq]; simp
  have h2 : (⟨#[]⟩ : ByteArray).toList = [] := by rw [ByteArray.toList_eq]
  rw [h2]
  cases h : s.toList with
  | nil => rw [h] at h1; simp at h1; simp [← h1]
  | cons x l => rw [h] at h1; simp at h1; simp [← h1]
theorem str_nil_t {s : ByteArray} (h : (s.toList == (⟨#[]⟩ : ByteArray).toList) = true) : s.size = 0 := by rw [str_nil] at h; exact of_decide_eq_true h
theorem str_nil_f {s : ByteArray} (h : (s.toList == (⟨#[]⟩ : ByteArray).toList) = false) : 1 ≤ s.size := by rw [str_nil] at h; have := of_decide_eq_false h; omega
namespace Pr
def cells (s : Pr) : List Value := [.int .i64 s.srv, .int .u32 s.addr, .string s.client, .int .i64 s.from_, .int .i64 s.till]
def dflt : Pr := ⟨0, 0, ⟨#[]⟩, 0, 0⟩
theorem len (s : Pr) : s.cells.length = 5 := rfl
theorem enc : Enc cells 5 := ⟨fun _ => rfl, fun _ => rfl⟩
def tags : List (Nat × IntKind) := [(0, .i64), (0, .u32), (2, .i64), (0, .i64), (0, .i64)]
structure Ok (s : Pr) : Prop where
  srv : -9223372036854775808 ≤ s.srv ∧ s.srv ≤ 9223372036854775807
  addr : 0 ≤ s.addr ∧ s.addr ≤ 4294967295
  from_ : -9223372036854775808 ≤ s.from_ ∧ s.from_ ≤ 9223372036854775807
  till : -9223372036854775808 ≤ s.till ∧ s.till ≤ 9223372036854775807
theorem of_wf {q : List Value} (h : wfVs tags q) : ∃ s : Pr, q = s.cells ∧ s.Ok := by
  obtain ⟨v0, c0, rfl, h0, k0⟩ := wfVs_cons (show wfVs ((0, IntKind.i64) :: (0, IntKind.u32) :: (2, IntKind.i64) :: (0, IntKind.i64) :: (0, IntKind.i64) :: []) q from h)
  obtain ⟨v1, c1, rfl, h1, k1⟩ := wfVs_cons k0
  obtain ⟨v2, c2, rfl, h2, k2⟩ := wfVs_cons k1
  obtain ⟨v3, c3, rfl, h3, k3⟩ := wfVs_cons k2
  obtain ⟨v4, c4, rfl, h4, k4⟩ := wfVs_cons k3
  obtain rfl := wfVs_nil k4
  obtain ⟨n0, rfl, w0⟩ := wfV_int h0
  obtain ⟨n1, rfl, w1⟩ := wfV_int h1
  obtain ⟨n2, rfl, w2⟩ := wfV_str h2
  obtain ⟨n3, rfl, w3⟩ := wfV_int h3
  obtain ⟨n4, rfl, w4⟩ := wfV_int h4
  exact ⟨⟨n0, n1, n2, n3, n4⟩, rfl, Go.bounds_i64 w0, Go.bounds_u32 w1, Go.bounds_i64 w3, Go.bounds_i64 w4⟩
def right (p : Pr) : Bool := decide (0 ≤ p.srv ∧ p.srv ≤ 1 ∧ 1 ≤ p.client.size ∧ p.client.size ≤ 32 ∧ 0 ≤ p.from_ ∧ p.from_ ≤ p.till ∧ p.till ≤ 1099511627776)
def holds (p : Pr) (now : Int) : Bool := right p && decide (p.from_ ≤ now) && decide (now ≤ p.till)
def meet (p q : Pr) : Bool := right p && right q && decide (max p.from_ q.from_ ≤ min p.till q.till)
def rmeet (p q : Pr) : Bool := holds p q.from_ && right q || holds q p.from_ && right p
def clash (p q : Pr) : Bool := p.addr == q.addr && !(p.client.toList == q.client.toList) && meet p q
theorem right_le {p : Pr} (h : right p = true) : p.from_ ≤ p.till := by unfold right at h; simp at h; omega
theorem rmeet_eq (p q : Pr) : rmeet p q = meet p q := by
  unfold rmeet meet holds
  cases h1 : right p <;> cases h2 : right q <;> simp
  have a := right_le h1
  have b := right_le h2
  rw [Bool.eq_iff_iff]; simp; omega
/-- The addresses of those that hold, in the list's order. -/
def hs (now : Int) (l : List Pr) : List Int := (l.filter fun p => holds p now).map (·.addr)
theorem hs_take {now : Int} {l : List Pr} {i : Nat} (h : i < l.length) (hb : holds (l.getD i dflt) now = true) : hs now (l.take (i + 1)) = hs now (l.take i) ++ [(l.getD i dflt).addr] := by
  rw [take_succ_getD l i dflt h]; unfold hs; rw [List.filter_append, List.map_append]; simp [List.filter, hb] at hb ⊢; simp [hb]
theorem hs_take0 {now : Int} {l : List Pr} {i : Nat} (h : i < l.length) (hb : holds (l.getD i dflt) now = false) : hs now (l.take (i + 1)) = hs now (l.take i) := by
  rw [take_succ_getD l i dflt h]; unfold hs; rw [List.filter_append, List.map_append]; simp [List.filter, hb] at hb ⊢; simp [hb]
theorem hs_le (now : Int) (l : List Pr) : (hs now l).length ≤ l.length := by unfold hs; rw [List.length_map]; exact List.length_filter_le _ _
end Pr
/-! each once -/
def add1 (l : List Int) (k : Int) : List Int := if l.contains k then l else l ++ [k]
def dd (l : List Int) : List Int := l.foldl add1 []
theorem dd_snoc (l : List Int) (x : Int) : dd (l ++ [x]) = add1 (dd l) x := by unfold dd; rw [List.foldl_append]; rfl
theorem add1_len (l : List Int) (k : Int) : (add1 l k).length ≤ l.length + 1 := by unfold add1; split; omega; simp
theorem dd_len (l : List Int) : (dd l).length ≤ l.length := by
  have : ∀ (l acc : List Int), (l.foldl add1 acc).length ≤ acc.length + l.length := fun l => by
    induction l with
    | nil => intro acc; simp
    | cons x l ih => intro acc; rw [List.foldl_cons]; have := ih (add1 acc x); have := add1_len acc x; simp; omega
  have := this l []; simpa [dd] using this
theorem mset_yes (l : List Int) (k : Int) : mset (yes l) k (.bool true) = yes (add1 l k) := by
  unfold add1
  by_cases h : l.contains k = true
  · rw [if_pos h]
    induction l with
    | nil => simp at h
    | cons x l ih =>
      by_cases e : x = k
      · subst e; simp [yes, mset]
      · have hb : l.contains k = true := by simp at h ⊢; exact h.resolve_left (fun q => e q.symm)
        have := ih hb
        simp only [yes, List.map_cons, mset, if_neg e] at this ⊢; rw [this]
  · rw [if_neg h]; exact yes_push (by simpa using h)
theorem yes_keys (l : List Int) : (yes l).map (·.1) = l := by unfold yes; rw [List.map_map]; simp [Function.comp_def]
theorem spot_mem {x : Int} : ∀ {o : List Int}, Up o → (o.contains x = true ↔ spot x o < o.length ∧ o.getD (spot x o) 0 = x)
  | [], _ => by simp
  | y :: o, h => by
    have h1 := List.pairwise_cons.1 h
    unfold spot
    by_cases hy : y < x
    · rw [if_pos hy]
      have := spot_mem (x := x) h1.2
      have hne : (x == y) = false := by simp; omega
      simp only [List.contains_cons, hne, Bool.false_or, List.length_cons, List.getD_cons_succ]
      rw [this]; omega
    · rw [if_neg hy]
      simp only [List.contains_cons, List.length_cons, List.getD_cons_zero]
      constructor
      · intro hc
        refine ⟨by omega, ?_⟩
        rcases Bool.or_eq_true_iff.1 hc with e | e
        · simp at e; exact e.symm
        · have := h1.1 x (by simpa using e); omega
      · rintro ⟨_, e⟩; simp [e]
theorem isort_contains (l : List Int) (x : Int) : (isort l).contains x = l.contains x := by
  rw [Bool.eq_iff_iff]; simp; exact (isort_perm l).mem_iff
namespace Pr
/-- Who holds what: the addresses, each once, in order. -/
def held (l : List Pr) (now : Int) : List Int := isort (dd (hs now l))
theorem held_len (l : List Pr) (now : Int) : (held l now).length ≤ l.length := by
  unfold held; rw [isort_length]; exact Nat.le_trans (dd_len _) (hs_le _ _)
theorem held_yes {now : Int} {l : List Pr} {i : Nat} (h : i < l.length) (hb : holds (l.getD i dflt) now = true) (hc : (held (l.take i) now).contains (l.getD i dflt).addr = false) : held (l.take (i + 1)) now = ins (l.getD i dflt).addr (held (l.take i) now) := by
  unfold held at hc ⊢
  rw [isort_contains] at hc
  rw [hs_take h hb, dd_snoc, ← isort_snoc]; unfold add1; rw [if_neg (by rw [hc]; decide)]
theorem held_in {now : Int} {l : List Pr} {i : Nat} (h : i < l.length) (hb : holds (l.getD i dflt) now = true) (hc : (held (l.take i) now).contains (l.getD i dflt).addr = true) : held (l.take (i + 1)) now = held (l.take i) now := by
  unfold held at hc ⊢
  rw [isort_contains] at hc
  rw [hs_take h hb, dd_snoc]; unfold add1; rw [if_pos hc]
theorem held_no {now : Int} {l : List Pr} {i : Nat} (h : i < l.length) (hb : holds (l.getD i dflt) now = false) : held (l.take (i + 1)) now = held (l.take i) now := by
  unfold held; rw [hs_take0 h hb]
theorem held_up (l : List Pr) (now : Int) : Up (held l now) := isort_up _
theorem dd_yes {now : Int} {l : List Pr} {i : Nat} (h : i < l.length) (hb : holds (l.getD i dflt) now = true) : dd (hs now (l.take (i + 1))) = add1 (dd (hs now (l.take i))) (l.getD i dflt).addr := by rw [hs_take h hb, dd_snoc]
end Pr
end Go.K

namespace Go.K.Pr
/-- The moments from which a promise holds. -/
def frs (l : List Pr) : List Int := (l.filter right).map (·.from_)
theorem frs_take {l : List Pr} {i : Nat} (h : i < l.length) (hb : right (l.getD i dflt) = true) : frs (l.take (i + 1)) = frs (l.take i) ++ [(l.getD i dflt).from_] := by
  rw [take_succ_getD l i dflt h]; unfold frs; rw [List.filter_append, List.map_append]; simp [List.filter, hb] at hb ⊢; simp [hb]
theorem frs_take0 {l : List Pr} {i : Nat} (h : i < l.length) (hb : right (l.getD i dflt) = false) : frs (l.take (i + 1)) = frs (l.take i) := by
  rw [take_succ_getD l i dflt h]; unfold frs; rw [List.filter_append, List.map_append]; simp [List.filter, hb] at hb ⊢; simp [hb]
theorem frs_le (l : List Pr) : (frs l).length ≤ l.length := by unfold frs; rw [List.length_map]; exact List.length_filter_le _ _
def many (l : List Pr) (t : Int) : Int := ((held l t).length : Int)
def sa (l : List Pr) (z : Int × Int) (t : Int) : Int × Int := if many l t > z.1 then (many l t, t) else z
def sb (l : List Pr) (z : Int × Int) (t : Int) : Int × Int := if many l t > z.1 ∨ many l t = z.1 ∧ t < z.2 then (many l t, t) else z
def pka (l : List Pr) (ts : List Int) : Int × Int := ts.foldl (sa l) (0, 0)
def pkb (l : List Pr) (ts : List Int) : Int × Int := ts.foldl (sb l) (0, 0)
def peak (l : List Pr) : Int × Int := pka l (isort (frs l))
theorem pka_snoc (l : List Pr) (ts : List Int) (t : Int) : pka l (ts ++ [t]) = sa l (pka l ts) t := by unfold pka; rw [List.foldl_append]; rfl
theorem pkb_snoc (l : List Pr) (ts : List Int) (t : Int) : pkb l (ts ++ [t]) = sb l (pkb l ts) t := by unfold pkb; rw [List.foldl_append]; rfl
theorem sa_yes {l : List Pr} {z : Int × Int} {t : Int} (h : many l t > z.1) : sa l z t = (many l t, t) := if_pos h
theorem sa_no {l : List Pr} {z : Int × Int} {t : Int} (h : ¬ many l t > z.1) : sa l z t = z := if_neg h
/-- The best of some moments. -/
def Best (l : List Pr) (ts : List Int) (z : Int × Int) : Prop := ts = [] ∧ z = (0, 0) ∨ z.2 ∈ ts ∧ many l z.2 = z.1 ∧ ∀ t, t ∈ ts → many l t < z.1 ∨ many l t = z.1 ∧ z.2 ≤ t
theorem best_one {l : List Pr} {ts ts' : List Int} {z z' : Int × Int} (h : Best l ts z) (h' : Best l ts' z') (p : ts.Perm ts') : z = z' := by
  rcases h with ⟨rfl, rfl⟩ | ⟨a1, a2, a3⟩
  · rcases h' with ⟨_, rfl⟩ | ⟨b1, _⟩
    · rfl
    · rw [List.nil_perm.1 p] at b1; cases b1
  · rcases h' with ⟨rfl, rfl⟩ | ⟨b1, b2, b3⟩
    · rw [List.perm_nil.1 p] at a1; cases a1
    · have c1 := a3 _ (p.mem_iff.2 b1)
      have c2 := b3 _ (p.mem_iff.1 a1)
      obtain ⟨m, w⟩ := z
      obtain ⟨m', w'⟩ := z'
      simp only at *
      rw [Prod.mk.injEq]
      constructor <;> omega
theorem best_b {l : List Pr} : ∀ (ts pre : List Int) (z : Int × Int), (∀ t, t ∈ ts → 1 ≤ many l t) → Best l pre z → Best l (pre ++ ts) (ts.foldl (sb l) z)
  | [], pre, z, _, h => by simpa using h
  | t :: ts, pre, z, hm, h => by
    rw [List.foldl_cons, show pre ++ t :: ts = (pre ++ [t]) ++ ts by simp]
    refine best_b ts (pre ++ [t]) _ (fun t' h' => hm t' (List.mem_cons_of_mem _ h')) ?_
    have ht := hm t (List.mem_cons_self ..)
    unfold sb
    rcases h with ⟨rfl, rfl⟩ | ⟨a1, a2, a3⟩
    · rw [if_pos (.inl (by simp only; omega))]; right; simp
    · split
      · rename_i hc
        right
        refine ⟨by simp, rfl, fun t' h' => ?_⟩
        rcases List.mem_append.1 h' with h' | h'
        · have := a3 t' h'; simp only; omega
        · rw [List.mem_singleton] at h'; subst h'; simp
      · rename_i hc
        right
        refine ⟨List.mem_append_left _ a1, a2, fun t' h' => ?_⟩
        rcases List.mem_append.1 h' with h' | h'
        · exact a3 t' h'
        · rw [List.mem_singleton] at h'; subst h'; omega
theorem best_a {l : List Pr} : ∀ (ts pre : List Int) (z : Int × Int), (∀ t, t ∈ ts → 1 ≤ many l t) → Up (pre ++ ts) → Best l pre z → Best l (pre ++ ts) (ts.foldl (sa l) z)
  | [], pre, z, _, _, h => by simpa using h
  | t :: ts, pre, z, hm, hu, h => by
    rw [show pre ++ t :: ts = (pre ++ [t]) ++ ts by simp] at hu ⊢
    rw [List.foldl_cons]
    refine best_a ts (pre ++ [t]) _ (fun t' h' => hm t' (List.mem_cons_of_mem _ h')) hu ?_
    have ht := hm t (List.mem_cons_self ..)
    have hle : ∀ t', t' ∈ pre → t' ≤ t := fun t' h' => (List.pairwise_append.1 (List.pairwise_append.1 hu).1).2.2 t' h' t (by simp)
    unfold sa
    rcases h with ⟨rfl, rfl⟩ | ⟨a1, a2, a3⟩
    · rw [if_pos (by simp only; omega)]; right; simp
    · split
      · rename_i hc
        right
        refine ⟨by simp, rfl, fun t' h' => ?_⟩
        rcases List.mem_append.1 h' with h' | h'
        · have := a3 t' h'; simp only; omega
        · rw [List.mem_singleton] at h'; subst h'; simp
      · rename_i hc
        right
        refine ⟨List.mem_append_left _ a1, a2, fun t' h' => ?_⟩
        rcases List.mem_append.1 h' with h' | h'
        · exact a3 t' h'
        · rw [List.mem_singleton] at h'; subst h'; have := hle _ a1; omega
theorem dd_mem {l : List Int} {x : Int} : x ∈ dd l ↔ x ∈ l := by
  have : ∀ (l acc : List Int), x ∈ l.foldl add1 acc ↔ x ∈ acc ∨ x ∈ l := fun l => by
    induction l with
    | nil => intro acc; simp
    | cons y l ih =>
      intro acc
      rw [List.foldl_cons, ih]
      have : x ∈ add1 acc y ↔ x ∈ acc ∨ x = y := by
        unfold add1; split
        · rename_i h; simp at h; constructor
          · exact .inl
          · rintro (h' | rfl); exact h'; exact h
        · simp
      rw [this]; simp [or_assoc]
  have := this l []; simpa [dd] using this
theorem held_mem {l : List Pr} {t a : Int} : a ∈ held l t ↔ ∃ q, q ∈ l ∧ holds q t = true ∧ q.addr = a := by
  unfold held
  rw [(isort_perm _).mem_iff, dd_mem]; unfold hs
  simp only [List.mem_map, List.mem_filter]
  constructor
  · rintro ⟨q, ⟨h1, h2⟩, h3⟩; exact ⟨q, h1, h2, h3⟩
  · rintro ⟨q, h1, h2, h3⟩; exact ⟨q, ⟨h1, h2⟩, h3⟩
theorem many_one {l : List Pr} {t : Int} (h : t ∈ frs l) : 1 ≤ many l t := by
  unfold frs at h
  obtain ⟨q, hq, rfl⟩ := List.mem_map.1 h
  obtain ⟨h1, h2⟩ := List.mem_filter.1 hq
  have : q.addr ∈ held l q.from_ := held_mem.2 ⟨q, h1, by unfold holds; simp [h2, right_le h2], rfl⟩
  unfold many
  have := List.length_pos_of_mem this
  omega
theorem peak_b (l : List Pr) : pkb l (frs l) = peak l := by
  refine best_one (l := l) (best_b (frs l) [] (0, 0) (fun t h => many_one h) (.inl ⟨rfl, rfl⟩)) (best_a (isort (frs l)) [] (0, 0) (fun t h => many_one ((isort_perm _).mem_iff.1 h)) (by simpa using isort_up _) (.inl ⟨rfl, rfl⟩)) ?_
  simpa using (isort_perm (frs l)).symm
theorem many_le (l : List Pr) (t : Int) : 0 ≤ many l t ∧ many l t ≤ l.length := by have := held_len l t; unfold many; omega
/-! the first clash -/
/-- Two promises that clash, the first: of the least j, and of these of the least i. -/
def First (l : List Pr) (a b : Int) : Prop :=
  a = -1 ∧ b = -1 ∧ (∀ j, j < l.length → ∀ i, i < j → clash (l.getD i dflt) (l.getD j dflt) = false) ∨
  ∃ i j : Nat, a = i ∧ b = j ∧ i < j ∧ j < l.length ∧ clash (l.getD i dflt) (l.getD j dflt) = true ∧ (∀ i', i' < i → clash (l.getD i' dflt) (l.getD j dflt) = false) ∧ ∀ j', j' < j → ∀ i', i' < j' → clash (l.getD i' dflt) (l.getD j' dflt) = false
theorem first_one {l : List Pr} {a b a' b' : Int} (h : First l a b) (h' : First l a' b') : a = a' ∧ b = b' := by
  rcases h with ⟨rfl, rfl, h⟩ | ⟨i, j, rfl, rfl, h1, h2, h3, h4, h5⟩ <;> rcases h' with ⟨rfl, rfl, h'⟩ | ⟨i', j', rfl, rfl, k1, k2, k3, k4, k5⟩
  · exact ⟨rfl, rfl⟩
  · have := h j' k2 i' k1; rw [k3] at this; cases this
  · have := h' j h2 i h1; rw [h3] at this; cases this
  · have hj : j = j' := by
      rcases Nat.lt_trichotomy j j' with hl | he | hg
      · have := k5 j hl i h1; rw [h3] at this; cases this
      · exact he
      · have := h5 j' hg i' k1; rw [k3] at this; cases this
    subst hj
    have hi : i = i' := by
      rcases Nat.lt_trichotomy i i' with hl | he | hg
      · have := k4 i hl; rw [h3] at this; cases this
      · exact he
      · have := h4 i' hg; rw [k3] at this; cases this
    subst hi
    exact ⟨rfl, rfl⟩
def l0 : List Pr := [⟨0, 1, ⟨#[97]⟩, 5, 9⟩, ⟨0, 1, ⟨#[98]⟩, 9, 12⟩]
theorem first0 {a b : Int} (h : First l0 a b) : a = 0 ∧ b = 1 := first_one h (.inr ⟨0, 1, rfl, rfl, by decide, by decide, by decide +kernel, fun i' h => by omega, fun j' h i' h' => by omega⟩)
theorem peak0 : peak l0 = (1, 5) := by decide +kernel
theorem held0 : (held l0 9).length = 1 := by decide +kernel
/-! what an end leaves -/
def ec (a : Int) (c : ByteArray) (p : Pr) : Bool := p.addr == a && p.client.toList == c.toList && right p
def e1 (a : Int) (c : ByteArray) (now : Int) (p : Pr) : List Pr := if ec a c p = true then (if p.from_ > now then [] else [{ p with till := min p.till now }]) else [p]
def endd (a : Int) (c : ByteArray) (now : Int) (l : List Pr) : List Pr := l.flatMap (e1 a c now)
theorem e1_len (a : Int) (c : ByteArray) (now : Int) (p : Pr) : (e1 a c now p).length ≤ 1 := by unfold e1; split; split; simp; simp; simp
theorem endd_len (a : Int) (c : ByteArray) (now : Int) : ∀ l : List Pr, (endd a c now l).length ≤ l.length
  | [] => by simp [endd]
  | p :: l => by have := endd_len a c now l; have := e1_len a c now p; unfold endd at *; rw [List.flatMap_cons, List.length_append, List.length_cons]; omega
theorem endd_take {a : Int} {c : ByteArray} {now : Int} {l : List Pr} {i : Nat} (h : i < l.length) : endd a c now (l.take (i + 1)) = endd a c now (l.take i) ++ e1 a c now (l.getD i dflt) := by
  rw [take_succ_getD l i dflt h]; unfold endd; rw [List.flatMap_append]; simp
theorem e1_skip {a : Int} {c : ByteArray} {now : Int} {p : Pr} (h : ec a c p = true) (h2 : p.from_ > now) : e1 a c now p = [] := by unfold e1; rw [if_pos h, if_pos h2]
theorem e1_cut {a : Int} {c : ByteArray} {now : Int} {p : Pr} (h : ec a c p = true) (h2 : ¬ p.from_ > now) : e1 a c now p = [⟨p.srv, p.addr, p.client, p.from_, min p.till now⟩] := by unfold e1; rw [if_pos h, if_neg h2]
theorem e1_keep {a : Int} {c : ByteArray} {now : Int} {p : Pr} (h : ec a c p = false) : e1 a c now p = [⟨p.srv, p.addr, p.client, p.from_, p.till⟩] := by unfold e1; rw [if_neg (by rw [h]; decide)]
theorem few_le {l : List Pr} {b : Bool} (h : b = true → l.length ≤ 60) (e : b = true) : l.length ≤ 60 := h e
end Go.K.Pr
