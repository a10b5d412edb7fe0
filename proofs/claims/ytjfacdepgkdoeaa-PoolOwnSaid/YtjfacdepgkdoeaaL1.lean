/- Leases in plain Lean: their cells, which addresses are bound so, in order.
Conditions: none; no program in sight. -/
import Derived.Test.YtjfacdepgkdoeaaS4
import Derived.Test.YtjfacdepgkdoeaaK15
import Derived.Test.YtjfacdepgkdoeaaP3
set_option linter.unusedSimpArgs false
set_option linter.unusedVariables false
namespace Go.K
open Go.Sort
structure Le where
  addr : Int
  bind : Int
  client : ByteArray
  till : Int
  acked : Int
  told : Int
  at_ : Int
  ver : Int
namespace Le
def cells (s : Le) : List Value := [.int .u32 s.addr, .int .i64 s.bind, .string s.client, .int .i64 s.till, .int .i64 s.acked, .int .i64 s.told, .int .i64 s.at_, .int .i64 s.ver]
def dflt : Le := ⟨0, 0, ⟨#[]⟩, 0, 0, 0, 0, 0⟩
theorem len (s : Le) : s.cells.length = 8 := rfl
def tags : List (Nat × IntKind) := [(0, .u32), (0, .i64), (2, .i64), (0, .i64), (0, .i64), (0, .i64), (0, .i64), (0, .i64)]
/-- A lease whose numbers are those of their kinds. -/
structure Ok (s : Le) : Prop where
  addr : 0 ≤ s.addr ∧ s.addr ≤ 4294967295
  bind : -9223372036854775808 ≤ s.bind ∧ s.bind ≤ 9223372036854775807
  client : s.client.size ≤ 9223372036854775807
  till : -9223372036854775808 ≤ s.till ∧ s.till ≤ 9223372036854775807
  acked : -9223372036854775808 ≤ s.acked ∧ s.acked ≤ 9223372036854775807
  told : -9223372036854775808 ≤ s.told ∧ s.told ≤ 9223372036854775807
  at_ : -9223372036854775808 ≤ s.at_ ∧ s.at_ ≤ 9223372036854775807
  ver : -9223372036854775808 ≤ s.ver ∧ s.ver ≤ 9223372036854775807
theorem bounds_u32 {n : Int} (h : (Lit.int .u32 n).wf = true) : 0 ≤ n ∧ n ≤ 4294967295 := by
  simp [Lit.wf, IntKind.min, IntKind.max, IntKind.bits, IntKind.signed] at h; omega
theorem of_wf {q : List Value} (h : wfVs tags q) : ∃ s : Le, q = s.cells ∧ s.Ok := by
  obtain ⟨v0, c0, rfl, h0, k0⟩ := wfVs_cons (show wfVs ((0, IntKind.u32) :: (0, IntKind.i64) :: (2, IntKind.i64) :: (0, IntKind.i64) :: (0, IntKind.i64) :: (0, IntKind.i64) :: (0, IntKind.i64) :: (0, IntKind.i64) :: []) q from h)
  obtain ⟨v1, c1, rfl, h1, k1⟩ := wfVs_cons k0
  obtain ⟨v2, c2, rfl, h2, k2⟩ := wfVs_cons k1
  obtain ⟨v3, c3, rfl, h3, k3⟩ := wfVs_cons k2
  obtain ⟨v4, c4, rfl, h4, k4⟩ := wfVs_cons k3
  obtain ⟨v5, c5, rfl, h5, k5⟩ := wfVs_cons k4
  obtain ⟨v6, c6, rfl, h6, k6⟩ := wfVs_cons k5
  obtain ⟨v7, c7, rfl, h7, k7⟩ := wfVs_cons k6
  obtain rfl := wfVs_nil k7
  obtain ⟨n0, rfl, w0⟩ := wfV_int h0
  obtain ⟨n1, rfl, w1⟩ := wfV_int h1
  obtain ⟨n2, rfl, w2⟩ := wfV_str h2
  obtain ⟨n3, rfl, w3⟩ := wfV_int h3
  obtain ⟨n4, rfl, w4⟩ := wfV_int h4
  obtain ⟨n5, rfl, w5⟩ := wfV_int h5
  obtain ⟨n6, rfl, w6⟩ := wfV_int h6
  obtain ⟨n7, rfl, w7⟩ := wfV_int h7
  exact ⟨⟨n0, n1, n2, n3, n4, n5, n6, n7⟩, rfl, bounds_u32 w0, Go.bounds_i64 w1, w2, Go.bounds_i64 w3, Go.bounds_i64 w4, Go.bounds_i64 w5, Go.bounds_i64 w6, Go.bounds_i64 w7⟩
/-- The addresses of those that are bound so. -/
def sel (b : Int) (l : List Le) : List Int := (l.filter fun s => s.bind == b).map (·.addr)
theorem sel_nil (b : Int) : sel b [] = [] := rfl
theorem sel_snoc (b : Int) (l : List Le) (s : Le) : sel b (l ++ [s]) = sel b l ++ (if s.bind == b then [s.addr] else []) := by
  unfold sel; rw [List.filter_append, List.map_append]; congr 1
  cases h : s.bind == b <;> simp [List.filter, h]
theorem sel_take {b : Int} {l : List Le} {i : Nat} (h : i < l.length) (hb : ((l.getD i dflt).bind == b) = true) : sel b (l.take (i + 1)) = sel b (l.take i) ++ [(l.getD i dflt).addr] := by
  rw [take_succ_getD l i dflt h, sel_snoc, if_pos hb]
theorem sel_take0 {b : Int} {l : List Le} {i : Nat} (h : i < l.length) (hb : ((l.getD i dflt).bind == b) = false) : sel b (l.take (i + 1)) = sel b (l.take i) := by
  rw [take_succ_getD l i dflt h, sel_snoc, if_neg (by rw [hb]; decide), List.append_nil]
theorem sel_le (b : Int) (l : List Le) : (sel b l).length ≤ l.length := by unfold sel; rw [List.length_map]; exact List.length_filter_le _ _
end Le
/-! sorted lists of numbers -/
/-- x put ahead of the first that is not less. -/
def ins (x : Int) : List Int → List Int
  | [] => [x]
  | y :: l => if y < x then y :: ins x l else x :: y :: l
def isort : List Int → List Int
  | [] => []
  | x :: l => ins x (isort l)
def Up (l : List Int) : Prop := l.Pairwise (· ≤ ·)
theorem ins_perm (x : Int) : ∀ l, (ins x l).Perm (x :: l)
  | [] => List.Perm.refl _
  | y :: l => by unfold ins; split; exact ((ins_perm x l).cons y).trans (List.Perm.swap x y l); exact List.Perm.refl _
theorem ins_up {x : Int} : ∀ {l : List Int}, Up l → Up (ins x l)
  | [], _ => by simp [ins, Up]
  | y :: l, h => by
    unfold ins
    have h1 := List.pairwise_cons.1 h
    split
    · rename_i hy
      refine List.pairwise_cons.2 ⟨fun z hz => ?_, ins_up h1.2⟩
      rcases List.mem_cons.1 ((ins_perm x l).mem_iff.1 hz) with rfl | hz
      · omega
      · exact h1.1 z hz
    · rename_i hy
      refine List.pairwise_cons.2 ⟨fun z hz => ?_, h⟩
      rcases List.mem_cons.1 hz with rfl | hz
      · omega
      · have := h1.1 z hz; omega
theorem isort_perm : ∀ l, (isort l).Perm l
  | [] => List.Perm.refl _
  | x :: l => (ins_perm x _).trans ((isort_perm l).cons x)
theorem isort_up : ∀ l, Up (isort l)
  | [] => List.Pairwise.nil
  | x :: l => ins_up (isort_up l)
theorem up_unique : ∀ {l m : List Int}, Up l → Up m → l.Perm m → l = m
  | [], m, _, _, p => by rw [List.nil_perm.1 p]
  | x :: l, [], _, _, p => absurd (List.perm_nil.1 p) (by simp)
  | x :: l, y :: m, h, k, p => by
    have h1 := List.pairwise_cons.1 h
    have k1 := List.pairwise_cons.1 k
    have hxy : x = y := by
      have a1 : x ∈ y :: m := p.mem_iff.1 (List.mem_cons_self ..)
      have a2 : y ∈ x :: l := p.mem_iff.2 (List.mem_cons_self ..)
      rcases List.mem_cons.1 a1 with e | a1
      · exact e
      · rcases List.mem_cons.1 a2 with e | a2
        · exact e.symm
        · have := h1.1 y a2; have := k1.1 x a1; omega
    subst hxy
    rw [up_unique h1.2 k1.2 ((List.perm_cons x).1 p)]
theorem up_isort {l m : List Int} (h : Up l) (p : l.Perm m) : l = isort m := up_unique h (isort_up m) (p.trans (isort_perm m).symm)
theorem isort_length (l : List Int) : (isort l).length = l.length := (isort_perm l).length_eq
theorem isort_snoc (l : List Int) (x : Int) : isort (l ++ [x]) = ins x (isort l) :=
  (up_isort (ins_up (isort_up l)) ((ins_perm x _).trans (((isort_perm l).cons x).trans (List.perm_append_singleton x l).symm))).symm
/-- Where it goes in: how many are less, ahead of the first that is not. -/
def spot (x : Int) : List Int → Nat
  | [] => 0
  | y :: l => if y < x then spot x l + 1 else 0
theorem spot_le (x : Int) : ∀ l, spot x l ≤ l.length
  | [] => Nat.le_refl _
  | y :: l => by unfold spot; split; have := spot_le x l; simp; omega; simp
theorem ins_eq (x : Int) : ∀ l, ins x l = l.take (spot x l) ++ x :: l.drop (spot x l)
  | [] => rfl
  | y :: l => by unfold ins spot; split; rw [ins_eq x l]; simp; simp
theorem spot_at {x : Int} : ∀ {l : List Int} {i : Nat}, i ≤ l.length → (∀ j, j < i → l.getD j 0 < x) → (i = l.length ∨ ¬ l.getD i 0 < x) → spot x l = i
  | [], i, h, _, _ => by simp at h; subst h; rfl
  | y :: l, 0, _, _, h => by
    rcases h with h | h
    · simp at h
    · unfold spot; rw [if_neg (by simpa using h)]
  | y :: l, i + 1, h, k, e => by
    have h0 := k 0 (by omega)
    unfold spot
    rw [if_pos (by simpa using h0), spot_at (by simpa using h) (fun j hj => by have := k (j + 1) (by omega); simpa using this) (by rcases e with e | e; left; simpa using e; right; simpa using e)]
end Go.K
namespace Go.K
open Go.Sort
theorem srt_up {l : List Int} (h : Srt ltInt l) : Up l := by
  refine List.Pairwise.imp ?_ h
  intro a b h; simp [ltInt] at h; omega
end Go.K
namespace Go.K.Le
open Go.Fl
/-- What a server gives: the greatest ones of its own. -/
def chosen (id : Int) (l : List Le) (y s : Nat) : List Int :=
  let o := if id = 0 then isort (sel 0 l) else isort (sel 1 l)
  o.drop (o.length - (gives id (sel 0 l).length (sel 1 l).length y s).toNat)
theorem gives_le (id : Int) (l : List Le) (y s : Nat) (hl : l.length ≤ 300) : 0 ≤ gives id (sel 0 l).length (sel 1 l).length y s ∧ (id = 0 → gives id (sel 0 l).length (sel 1 l).length y s ≤ (sel 0 l).length) ∧
    (¬ id = 0 → gives id (sel 0 l).length (sel 1 l).length y s ≤ (sel 1 l).length) ∧ (¬ id = 0 → ¬ id = 1 → gives id (sel 0 l).length (sel 1 l).length y s = 0) := by
  have h0 := sel_le 0 l
  have h1 := sel_le 1 l
  have hc := gives_cases id (sel 0 l).length (sel 1 l).length y s (by omega) (by omega)
  have hr := part_range (n := ((sel 0 l).length : Int) + ((sel 1 l).length : Int)) (by omega) y
  by_cases e0 : id = 0
  · have := hc.1 e0
    refine ⟨by omega, fun _ => by omega, fun h => absurd e0 h, fun h => absurd e0 h⟩
  · by_cases e1 : id = 1
    · have := hc.2 e1
      refine ⟨by omega, fun h => absurd h e0, fun _ => by omega, fun _ h => absurd e1 h⟩
    · have hz : gives id (sel 0 l).length (sel 1 l).length y s = 0 := by
        unfold gives; split <;> simp [e0, e1]
      exact ⟨by omega, fun h => absurd h e0, fun _ => by omega, fun _ _ => hz⟩
end Go.K.Le
