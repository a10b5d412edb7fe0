/- Leases in plain Lean: their cells, which addresses are bound so, in order.
Conditions: none; no program in sight. -/
import Derived.Test.YtdmelfpdillddaaSA
import Derived.Test.YtdmelfpdillddaaKB
import Derived.Test.YtdmelfpdillddaaFA
import Derived.Test.YtdmelfpdillddaaKC
set_option linter.unusedSimpArgs false
set_option linter.unusedVariables false
set_option linter.unusedSectionVars false
namespace Go.K
open Go.Sort
structure Le where
  addr : Int
  bind : Int
  client : ByteArray
  till : Int
  acked : Int
  told : Int
  at_ : Int
  ver : Int
namespace Le
def cells (s : Le) : List Value := [.int .u32 s.addr, .int .i64 s.bind, .string s.client, .int .i64 s.till, .int .i64 s.acked, .int .i64 s.told, .int .i64 s.at_, .int .i64 s.ver]
def dflt : Le := ⟨0, 0, ⟨#[]⟩, 0, 0, 0, 0, 0⟩
theorem len (s : Le) : s.cells.length = 8 := rfl
def tags : List (Nat × IntKind) := [(0, .u32), (0, .i64), (2, .i64), (0, .i64), (0, .i64), (0, .i64), (0, .i64), (0, .i64)]
/-- A lease whose numbers are those of their kinds. -/
structure Ok (s : Le) : Prop where
  addr : 0 ≤ s.addr ∧ s.addr ≤ 4294967295
  bind : -9223372036854775808 ≤ s.bind ∧ s.bind ≤ 9223372036854775807
  client : s.client.size ≤ 9223372036854775807
  till : -9223372036854775808 ≤ s.till ∧ s.till ≤ 9223372036854775807
  acked : -9223372036854775808 ≤ s.acked ∧ s.acked ≤ 9223372036854775807
  told : -9223372036854775808 ≤ s.told ∧ s.told ≤ 9223372036854775807
  at_ : -9223372036854775808 ≤ s.at_ ∧ s.at_ ≤ 9223372036854775807
  ver : -9223372036854775808 ≤ s.ver ∧ s.ver ≤ 9223372036854775807
theorem bounds_u32 {n : Int} (h : (Lit.int .u32 n).wf = true) : 0 ≤ n ∧ n ≤ 4294967295 := by
  simp [Lit.wf, IntKind.min, IntKind.max, IntKind.bits, IntKind.signed] at h; omega
theorem of_wf {q : List Value} (h : wfVs tags q) : ∃ s : Le, q = s.cells ∧ s.Ok := by
  obtain ⟨v0, c0, rfl, h0, k0⟩ := wfVs_cons (show wfVs ((0, IntKind.u32) :: (0, IntKind.i64) :: (2, IntKind.i64) :: (0, IntKind.i64) :: (0, IntKind.i64) :: (0, IntKind.i64) :: (0, IntKind.i64) :: (0, IntKind.i64) :: []) q from h)
  obtain ⟨v1, c1, rfl, h1, k1⟩ := wfVs_cons k0
  obtain ⟨v2, c2, rfl, h2, k2⟩ := wfVs_cons k1
  obtain ⟨v3, c3, rfl, h3, k3⟩ := wfVs_cons k2
  obtain ⟨v4, c4, rfl, h4, k4⟩ := wfVs_cons k3
  obtain ⟨v5, c5, rfl, h5, k5⟩ := wfVs_cons k4
  obtain ⟨v6, c6, rfl, h6, k6⟩ := wfVs_cons k5
  obtain ⟨v7, c7, rfl, h7, k7⟩ := wfVs_cons k6
  obtain rfl := wfVs_nil k7
  obtain ⟨n0, rfl, w0⟩ := wfV_int h0
  obtain ⟨n1, rfl, w1⟩ := wfV_int h1
  obtain ⟨n2, rfl, w2⟩ := wfV_str h2
  obtain ⟨n3, rfl, w3⟩ := wfV_int h3
  obtain ⟨n4, rfl, w4⟩ := wfV_int h4
  obtain ⟨n5, rfl, w5⟩ := wfV_int h5
  obtain ⟨n6, rfl, w6⟩ := wfV_int h6
  obtain ⟨n7, rfl, w7⟩ := wfV_int h7
  exact ⟨⟨n0, n1, n2, n3, n4, n5, n6, n7⟩, rfl, bounds_u32 w0, Go.bounds_i64 w1, w2, Go.bounds_i64 w3, Go.bounds_i64 w4, Go.bounds_i64 w5, Go.bounds_i64 w6, Go.bounds_i64 w7⟩
/-- The addresses of those that are bound so. -/
def sel (b : Int) (l : List Le) : List Int := (l.filter fun s => s.bind == b).map (·.addr)
theorem sel_nil (b : Int) : sel b [] = [] := rfl
theorem sel_snoc (b : Int) (l : List Le) (s : Le) : sel b (l ++ [s]) = sel b l ++ (if s.bind == b then [s.addr] else []) := by
  unfold sel; rw [List.filter_append, List.map_append]; congr 1
  cases h : s.bind == b <;> simp [List.filter, h]
theorem sel_take {b : Int} {l : List Le} {i : Nat} (h : i < l.length) (hb : ((l.getD i dflt).bind == b) = true) : sel b (l.take (i + 1)) = sel b (l.take i) ++ [(l.getD i dflt).addr] := by
  rw [take_succ_getD l i dflt h, sel_snoc, if_pos hb]
theorem sel_take0 {b : Int} {l : List Le} {i : Nat} (h : i < l.length) (hb : ((l.getD i dflt).bind == b) = false) : sel b (l.take (i + 1)) = sel b (l.take i) := by
  rw [take_succ_getD l i dflt h, sel_snoc, if_neg (by rw [hb]; decide), List.append_nil]
theorem sel_le (b : Int) (l : List Le) : (sel b l).length ≤ l.length := by unfold sel; rw [List.length_map]; exact List.length_filter_le _ _
end Le
/-! sorted lists of numbers -/
/-- x put ahead of the first that is not less. -/
def ins (x : Int) : List Int → List Int
  | [] => [x]
  | y :: l => if y < x then y :: ins x l else x :: y :: l
def isort : List Int → List Int
  | [] => []
  | x :: l => ins x (isort l)
def Up (l : List Int) : Prop := l.Pairwise (· ≤ ·)
theorem ins_perm (x : Int) : ∀ l, (ins x l).Perm (x :: l)
  | [] => List.Perm.refl _
  | y :: l => by unfold ins; split; exact ((ins_perm x l).cons y).trans (List.Perm.swap x y l); exact List.Perm.refl _
theorem ins_up {x : Int} : ∀ {l : List Int}, Up l → Up (ins x l)
  | [], _ => by simp [ins, Up]
  | y :: l, h => by
    unfold ins
    have h1 := List.pairwise_cons.1 h
    split
    · rename_i hy
      refine List.pairwise_cons.2 ⟨fun z hz => ?_, ins_up h1.2⟩
      rcases List.mem_cons.1 ((ins_perm x l).mem_iff.1 hz) with rfl | hz
      · omega
      · exact h1.1 z hz
    · rename_i hy
      refine List.pairwise_cons.2 ⟨fun z hz => ?_, h⟩
      rcases List.mem_cons.1 hz with rfl | hz
      · omega
      · have := h1.1 z hz; omega
theorem isort_perm : ∀ l, (isort l).Perm l
  | [] => List.Perm.refl _
  | x :: l => (ins_perm x _).trans ((isort_perm l).cons x)
theorem isort_up : ∀ l, Up (isort l)
  | [] => List.Pairwise.nil
  | x :: l => ins_up (isort_up l)
theorem up_unique : ∀ {l m : List Int}, Up l → Up m → l.Perm m → l = m
  | [], m, _, _, p => by rw [List.nil_perm.1 p]
  | x :: l, [], _, _, p => absurd (List.perm_nil.1 p) (by simp)
  | x :: l, y :: m, h, k, p => by
    have h1 := List.pairwise_cons.1 h
    have k1 := List.pairwise_cons.1 k
    have hxy : x = y := by
      have a1 : x ∈ y :: m := p.mem_iff.1 (List.mem_cons_self ..)
      have a2 : y ∈ x :: l := p.mem_iff.2 (List.mem_cons_self ..)
      rcases List.mem_cons.1 a1 with e | a1
      · exact e
      · rcases List.mem_cons.1 a2 with e | a2
        · exact e.symm
        · have := h1.1 y a2; have := k1.1 x a1; omega
    subst hxy
    rw [up_unique h1.2 k1.2 ((List.perm_cons x).1 p)]
theorem up_isort {l m : List Int} (h : Up l) (p : l.Perm m) : l = isort m := up_unique h (isort_up m) (p.trans (isort_perm m).symm)
theorem isort_length (l : List Int) : (isort l).length = l.length := (isort_perm l).length_eq
theorem isort_snoc (l : List Int) (x : Int) : isort (l ++ [x]) = ins x (isort l) :=
  (up_isort (ins_up (isort_up l)) ((ins_perm x _).trans (((isort_perm l).cons x).trans (List.perm_append_singleton x l).symm))).symm
/-- Where it goes in: how many are less, ahead of the first that is not. -/
def spot (x : Int) : List Int → Nat
  | [] => 0
  | y :: l => if y < x then spot x l + 1 else 0
theorem spot_le (x : Int) : ∀ l, spot x l ≤ l.length
  | [] => Nat.le_refl _
  | y :: l => by unfold spot; split; have := spot_le x l; simp; omega; simp
theorem ins_eq (x : Int) : ∀ l, ins x l = l.take (spot x l) ++ x :: l.drop (spot x l)
  | [] => rfl
  | y :: l => by unfold ins spot; split; rw [ins_eq x l]; simp; simp
theorem spot_at {x : Int} : ∀ {l : List Int} {i : Nat}, i ≤ l.length → (∀ j, j < i → l.getD j 0 < x) → (i = l.length ∨ ¬ l.getD i 0 < x) → spot x l = i
  | [], i, h, _, _ => by simp at h; subst h; rfl
  | y :: l, 0, _, _, h => by
    rcases h with h | h
    · simp at h
    · unfold spot; rw [if_neg (by simpa using h)]
  | y :: l, i + 1, h, k, e => by
    have h0 := k 0 (by omega)
    unfold spot
    rw [if_pos (by simpa using h0), spot_at (by simpa using h) (fun j hj => by have := k (j + 1) (by omega); simpa using this) (by rcases e with e | e; left; simpa using e; right; simpa using e)]
end Go.K
namespace Go.K
open Go.Sort
theorem srt_up {l : List Int} (h : Srt ltInt l) : Up l := by
  refine List.Pairwise.imp ?_ h
  intro a b h; simp [ltInt] at h; omega
end Go.K
namespace Go.K.Le
open Go.Fl
/-- What a server gives: the greatest ones of its own. -/
def chosen (id : Int) (l : List Le) (y s : Nat) : List Int :=
  let o := if id = 0 then isort (sel 0 l) else isort (sel 1 l)
  o.drop (o.length - (gives id (sel 0 l).length (sel 1 l).length y s).toNat)
theorem gives_le (id : Int) (l : List Le) (y s : Nat) (hl : l.length ≤ 300) : 0 ≤ gives id (sel 0 l).length (sel 1 l).length y s ∧ (id = 0 → gives id (sel 0 l).length (sel 1 l).length y s ≤ (sel 0 l).length) ∧
    (¬ id = 0 → gives id (sel 0 l).length (sel 1 l).length y s ≤ (sel 1 l).length) ∧ (¬ id = 0 → ¬ id = 1 → gives id (sel 0 l).length (sel 1 l).length y s = 0) := by
  have h0 := sel_le 0 l
  have h1 := sel_le 1 l
  have hc := gives_cases id (sel 0 l).length (sel 1 l).length y s (by omega) (by omega)
  have hr := part_range (n := ((sel 0 l).length : Int) + ((sel 1 l).length : Int)) (by omega) y
  by_cases e0 : id = 0
  · have := hc.1 e0
    refine ⟨by omega, fun _ => by omega, fun h => absurd e0 h, fun h => absurd e0 h⟩
  · by_cases e1 : id = 1
    · have := hc.2 e1
      refine ⟨by omega, fun h => absurd h e0, fun _ => by omega, fun _ h => absurd e1 h⟩
    · have hz : gives id (sel 0 l).length (sel 1 l).length y s = 0 := by
        unfold gives; split <;> simp [e0, e1]
      exact ⟨by omega, fun h => absurd h e0, fun _ => by omega, fun _ _ => hz⟩
end Go.K.Le

namespace Go.K
theorem Le.enc : Enc Le.cells 8 := ⟨fun _ => rfl, fun _ => rfl⟩
theorem getD_ne {α : Type} [BEq α] [LawfulBEq α] {l m : List α} {i : Nat} {d : α} (h : l.getD i d ≠ m.getD i d) : (l == m) = false := by
  rw [beq_eq_false_iff_ne]; intro e; exact h (by rw [e])
theorem getD_eq {α : Type} [BEq α] [LawfulBEq α] {l m : List α} {d : α} (hl : l.length = m.length) (h : ∀ j, j < l.length → l.getD j d = m.getD j d) : (l == m) = true := by
  rw [beq_iff_eq]
  refine List.ext_getElem hl fun j h1 h2 => ?_
  have := h j h1
  rw [List.getD_eq_getElem?_getD, List.getD_eq_getElem?_getD, List.getElem?_eq_getElem h1, List.getElem?_eq_getElem h2] at this
  exact this
theorem len_ne {α : Type} [BEq α] [LawfulBEq α] {l m : List α} (h : l.length ≠ m.length) : (l == m) = false := by
  rw [beq_eq_false_iff_ne]; intro e; exact h (by rw [e])
theorem upto_succ {p : Nat → Prop} {i : Nat} (h : ∀ j, j < i → p j) (hi : p i) : ∀ j, j < i + 1 → p j := fun j hj => by
  by_cases e : j = i
  · subst e; exact hi
  · exact h j (by omega)
namespace Le
/-- The reference's own. -/
def rsel (id : Int) (l : List Le) : List Int := if id = 0 then sel 0 l else if id = 1 then sel 1 l else []
theorem rsel_le (id : Int) (l : List Le) : (rsel id l).length ≤ l.length := by
  unfold rsel; split
  · exact sel_le _ _
  · split
    · exact sel_le _ _
    · simp
theorem sel_takeL {b : Int} {l : List Le} {i : Nat} (h : i < l.length) (hb : ((l.getD i dflt).bind == b) = true) : (sel b (l.take (i + 1))).length = (sel b (l.take i)).length + 1 := by rw [sel_take h hb]; simp
theorem sel_take0L {b : Int} {l : List Le} {i : Nat} (h : i < l.length) (hb : ((l.getD i dflt).bind == b) = false) : (sel b (l.take (i + 1))).length = (sel b (l.take i)).length := by rw [sel_take0 h hb]
theorem rsel_yes {id : Int} (b : Int) {l : List Le} {i : Nat} (hid : id = 0 ∧ b = 0 ∨ id = 1 ∧ b = 1) (h : i < l.length) (hb : ((l.getD i dflt).bind == b) = true) : rsel id (l.take (i + 1)) = rsel id (l.take i) ++ [(l.getD i dflt).addr] := by
  unfold rsel
  rcases hid with ⟨rfl, rfl⟩ | ⟨rfl, rfl⟩
  · rw [if_pos rfl, if_pos rfl, sel_take h hb]
  · rw [if_neg (by decide), if_pos rfl, if_neg (by decide), if_pos rfl, sel_take h hb]
theorem rsel_no {id : Int} {l : List Le} {i : Nat} (h : i < l.length) (h0 : id = 0 → ((l.getD i dflt).bind == 0) = false) (h1 : id = 1 → ((l.getD i dflt).bind == 1) = false) : rsel id (l.take (i + 1)) = rsel id (l.take i) := by
  unfold rsel
  by_cases e : id = 0
  · rw [if_pos e, if_pos e, sel_take0 h (h0 e)]
  · rw [if_neg e, if_neg e]
    by_cases e1 : id = 1
    · rw [if_pos e1, if_pos e1, sel_take0 h (h1 e1)]
    · rw [if_neg e1, if_neg e1]
theorem ins_cat {x : Int} {o : List Int} {n a : Nat} (hn : o.length = n) (ha : spot x o = a) : (([] ++ (o.drop 0).take (a - 0)) ++ [x]) ++ ((o.drop a).take (n - a)) = ins x o := by
  subst hn ha
  rw [ins_eq, List.take_of_length_le (l := o.drop (spot x o)) (by rw [List.length_drop]; exact Nat.le_refl _)]; simp
theorem rsel_own {id : Int} {b : Int} (l : List Le) (h : if id = 0 then b = 0 else id = 1 ∧ b = 1) : rsel id l = sel b l := by
  unfold rsel
  by_cases e : id = 0
  · rw [if_pos e] at h; subst h; rw [if_pos e]
  · rw [if_neg e] at h; rw [if_neg e, if_pos h.1, h.2]
end Le
namespace Le
open Go.Fl
variable {id : Int} {l : List Le} {y s : Nat}
theorem chosen_drop {b : Int} (F : Nat) (hF : (sel b l).length = F) (G : Nat) (hG : G ≤ F) : ((isort (sel b l)).drop (F - G)).take (F - (F - G)) = (isort (sel b l)).drop ((isort (sel b l)).length - G) := by
  rw [List.take_of_length_le (by rw [List.length_drop, isort_length]; omega), isort_length, hF]
theorem chosen_rd {V : Vw} {H : Hp} {b : Int} {p : Option Addr} {n c : Nat} (hid : if id = 0 then b = 0 else b = 1) (h : Rd V H 1 (.slice p n c) n ((((isort (sel b l)).drop ((sel b l).length - (gives id (sel 0 l).length (sel 1 l).length y s).toNat)).take n).flatMap nU))
    (hn : n = (sel b l).length - ((sel b l).length - (gives id (sel 0 l).length (sel 1 l).length y s).toNat)) (hl : l.length ≤ 300) : Rd V H 1 (.slice p n c) (chosen id l y s).length ((chosen id l y s).flatMap nU) := by
  have hg := gives_le id l y s hl
  have hb : (gives id (sel 0 l).length (sel 1 l).length y s).toNat ≤ (sel b l).length := by
    by_cases e : id = 0
    · rw [if_pos e] at hid; subst hid; have := hg.2.1 e; omega
    · rw [if_neg e] at hid; subst hid; have := hg.2.2.1 e; omega
  have e1 : chosen id l y s = (isort (sel b l)).drop ((isort (sel b l)).length - (gives id (sel 0 l).length (sel 1 l).length y s).toNat) := by
    unfold chosen
    by_cases e : id = 0
    · rw [if_pos e] at hid; subst hid; rw [if_pos e]
    · rw [if_neg e] at hid; subst hid; rw [if_neg e]
  have e2 : (chosen id l y s).length = n := by rw [e1, List.length_drop, isort_length, hn]
  rw [e2, e1, ← chosen_drop _ rfl _ hb, ← hn]; exact h
end Le
namespace Le
open Go.Fl
theorem rchosen_rd {V : Vw} {H : Hp} {id : Int} {l : List Le} {y s : Nat} {p : Option Addr} {n c : Nat} (h : Rd V H 1 (.slice p n c) n ((((isort (rsel id l)).drop ((rsel id l).length - (gives id (sel 0 l).length (sel 1 l).length y s).toNat)).take n).flatMap nU))
    (hn : n = (rsel id l).length - ((rsel id l).length - (gives id (sel 0 l).length (sel 1 l).length y s).toNat)) (hl : l.length ≤ 300) : Rd V H 1 (.slice p n c) (chosen id l y s).length ((chosen id l y s).flatMap nU) := by
  by_cases e0 : id = 0
  · have e := rsel_own (id := id) (b := 0) l (by rw [if_pos e0])
    rw [e] at h hn; exact chosen_rd (by rw [if_pos e0]) h hn hl
  · by_cases e1 : id = 1
    · have e := rsel_own (id := id) (b := 1) l (by rw [if_neg e0]; exact ⟨e1, rfl⟩)
      rw [e] at h hn; exact chosen_rd (by rw [if_neg e0]) h hn hl
    · have hg := (gives_le id l y s hl).2.2.2 e0 e1
      have hr : rsel id l = [] := by unfold rsel; rw [if_neg e0, if_neg e1]
      have hc : chosen id l y s = [] := by
        unfold chosen
        simp only [if_neg e0, hg]
        rw [List.drop_of_length_le (by simp)]
      rw [hr] at hn h
      have : n = 0 := by rw [hn]; simp
      subst this
      rw [hc]
      refine ⟨by simp, p, c, rfl, Nat.zero_le _, .inl rfl⟩
theorem chosen_len (id : Int) (l : List Le) (y s : Nat) : (chosen id l y s).length ≤ l.length := by
  unfold chosen
  dsimp only
  rw [List.length_drop]
  split
  · have := sel_le 0 l; rw [isort_length]; omega
  · have := sel_le 1 l; rw [isort_length]; omega
theorem rsel_len {id : Int} {l : List Le} {y s : Nat} (hl : l.length ≤ 300) : (gives id (sel 0 l).length (sel 1 l).length y s).toNat ≤ (rsel id l).length := by
  have hg := gives_le id l y s hl
  unfold rsel
  by_cases e : id = 0
  · rw [if_pos e]; have := hg.2.1 e; omega
  · rw [if_neg e]
    by_cases e1 : id = 1
    · rw [if_pos e1]; have := hg.2.2.1 e; omega
    · rw [if_neg e1]; have := hg.2.2.2 e e1; simp; omega
end Le
end Go.K

namespace Go.K
/-- A set of numbers, as a map to true. -/
def yes (l : List Int) : List (Int × Value) := l.map fun x => (x, .bool true)
theorem yes_get (l : List Int) (k : Int) : mget (yes l) k = if l.contains k then some (.bool true) else none := by
  induction l with
  | nil => rfl
  | cons x l ih =>
    by_cases e : k = x
    · subst e; simp [yes, mget, List.lookup]
    · have hb : (k == x) = false := by simp [e]
      have hb2 : (x == k) = false := by simp; exact fun q => e q.symm
      simp only [yes, mget, List.map_cons, List.lookup, hb, List.contains_cons, Bool.false_or] at ih ⊢; exact ih
theorem yes_look (l : List Int) (k : Int) : (mget (yes l) k).getD (.bool false) = .bool (l.contains k) := by
  rw [yes_get]; cases l.contains k <;> rfl
theorem yes_push {l : List Int} {k : Int} (h : l.contains k = false) : mset (yes l) k (.bool true) = yes (l ++ [k]) := by
  rw [mset_none (by rw [yes_get, h]; rfl)]; simp [yes]
theorem yes_push' {l : List Int} {k : Int} (h : ¬ k ∈ l) : mset (yes l) k (.bool true) = yes (l ++ [k]) := yes_push (by simpa using h)
theorem nodup_snoc {l : List Int} {x : Int} (h : l.Nodup) (hx : l.contains x = false) : (l ++ [x]).Nodup := by
  refine List.nodup_append.2 ⟨h, by simp, fun a ha b hb => ?_⟩
  rw [List.mem_singleton] at hb; subst hb
  intro e; subst e; simp at hx; exact hx ha
namespace Le
def adrs (l : List Le) : List Int := l.map (·.addr)
theorem adrs_take {l : List Le} {i : Nat} (h : i < l.length) : adrs (l.take (i + 1)) = adrs (l.take i) ++ [(l.getD i dflt).addr] := by
  unfold adrs; rw [take_succ_getD l i dflt h]; simp
theorem sel_sub (b : Int) (l : List Le) : (sel b l).Sublist (adrs l) := (List.filter_sublist ..).map _
/-- How many of one's own are among the given. -/
def cnt (b : Int) (g : List Int) (l : List Le) : Nat := ((sel b l).filter fun x => g.contains x).length
theorem cnt_yes {b : Int} {g : List Int} {l : List Le} {i : Nat} (h : i < l.length) (hb : ((l.getD i dflt).bind == b) = true) (hg : g.contains (l.getD i dflt).addr = true) : cnt b g (l.take (i + 1)) = cnt b g (l.take i) + 1 := by
  unfold cnt; rw [sel_take h hb, List.filter_append, List.length_append]; simp [List.filter, hg] at hg ⊢; simp [hg]
theorem cnt_no {b : Int} {g : List Int} {l : List Le} {i : Nat} (h : i < l.length) (hb : ((l.getD i dflt).bind == b) = false ∨ g.contains (l.getD i dflt).addr = false) : cnt b g (l.take (i + 1)) = cnt b g (l.take i) := by
  unfold cnt
  by_cases e : ((l.getD i dflt).bind == b) = true
  · have hg := hb.resolve_left (by rw [e]; decide)
    rw [sel_take h e, List.filter_append, List.length_append]; simp at hg; simp [List.filter, hg]
  · rw [sel_take0 h (by simpa using e)]
theorem cnt_le (b : Int) (g : List Int) (l : List Le) : cnt b g l ≤ l.length := Nat.le_trans (List.length_filter_le _ _) (sel_le b l)
section
variable {b : Int} {l : List Le} {y s : Nat}
theorem chosen_is (hb : b = 0 ∨ b = 1) : ∃ k, chosen b l y s = (isort (sel b l)).drop k := by
  unfold chosen
  rcases hb with rfl | rfl
  · exact ⟨_, by rw [if_pos rfl]⟩
  · exact ⟨_, by rw [if_neg (by decide)]⟩
theorem chosen_up (hb : b = 0 ∨ b = 1) (hn : (adrs l).Nodup) : (chosen b l y s).Pairwise (· < ·) := by
  obtain ⟨k, hk⟩ := chosen_is (l := l) (y := y) (s := s) hb
  rw [hk]
  refine List.Pairwise.sublist (List.drop_sublist k _) ?_
  have h1 : (isort (sel b l)).Nodup := (isort_perm _).nodup_iff.2 ((sel_sub b l).nodup hn)
  have h2 := isort_up (sel b l)
  have := List.Pairwise.and h2 h1
  exact this.imp fun {x z} h => by have := h.1; have := h.2; omega
theorem chosen_nodup (hb : b = 0 ∨ b = 1) (hn : (adrs l).Nodup) : (chosen b l y s).Nodup := (chosen_up hb hn).imp fun h => by omega
theorem chosen_lt (hb : b = 0 ∨ b = 1) (hn : (adrs l).Nodup) {i : Nat} (hi : i + 1 < (chosen b l y s).length) : (chosen b l y s).getD i 0 < (chosen b l y s).getD (i + 1) 0 := by
  have := List.pairwise_iff_getElem.1 (chosen_up (y := y) (s := s) hb hn) i (i + 1) (by omega) hi (by omega)
  simpa [List.getD_eq_getElem?_getD, List.getElem?_eq_getElem hi, List.getElem?_eq_getElem (show i < (chosen b l y s).length by omega)] using this
theorem chosen_new (hb : b = 0 ∨ b = 1) (hn : (adrs l).Nodup) {i : Nat} (hi : i < (chosen b l y s).length) : ¬ (chosen b l y s).getD i 0 ∈ (chosen b l y s).take i := by
  have h := chosen_nodup (y := y) (s := s) hb hn
  have h2 := (take_succ_getD (chosen b l y s) i 0 hi)
  have h3 : ((chosen b l y s).take (i + 1)).Nodup := (List.take_sublist _ _).nodup h
  rw [h2] at h3
  intro hc
  exact (List.nodup_append.1 h3).2.2 _ hc _ (List.mem_singleton_self _) rfl
theorem cnt_all (hb : b = 0 ∨ b = 1) (hn : (adrs l).Nodup) : cnt b (chosen b l y s) l = (chosen b l y s).length := by
  obtain ⟨k, hk⟩ := chosen_is (l := l) (y := y) (s := s) hb
  unfold cnt
  rw [((isort_perm (sel b l)).filter _).symm.length_eq, hk]
  have h1 : (isort (sel b l)).Nodup := (isort_perm _).nodup_iff.2 ((sel_sub b l).nodup hn)
  have h2 : isort (sel b l) = (isort (sel b l)).take k ++ (isort (sel b l)).drop k := (List.take_append_drop k _).symm
  generalize isort (sel b l) = o at *
  generalize o.take k = pre at *
  generalize o.drop k = g at *
  subst h2
  have h3 := List.nodup_append.1 h1
  rw [List.filter_append, List.filter_eq_nil_iff.2 (fun x hx => by simp; exact fun hg => h3.2.2 x hx x hg rfl), List.filter_eq_self.2 (fun x hx => by simpa using hx)]; simp
theorem chosen_max (hb : b = 0 ∨ b = 1) {i : Nat} (hi : i < l.length) (h1 : ((l.getD i dflt).bind == b) = true) (h2 : (chosen b l y s).contains (l.getD i dflt).addr = false) (h3 : 0 < (chosen b l y s).length) : (l.getD i dflt).addr ≤ (chosen b l y s).getD 0 0 := by
  obtain ⟨k, hk⟩ := chosen_is (l := l) (y := y) (s := s) hb
  have hm : (l.getD i dflt).addr ∈ isort (sel b l) := (isort_perm _).mem_iff.2 (by
    unfold sel
    refine List.mem_map.2 ⟨l.getD i dflt, List.mem_filter.2 ⟨?_, h1⟩, rfl⟩
    rw [List.getD_eq_getElem?_getD, List.getElem?_eq_getElem hi]; exact List.getElem_mem hi)
  have hu := isort_up (sel b l)
  rw [hk] at h2 h3 ⊢
  rw [← List.take_append_drop k (isort (sel b l))] at hm hu
  rcases List.mem_append.1 hm with hm | hm
  · refine (List.pairwise_append.1 hu).2.2 _ hm _ ?_
    rw [List.getD_eq_getElem?_getD, List.getElem?_eq_getElem h3]; exact List.getElem_mem h3
  · simp at h2; exact absurd hm h2
end
end Le
end Go.K
