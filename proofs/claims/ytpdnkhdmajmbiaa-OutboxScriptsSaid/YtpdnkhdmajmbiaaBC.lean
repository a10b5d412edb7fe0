/- The reference's box, and that it does as the box, in plain Lean.
Conditions: none; no program in sight. -/
import Derived.Test.YtpdnkhdmajmbiaaBB
set_option linter.unusedSimpArgs false
set_option linter.unusedVariables false
set_option linter.unusedSectionVars false
namespace Go.K
def roCells (x : Msg × Int) : List Value := [.int .i64 x.1.kind, .int .i64 x.1.life, .int .i64 x.1.seen, .int .i64 x.1.xid, .int .i64 x.1.state, .int .u32 x.1.addr, .int .i64 x.1.bind, .string x.1.client, .int .i64 x.1.pot, .int .i64 x.1.at_, .bool x.1.ok, .int .i64 x.2]
theorem ro_enc : Enc roCells 12 := ⟨fun _ => rfl, fun _ => rfl⟩
def rod : Msg × Int := (Msg.zero, 0)
structure Rb where
  l : List (Msg × Int)
  w : List Msg
  xid : Int
namespace Rb
/-- How the reference's box lies in memory. -/
def Is (TR TO TM : TypeId) (r : Rb) (rx : Nat) (H : Hp) : Prop :=
  ∃ pl cl pw cw ql qw, H = [[(rx, .cells #[.slice pl r.l.length cl, .slice pw r.w.length cw, .int .i64 r.xid] TR (0, 0))], ql, qw] ∧ Ow TO 12 (.slice pl r.l.length cl) r.l.length (r.l.flatMap roCells) ql ∧ Ow TM 11 (.slice pw r.w.length cw) r.w.length (r.w.flatMap Msg.cl) qw
def outB (l : List (Msg × Int)) (a : Int) : Bool := l.any fun x => x.1.addr == a
theorem outB_yes {l : List (Msg × Int)} {a : Int} {i : Nat} (hi : i < l.length) (h : (l.getD i rod).1.addr = a) : outB l a = true := by
  unfold outB; rw [List.any_eq_true]
  rw [List.getD_eq_getElem?_getD, List.getElem?_eq_getElem hi] at h
  exact ⟨_, List.getElem_mem hi, by simpa using h⟩
theorem outB_no {l : List (Msg × Int)} {a : Int} (h : ∀ i, i < l.length → (l.getD i rod).1.addr ≠ a) : outB l a = false := by
  unfold outB; rw [List.any_eq_false]
  intro x hx
  obtain ⟨i, hi, rfl⟩ := List.getElem_of_mem hx
  have := h i hi
  rw [List.getD_eq_getElem?_getD, List.getElem?_eq_getElem hi] at this
  simpa using this
def goes (r : Rb) (a : Int) : Rb := match r.w.findIdx? (fun m => m.addr == a) with
  | none => r
  | some i => if outB r.l a = true ∨ r.xid ≥ 1073741824 then r else ⟨r.l ++ [({ r.w.getD i Msg.zero with xid := r.xid + 1 }, -1)], r.w.take i ++ r.w.drop (i + 1), r.xid + 1⟩
theorem idx_at {l : List Msg} {a : Int} {i : Nat} (h : ∀ j, j < i → (l.getD j Msg.zero).addr ≠ a) (hi : i < l.length) (he : (l.getD i Msg.zero).addr = a) : l.findIdx? (fun m => m.addr == a) = some i := by
  rw [List.findIdx?_eq_some_iff_getElem]
  refine ⟨hi, ?_, fun j hj => ?_⟩
  · rw [List.getD_eq_getElem?_getD, List.getElem?_eq_getElem hi] at he; simpa using he
  · have := h j hj
    rw [List.getD_eq_getElem?_getD, List.getElem?_eq_getElem (by omega)] at this; simpa using this
theorem goes_at {r : Rb} {a : Int} {i : Nat} (h : ∀ j, j < i → (r.w.getD j Msg.zero).addr ≠ a) (hi : i < r.w.length) (he : (r.w.getD i Msg.zero).addr = a) (ho : outB r.l a = false) (hx : r.xid < 1073741824) :
    r.goes a = ⟨r.l ++ [({ r.w.getD i Msg.zero with xid := r.xid + 1 }, -1)], r.w.take i ++ r.w.drop (i + 1), r.xid + 1⟩ := by
  unfold goes; rw [idx_at h hi he]; simp only; rw [if_neg (by rw [ho]; simp; omega)]
theorem goes_not {r : Rb} {a : Int} (h : (∀ j, j < r.w.length → (r.w.getD j Msg.zero).addr ≠ a) ∨ outB r.l a = true ∨ r.xid ≥ 1073741824) : r.goes a = r := by
  unfold goes
  split
  · rfl
  · rename_i i hi
    rw [List.findIdx?_eq_some_iff_getElem] at hi
    obtain ⟨h1, h2, _⟩ := hi
    rcases h with h | h
    · have := h i h1
      rw [List.getD_eq_getElem?_getD, List.getElem?_eq_getElem h1] at this; simp at this h2; exact absurd h2 this
    · rw [if_pos h]
def rest (w : List Msg) (a : Int) : List Msg := w.filter fun m => m.addr != a
def put (r : Rb) (m : Msg) : Int × Rb := if m.kind ≠ 2 ∨ Msg.right (Ob.ask m) = false then (2, r) else if r.xid ≥ 1073741824 then (3, r) else (0, (⟨r.l, rest r.w m.addr ++ [Ob.kept m], r.xid⟩ : Rb).goes m.addr)
theorem put_form {r : Rb} {m : Msg} (h : m.kind ≠ 2 ∨ Msg.right (Ob.ask m) = false) : r.put m = (2, r) := if_pos h
theorem put_full {r : Rb} {m : Msg} (h : m.kind = 2) (k : Msg.right (Ob.ask m) = true) (l : r.xid ≥ 1073741824) : r.put m = (3, r) := by
  unfold put; rw [if_neg (by simp [h, k]), if_pos l]
theorem put_ok {r : Rb} {m : Msg} (h : m.kind = 2) (k : Msg.right (Ob.ask m) = true) (l : r.xid < 1073741824) : r.put m = (0, (⟨r.l, rest r.w m.addr ++ [Ob.kept m], r.xid⟩ : Rb).goes m.addr) := by
  unfold put; rw [if_neg (by simp [h, k]), if_neg (by omega)]
theorem rest_take {w : List Msg} {a : Int} {i : Nat} (hi : i < w.length) : rest (w.take (i + 1)) a = rest (w.take i) a ++ if (w.getD i Msg.zero).addr != a then [w.getD i Msg.zero] else [] := by
  have : w.take (i + 1) = w.take i ++ [w.getD i Msg.zero] := by
    rw [List.take_succ_eq_append_getElem hi, List.getD_eq_getElem?_getD, List.getElem?_eq_getElem hi]; rfl
  unfold rest; rw [this, List.filter_append]; congr 1
  generalize w.getD i Msg.zero = m
  cases h : m.addr != a <;> simp only [List.filter_cons, List.filter_nil, h] <;> rfl
def acked (r : Rb) (k : Int) : Msg × Bool × Rb := match r.l.findIdx? (fun x => x.1.xid == k) with
  | none => (Msg.zero, false, r)
  | some i => ((r.l.getD i rod).1, true, (⟨r.l.take i ++ r.l.drop (i + 1), r.w, r.xid⟩ : Rb).goes (r.l.getD i rod).1.addr)
theorem acked_at {r : Rb} {k : Int} {i : Nat} (h : ∀ j, j < i → (r.l.getD j rod).1.xid ≠ k) (hi : i < r.l.length) (he : (r.l.getD i rod).1.xid = k) : r.acked k = ((r.l.getD i rod).1, true, (⟨r.l.take i ++ r.l.drop (i + 1), r.w, r.xid⟩ : Rb).goes (r.l.getD i rod).1.addr) := by
  have : r.l.findIdx? (fun x => x.1.xid == k) = some i := by
    rw [List.findIdx?_eq_some_iff_getElem]
    refine ⟨hi, ?_, fun j hj => ?_⟩
    · rw [List.getD_eq_getElem?_getD, List.getElem?_eq_getElem hi] at he; simpa using he
    · have := h j hj
      rw [List.getD_eq_getElem?_getD, List.getElem?_eq_getElem (by omega)] at this; simpa using this
  unfold acked; rw [this]
theorem acked_no {r : Rb} {k : Int} (h : ∀ j, j < r.l.length → (r.l.getD j rod).1.xid ≠ k) : r.acked k = (Msg.zero, false, r) := by
  have : r.l.findIdx? (fun x => x.1.xid == k) = none := by
    rw [List.findIdx?_eq_none_iff]
    intro x hx
    obtain ⟨i, hi, rfl⟩ := List.getElem_of_mem hx
    have := h i hi
    rw [List.getD_eq_getElem?_getD, List.getElem?_eq_getElem hi] at this; simpa using this
  unfold acked; rw [this]
def due (now : Int) (x : Msg × Int) : Bool := decide (x.2 < 0) || decide (now - x.2 ≥ 3)
def told (now : Int) (x : Msg × Int) : Msg × Int := if due now x then (x.1, now) else x
def tick (r : Rb) (now : Int) : List Msg × Int × Rb := if now < 0 ∨ now > 1099511627776 then ([], 1, r) else ((r.l.filter (due now)).map (·.1), 0, ⟨r.l.map (told now), r.w, r.xid⟩)
/-- What was handed on ahead of the i-th, and the list then. -/
def upto (now : Int) (l : List (Msg × Int)) (i : Nat) : List Msg := ((l.take i).filter (due now)).map (·.1)
def mid (now : Int) (l : List (Msg × Int)) (i : Nat) : List (Msg × Int) := (l.take i).map (told now) ++ l.drop i
theorem mem_at {l : List (Msg × Int)} {i : Nat} (hi : i < l.length) : l.getD i rod ∈ l := by
  rw [List.getD_eq_getElem?_getD, List.getElem?_eq_getElem hi]; exact List.getElem_mem hi
theorem set_at {l : List (Msg × Int)} {i : Nat} {x : Msg × Int} (hi : i < l.length) : (l.set i x).getD i rod = x := by
  rw [List.getD_eq_getElem?_getD, List.getElem?_set]; simp [hi]
theorem take_s {l : List (Msg × Int)} {i : Nat} (hi : i < l.length) : l.take (i + 1) = l.take i ++ [l.getD i rod] := by
  rw [List.take_succ_eq_append_getElem hi, List.getD_eq_getElem?_getD, List.getElem?_eq_getElem hi]; rfl
theorem drop_s {l : List (Msg × Int)} {i : Nat} (hi : i < l.length) : l.drop i = l.getD i rod :: l.drop (i + 1) := by
  rw [List.drop_eq_getElem_cons hi, List.getD_eq_getElem?_getD, List.getElem?_eq_getElem hi]; rfl
theorem mid_len (now : Int) (l : List (Msg × Int)) (i : Nat) (hi : i ≤ l.length) : (mid now l i).length = l.length := by
  unfold mid; simp; omega
theorem mid_at {now : Int} {l : List (Msg × Int)} {i : Nat} (hi : i < l.length) : (mid now l i).getD i rod = l.getD i rod := by
  unfold mid
  rw [List.getD_eq_getElem?_getD, List.getElem?_append_right (by simp; omega), drop_s hi]
  simp [show i - min i l.length = 0 by omega]
theorem mid_yes {now : Int} {l : List (Msg × Int)} {i : Nat} (hi : i < l.length) (h : due now (l.getD i rod) = true) : (mid now l i).set i ((l.getD i rod).1, now) = mid now l (i + 1) := by
  unfold mid
  rw [take_s hi, List.map_append, List.append_assoc]
  have hl : ((l.take i).map (told now)).length = i := by simp; omega
  rw [List.set_append_right _ _ (by omega), hl, Nat.sub_self, drop_s hi]
  simp only [List.set_cons_zero, List.map_cons, List.map_nil, List.cons_append, List.nil_append]
  rw [show told now (l.getD i rod) = ((l.getD i rod).1, now) from if_pos h]
theorem mid_no {now : Int} {l : List (Msg × Int)} {i : Nat} (hi : i < l.length) (h : due now (l.getD i rod) = false) : mid now l (i + 1) = mid now l i := by
  unfold mid
  rw [take_s hi, List.map_append, List.append_assoc, drop_s hi]
  simp only [List.map_cons, List.map_nil, List.cons_append, List.nil_append]
  rw [show told now (l.getD i rod) = l.getD i rod from if_neg (by rw [h]; simp)]
theorem upto_yes {now : Int} {l : List (Msg × Int)} {i : Nat} (hi : i < l.length) (h : due now (l.getD i rod) = true) : upto now l (i + 1) = upto now l i ++ [(l.getD i rod).1] := by
  unfold upto; rw [take_s hi, List.filter_append, List.map_append]; generalize l.getD i rod = x at *; simp only [List.filter_cons, List.filter_nil, h]; rfl
theorem upto_no {now : Int} {l : List (Msg × Int)} {i : Nat} (hi : i < l.length) (h : due now (l.getD i rod) = false) : upto now l (i + 1) = upto now l i := by
  unfold upto; rw [take_s hi, List.filter_append, List.map_append]; generalize l.getD i rod = x at *; simp only [List.filter_cons, List.filter_nil, h, Bool.false_eq_true, if_false, List.map_nil, List.append_nil]
theorem upto_le (now : Int) (l : List (Msg × Int)) (i : Nat) : (upto now l i).length ≤ i := by
  unfold upto; rw [List.length_map]; have := List.length_filter_le (due now) (l.take i); rw [List.length_take] at this; omega
theorem tick_few {r : Rb} {now : Int} {n : Nat} (h : r.l.length ≤ n) : (r.tick now).1.length ≤ n := by
  unfold tick; split
  · exact Nat.zero_le _
  · show ((r.l.filter (due now)).map (·.1)).length ≤ n
    rw [List.length_map]; exact Nat.le_trans (List.length_filter_le _ _) h
theorem tick_no {r : Rb} {now : Int} (h : now < 0 ∨ now > 1099511627776) : r.tick now = ([], 1, r) := if_pos h
theorem tick_ok {r : Rb} {now : Int} (h : 0 ≤ now ∧ now ≤ 1099511627776) : r.tick now = (upto now r.l r.l.length, 0, ⟨mid now r.l r.l.length, r.w, r.xid⟩) := by
  unfold tick; rw [if_neg (by omega)]; unfold upto mid; simp
def clear (r : Rb) : Rb := ⟨[], [], r.xid⟩
def len (r : Rb) : Nat := r.l.length + r.w.countP fun m => !outB r.l m.addr
theorem count_s {l : List (Msg × Int)} {w : List Msg} {i : Nat} (hi : i < w.length) : (w.take (i + 1)).countP (fun m => !outB l m.addr) = (w.take i).countP (fun m => !outB l m.addr) + if outB l (w.getD i Msg.zero).addr = true then 0 else 1 := by
  have : w.take (i + 1) = w.take i ++ [w.getD i Msg.zero] := by
    rw [List.take_succ_eq_append_getElem hi, List.getD_eq_getElem?_getD, List.getElem?_eq_getElem hi]; rfl
  rw [this, List.countP_append, List.countP_singleton]
  cases outB l (w.getD i Msg.zero).addr <;> simp
def busy (r : Rb) (a : Int) : Bool := (r.w.any fun m => m.addr == a) || outB r.l a
theorem any_yes {w : List Msg} {a : Int} {i : Nat} (hi : i < w.length) (h : (w.getD i Msg.zero).addr = a) : (w.any fun m => m.addr == a) = true := by
  rw [List.any_eq_true]
  rw [List.getD_eq_getElem?_getD, List.getElem?_eq_getElem hi] at h
  exact ⟨_, List.getElem_mem hi, by simpa using h⟩
theorem any_no {w : List Msg} {a : Int} (h : ∀ i, i < w.length → (w.getD i Msg.zero).addr ≠ a) : (w.any fun m => m.addr == a) = false := by
  rw [List.any_eq_false]
  intro x hx
  obtain ⟨i, hi, rfl⟩ := List.getElem_of_mem hx
  have := h i hi
  rw [List.getD_eq_getElem?_getD, List.getElem?_eq_getElem hi] at this
  simpa using this
/-! The two are the same. -/
structure Rel (o : Ob) (r : Rb) : Prop where
  l : r.l = o.outs.map fun x => (x.msg, x.sent)
  w : r.w.Perm (o.waits.map (·.2))
  x : r.xid = o.last
theorem rel_new : Rel Ob.new ⟨[], [], 0⟩ := ⟨rfl, List.Perm.refl _, rfl⟩
variable {o : Ob} {r : Rb}
theorem rel_out (h : Rel o r) (a : Int) : outB r.l a = (o.busy a).isSome := by
  unfold outB Ob.busy; rw [h.l, List.any_map]
  cases hb : o.outs.find? (fun x => x.msg.addr == a) with
  | none => rw [List.find?_eq_none] at hb; rw [Option.isSome_none, List.any_eq_false]; intro x hx; exact hb x hx
  | some y => rw [Option.isSome_some, List.any_eq_true]; exact ⟨y, List.mem_of_find?_eq_some hb, List.find?_some hb⟩
theorem wait_of_mem (hi : o.Inv) {a : Int} {m : Msg} (h : (a, m) ∈ o.waits) : o.wait a = some m := by
  unfold Ob.wait
  have hn := hi.wn
  generalize o.waits = l at h hn
  induction l with
  | nil => cases h
  | cons p l ih =>
    obtain ⟨k, n⟩ := p
    obtain ⟨h1, h2⟩ := List.nodup_cons.1 hn
    rcases List.mem_cons.1 h with h' | h'
    · cases h'; simp
    · have : a ≠ k := fun e => h1 (by subst e; exact List.mem_map.2 ⟨_, h', rfl⟩)
      have : (a == k) = false := by simp [this]
      rw [List.lookup_cons, this]; exact ih h' h2
theorem rel_mem (hi : o.Inv) (h : Rel o r) {m : Msg} : m ∈ r.w ↔ o.wait m.addr = some m := by
  rw [h.w.mem_iff, List.mem_map]
  constructor
  · rintro ⟨⟨k, n⟩, h1, rfl⟩
    have := hi.wa _ h1
    simp only at this ⊢
    rw [this]; exact wait_of_mem hi h1
  · intro hw; exact ⟨_, Ob.wait_mem hw, rfl⟩
theorem split_wdel : ∀ {l : List (Int × Msg)} {a : Int} {m : Msg}, l.lookup a = some m → l.Perm ((a, m) :: Ob.goes.wdel l a)
  | [], _, _, h => by cases h
  | (k, n) :: l, a, m, h => by
    unfold Ob.goes.wdel
    by_cases e : k = a
    · subst e; simp at h; subst h; rw [if_pos rfl]
    · have h0 : (a == k) = false := by simp; exact fun x => e x.symm
      rw [List.lookup_cons, h0] at h
      rw [if_neg e]
      exact ((split_wdel h).cons _).trans (List.Perm.swap _ _ _)
theorem idx_none {w : List Msg} {a : Int} (h : ∀ m, m ∈ w → m.addr ≠ a) : ∀ j, j < w.length → (w.getD j Msg.zero).addr ≠ a := fun j hj => by
  rw [List.getD_eq_getElem?_getD, List.getElem?_eq_getElem hj]; exact h _ (List.getElem_mem hj)
theorem first_of {w : List Msg} {a : Int} {m : Msg} (hm : m ∈ w) (h : m.addr = a) : ∃ i, i < w.length ∧ (w.getD i Msg.zero).addr = a ∧ ∀ j, j < i → (w.getD j Msg.zero).addr ≠ a := by
  have hf : (w.findIdx? fun m => m.addr == a).isSome = true := by
    rw [List.findIdx?_isSome, List.any_eq_true]; exact ⟨m, hm, by simp [h]⟩
  obtain ⟨i, hi⟩ := Option.isSome_iff_exists.1 hf
  rw [List.findIdx?_eq_some_iff_getElem] at hi
  obtain ⟨h1, h2, h3⟩ := hi
  refine ⟨i, h1, ?_, fun j hj => ?_⟩
  · rw [List.getD_eq_getElem?_getD, List.getElem?_eq_getElem h1]; simpa using h2
  · rw [List.getD_eq_getElem?_getD, List.getElem?_eq_getElem (by omega)]; simpa using h3 j hj
theorem rel_goes (hi : o.Inv) (h : Rel o r) (a : Int) (b : Nat) : Rel (o.goes a b) (r.goes a) := by
  rcases Ob.goes_cases o a b with e | ⟨m, h1, h2, h3, e⟩
  · rw [e]
    have hcase : o.wait a = none ∨ (∃ x, o.busy a = some x) ∨ ¬ o.last < 1073741824 := Classical.byContradiction fun hc => by
      have c1 : o.wait a ≠ none := fun e => hc (.inl e)
      have c2 : o.busy a = none := by
        cases hb : o.busy a with
        | none => rfl
        | some x => exact absurd (.inr (.inl ⟨x, hb⟩)) hc
      have c3 : o.last < 1073741824 := Classical.byContradiction fun e => hc (.inr (.inr e))
      obtain ⟨m, hm⟩ := Option.ne_none_iff_exists'.1 c1
      rw [Ob.goes_go hm c2 c3] at e
      have := congrArg Ob.last e
      have : o.last + 1 = o.last := this
      omega
    rw [goes_not]
    · exact h
    · rcases hcase with hc | ⟨x, hc⟩ | hc
      · left; exact idx_none fun m hm he => by
          have := (rel_mem hi h).1 hm; rw [he, hc] at this; cases this
      · right; left; rw [rel_out h, hc]; rfl
      · right; right; rw [h.x]; omega
  · rw [e]
    have hma : m.addr = a := hi.wa _ (Ob.wait_mem h1)
    have hmr : m ∈ r.w := (rel_mem hi h).2 (by rw [hma]; exact h1)
    obtain ⟨i, i1, i2, i3⟩ := first_of hmr hma
    have him : r.w.getD i Msg.zero = m := by
      have : r.w.getD i Msg.zero ∈ r.w := by rw [List.getD_eq_getElem?_getD, List.getElem?_eq_getElem i1]; exact List.getElem_mem i1
      have := (rel_mem hi h).1 this
      rw [i2, h1] at this; exact (Option.some.inj this).symm
    rw [goes_at i3 i1 i2 (by rw [rel_out h, h2]; rfl) (by rw [h.x]; exact h3), him, h.x]
    refine ⟨by rw [h.l]; simp, ?_, rfl⟩
    have p1 : r.w.Perm (m :: (r.w.take i ++ r.w.drop (i + 1))) := by
      have : r.w = r.w.take i ++ m :: r.w.drop (i + 1) := by
        conv => lhs; rw [← List.take_append_drop i r.w, List.drop_eq_getElem_cons i1]
        rw [← him, List.getD_eq_getElem?_getD, List.getElem?_eq_getElem i1]; rfl
      conv => lhs; rw [this]
      exact List.perm_middle
    have p2 : (o.waits.map (·.2)).Perm (m :: (Ob.goes.wdel o.waits a).map (·.2)) := (split_wdel h1).map (·.2)
    exact (p1.symm.trans (h.w.trans p2)).cons_inv
theorem rest_waits (hi : o.Inv) (a : Int) (m : Msg) : ∀ {l : List (Int × Msg)}, (∀ p, p ∈ l → p.2.addr = p.1) → (l.map (·.1)).Nodup → (((Ob.wset l a m).map (·.2)).Perm (rest (l.map (·.2)) a ++ [m]))
  | [], _, _ => List.Perm.refl _
  | (k, n) :: l, hw, hn => by
    obtain ⟨h1, h2⟩ := List.nodup_cons.1 hn
    have hk : n.addr = k := hw _ (List.mem_cons_self ..)
    unfold Ob.wset
    by_cases e : k = a
    · subst e
      rw [if_pos rfl]
      have hr : rest (((k, n) :: l).map (·.2)) k = l.map (·.2) := by
        unfold rest
        rw [List.map_cons, List.filter_cons_of_neg (by simp [hk])]
        refine List.filter_eq_self.2 fun x hx => ?_
        obtain ⟨p, hp, rfl⟩ := List.mem_map.1 hx
        have := hw _ (List.mem_cons_of_mem _ hp)
        have : p.1 ≠ k := fun e => h1 (List.mem_map.2 ⟨p, hp, e⟩)
        simp; omega
      rw [hr, List.map_cons]
      exact List.perm_append_comm (l₁ := [m])
    · rw [if_neg e]
      have hr : rest (((k, n) :: l).map (·.2)) a = n :: rest (l.map (·.2)) a := by
        unfold rest
        rw [List.map_cons, List.filter_cons_of_pos (by simp [hk, e])]
      rw [hr, List.map_cons]
      exact (rest_waits hi a m (fun p hp => hw p (List.mem_cons_of_mem _ hp)) h2).cons _
theorem rel_put (hi : o.Inv) (h : Rel o r) (m : Msg) (b : Nat) : (r.put m).1 = (o.put m b).1 ∧ Rel (o.put m b).2 (r.put m).2 := by
  unfold put Ob.put
  by_cases c1 : m.kind ≠ 2 ∨ Msg.right (Ob.ask m) = false
  · rw [if_pos c1, if_pos c1]; exact ⟨rfl, h⟩
  · rw [if_neg c1, if_neg c1, h.x]
    by_cases c2 : o.last ≥ 1073741824
    · rw [if_pos c2, if_pos c2]; exact ⟨rfl, h⟩
    · rw [if_neg c2, if_neg c2]
      refine ⟨rfl, rel_goes (o := o.set m.addr (Ob.kept m)) (r := ⟨r.l, rest r.w m.addr ++ [Ob.kept m], o.last⟩) (Ob.inv_set hi rfl) ⟨h.l, ?_, rfl⟩ _ _⟩
      refine List.Perm.trans ?_ (rest_waits hi m.addr (Ob.kept m) hi.wa hi.wn).symm
      exact (h.w.filter _).append_right _
theorem rel_acked (hi : o.Inv) (h : Rel o r) (k : Int) (b : Nat) : (r.acked k).1 = (o.acked k b).1 ∧ (r.acked k).2.1 = (o.acked k b).2.1 ∧ Rel (o.acked k b).2.2 (r.acked k).2.2 := by
  cases hf : o.outs.find? (fun x => x.xid == k) with
  | none =>
    rw [Ob.acked_none hf, acked_no]
    · exact ⟨rfl, rfl, h⟩
    · intro j hj
      rw [h.l, List.length_map] at hj
      rw [h.l, List.getD_eq_getElem?_getD, List.getElem?_map, List.getElem?_eq_getElem hj]
      have := List.find?_eq_none.1 hf _ (List.getElem_mem hj)
      have hm := hi.mx _ (List.getElem_mem hj)
      show (o.outs[j]).msg.xid ≠ k
      rw [hm]; simpa using this
  | some x =>
    obtain ⟨h1, pre, post, h2, h3, h4⟩ := Ob.at_split hf
    have hl : r.l = pre.map (fun x => (x.msg, x.sent)) ++ (x.msg, x.sent) :: post.map (fun x => (x.msg, x.sent)) := by rw [h.l, h2]; simp
    have hlen : pre.length < r.l.length := by rw [hl]; simp
    have hg : r.l.getD pre.length rod = (x.msg, x.sent) := by rw [hl, List.getD_eq_getElem?_getD, List.getElem?_append_right (by simp)]; simp
    have hxo : x ∈ o.outs := by rw [h2]; exact List.mem_append.2 (.inr (List.mem_cons_self ..))
    have hat := acked_at (r := r) (k := k) (i := pre.length) (fun j hj => by
      rw [hl, List.getD_eq_getElem?_getD, List.getElem?_append_left (by simpa using hj), List.getElem?_map, List.getElem?_eq_getElem hj]
      have hmem : pre[j] ∈ pre := List.getElem_mem hj
      have hm := hi.mx pre[j] (by rw [h2]; exact List.mem_append.2 (.inl hmem))
      show pre[j].msg.xid ≠ k
      rw [hm]; exact h3 _ hmem) hlen (by rw [hg]; show x.msg.xid = k; rw [hi.mx x hxo, h1])
    rw [hat, Ob.acked_some hf, hg]
    refine ⟨rfl, rfl, rel_goes (r := ⟨r.l.take pre.length ++ r.l.drop (pre.length + 1), r.w, r.xid⟩) (Ob.inv_rem hi) ⟨?_, h.w, h.x⟩ _ _⟩
    rw [h4, hl]
    have ht : (pre.map (fun x => (x.msg, x.sent)) ++ (x.msg, x.sent) :: post.map (fun x => (x.msg, x.sent))).take pre.length = pre.map (fun x => (x.msg, x.sent)) := by
      rw [List.take_append_of_le_length (by simp)]; exact List.take_of_length_le (by simp)
    have hd : (pre.map (fun x => (x.msg, x.sent)) ++ (x.msg, x.sent) :: post.map (fun x => (x.msg, x.sent))).drop (pre.length + 1) = post.map (fun x => (x.msg, x.sent)) := by
      rw [List.drop_append, List.drop_eq_nil_of_le (by simp)]; simp
    show _ = (pre ++ post).map (fun x => (x.msg, x.sent))
    rw [ht, hd, List.map_append]
theorem rel_tick (hi : o.Inv) (h : Rel o r) (now : Int) : (r.tick now).1 = (o.tickE now).1 ∧ (r.tick now).2.1 = (o.tickE now).2.1 ∧ Rel (o.tickE now).2.2 (r.tick now).2.2 := by
  unfold tick Ob.tickE
  by_cases c : now < 0 ∨ now > 1099511627776
  · rw [if_pos c, if_pos c]; exact ⟨rfl, rfl, h⟩
  · rw [if_neg c, if_neg c]
    have hd : ∀ x, x ∈ o.outs → due now (x.msg, x.sent) = Ob.due now x := fun x hx => by
      have := hi.st x hx
      unfold due Ob.due
      congr 1
      exact decide_eq_decide.2 (by show x.sent < 0 ↔ x.sent = -1; omega)
    refine ⟨?_, rfl, ?_, h.w, h.x⟩
    · show (r.l.filter (due now)).map (·.1) = (o.outs.filter (Ob.due now)).map (·.msg)
      rw [h.l, List.filter_map, List.map_map]
      have : o.outs.filter (due now ∘ fun x => (x.msg, x.sent)) = o.outs.filter (Ob.due now) := List.filter_congr fun x hx => hd x hx
      rw [this]; rfl
    · show r.l.map (told now) = (o.outs.map (Ob.told now)).map _
      rw [h.l, List.map_map, List.map_map]
      refine List.map_congr_left fun x hx => ?_
      show told now (x.msg, x.sent) = ((Ob.told now x).msg, (Ob.told now x).sent)
      unfold told Ob.told
      rw [hd x hx]
      split <;> rfl
theorem facts (hi : o.Inv) (h : Rel o r) : (r.l.length : Int) ≤ o.load ∧ (r.w.length : Int) ≤ o.load ∧ (-1 ≤ r.xid ∧ r.xid ≤ 1073741824) ∧ ∀ x, x ∈ r.l → -1 ≤ x.2 ∧ x.2 ≤ 1099511627776 := by
  have h1 : r.l.length = o.outs.length := by rw [h.l, List.length_map]
  have h2 : r.w.length = o.waits.length := by rw [h.w.length_eq, List.length_map]
  have h3 := Ob.outs_len hi
  have h4 := hi.l0
  have h5 := hi.l1
  unfold Ob.load
  refine ⟨by omega, by omega, by rw [h.x]; constructor <;> omega, fun x hx => ?_⟩
  rw [h.l] at hx
  obtain ⟨y, hy, rfl⟩ := List.mem_map.1 hx
  exact hi.st y hy
theorem rel_clear (h : Rel o r) : Rel o.clear r.clear := ⟨rfl, List.Perm.refl _, h.x⟩
theorem rel_len (hi : o.Inv) (h : Rel o r) : r.len = o.len := by
  unfold len Ob.len
  have h1 : r.l.length = o.outs.length := by rw [h.l, List.length_map]
  have h2 : r.w.countP (fun m => !outB r.l m.addr) = o.mw.countP o.idle := by
    rw [h.w.countP_eq]
    unfold Ob.mw
    rw [List.countP_map, List.countP_map]
    refine List.countP_congr fun p hp => ?_
    show (!outB r.l p.2.addr) = true ↔ o.idle (p.1, _) = true
    unfold Ob.idle
    rw [rel_out h, hi.wa p hp]
    cases o.busy p.1 <;> simp
  omega
theorem rel_busy (hi : o.Inv) (h : Rel o r) (a : Int) : r.busy a = o.isBusy a := by
  unfold busy Ob.isBusy
  rw [rel_out h, Bool.or_comm]
  congr 1
  cases hw : o.wait a with
  | none =>
    rw [Option.isSome_none, List.any_eq_false]
    intro m hm he
    have := (rel_mem hi h).1 hm
    rw [show m.addr = a by simpa using he, hw] at this; cases this
  | some m =>
    rw [Option.isSome_some, List.any_eq_true]
    have hma : m.addr = a := hi.wa _ (Ob.wait_mem hw)
    exact ⟨m, (rel_mem hi h).2 (by rw [hma]; exact hw), by simp [hma]⟩
end Rb
/-- A step of the statement. -/
structure St18 where
  do_ : Int
  n : Int
  m : Msg
def St18.cells (s : St18) : List Value := [.int .i64 s.do_, .int .i64 s.n, .int .i64 s.m.kind, .int .i64 s.m.life, .int .i64 s.m.seen, .int .i64 s.m.xid, .int .i64 s.m.state, .int .u32 s.m.addr, .int .i64 s.m.bind, .string s.m.client, .int .i64 s.m.pot, .int .i64 s.m.at_, .bool s.m.ok]
def St18.dflt : St18 := ⟨0, 0, Msg.zero⟩
theorem St18.enc : Enc St18.cells 13 := ⟨fun _ => rfl, fun _ => rfl⟩
end Go.K
