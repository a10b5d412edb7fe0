/- A box of messages that go out, in plain Lean, and how it lies in memory.
Conditions: none; no program in sight. -/
import Derived.Test.YtpdnkhdmajmbiaaKE
import Derived.Test.YtpdnkhdmajmbiaaMB
import Derived.Test.YtpdnkhdmajmbiaaSA
import Derived.Test.YtpdnkhdmajmbiaaKF
set_option linter.unusedSimpArgs false
set_option linter.unusedVariables false
set_option linter.unusedSectionVars false
namespace Go.K
/-- One that is out: where it lies, its number, itself, when it was sent last. -/
structure Out where
  blk : Nat
  xid : Int
  msg : Msg
  sent : Int
def Out.cells (x : Out) : Array Value := #[.int .i64 x.msg.kind, .int .i64 x.msg.life, .int .i64 x.msg.seen, .int .i64 x.msg.xid, .int .i64 x.msg.state, .int .u32 x.msg.addr, .int .i64 x.msg.bind, .string x.msg.client, .int .i64 x.msg.pot, .int .i64 x.msg.at_, .bool x.msg.ok, .int .i64 x.sent]
theorem Om.form {kk : IntKind} {v : Value} {l : List (Int × Value)} {s : Sg} (h : Om kk v l s) : ∃ b, v = .map (some b) := by
  obtain ⟨b, _, _, e, _⟩ := h; exact ⟨b, e⟩
structure Ob where
  outs : List Out
  waits : List (Int × Msg)
  last : Int
namespace Ob
def mout (o : Ob) : List (Int × Value) := o.outs.map fun x => (x.xid, .pointer (some ⟨x.blk, 0, none⟩))
def mf (o : Ob) : List (Int × Value) := o.outs.map fun x => (x.msg.addr, .int .i64 x.xid)
def mw (o : Ob) : List (Int × Value) := o.waits.map fun x => (x.1, .agg x.2.cells)
/-- The blocks of those that are out. -/
def sg (T : TypeId) (o : Ob) : Sg := o.outs.map fun x => (x.blk, .cells x.cells T (0, 0))
/-- How a box lies in memory: T is the type of one that is out, TB the box's. -/
def Is (T TB : TypeId) (o : Ob) (bx : Nat) (H : Hp) : Prop :=
  ∃ vo vf vw so sf sw, H = [[(bx, .cells #[vo, vf, vw, .int .i64 o.last] TB (0, 0))], so, sf, sw, o.sg T] ∧ Om .i64 vo o.mout so ∧ Om .u32 vf o.mf sf ∧ Om .u32 vw o.mw sw
def new : Ob := ⟨[], [], 0⟩
def busy (o : Ob) (a : Int) : Option Out := o.outs.find? fun x => x.msg.addr == a
def wait (o : Ob) (a : Int) : Option Msg := o.waits.lookup a
/-- What waits of an address goes out, if it may; b is where it will lie. -/
def goes (o : Ob) (a : Int) (b : Nat) : Ob := match o.wait a, o.busy a with
  | some m, none => if o.last ≥ 1073741824 then o else ⟨o.outs ++ [⟨b, o.last + 1, { m with xid := o.last + 1 }, -1⟩], wdel o.waits a, o.last + 1⟩
  | _, _ => o
where wdel : List (Int × Msg) → Int → List (Int × Msg)
  | [], _ => []
  | (k, m) :: l, a => if k = a then l else (k, m) :: wdel l a
def wset : List (Int × Msg) → Int → Msg → List (Int × Msg)
  | [], k, m => [(k, m)]
  | (k', m') :: l, k, m => if k' = k then (k, m) :: l else (k', m') :: wset l k m
theorem mw_get (l : List (Int × Msg)) (a : Int) : mget (l.map fun x => (x.1, Value.agg x.2.cells)) a = (l.lookup a).map fun m => .agg m.cells := by
  unfold mget
  induction l with
  | nil => rfl
  | cons p l ih =>
    obtain ⟨k, m⟩ := p
    simp only [List.map_cons, List.lookup_cons, ih]
    cases a == k <;> rfl
theorem mw_del (l : List (Int × Msg)) (a : Int) : mdel (l.map fun x => (x.1, Value.agg x.2.cells)) a = (goes.wdel l a).map fun x => (x.1, Value.agg x.2.cells) := by
  induction l with
  | nil => rfl
  | cons p l ih =>
    obtain ⟨k, m⟩ := p
    simp only [List.map_cons, mdel, goes.wdel]
    split
    · rfl
    · rw [List.map_cons, ih]
theorem mw_set (l : List (Int × Msg)) (a : Int) (m : Msg) : mset (l.map fun x => (x.1, Value.agg x.2.cells)) a (.agg m.cells) = (wset l a m).map fun x => (x.1, Value.agg x.2.cells) := by
  induction l with
  | nil => rfl
  | cons p l ih =>
    obtain ⟨k, n⟩ := p
    simp only [List.map_cons, mset, wset]
    split
    · rfl
    · rw [List.map_cons, ih]
theorem mf_get (o : Ob) (a : Int) : mget o.mf a = (o.busy a).map fun x => .int .i64 x.xid := by
  unfold mget mf busy
  induction o.outs with
  | nil => rfl
  | cons x l ih =>
    simp only [List.map_cons, List.lookup_cons, List.find?_cons, ih]
    by_cases h : x.msg.addr = a
    · subst h; simp
    · have h1 : (a == x.msg.addr) = false := by simp; exact fun e => h e.symm
      have h2 : (x.msg.addr == a) = false := by simp [h]
      rw [h1, h2]
theorem wait_mem {o : Ob} {a : Int} {m : Msg} (h : o.wait a = some m) : (a, m) ∈ o.waits := by
  unfold wait at h
  generalize o.waits = l at h
  induction l with
  | nil => cases h
  | cons p l ih =>
    obtain ⟨k, n⟩ := p
    rw [List.lookup_cons] at h
    by_cases e : a = k
    · subst e; simp at h; subst h; exact List.mem_cons_self ..
    · have : (a == k) = false := by simp [e]
      rw [this] at h; exact List.mem_cons_of_mem _ (ih h)
theorem mset_new {l : List (Int × Value)} {k : Int} {v : Value} (h : mget l k = none) : mset l k v = l ++ [(k, v)] := mset_none h
theorem mout_none {o : Ob} {k : Int} (h : ∀ x, x ∈ o.outs → x.xid ≠ k) : mget o.mout k = none := by
  unfold mget mout
  generalize o.outs = l at h
  induction l with
  | nil => rfl
  | cons x l ih =>
    have h1 : (k == x.xid) = false := by have := h x (List.mem_cons_self ..); simp; exact fun e => this e.symm
    rw [List.map_cons, List.lookup_cons, h1]; exact ih fun y hy => h y (List.mem_cons_of_mem _ hy)
/-- What a box keeps: each is of its address; numbers are behind those given. -/
structure Inv (o : Ob) : Prop where
  l0 : 0 ≤ o.last
  l1 : o.last ≤ 1073741824
  xs : ∀ x, x ∈ o.outs → 1 ≤ x.xid ∧ x.xid ≤ o.last
  wa : ∀ p, p ∈ o.waits → p.2.addr = p.1
  ad : o.outs.Pairwise fun x y => x.msg.addr ≠ y.msg.addr
  xr : o.outs.Pairwise fun x y => x.xid < y.xid
  st : ∀ x, x ∈ o.outs → -1 ≤ x.sent ∧ x.sent ≤ 1099511627776
  mx : ∀ x, x ∈ o.outs → x.msg.xid = x.xid
  wn : (o.waits.map (·.1)).Nodup
theorem goes_go {o : Ob} {a : Int} {b : Nat} {m : Msg} (ho : o.wait a = some m) (hb : o.busy a = none) (hl : o.last < 1073741824) : o.goes a b = ⟨o.outs ++ [⟨b, o.last + 1, { m with xid := o.last + 1 }, -1⟩], goes.wdel o.waits a, o.last + 1⟩ := by
  unfold goes; rw [ho, hb]; simp only; rw [if_neg (by omega)]
theorem is_go {T TB : TypeId} {o : Ob} {a : Int} {b bx : Nat} {m : Msg} {vo vf vw : Value} {so sf sw : Sg} (hi : o.Inv) (ho : o.wait a = some m) (hb : o.busy a = none) (hl : o.last < 1073741824)
    (h1 : Om .i64 vo (mset o.mout (o.last + 1) (.pointer (some ⟨b, 0, none⟩))) so) (h2 : Om .u32 vf (mset o.mf a (.int .i64 (o.last + 1))) sf) (h3 : Om .u32 vw (mdel o.mw a) sw) :
    Is T TB (o.goes a b) bx [[(bx, .cells #[vo, vf, vw, .int .i64 (o.last + 1)] TB (0, 0))], so, sf, sw, o.sg T ++ [(b, .cells (Out.cells ⟨b, o.last + 1, { m with xid := o.last + 1 }, -1⟩) T (0, 0))]] := by
  rw [goes_go ho hb hl]
  have ha := hi.wa _ (wait_mem ho)
  rw [mset_new (mout_none fun x hx => by have := hi.xs x hx; omega)] at h1
  rw [mset_new (by rw [mf_get, hb]; rfl)] at h2
  refine ⟨vo, vf, vw, so, sf, sw, by simp [sg], ?_, ?_, ?_⟩
  · simpa [mout] using h1
  · have e : (⟨o.outs ++ [⟨b, o.last + 1, { m with xid := o.last + 1 }, -1⟩], goes.wdel o.waits a, o.last + 1⟩ : Ob).mf = o.mf ++ [(a, .int .i64 (o.last + 1))] := by simp only [mf, List.map_append, List.map_cons, List.map_nil]; rw [ha]
    rw [e]; exact h2
  · have : mdel o.mw a = (goes.wdel o.waits a).map fun x => (x.1, Value.agg x.2.cells) := mw_del o.waits a
    rw [this] at h3; exact h3
theorem goes_not {o : Ob} {a : Int} {b : Nat} (h : o.wait a = none ∨ (∃ x, o.busy a = some x) ∨ ¬ o.last < 1073741824) : o.goes a b = o := by
  unfold goes
  rcases h with h | ⟨x, h⟩ | h
  · rw [h]
  · rw [h]; cases o.wait a <;> rfl
  · split
    · rw [if_pos (by omega)]
    · rfl
theorem mem_wset {l : List (Int × Msg)} {a : Int} {m : Msg} {p : Int × Msg} (h : p ∈ wset l a m) : p = (a, m) ∨ p ∈ l := by
  induction l with
  | nil => simp [wset] at h; exact .inl h
  | cons q l ih =>
    obtain ⟨k, n⟩ := q
    unfold wset at h
    split at h
    · rcases List.mem_cons.1 h with h | h
      · exact .inl h
      · exact .inr (List.mem_cons_of_mem _ h)
    · rcases List.mem_cons.1 h with h | h
      · subst h; exact .inr (List.mem_cons_self ..)
      · exact (ih h).imp id (List.mem_cons_of_mem _)
theorem wset_nodup {l : List (Int × Msg)} {a : Int} {m : Msg} (h : (l.map (·.1)).Nodup) : ((wset l a m).map (·.1)).Nodup := by
  induction l with
  | nil => simp [wset]
  | cons q l ih =>
    obtain ⟨k, n⟩ := q
    obtain ⟨h1, h2⟩ := List.nodup_cons.1 h
    unfold wset
    split
    · rename_i e; subst e; exact List.nodup_cons.2 ⟨h1, h2⟩
    · rename_i e
      refine List.nodup_cons.2 ⟨fun hc => ?_, ih h2⟩
      obtain ⟨p, hp, he⟩ := List.mem_map.1 hc
      rcases mem_wset hp with rfl | hp
      · exact e he.symm
      · exact h1 (List.mem_map.2 ⟨p, hp, he⟩)
theorem mem_wdel {l : List (Int × Msg)} {a : Int} {p : Int × Msg} (h : p ∈ goes.wdel l a) : p ∈ l := by
  induction l with
  | nil => exact h
  | cons q l ih =>
    obtain ⟨k, n⟩ := q
    unfold goes.wdel at h
    split at h
    · exact List.mem_cons_of_mem _ h
    · rcases List.mem_cons.1 h with h | h
      · subst h; exact List.mem_cons_self ..
      · exact List.mem_cons_of_mem _ (ih h)
theorem wdel_nodup {l : List (Int × Msg)} {a : Int} (h : (l.map (·.1)).Nodup) : ((goes.wdel l a).map (·.1)).Nodup := by
  induction l with
  | nil => exact h
  | cons q l ih =>
    obtain ⟨k, n⟩ := q
    obtain ⟨h1, h2⟩ := List.nodup_cons.1 h
    unfold goes.wdel
    split
    · exact h2
    · refine List.nodup_cons.2 ⟨fun hc => ?_, ih h2⟩
      obtain ⟨p, hp, he⟩ := List.mem_map.1 hc
      exact h1 (List.mem_map.2 ⟨p, mem_wdel hp, he⟩)
def set (o : Ob) (a : Int) (m : Msg) : Ob := ⟨o.outs, wset o.waits a m, o.last⟩
theorem inv_set {o : Ob} {a : Int} {m : Msg} (hi : o.Inv) (h : m.addr = a) : (o.set a m).Inv := ⟨hi.l0, hi.l1, hi.xs, fun p hp => by
  rcases mem_wset hp with rfl | hp
  · exact h
  · exact hi.wa p hp, hi.ad, hi.xr, hi.st, hi.mx, wset_nodup hi.wn⟩
theorem set_mw {o : Ob} {a : Int} {m : Msg} {v : Value} {s : Sg} (h : Om .u32 v (mset o.mw a (.agg m.cells)) s) : Om .u32 v (o.set a m).mw s := by
  have : mset o.mw a (.agg m.cells) = (o.set a m).mw := mw_set o.waits a m
  rw [this] at h; exact h
/-- What a message is asked for, and what is kept of it. -/
def ask (m : Msg) : Msg := { m with life := 1, seen := 0, xid := 1 }
def kept (m : Msg) : Msg := { m with life := 0, seen := 0, xid := 0 }
def put (o : Ob) (m : Msg) (b : Nat) : Int × Ob := if m.kind ≠ 2 ∨ Msg.right (ask m) = false then (2, o) else if o.last ≥ 1073741824 then (3, o) else (0, (o.set m.addr (kept m)).goes m.addr b)
theorem put_form {o : Ob} {m : Msg} {b : Nat} (h : m.kind ≠ 2 ∨ Msg.right (ask m) = false) : o.put m b = (2, o) := if_pos h
theorem put_full {o : Ob} {m : Msg} {b : Nat} (h : m.kind = 2) (k : Msg.right (ask m) = true) (l : o.last ≥ 1073741824) : o.put m b = (3, o) := by
  unfold put; rw [if_neg (by simp [h, k]), if_pos l]
theorem put_ok {o : Ob} {m : Msg} {b : Nat} (h : m.kind = 2) (k : Msg.right (ask m) = true) (l : o.last < 1073741824) : o.put m b = (0, (o.set m.addr (kept m)).goes m.addr b) := by
  unfold put; rw [if_neg (by simp [h, k]), if_neg (by omega)]
theorem inv_goes {o : Ob} {a : Int} {b : Nat} (hi : o.Inv) : (o.goes a b).Inv := by
  by_cases h : o.wait a = none ∨ (∃ x, o.busy a = some x) ∨ ¬ o.last < 1073741824
  · rw [goes_not h]; exact hi
  · have h1 : o.wait a ≠ none := fun e => h (.inl e)
    have h2 : o.busy a = none := by
      cases hb : o.busy a with
      | none => rfl
      | some x => exact absurd (.inr (.inl ⟨x, hb⟩)) h
    have h3 : o.last < 1073741824 := Classical.byContradiction fun e => h (.inr (.inr e))
    obtain ⟨m, hm⟩ := Option.ne_none_iff_exists'.1 h1
    rw [goes_go hm h2 h3]
    refine ⟨by have := hi.l0; show 0 ≤ o.last + 1; omega, by show o.last + 1 ≤ _; omega, fun x hx => ?_, fun p hp => ?_, ?_, ?_, fun x hx => ?_, fun x hx => ?_, wdel_nodup hi.wn⟩
    · rcases List.mem_append.1 hx with hx | hx
      · have := hi.xs x hx; exact ⟨this.1, by show x.xid ≤ o.last + 1; omega⟩
      · rw [List.mem_singleton] at hx; subst hx
        have := hi.l0; exact ⟨by show 1 ≤ o.last + 1; omega, Int.le_refl _⟩
    · have : ∀ l : List (Int × Msg), p ∈ goes.wdel l a → p ∈ l := fun l => by
        induction l with
        | nil => intro h; exact h
        | cons q l ih =>
          obtain ⟨k, n⟩ := q
          intro h; unfold goes.wdel at h
          split at h
          · exact List.mem_cons_of_mem _ h
          · rcases List.mem_cons.1 h with h | h
            · subst h; exact List.mem_cons_self ..
            · exact List.mem_cons_of_mem _ (ih h)
      exact hi.wa p (this _ hp)
    · refine List.pairwise_append.2 ⟨hi.ad, List.pairwise_singleton _ _, fun x hx y hy => ?_⟩
      rw [List.mem_singleton] at hy; subst hy
      have e : m.addr = a := hi.wa _ (wait_mem hm)
      have := List.find?_eq_none.1 h2 x hx
      show x.msg.addr ≠ m.addr
      rw [e]; simpa using this
    · refine List.pairwise_append.2 ⟨hi.xr, List.pairwise_singleton _ _, fun x hx y hy => ?_⟩
      rw [List.mem_singleton] at hy; subst hy
      have := hi.xs x hx; show x.xid < o.last + 1; omega
    · rcases List.mem_append.1 hx with hx | hx
      · exact hi.st x hx
      · rw [List.mem_singleton] at hx; subst hx; exact ⟨by show (-1 : Int) ≤ -1; omega, by show (-1 : Int) ≤ 1099511627776; omega⟩
    · rcases List.mem_append.1 hx with hx | hx
      · exact hi.mx x hx
      · rw [List.mem_singleton] at hx; subst hx; rfl
theorem inv_put {o : Ob} {m : Msg} {b : Nat} (hi : o.Inv) : (o.put m b).2.Inv := by
  unfold put
  split
  · exact hi
  · split
    · exact hi
    · exact inv_goes (inv_set hi rfl)
theorem inv_new : new.Inv := ⟨by decide, by decide, fun x h => (by cases h), fun p h => (by cases h), List.Pairwise.nil, List.Pairwise.nil, fun x h => (by cases h), fun x h => (by cases h), List.nodup_nil⟩
/-! one that is answered -/
def rem (o : Ob) (k : Int) : Ob := ⟨o.outs.eraseP fun x => x.xid == k, o.waits, o.last⟩
def acked (o : Ob) (k : Int) (b : Nat) : Msg × Bool × Ob := match o.outs.find? fun x => x.xid == k with
  | none => (Msg.zero, false, o)
  | some x => (x.msg, true, (o.rem k).goes x.msg.addr b)
theorem mdel_split {f : Out → Int × Value} {x : Out} {pre post : List Out} {k : Int} (hx : (f x).1 = k) (hp : ∀ y, y ∈ pre → (f y).1 ≠ k) : mdel ((pre ++ x :: post).map f) k = (pre ++ post).map f := by
  induction pre with
  | nil =>
    simp only [List.nil_append, List.map_cons]
    rw [show f x = ((f x).1, (f x).2) from rfl, hx]
    exact if_pos rfl
  | cons y l ih =>
    simp only [List.cons_append, List.map_cons]
    rw [← ih fun z hz => hp z (List.mem_cons_of_mem _ hz), show f y = ((f y).1, (f y).2) from rfl]
    exact if_neg (hp y (List.mem_cons_self ..))
theorem at_split {o : Ob} {k : Int} {x : Out} (h : o.outs.find? (fun x => x.xid == k) = some x) : x.xid = k ∧ ∃ pre post, o.outs = pre ++ x :: post ∧ (∀ y, y ∈ pre → y.xid ≠ k) ∧ (o.rem k).outs = pre ++ post := by
  obtain ⟨h1, pre, post, h2, h3⟩ := List.find?_eq_some_iff_append.1 h
  refine ⟨by simpa using h1, pre, post, h2, fun y hy => by simpa using h3 y hy, ?_⟩
  unfold rem; rw [h2]
  rw [List.eraseP_append_right _ (fun y hy => by have := h3 y hy; simpa using this)]
  show pre ++ List.eraseP (fun x => x.xid == k) (x :: post) = _
  rw [List.eraseP_cons_of_pos (p := fun (y : Out) => y.xid == k) (a := x) h1]
theorem mout_get (o : Ob) (k : Int) : mget o.mout k = (o.outs.find? fun x => x.xid == k).map fun x => .pointer (some ⟨x.blk, 0, none⟩) := by
  unfold mget mout
  induction o.outs with
  | nil => rfl
  | cons x l ih =>
    simp only [List.map_cons, List.lookup_cons, List.find?_cons, ih]
    by_cases h : x.xid = k
    · subst h; simp
    · have h1 : (k == x.xid) = false := by simp; exact fun e => h e.symm
      have h2 : (x.xid == k) = false := by simp [h]
      rw [h1, h2]
theorem rem_mout {o : Ob} {k : Int} {x : Out} (h : o.outs.find? (fun x => x.xid == k) = some x) : mdel o.mout k = (o.rem k).mout := by
  obtain ⟨h1, pre, post, h2, h3, h4⟩ := at_split h
  unfold mout; rw [h2, h4]; exact mdel_split h1 h3
theorem rem_mf {o : Ob} {k : Int} {x : Out} (hi : o.Inv) (h : o.outs.find? (fun x => x.xid == k) = some x) : mdel o.mf x.msg.addr = (o.rem k).mf := by
  obtain ⟨h1, pre, post, h2, h3, h4⟩ := at_split h
  have := hi.ad
  rw [h2] at this
  unfold mf; rw [h2, h4]
  exact mdel_split rfl fun y hy => (List.pairwise_append.1 this).2.2 y hy x (List.mem_cons_self ..)
theorem rem_sg {T : TypeId} {o : Ob} {k : Int} {x : Out} (h : o.outs.find? (fun x => x.xid == k) = some x) : ((o.rem k).sg T ++ [(x.blk, Obj.cells x.cells T (0, 0))]).Perm (o.sg T) := by
  obtain ⟨h1, pre, post, h2, h3, h4⟩ := at_split h
  unfold sg; rw [h2, h4]
  simp only [List.map_append, List.map_cons, List.append_assoc]
  exact List.Perm.append_left _ (List.perm_append_comm (l₂ := [_]))
theorem inv_rem {o : Ob} {k : Int} (hi : o.Inv) : (o.rem k).Inv :=
  ⟨hi.l0, hi.l1, fun x hx => hi.xs x (List.mem_of_mem_eraseP hx), hi.wa, hi.ad.sublist List.eraseP_sublist, hi.xr.sublist List.eraseP_sublist, fun x hx => hi.st x (List.mem_of_mem_eraseP hx), fun x hx => hi.mx x (List.mem_of_mem_eraseP hx), hi.wn⟩
theorem acked_none {o : Ob} {k : Int} {b : Nat} (h : o.outs.find? (fun x => x.xid == k) = none) : o.acked k b = (Msg.zero, false, o) := by unfold acked; rw [h]
theorem acked_some {o : Ob} {k : Int} {b : Nat} {x : Out} (h : o.outs.find? (fun x => x.xid == k) = some x) : o.acked k b = (x.msg, true, (o.rem k).goes x.msg.addr b) := by unfold acked; rw [h]
theorem inv_acked {o : Ob} {k : Int} {b : Nat} (hi : o.Inv) : (o.acked k b).2.2.Inv := by
  unfold acked; split
  · exact hi
  · exact inv_goes (inv_rem hi)
end Ob
theorem recut_last {A : Hp} {s s1 s2 : Sg} (p : (s1 ++ s2).Perm s) : (A ++ [s1, s2]).flatten.Perm (A ++ [s]).flatten := by
  simp only [List.flatten_append, List.flatten_cons, List.flatten_nil, List.append_nil]
  exact List.Perm.append_left _ p
namespace Ob
end Ob
end Go.K

namespace Go.K
namespace Sn
/-- Of an address: the greatest number, and what was answered to it. -/
def ms (l : List (Int × (Int × Bool))) : List (Int × Value) := l.map fun x => (x.1, .agg #[.int .i64 x.2.1, .bool x.2.2])
theorem ms_get (l : List (Int × (Int × Bool))) (a : Int) : mget (ms l) a = (l.lookup a).map fun x => .agg #[.int .i64 x.1, .bool x.2] := by
  unfold mget ms
  induction l with
  | nil => rfl
  | cons p l ih =>
    obtain ⟨k, m⟩ := p
    simp only [List.map_cons, List.lookup_cons, ih]
    cases a == k <;> rfl
def set : List (Int × (Int × Bool)) → Int → Int × Bool → List (Int × (Int × Bool))
  | [], k, m => [(k, m)]
  | (k', m') :: l, k, m => if k' = k then (k, m) :: l else (k', m') :: set l k m
theorem ms_set (l : List (Int × (Int × Bool))) (a : Int) (x : Int × Bool) : mset (ms l) a (.agg #[.int .i64 x.1, .bool x.2]) = ms (set l a x) := by
  unfold ms
  induction l with
  | nil => rfl
  | cons p l ih =>
    obtain ⟨k, n⟩ := p
    simp only [List.map_cons, mset, set]
    split
    · rfl
    · rw [List.map_cons, ih]
def got (l : List (Int × (Int × Bool))) (a : Int) : Int × Bool := (l.lookup a).getD (0, false)
def same (l : List (Int × (Int × Bool))) (a n : Int) : Bool := (l.lookup a).isSome && n == (got l a).1
def newer (l : List (Int × (Int × Bool))) (a n : Int) : Bool := decide (n > (got l a).1)
def yes (l : List (Int × (Int × Bool))) (a n : Int) : Bool := same l a n && (got l a).2
def note (l : List (Int × (Int × Bool))) (a n : Int) (ok : Bool) : List (Int × (Int × Bool)) := if n > (got l a).1 then set l a (n, ok) else l
/-! the reference's list -/
def row (p : Int × (Int × Bool)) : List Value := [.int .u32 p.1, .int .i64 p.2.1, .bool p.2.2]
def rdflt : Int × (Int × Bool) := (0, (0, false))
theorem row_len (p : Int × (Int × Bool)) : (row p).length = 3 := rfl
theorem row_enc : Enc row 3 := ⟨fun _ => rfl, fun _ => rfl⟩
theorem lookup_at {l : List (Int × (Int × Bool))} {a : Int} {i : Nat} (h : ∀ j, j < i → (l.getD j rdflt).1 ≠ a) (hi : i < l.length) (he : (l.getD i rdflt).1 = a) : l.lookup a = some (l.getD i rdflt).2 := by
  induction l generalizing i with
  | nil => simp at hi
  | cons p l ih =>
    obtain ⟨k, x⟩ := p
    cases i with
    | zero =>
      have : a = k := by simpa using he.symm
      subst this; simp
    | succ i =>
      have h0 : (a == k) = false := by have := h 0 (by omega); simp at this; simp; exact fun e => this e.symm
      rw [List.lookup_cons, h0]
      have := ih (i := i) (fun j hj => by have := h (j + 1) (by omega); simpa using this) (by simpa using hi) (by simpa using he)
      rw [this]; simp
theorem lookup_no {l : List (Int × (Int × Bool))} {a : Int} (h : ∀ j, j < l.length → (l.getD j rdflt).1 ≠ a) : l.lookup a = none := by
  induction l with
  | nil => rfl
  | cons p l ih =>
    obtain ⟨k, x⟩ := p
    have h0 : (a == k) = false := by have := h 0 (by simp); simp at this; simp; exact fun e => this e.symm
    rw [List.lookup_cons, h0]
    exact ih fun j hj => by have := h (j + 1) (by simpa using hj); simpa using this
theorem set_at {l : List (Int × (Int × Bool))} {a : Int} {x : Int × Bool} {i : Nat} (h : ∀ j, j < i → (l.getD j rdflt).1 ≠ a) (hi : i < l.length) (he : (l.getD i rdflt).1 = a) : set l a x = l.set i (a, x) := by
  induction l generalizing i with
  | nil => simp at hi
  | cons p l ih =>
    obtain ⟨k, y⟩ := p
    cases i with
    | zero =>
      have : k = a := by simpa using he
      subst this; exact if_pos rfl
    | succ i =>
      have h0 : k ≠ a := by have := h 0 (by omega); simpa using this
      have := ih (i := i) (fun j hj => by have := h (j + 1) (by omega); simpa using this) (by simpa using hi) (by simpa using he)
      show (if k = a then _ else (k, y) :: set l a x) = _
      rw [if_neg h0, this]; rfl
theorem set_no {l : List (Int × (Int × Bool))} {a : Int} {x : Int × Bool} (h : ∀ j, j < l.length → (l.getD j rdflt).1 ≠ a) : set l a x = l ++ [(a, x)] := by
  induction l with
  | nil => rfl
  | cons p l ih =>
    obtain ⟨k, y⟩ := p
    have h0 : k ≠ a := by have := h 0 (by simp); simpa using this
    show (if k = a then _ else (k, y) :: set l a x) = _
    rw [if_neg h0, ih fun j hj => by have := h (j + 1) (by simpa using hj); simpa using this]; rfl
end Sn
end Go.K

namespace Go.K
namespace Ob
/-- Of some that wait, those of whose address nothing is out. -/
def idle (o : Ob) (p : Int × Value) : Bool := (o.busy p.1).isNone
def len (o : Ob) : Nat := o.outs.length + o.mw.countP o.idle
theorem mf_len (o : Ob) : o.mf.length = o.outs.length := by unfold mf; simp
theorem idle_snoc (o : Ob) (ds : List (Int × Value)) (k : Int) (u : Value) : (ds ++ [(k, u)]).countP o.idle = ds.countP o.idle + if (o.busy k).isNone then 1 else 0 := by
  rw [List.countP_append, List.countP_singleton]; rfl
theorem idle_le (o : Ob) (ds : List (Int × Value)) : ds.countP o.idle ≤ ds.length := List.countP_le_length
end Ob
end Go.K

namespace Go.K
namespace Ob
/-- Is one told at a moment? -/
def due (now : Int) (x : Out) : Bool := decide (x.sent = -1) || decide (now - x.sent ≥ 3)
def told (now : Int) (x : Out) : Out := if due now x then { x with sent := now } else x
/-- What a box tells at a moment, and the box behind that. -/
def tick (o : Ob) (now : Int) : List Msg × Ob := ((o.outs.filter (due now)).map (·.msg), ⟨o.outs.map (told now), o.waits, o.last⟩)
/-- Those of xs were told. -/
def mark (now : Int) (xs : List Out) (y : Out) : Out := if xs.any (·.xid == y.xid) then { y with sent := now } else y
theorem told_blk (now : Int) (x : Out) : (told now x).blk = x.blk := by unfold told; split <;> rfl
theorem told_xid (now : Int) (x : Out) : (told now x).xid = x.xid := by unfold told; split <;> rfl
theorem told_msg (now : Int) (x : Out) : (told now x).msg = x.msg := by unfold told; split <;> rfl
theorem tick_mout (o : Ob) (now : Int) : (o.tick now).2.mout = o.mout := by
  unfold tick mout; simp only [List.map_map]
  exact List.map_congr_left fun x _ => by simp [told_blk, told_xid]
theorem tick_mf (o : Ob) (now : Int) : (o.tick now).2.mf = o.mf := by
  unfold tick mf; simp only [List.map_map]
  exact List.map_congr_left fun x _ => by simp [told_msg, told_xid]
theorem mark_nil (now : Int) (l : List Out) : l.map (mark now []) = l := by
  conv => rhs; rw [← List.map_id l]
  exact List.map_congr_left fun x _ => rfl
end Ob
end Go.K

namespace Go.K
namespace Ob
/-- The blocks of some that are out. -/
def sgl (T : TypeId) (l : List Out) : Sg := l.map fun x => (x.blk, .cells x.cells T (0, 0))
def marks (now : Int) (o : Ob) (xs : List Out) : List Out := o.outs.map (mark now xs)
theorem mark_blk (now : Int) (xs : List Out) (x : Out) : (mark now xs x).blk = x.blk := by unfold mark; split <;> rfl
theorem mark_msg (now : Int) (xs : List Out) (x : Out) : (mark now xs x).msg = x.msg := by unfold mark; split <;> rfl
theorem mark_xid (now : Int) (xs : List Out) (x : Out) : (mark now xs x).xid = x.xid := by unfold mark; split <;> rfl
def sent (now : Int) (xs : List Out) (x : Out) : Int := (mark now xs x).sent
theorem mark_cells (now : Int) (xs : List Out) (x : Out) : (mark now xs x).cells = Out.cells { x with sent := sent now xs x } := by
  unfold sent mark; split <;> rfl
theorem marks_nil {T : TypeId} (now : Int) (o : Ob) : sgl T (marks now o []) = o.sg T := by unfold marks; rw [mark_nil]; rfl
theorem uniq {l : List Out} (h : l.Pairwise fun x y => x.xid < y.xid) {x y : Out} (hx : x ∈ l) (hy : y ∈ l) (e : x.xid = y.xid) : x = y := by
  induction l with
  | nil => cases hx
  | cons z l ih =>
    obtain ⟨h1, h2⟩ := List.pairwise_cons.1 h
    rcases List.mem_cons.1 hx with hx' | hx' <;> rcases List.mem_cons.1 hy with hy' | hy'
    · rw [hx', hy']
    · subst hx'; have := h1 y hy'; omega
    · subst hy'; have := h1 x hx'; omega
    · exact ih h2 hx' hy'
theorem cut_at {o : Ob} (hi : o.Inv) {x : Out} (hx : x ∈ o.outs) : ∃ pre post, o.outs = pre ++ x :: post ∧ ∀ y, y ∈ pre ++ post → y.xid ≠ x.xid := by
  obtain ⟨pre, post, e⟩ := List.append_of_mem hx
  refine ⟨pre, post, e, fun y hy => ?_⟩
  have := hi.xr
  rw [e] at this
  obtain ⟨_, h2, h3⟩ := List.pairwise_append.1 this
  rcases List.mem_append.1 hy with hy | hy
  · have := h3 y hy x (List.mem_cons_self ..); omega
  · have := (List.pairwise_cons.1 h2).1 y hy; omega
theorem mark_other {now : Int} {xs : List Out} {x y : Out} (h : y.xid ≠ x.xid) : mark now (xs ++ [x]) y = mark now xs y := by
  have : (x.xid == y.xid) = false := by simp; exact fun e => h e.symm
  unfold mark; rw [List.any_append]; simp [this]
theorem mark_self (now : Int) (xs : List Out) (x : Out) : mark now (xs ++ [x]) x = { x with sent := now } := by
  unfold mark; rw [List.any_append]; simp
theorem cut_sg {T : TypeId} {now : Int} {o : Ob} {xs pre post : List Out} {x : Out} (e : o.outs = pre ++ x :: post) :
    (sgl T ((pre ++ post).map (mark now xs)) ++ [(x.blk, Obj.cells (Out.cells { x with sent := sent now xs x }) T (0, 0))]).Perm (sgl T (marks now o xs)) := by
  unfold sgl marks; rw [e]
  simp only [List.map_append, List.map_cons, List.append_assoc, List.map_map, mark_blk, mark_cells]
  exact List.Perm.append_left _ (List.perm_append_comm (l₂ := [_]))
theorem back_sg {T : TypeId} {now : Int} {o : Ob} {xs pre post : List Out} {x : Out} (e : o.outs = pre ++ x :: post) (h : ∀ y, y ∈ pre ++ post → y.xid ≠ x.xid) :
    (sgl T (marks now o (xs ++ [x]))).Perm (sgl T ((pre ++ post).map (mark now xs)) ++ [(x.blk, Obj.cells (Out.cells { x with sent := now }) T (0, 0))]) := by
  unfold sgl marks; rw [e]
  have h1 : pre.map (mark now (xs ++ [x])) = pre.map (mark now xs) := List.map_congr_left fun y hy => mark_other (h y (List.mem_append.2 (.inl hy)))
  have h2 : post.map (mark now (xs ++ [x])) = post.map (mark now xs) := List.map_congr_left fun y hy => mark_other (h y (List.mem_append.2 (.inr hy)))
  rw [List.map_append, List.map_cons, h1, h2, mark_self]
  simp only [List.map_append, List.map_cons, List.map_nil, List.append_assoc]
  exact List.Perm.append_left _ ((List.perm_append_comm (l₂ := [_])).symm)
/-- What was handed on ahead of the i-th. -/
def upto (now : Int) (o : Ob) (i : Nat) : List Out := (o.outs.take i).filter (due now)
def odflt : Out := ⟨0, 0, Msg.zero, 0⟩
theorem take_getD {l : List Out} {i : Nat} (hi : i < l.length) : l.take (i + 1) = l.take i ++ [l.getD i odflt] := by
  rw [List.take_succ_eq_append_getElem hi, List.getD_eq_getElem?_getD, List.getElem?_eq_getElem hi]; rfl
theorem getD_mem {l : List Out} {i : Nat} (hi : i < l.length) : l.getD i odflt ∈ l := by
  rw [List.getD_eq_getElem?_getD, List.getElem?_eq_getElem hi]; exact List.getElem_mem hi
theorem upto_yes {now : Int} {o : Ob} {i : Nat} (hi : i < o.outs.length) (h : due now (o.outs.getD i odflt) = true) : upto now o (i + 1) = upto now o i ++ [o.outs.getD i odflt] := by
  unfold upto; rw [take_getD hi, List.filter_append]; simp only [List.filter_cons, h]; rfl
theorem upto_no {now : Int} {o : Ob} {i : Nat} (hi : i < o.outs.length) (h : due now (o.outs.getD i odflt) = false) : upto now o (i + 1) = upto now o i := by
  unfold upto; rw [take_getD hi, List.filter_append]; simp only [List.filter_cons, h]; simp
theorem upto_all (now : Int) (o : Ob) : upto now o o.outs.length = o.outs.filter (due now) := by unfold upto; rw [List.take_length]
theorem upto_len (now : Int) (o : Ob) (i : Nat) : (upto now o i).length ≤ i := by
  unfold upto; have := List.length_filter_le (due now) (o.outs.take i); rw [List.length_take] at this; omega
theorem mark_at {now : Int} {o : Ob} (hi : o.Inv) {i : Nat} (h : i < o.outs.length) : mark now (upto now o i) (o.outs.getD i odflt) = o.outs.getD i odflt := by
  unfold mark
  rw [if_neg]
  intro hc
  obtain ⟨y, hy, he⟩ := List.any_eq_true.1 hc
  have hy := (List.mem_filter.1 hy).1
  have hs := hi.xr
  rw [← List.take_append_drop i o.outs] at hs
  have hd : o.outs.getD i odflt ∈ o.outs.drop i := by
    rw [List.getD_eq_getElem?_getD, List.getElem?_eq_getElem h, List.drop_eq_getElem_cons h]; exact List.mem_cons_self ..
  have := (List.pairwise_append.1 hs).2.2 y hy _ hd
  have : y.xid = (o.outs.getD i odflt).xid := by simpa using he
  omega
theorem kn_at {T : TypeId} {now : Int} {o : Ob} (hi : o.Inv) {i : Nat} (h : i < o.outs.length) : ((o.outs.getD i odflt).blk, Obj.cells (o.outs.getD i odflt).cells T (0, 0)) ∈ sgl T (marks now o (upto now o i)) := by
  unfold sgl marks
  refine List.mem_map.2 ⟨o.outs.getD i odflt, List.mem_map.2 ⟨_, getD_mem h, mark_at hi h⟩, rfl⟩
theorem marks_all {now : Int} {o : Ob} (hi : o.Inv) : marks now o (o.outs.filter (due now)) = (o.tick now).2.outs := by
  unfold marks tick
  refine List.map_congr_left fun y hy => ?_
  unfold mark told
  by_cases h : due now y = true
  · rw [if_pos h, if_pos (List.any_eq_true.2 ⟨y, List.mem_filter.2 ⟨hy, h⟩, by simp⟩)]
  · rw [if_neg h, if_neg]
    intro hc
    obtain ⟨x, hx, he⟩ := List.any_eq_true.1 hc
    obtain ⟨h1, h2⟩ := List.mem_filter.1 hx
    have := uniq hi.xr h1 hy (by simpa using he)
    subst this; exact h h2
theorem inv_tick {now : Int} {o : Ob} (hi : o.Inv) (hn : 0 ≤ now ∧ now ≤ 1099511627776) : (o.tick now).2.Inv := by
  have e : (o.tick now).2.outs = o.outs.map (told now) := rfl
  refine ⟨hi.l0, hi.l1, fun x hx => ?_, hi.wa, ?_, ?_, fun x hx => ?_, fun x hx => ?_, hi.wn⟩
  · rw [e] at hx; obtain ⟨y, hy, rfl⟩ := List.mem_map.1 hx; rw [told_xid]; exact hi.xs y hy
  · rw [e]; exact List.pairwise_map.2 (hi.ad.imp fun h => by rw [told_msg, told_msg]; exact h)
  · rw [e]; exact List.pairwise_map.2 (hi.xr.imp fun h => by rw [told_xid, told_xid]; exact h)
  · rw [e] at hx; obtain ⟨y, hy, rfl⟩ := List.mem_map.1 hx
    unfold told; split
    · exact ⟨by show -1 ≤ now; omega, hn.2⟩
    · exact hi.st y hy
  · rw [e] at hx; obtain ⟨y, hy, rfl⟩ := List.mem_map.1 hx; rw [told_xid, told_msg]; exact hi.mx y hy
/-- The numbers of those that are out rise. -/
def xids (o : Ob) : List Int := o.outs.map (·.xid)
theorem xids_len (o : Ob) : o.xids.length = o.outs.length := by unfold xids; simp
theorem keys_up {o : Ob} (hi : o.Inv) : o.xids.Pairwise (· ≤ ·) := List.pairwise_map.2 (hi.xr.imp fun h => by omega)
theorem mout_keys (o : Ob) : o.mout.map (·.1) = o.xids := by unfold mout xids; rw [List.map_map]; rfl
theorem xid_at {o : Ob} {i : Nat} (h : i < o.outs.length) : o.xids.getD i 0 = (o.outs.getD i odflt).xid := by
  unfold xids; rw [List.getD_eq_getElem?_getD, List.getD_eq_getElem?_getD, List.getElem?_map, List.getElem?_eq_getElem h]; rfl
theorem rise_len : ∀ {l : List Out} {a b : Int}, a ≤ b → l.Pairwise (fun x y => x.xid < y.xid) → (∀ x, x ∈ l → a < x.xid ∧ x.xid ≤ b) → (l.length : Int) ≤ b - a
  | [], _, _, h, _, _ => by simp; omega
  | x :: l, a, b, _, hp, hb => by
    obtain ⟨h1, h2⟩ := List.pairwise_cons.1 hp
    have hx := hb x (List.mem_cons_self ..)
    have := rise_len (a := x.xid) (b := b) hx.2 h2 fun y hy => ⟨h1 y hy, (hb y (List.mem_cons_of_mem _ hy)).2⟩
    rw [List.length_cons]; omega
theorem outs_len {o : Ob} (hi : o.Inv) : (o.outs.length : Int) ≤ o.last := by
  have := rise_len hi.l0 hi.xr fun x hx => ⟨by have := hi.xs x hx; omega, (hi.xs x hx).2⟩; omega
theorem mout_len (o : Ob) : o.mout.length = o.outs.length := by unfold mout; simp
theorem find_at {o : Ob} (hi : o.Inv) {i : Nat} (h : i < o.outs.length) : o.outs.find? (fun x => x.xid == (o.outs.getD i odflt).xid) = some (o.outs.getD i odflt) := by
  have hm := getD_mem h
  cases hf : o.outs.find? (fun x => x.xid == (o.outs.getD i odflt).xid) with
  | none => have := List.find?_eq_none.1 hf _ hm; simp at this
  | some y =>
    have h1 := List.mem_of_find?_eq_some hf
    have h2 := List.find?_some hf
    rw [uniq hi.xr h1 hm (by simpa using h2)]
def msgs (xs : List Out) : List Msg := xs.map (·.msg)
theorem msgs_snoc (xs : List Out) (x : Out) : msgs (xs ++ [x]) = msgs xs ++ [x.msg] := by unfold msgs; simp
theorem msgs_len (xs : List Out) : (msgs xs).length = xs.length := by unfold msgs; simp
def tickE (o : Ob) (now : Int) : List Msg × Int × Ob := if now < 0 ∨ now > 1099511627776 then ([], 1, o) else ((o.tick now).1, 0, (o.tick now).2)
theorem tickE_no {o : Ob} {now : Int} (h : now < 0 ∨ now > 1099511627776) : o.tickE now = ([], 1, o) := if_pos h
theorem tickE_ok {o : Ob} {now : Int} (h : 0 ≤ now ∧ now ≤ 1099511627776) : o.tickE now = ((o.tick now).1, 0, (o.tick now).2) := if_neg (by omega)
theorem inv_tickE {o : Ob} {now : Int} (hi : o.Inv) : (o.tickE now).2.2.Inv := by
  unfold tickE; split
  · exact hi
  · exact inv_tick hi (by omega)
end Ob
def Msg.cl (m : Msg) : List Value := m.cells.toList
theorem Msg.cl_enc : Enc Msg.cl 11 := ⟨fun _ => rfl, fun _ => rfl⟩
theorem perm_q {A B D T : Hp} : (B ++ (A ++ (D ++ T))).Perm ((A ++ T) ++ (B ++ D)) := by
  refine List.perm_append_comm.trans ?_
  rw [List.append_assoc A, List.append_assoc A]
  refine List.Perm.append_left A ?_
  rw [List.append_assoc, ← List.append_assoc T]
  exact List.perm_append_comm (l₁ := D)
end Go.K

namespace Go.K
def nB (x : Bool) : List Value := [.bool x]
theorem nB_enc : Enc nB 1 := ⟨fun _ => rfl, fun _ => rfl⟩
theorem Sn.set_len (l : List (Int × (Int × Bool))) (k : Int) (m : Int × Bool) : (Sn.set l k m).length ≤ l.length + 1 := by
  induction l with
  | nil => exact Nat.le_refl _
  | cons p l ih =>
    obtain ⟨k', m'⟩ := p
    unfold Sn.set; split <;> simp only [List.length_cons] <;> omega
theorem Sn.note_len (l : List (Int × (Int × Bool))) (a n : Int) (ok : Bool) : (Sn.note l a n ok).length ≤ l.length + 1 := by
  unfold Sn.note; split
  · exact Sn.set_len l a (n, ok)
  · omega
namespace Ob
/-- How a box lies in one piece of memory; what it keeps. -/
def In (T TB : TypeId) (o : Ob) (bx : Nat) (s : Sg) : Prop := o.Inv ∧ ∃ H, Is T TB o bx H ∧ s = H.flatten
theorem In.mk {T TB : TypeId} {o : Ob} {bx : Nat} {H : Hp} (hi : o.Inv) (h : Is T TB o bx H) : In T TB o bx H.flatten := ⟨hi, H, h, rfl⟩
theorem isR {T TB : TypeId} {o : Ob} {bx : Nat} {V : Vw} {v : Value} {V' : Vw} {H' : Hp} {p : Value → Prop} (hi : o.Inv) (hV : V' = V) (hp : p v) (h : Is T TB o bx H') :
    ∃ H2, H2.flatten.Perm H'.flatten ∧ (V' = V ∧ p v ∧ ∃ s, In T TB o bx s ∧ H2 = [s]) := ⟨[H'.flatten], one_piece H', hV, hp, _, In.mk hi h, rfl⟩
def upd (a p : Int) : Msg := { Msg.zero with kind := 2, addr := a, bind := 2, client := ⟨#[97]⟩, pot := p % 65536 }
/-- What all wait for is gone: what a box is behind Clear. -/
def clear (o : Ob) : Ob := ⟨[], [], o.last⟩
theorem inv_clear {o : Ob} (hi : o.Inv) : o.clear.Inv := ⟨hi.l0, hi.l1, fun x h => (by cases h), fun p h => (by cases h), List.Pairwise.nil, List.Pairwise.nil, fun x h => (by cases h), fun x h => (by cases h), List.nodup_nil⟩
def isBusy (o : Ob) (a : Int) : Bool := (o.busy a).isSome || (o.wait a).isSome
theorem same_rfl (m : Msg) : Msg.same m m = true := by simp [Msg.same, Msg.cells, eqVs, eqV]
theorem right_upd (a p : Int) : Msg.right (ask (upd a p)) = true := by
  unfold Msg.right
  rw [show Msg.bare (ask (upd a p)) = { Msg.zero with kind := (ask (upd a p)).kind } from rfl, same_rfl, Bool.and_true]
  have h1 : 0 ≤ p % 65536 := Int.emod_nonneg _ (by decide)
  have h2 : p % 65536 < 65536 := Int.emod_lt_of_pos _ (by decide)
  have hs : ((ask (upd a p)).client.size : Int) ≤ 32 := by show (1 : Int) ≤ 32; decide
  simp [ask, upd, Msg.go, Msg.go5, Msg.go4, Msg.go3, Msg.go2, Msg.num, Msg.zero, Msg.within, ByteArray.size] at hs ⊢
  omega
theorem put_upd {o : Ob} {a p : Int} {b : Nat} (h : o.last < 1073741824) : o.put (upd a p) b = (0, (o.set a (upd a p)).goes a b) := put_ok rfl (right_upd a p) h
/-! awake -/
def aw1 (b : Nat) : Ob := ⟨[⟨b, 1, { upd 1 5 with xid := 1 }, -1⟩], [], 1⟩
def aw2 (b : Nat) : Ob := ⟨[⟨b, 1, { upd 1 5 with xid := 1 }, -1⟩], [(1, upd 1 6)], 1⟩
def aw3 (b : Nat) : Ob := ⟨[⟨b, 1, { upd 1 5 with xid := 1 }, 0⟩], [(1, upd 1 6)], 1⟩
def aw4 (b : Nat) : Ob := ⟨[⟨b, 2, { upd 1 6 with xid := 2 }, -1⟩], [], 2⟩
theorem aw_last2 {b1 b2 : Nat} {e1 e2 : Int} {o1 o2 : Ob} (h1 : new.put (upd 1 5) b1 = (e1, o1)) (h2 : o1.put (upd 1 6) b2 = (e2, o2)) : o2.last ≤ 1000000000 := by
  obtain ⟨rfl, rfl⟩ := Prod.mk.inj ((show new.put (upd 1 5) b1 = (0, aw1 b1) from put_upd (by decide)).symm.trans h1)
  obtain ⟨rfl, rfl⟩ := Prod.mk.inj ((show (aw1 b1).put (upd 1 6) b2 = (0, aw2 b1) from put_upd (by show (1 : Int) < 1073741824; decide)).symm.trans h2)
  show (1 : Int) ≤ 1000000000; decide
theorem aw_last4 {b1 b2 b4 : Nat} {e1 e2 e3 : Int} {o1 o2 o3 o4 : Ob} {l : List Msg} {m : Msg} {f : Bool} (h1 : new.put (upd 1 5) b1 = (e1, o1)) (h2 : o1.put (upd 1 6) b2 = (e2, o2)) (h3 : o2.tickE 0 = (l, e3, o3)) (h4 : o3.acked 1 b4 = (m, f, o4)) : o4.last ≤ 1000000000 := by
  obtain ⟨rfl, rfl⟩ := Prod.mk.inj ((show new.put (upd 1 5) b1 = (0, aw1 b1) from put_upd (by decide)).symm.trans h1)
  obtain ⟨rfl, rfl⟩ := Prod.mk.inj ((show (aw1 b1).put (upd 1 6) b2 = (0, aw2 b1) from put_upd (by show (1 : Int) < 1073741824; decide)).symm.trans h2)
  have h3 := (show (aw2 b1).tickE 0 = ([{ upd 1 5 with xid := 1 }], 0, aw3 b1) from rfl).symm.trans h3
  simp only [Prod.mk.injEq] at h3
  obtain ⟨rfl, rfl, rfl⟩ := h3
  have h4 := (show (aw3 b1).acked 1 b4 = ({ upd 1 5 with xid := 1 }, true, aw4 b4) from rfl).symm.trans h4
  simp only [Prod.mk.injEq] at h4
  obtain ⟨rfl, rfl, rfl⟩ := h4
  show (2 : Int) ≤ 1000000000; decide
theorem awk {b1 b2 b4 : Nat} {e1 e2 e3 e5 : Int} {o1 o2 o3 o4 o5 : Ob} {l k : List Msg} {m : Msg} {f : Bool} (h1 : new.put (upd 1 5) b1 = (e1, o1)) (h2 : o1.put (upd 1 6) b2 = (e2, o2)) (h3 : o2.tickE 0 = (l, e3, o3)) (h4 : o3.acked 1 b4 = (m, f, o4)) (h5 : o4.tickE 0 = (k, e5, o5)) :
    e3 = 0 ∧ l.length = 1 ∧ f = true ∧ m.pot = 5 ∧ k.length = 1 ∧ (k.getD 0 Msg.zero).xid = 2 ∧ (k.getD 0 Msg.zero).pot = 6 := by
  obtain ⟨rfl, rfl⟩ := Prod.mk.inj ((show new.put (upd 1 5) b1 = (0, aw1 b1) from put_upd (by decide)).symm.trans h1)
  obtain ⟨rfl, rfl⟩ := Prod.mk.inj ((show (aw1 b1).put (upd 1 6) b2 = (0, aw2 b1) from put_upd (by show (1 : Int) < 1073741824; decide)).symm.trans h2)
  have h3 := (show (aw2 b1).tickE 0 = ([{ upd 1 5 with xid := 1 }], 0, aw3 b1) from rfl).symm.trans h3
  simp only [Prod.mk.injEq] at h3
  obtain ⟨rfl, rfl, rfl⟩ := h3
  have h4 := (show (aw3 b1).acked 1 b4 = ({ upd 1 5 with xid := 1 }, true, aw4 b4) from rfl).symm.trans h4
  simp only [Prod.mk.injEq] at h4
  obtain ⟨rfl, rfl, rfl⟩ := h4
  have h5 := (show ((aw4 b4).tickE 0).1 = [{ upd 1 6 with xid := 2 }] from rfl).symm.trans (congrArg (·.1) h5)
  obtain rfl : _ = k := h5
  exact ⟨rfl, rfl, rfl, rfl, rfl, rfl, rfl⟩
end Ob
end Go.K
