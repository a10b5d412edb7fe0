/- What arguments of the statements on boxes are.
Conditions: none; no program in sight. -/
import Derived.Test.YtpdnkhdmajmbiaaBA
import Derived.Test.YtpdnkhdmajmbiaaKB
import Derived.Test.YtpdnkhdmajmbiaaKF
set_option linter.unusedSimpArgs false
set_option linter.unusedVariables false
set_option linter.unusedSectionVars false
namespace Go.K
theorem nB_of_wf {q : List Value} (h : wfVs [(1, .i64)] q) : ∃ b, q = nB b ∧ True := by
  obtain ⟨v0, c0, rfl, h0, k0⟩ := wfVs_cons h
  obtain rfl := wfVs_nil k0
  obtain ⟨b, rfl⟩ := wfV_bool h0
  exact ⟨b, rfl, trivial⟩
end Go.K

namespace Go.K
def pr2 (x : Int × Int) : List Value := [.int .i64 x.1, .int .i64 x.2]
theorem pr2_enc : Enc pr2 2 := ⟨fun _ => rfl, fun _ => rfl⟩
theorem pr2_of_wf {q : List Value} (h : wfVs [(0, .i64), (0, .i64)] q) : ∃ x, q = pr2 x ∧ True := by
  obtain ⟨v0, c0, rfl, h0, k0⟩ := wfVs_cons h
  obtain ⟨v1, c1, rfl, h1, k1⟩ := wfVs_cons k0
  obtain rfl := wfVs_nil k1
  obtain ⟨n0, rfl, _⟩ := wfV_int h0
  obtain ⟨n1, rfl, _⟩ := wfV_int h1
  exact ⟨(n0, n1), rfl, trivial⟩
namespace Ob
theorem goes_cases (o : Ob) (a : Int) (b : Nat) : o.goes a b = o ∨ ∃ m, o.wait a = some m ∧ o.busy a = none ∧ o.last < 1073741824 ∧ o.goes a b = ⟨o.outs ++ [⟨b, o.last + 1, { m with xid := o.last + 1 }, -1⟩], goes.wdel o.waits a, o.last + 1⟩ := by
  by_cases h : o.wait a = none ∨ (∃ x, o.busy a = some x) ∨ ¬ o.last < 1073741824
  · exact .inl (goes_not h)
  · have h1 : o.wait a ≠ none := fun e => h (.inl e)
    have h2 : o.busy a = none := by
      cases hb : o.busy a with
      | none => rfl
      | some x => exact absurd (.inr (.inl ⟨x, hb⟩)) h
    have h3 : o.last < 1073741824 := Classical.byContradiction fun e => h (.inr (.inr e))
    obtain ⟨m, hm⟩ := Option.ne_none_iff_exists'.1 h1
    exact .inr ⟨m, hm, h2, h3, goes_go hm h2 h3⟩
theorem wdel_len : ∀ (l : List (Int × Msg)) (a : Int), (l.lookup a).isSome = true → (goes.wdel l a).length + 1 = l.length
  | [], _, h => by cases h
  | (k, m) :: l, a, h => by
    unfold goes.wdel
    by_cases e : k = a
    · rw [if_pos e]; rfl
    · rw [if_neg e, List.length_cons, List.length_cons, wdel_len l a (by have h0 : (a == k) = false := by simp; exact fun x => e x.symm
                                                                         rw [List.lookup_cons, h0] at h; exact h)]
theorem wset_len (l : List (Int × Msg)) (k : Int) (m : Msg) : (wset l k m).length ≤ l.length + 1 := by
  induction l with
  | nil => exact Nat.le_refl _
  | cons p l ih =>
    obtain ⟨k', m'⟩ := p
    unfold wset; split <;> simp only [List.length_cons] <;> omega
/-- How many numbers are, or will be, given. -/
def load (o : Ob) : Int := o.last + o.waits.length
theorem load_goes (o : Ob) (a : Int) (b : Nat) : (o.goes a b).load = o.load := by
  rcases goes_cases o a b with e | ⟨m, h1, h2, h3, e⟩
  · rw [e]
  · rw [e]; unfold load; have := wdel_len o.waits a (by rw [show o.waits.lookup a = o.wait a from rfl, h1]; rfl)
    show o.last + 1 + ((goes.wdel o.waits a).length : Int) = _; omega
theorem load_put {o o2 : Ob} {m : Msg} {b : Nat} {e : Int} (h : o.put m b = (e, o2)) : o2.load ≤ o.load + 1 := by
  unfold put at h
  split at h
  · cases h; omega
  · split at h
    · cases h; omega
    · cases h; rw [load_goes]; unfold load set; have := wset_len o.waits m.addr (kept m); show o.last + ((wset o.waits m.addr (kept m)).length : Int) ≤ _; omega
theorem load_acked {o o2 : Ob} {k : Int} {m : Msg} {f : Bool} {b : Nat} (h : o.acked k b = (m, f, o2)) : o2.load = o.load := by
  unfold acked at h
  split at h
  · cases h; rfl
  · cases h; rw [load_goes]; rfl
theorem tick_of {o o2 : Ob} {now e : Int} {ms : List Msg} (h : o.tickE now = (ms, e, o2)) (hn : 0 ≤ now ∧ now ≤ 1099511627776) : ms = msgs (o.outs.filter (due now)) ∧ e = 0 ∧ o2 = (o.tick now).2 := by
  rw [tickE_ok hn] at h; simp only [Prod.mk.injEq] at h; exact ⟨h.1.symm, h.2.1.symm, h.2.2.symm⟩
theorem load_tick {o o2 : Ob} {now e : Int} {ms : List Msg} (h : o.tickE now = (ms, e, o2)) : o2.load = o.load := by
  unfold tickE at h
  split at h <;> (simp only [Prod.mk.injEq] at h; rw [← h.2.2] <;> rfl)
theorem last_load (o : Ob) : o.last ≤ o.load := by unfold load; omega
structure Once (o : Ob) (sn ofm : List (Int × Int)) (gn : List (Int × Bool)) : Prop where
  s0 : ∀ x, x ∈ o.outs → x.sent = -1 → sn.lookup x.xid = none
  s1 : ∀ x, x ∈ o.outs → x.sent ≠ -1 → sn.lookup x.xid = some x.sent ∧ ofm.lookup x.xid = some x.msg.addr
  g : ∀ x, x ∈ o.outs → (gn.lookup x.xid).getD false = false
  gl : ∀ n, (gn.lookup n).getD false = true → n ≤ o.last
  sl : ∀ n, o.last < n → sn.lookup n = none
theorem once_new : Once new [] [] [] := ⟨fun x h => (by cases h), fun x h => (by cases h), fun x h => (by cases h), fun n h => (by cases h), fun n h => rfl⟩
theorem once_goes {o : Ob} {sn ofm : List (Int × Int)} {gn : List (Int × Bool)} (h : Once o sn ofm gn) (a : Int) (b : Nat) : Once (o.goes a b) sn ofm gn := by
  rcases goes_cases o a b with e | ⟨m, h1, h2, h3, e⟩
  · rw [e]; exact h
  · rw [e]
    have hm : ∀ x, x ∈ o.outs ++ [(⟨b, o.last + 1, { m with xid := o.last + 1 }, -1⟩ : Out)] → x ∈ o.outs ∨ (x.xid = o.last + 1 ∧ x.sent = -1) := fun x hx => by
      rcases List.mem_append.1 hx with hx | hx
      · exact .inl hx
      · rw [List.mem_singleton] at hx; subst hx; exact .inr ⟨rfl, rfl⟩
    refine ⟨fun x hx hs => ?_, fun x hx hs => ?_, fun x hx => ?_, fun n hn => ?_, fun n hn => ?_⟩
    · rcases hm x hx with hx | ⟨e1, e2⟩
      · exact h.s0 x hx hs
      · rw [e1]; exact h.sl _ (by omega)
    · rcases hm x hx with hx | ⟨e1, e2⟩
      · exact h.s1 x hx hs
      · exact absurd e2 hs
    · rcases hm x hx with hx | ⟨e1, e2⟩
      · exact h.g x hx
      · rw [e1]
        cases hg : (gn.lookup (o.last + 1)).getD false with
        | false => rfl
        | true => have := h.gl _ hg; omega
    · have := h.gl n hn; show n ≤ o.last + 1; omega
    · exact h.sl n (by have : o.last + 1 < n := hn; omega)
theorem once_put {o o2 : Ob} {m : Msg} {b : Nat} {e : Int} {sn ofm : List (Int × Int)} {gn : List (Int × Bool)} (h : Once o sn ofm gn) (hp : o.put m b = (e, o2)) : Once o2 sn ofm gn := by
  unfold put at hp
  split at hp
  · cases hp; exact h
  · split at hp
    · cases hp; exact h
    · cases hp; exact once_goes (o := o.set m.addr (kept m)) ⟨h.s0, h.s1, h.g, h.gl, h.sl⟩ _ _
theorem mem_rem {o : Ob} (hi : o.Inv) {k : Int} {x y : Out} (hx : o.outs.find? (fun x => x.xid == k) = some x) (hy : y ∈ (o.rem k).outs) : y ∈ o.outs ∧ y.xid ≠ k := by
  obtain ⟨h1, pre, post, h2, h3, h4⟩ := at_split hx
  rw [h4] at hy
  have hp := hi.xr
  rw [h2] at hp ⊢
  obtain ⟨_, q2, q3⟩ := List.pairwise_append.1 hp
  rcases List.mem_append.1 hy with hy | hy
  · exact ⟨List.mem_append.2 (.inl hy), h3 y hy⟩
  · refine ⟨List.mem_append.2 (.inr (List.mem_cons_of_mem _ hy)), ?_⟩
    have := (List.pairwise_cons.1 q2).1 y hy; omega
theorem once_acked {o o2 : Ob} (hi : o.Inv) {k : Int} {m : Msg} {f : Bool} {b : Nat} {sn ofm : List (Int × Int)} {gn : List (Int × Bool)} (h : Once o sn ofm gn) (ha : o.acked k b = (m, f, o2)) :
    (f = true → (gn.lookup k).getD false = false) ∧ Once o2 sn ofm (pset gn k ((gn.lookup k).getD false || f)) := by
  have hl : ∀ n, ((pset gn k ((gn.lookup k).getD false || f)).lookup n).getD false = if n = k then ((gn.lookup k).getD false || f) else (gn.lookup n).getD false := fun n => by
    rw [lookup_pset]; split <;> rfl
  cases hf : o.outs.find? (fun x => x.xid == k) with
  | none =>
    rw [acked_none hf] at ha; simp only [Prod.mk.injEq] at ha; obtain ⟨_, rfl, rfl⟩ := ha
    have hl' : ∀ n, ((pset gn k ((gn.lookup k).getD false || false)).lookup n).getD false = (gn.lookup n).getD false := fun n => by
      rw [hl]; split
      · rename_i e; subst e; simp
      · rfl
    exact ⟨fun h => (by cases h), h.s0, h.s1, fun x hx => by rw [hl']; exact h.g x hx, fun n hn => h.gl n (by rw [hl'] at hn; exact hn), h.sl⟩
  | some x =>
    rw [acked_some hf] at ha; simp only [Prod.mk.injEq] at ha; obtain ⟨_, rfl, rfl⟩ := ha
    obtain ⟨h1, pre, post, h2, h3, h4⟩ := at_split hf
    have hx : x ∈ o.outs := by rw [h2]; exact List.mem_append.2 (.inr (List.mem_cons_self ..))
    refine ⟨fun _ => by rw [← h1]; exact h.g x hx, once_goes ?_ _ _⟩
    refine ⟨fun y hy hs => h.s0 y (mem_rem hi hf hy).1 hs, fun y hy hs => h.s1 y (mem_rem hi hf hy).1 hs, fun y hy => ?_, fun n hn => ?_, h.sl⟩
    · have := mem_rem hi hf hy
      rw [hl, if_neg this.2]; exact h.g y this.1
    · rw [hl] at hn
      split at hn
      · rename_i e; subst e; have := (hi.xs x hx).2; show _ ≤ o.last; omega
      · exact h.gl n hn
/-- Behind the first k of those that are told. -/
def onceK (now : Int) (o : Ob) (k : Nat) : Ob := ⟨marks now o ((o.outs.filter (due now)).take k), o.waits, o.last⟩
theorem onceK_zero (now : Int) (o : Ob) : onceK now o 0 = o := by
  unfold onceK marks; rw [List.take_zero, mark_nil]
theorem onceK_all {now : Int} {o : Ob} (hi : o.Inv) {k : Nat} (hk : (o.outs.filter (due now)).length ≤ k) : onceK now o k = (o.tick now).2 := by
  unfold onceK; rw [List.take_of_length_le hk, marks_all hi]; rfl
theorem told_rise {now : Int} {o : Ob} (hi : o.Inv) : (o.outs.filter (due now)).Pairwise fun x y => x.xid < y.xid := hi.xr.sublist List.filter_sublist
theorem told_apart {now : Int} {o : Ob} (hi : o.Inv) : (o.outs.filter (due now)).Pairwise fun x y => x.msg.addr ≠ y.msg.addr := hi.ad.sublist List.filter_sublist
theorem pw_at {α : Type} {R : α → α → Prop} {l : List α} (h : l.Pairwise R) (d : α) {i j : Nat} (hij : i < j) (hj : j < l.length) : R (l.getD i d) (l.getD j d) := by
  rw [List.getD_eq_getElem?_getD, List.getD_eq_getElem?_getD, List.getElem?_eq_getElem (by omega), List.getElem?_eq_getElem hj]
  exact List.pairwise_iff_getElem.1 h i j (by omega) hj hij
theorem msgs_at {xs : List Out} {k : Nat} (hk : k < xs.length) : (msgs xs).getD k Msg.zero = (xs.getD k odflt).msg := by
  unfold msgs; rw [List.getD_eq_getElem?_getD, List.getD_eq_getElem?_getD, List.getElem?_map, List.getElem?_eq_getElem hk]; rfl
theorem not_before {now : Int} {xs : List Out} (hp : xs.Pairwise fun x y => x.xid < y.xid) {k : Nat} (hk : k < xs.length) : mark now (xs.take k) (xs.getD k odflt) = xs.getD k odflt := by
  unfold mark
  rw [if_neg]
  intro hc
  obtain ⟨y, hy, he⟩ := List.any_eq_true.1 hc
  obtain ⟨i, hi, rfl⟩ := List.getElem_of_mem hy
  rw [List.length_take] at hi
  have := pw_at hp odflt (i := i) (j := k) (by omega) hk
  rw [List.getD_eq_getElem?_getD (i := i), List.getElem?_eq_getElem (by omega)] at this
  simp only [List.getElem_take, beq_iff_eq, Option.getD_some] at he this
  omega
theorem once_step {now : Int} {o : Ob} (hi : o.Inv) (hnow : 0 ≤ now) {k : Nat} {sn ofm : List (Int × Int)} {gn : List (Int × Bool)} (hk : k < (o.outs.filter (due now)).length) (h : Once (onceK now o k) sn ofm gn) {E : Msg} (hE : E = (msgs (o.outs.filter (due now))).getD k Msg.zero) :
    Once (onceK now o (k + 1)) (pset sn E.xid now) (pset ofm E.xid E.addr) gn := by
  rw [msgs_at hk] at hE
  have hx := getD_mem hk
  generalize hX : (o.outs.filter (due now)).getD k odflt = X at *
  have hxo := (List.mem_filter.1 hx).1
  subst hE
  rw [hi.mx X hxo]
  have ht : (o.outs.filter (due now)).take (k + 1) = (o.outs.filter (due now)).take k ++ [X] := by rw [take_getD hk, hX]
  have key : ∀ y, y ∈ (onceK now o (k + 1)).outs → (y = { X with sent := now }) ∨ (y.xid ≠ X.xid ∧ y ∈ (onceK now o k).outs) := fun y hy => by
    have hy : y ∈ marks now o ((o.outs.filter (due now)).take (k + 1)) := hy
    rw [ht] at hy
    obtain ⟨y0, h0, rfl⟩ := List.mem_map.1 hy
    by_cases e : y0.xid = X.xid
    · left; rw [uniq hi.xr h0 hxo e, mark_self]
    · right; rw [mark_other e, mark_xid]; exact ⟨e, List.mem_map.2 ⟨y0, h0, rfl⟩⟩
  refine ⟨fun y hy hs => ?_, fun y hy hs => ?_, fun y hy => ?_, h.gl, fun n hn => ?_⟩
  · rcases key y hy with rfl | ⟨e, hy⟩
    · exact absurd (show now = -1 from hs) (by omega)
    · rw [lookup_pset, if_neg e]; exact h.s0 y hy hs
  · rcases key y hy with rfl | ⟨e, hy⟩
    · exact ⟨by rw [lookup_pset]; exact if_pos rfl, by rw [lookup_pset]; exact if_pos rfl⟩
    · rw [lookup_pset, if_neg e, lookup_pset, if_neg e]; exact h.s1 y hy hs
  · rcases key y hy with rfl | ⟨e, hy⟩
    · exact h.g X (by show X ∈ marks now o _; exact List.mem_map.2 ⟨X, hxo, by rw [← hX]; exact not_before (told_rise hi) hk⟩)
    · exact h.g y hy
  · have := (hi.xs X hxo).2
    have hn : o.last < n := hn
    rw [lookup_pset, if_neg (by omega)]; exact h.sl n hn
theorem once_at {now : Int} {o : Ob} (hi : o.Inv) {k : Nat} {sn ofm : List (Int × Int)} {gn : List (Int × Bool)} (hk : k < (o.outs.filter (due now)).length) (h : Once (onceK now o k) sn ofm gn) {ms : List Msg} (hms : ms = msgs (o.outs.filter (due now))) :
    (gn.lookup (ms.getD k Msg.zero).xid).getD false = false ∧ (1 ≤ (ms.getD k Msg.zero).xid ∧ (ms.getD k Msg.zero).xid ≤ o.last) ∧
    (∀ at_, sn.lookup (ms.getD k Msg.zero).xid = some at_ → now - at_ ≥ 3 ∧ ofm.lookup (ms.getD k Msg.zero).xid = some (ms.getD k Msg.zero).addr ∧ -1 ≤ at_ ∧ at_ ≤ 1099511627776) ∧
    (0 < k → (ms.getD (k - 1) Msg.zero).xid < (ms.getD k Msg.zero).xid) ∧ (∀ j, j < k → (ms.getD j Msg.zero).addr ≠ (ms.getD k Msg.zero).addr) := by
  subst hms
  have hx := getD_mem hk
  have hpos : ∀ j, j ≤ k → (msgs (o.outs.filter (due now))).getD j Msg.zero = ((o.outs.filter (due now)).getD j odflt).msg := fun j hj => msgs_at (by omega)
  have hmx : ∀ j, j ≤ k → ((o.outs.filter (due now)).getD j odflt).msg.xid = ((o.outs.filter (due now)).getD j odflt).xid := fun j hj => hi.mx _ (List.mem_filter.1 (getD_mem (by omega))).1
  have hxo := (List.mem_filter.1 hx).1
  have hin : (o.outs.filter (due now)).getD k odflt ∈ (onceK now o k).outs := List.mem_map.2 ⟨_, hxo, not_before (told_rise hi) hk⟩
  have hdue := (List.mem_filter.1 hx).2
  rw [hpos k (Nat.le_refl _), hmx k (Nat.le_refl _)]
  refine ⟨h.g _ hin, hi.xs _ hxo, fun a ha => ?_, fun h0 => ?_, fun j hj => ?_⟩
  · by_cases hs : ((o.outs.filter (due now)).getD k odflt).sent = -1
    · rw [h.s0 _ hin hs] at ha; cases ha
    · obtain ⟨h1, h2⟩ := h.s1 _ hin hs
      rw [h1] at ha; cases ha
      have hd : ((o.outs.filter (due now)).getD k odflt).sent = -1 ∨ now - ((o.outs.filter (due now)).getD k odflt).sent ≥ 3 := by
        have h9 := hdue
        rw [due, Bool.or_eq_true, decide_eq_true_eq, decide_eq_true_eq] at h9; exact h9
      exact ⟨hd.resolve_left hs, h2, hi.st _ hxo⟩
  · rw [hpos (k - 1) (by omega), hmx (k - 1) (by omega)]
    exact pw_at (told_rise hi) odflt (by omega) hk
  · rw [hpos j (by omega)]
    exact pw_at (told_apart hi) odflt hj hk
end Ob
end Go.K

namespace Go.K
namespace Ob
theorem look_wset (l : List (Int × Msg)) (k : Int) (m : Msg) (a : Int) : (wset l k m).lookup a = if a = k then some m else l.lookup a := by
  induction l with
  | nil =>
    by_cases h : a = k
    · subst h; simp [wset]
    · have : (a == k) = false := by simp [h]
      simp [wset, List.lookup_cons, this, h]
  | cons p l ih =>
    obtain ⟨c, b⟩ := p
    unfold wset
    split
    · rename_i e; subst e
      by_cases h : a = c
      · subst h; simp
      · have : (a == c) = false := by simp [h]
        simp [List.lookup_cons, this, h]
    · rename_i e
      rw [List.lookup_cons, List.lookup_cons, ih]
      by_cases h : a = c
      · subst h; simp [e]
      · have : (a == c) = false := by simp [h]
        simp [this]
theorem look_none {l : List (Int × Msg)} {a : Int} (h : ∀ p, p ∈ l → p.1 ≠ a) : l.lookup a = none := by
  induction l with
  | nil => rfl
  | cons p l ih =>
    obtain ⟨k, m⟩ := p
    have h0 : (a == k) = false := by have := h _ (List.mem_cons_self ..); simp at this; simp; exact fun e => this e.symm
    rw [List.lookup_cons, h0]; exact ih fun q hq => h q (List.mem_cons_of_mem _ hq)
theorem look_wdel {l : List (Int × Msg)} (hn : (l.map (·.1)).Nodup) (k a : Int) : (goes.wdel l k).lookup a = if a = k then none else l.lookup a := by
  induction l with
  | nil => simp [goes.wdel]
  | cons p l ih =>
    obtain ⟨c, m⟩ := p
    obtain ⟨h1, h2⟩ := List.nodup_cons.1 hn
    unfold goes.wdel
    split
    · rename_i e; subst e
      by_cases h : a = c
      · subst h; rw [if_pos rfl]; exact look_none fun p hp e => h1 (List.mem_map.2 ⟨p, hp, e⟩)
      · have : (a == c) = false := by simp [h]
        rw [if_neg h, List.lookup_cons, this]
    · rename_i e
      rw [List.lookup_cons, List.lookup_cons, ih h2]
      by_cases h : a = c
      · subst h; simp [e]
      · have : (a == c) = false := by simp [h]
        simp [this]
theorem wdel_wset {l : List (Int × Msg)} {a : Int} {m : Msg} (h : l.lookup a = none) : goes.wdel (wset l a m) a = l := by
  induction l with
  | nil => simp [wset, goes.wdel]
  | cons p l ih =>
    obtain ⟨k, n⟩ := p
    rw [List.lookup_cons] at h
    by_cases e : k = a
    · subst e; simp at h
    · have h0 : (a == k) = false := by simp; exact fun x => e x.symm
      rw [h0] at h
      unfold wset; rw [if_neg e]; unfold goes.wdel; rw [if_neg e, ih h]
theorem busy_none {o : Ob} {a : Int} : o.busy a = none ↔ ∀ x, x ∈ o.outs → x.msg.addr ≠ a := by
  unfold busy; rw [List.find?_eq_none]; simp
theorem busy_some {o : Ob} {a : Int} (h : o.busy a ≠ none) : ∃ x, x ∈ o.outs ∧ x.msg.addr = a := by
  cases hb : o.busy a with
  | none => exact absurd hb h
  | some x => exact ⟨x, List.mem_of_find?_eq_some hb, by simpa using List.find?_some hb⟩
/-- What waits, is out, or is done with, is what was put last. -/
structure Put (o : Ob) (pt tl : List (Int × Int)) : Prop where
  wt : ∀ a m, o.wait a = some m → pt.lookup a = some m.pot
  ot : ∀ x, x ∈ o.outs → o.wait x.msg.addr = none → pt.lookup x.msg.addr = some x.msg.pot
  fr : ∀ a, o.wait a = none → (∀ x, x ∈ o.outs → x.msg.addr ≠ a) → pt.lookup a = tl.lookup a
  bz : ∀ a, o.wait a ≠ none → ∃ x, x ∈ o.outs ∧ x.msg.addr = a
structure Lst (o : Ob) (pt tl xd : List (Int × Int)) (now : Int) : Prop where
  p : Put o pt tl
  told : ∀ x, x ∈ o.outs → x.sent ≠ -1 → tl.lookup x.msg.addr = some x.msg.pot
  uns : ∀ x, x ∈ o.outs → x.sent = -1 → ∀ a n, xd.lookup a = some n → n ≠ x.xid
  xl : ∀ a n, xd.lookup a = some n → n ≤ o.last
  sn : ∀ x, x ∈ o.outs → x.sent ≤ now
theorem lst_new : Lst new [] [] [] 0 := ⟨⟨fun a m h => (by cases h), fun x h => (by cases h), fun a _ _ => rfl, fun a h => absurd rfl h⟩, fun x h => (by cases h), fun x h => (by cases h), fun a n h => (by cases h), fun x h => (by cases h)⟩
theorem goes_put {o : Ob} {a : Int} {b : Nat} {m : Msg} (hl : o.last < 1073741824) (hb : ∀ x, x ∈ o.outs → x.msg.addr ≠ a) (hw : o.wait a = none) (h : m.addr = a) : (o.set a m).goes a b = ⟨o.outs ++ [⟨b, o.last + 1, { m with xid := o.last + 1 }, -1⟩], o.waits, o.last + 1⟩ := by
  have h1 : (o.set a m).wait a = some m := by show (wset o.waits a m).lookup a = _; rw [look_wset, if_pos rfl]
  have h2 : (o.set a m).busy a = none := busy_none.2 hb
  rw [goes_go h1 h2 hl]
  show (⟨o.outs ++ _, goes.wdel (wset o.waits a m) a, o.last + 1⟩ : Ob) = _
  rw [wdel_wset hw]; rfl
theorem lst_put {o o2 : Ob} {a i e : Int} {b : Nat} {pt tl xd : List (Int × Int)} {now : Int} (h : Lst o pt tl xd now) (hn : 0 ≤ now) (hi : 0 ≤ i ∧ i < 65536) (hl : o.last < 1073741824) (hp : o.put (upd a i) b = (e, o2)) :
    e = 0 ∧ Lst o2 (pset pt a i) tl xd now := by
  rw [put_upd hl] at hp
  simp only [Prod.mk.injEq] at hp
  obtain ⟨rfl, rfl⟩ := hp
  refine ⟨rfl, ?_⟩
  have hpot : (upd a i).pot = i := Int.emod_eq_of_lt hi.1 hi.2
  by_cases hb : ∀ x, x ∈ o.outs → x.msg.addr ≠ a
  · have hw : o.wait a = none := by
      cases hw : o.wait a with
      | none => rfl
      | some m => obtain ⟨x, hx, he⟩ := h.p.bz a (by rw [hw]; simp); exact absurd he (hb x hx)
    rw [goes_put hl hb hw rfl]
    have hm : ∀ x, x ∈ o.outs ++ [(⟨b, o.last + 1, { upd a i with xid := o.last + 1 }, -1⟩ : Out)] → x ∈ o.outs ∨ x = ⟨b, o.last + 1, { upd a i with xid := o.last + 1 }, -1⟩ := fun x hx => by
      rcases List.mem_append.1 hx with hx | hx
      · exact .inl hx
      · rw [List.mem_singleton] at hx; exact .inr hx
    refine ⟨⟨fun c m hc => ?_, fun x hx hc => ?_, fun c hc hx => ?_, fun c hc => ?_⟩, fun x hx hs => ?_, fun x hx hs c n hc => ?_, fun c n hc => ?_, fun x hx => ?_⟩
    · have hc : o.wait c = some m := hc
      have : c ≠ a := fun e => by have h9 := hc; rw [e, hw] at h9; cases h9
      rw [lookup_pset, if_neg this]; exact h.p.wt c m hc
    · rcases hm x hx with hx | rfl
      · rw [lookup_pset, if_neg (hb x hx)]; exact h.p.ot x hx hc
      · rw [lookup_pset]; show (if a = a then some i else _) = some ((upd a i).pot); rw [if_pos rfl, hpot]
    · have : c ≠ a := fun e => by subst e; exact hx _ (List.mem_append.2 (.inr (List.mem_singleton.2 rfl))) rfl
      rw [lookup_pset, if_neg this]; exact h.p.fr c hc fun x h1 => hx x (List.mem_append.2 (.inl h1))
    · obtain ⟨x, h1, h2⟩ := h.p.bz c hc; exact ⟨x, List.mem_append.2 (.inl h1), h2⟩
    · rcases hm x hx with hx | rfl
      · exact h.told x hx hs
      · exact absurd rfl hs
    · rcases hm x hx with hx | rfl
      · exact h.uns x hx hs c n hc
      · have := h.xl c n hc; show n ≠ o.last + 1; omega
    · have := h.xl c n hc; show n ≤ o.last + 1; omega
    · rcases hm x hx with hx | rfl
      · exact h.sn x hx
      · show (-1 : Int) ≤ now; omega
  · have hb' : ∃ x, x ∈ o.outs ∧ x.msg.addr = a := Classical.byContradiction fun hc => hb fun x hx he => hc ⟨x, hx, he⟩
    have hbs : ∃ x, (o.set a (upd a i)).busy a = some x := by
      cases hbz : (o.set a (upd a i)).busy a with
      | none => exact absurd (busy_none.1 hbz) hb
      | some x => exact ⟨x, rfl⟩
    rw [goes_not (.inr (.inl hbs))]
    have hw : ∀ c, (o.set a (upd a i)).wait c = if c = a then some (upd a i) else o.wait c := fun c => look_wset _ _ _ _
    refine ⟨⟨fun c m hc => ?_, fun x hx hc => ?_, fun c hc hx => ?_, fun c hc => ?_⟩, h.told, h.uns, h.xl, h.sn⟩
    · rw [hw] at hc
      rw [lookup_pset]
      split at hc
      · rename_i e; cases hc; rw [if_pos e, hpot]
      · rename_i e; rw [if_neg e]; exact h.p.wt c m hc
    · rw [hw] at hc
      split at hc
      · cases hc
      · rename_i e; rw [lookup_pset, if_neg e]; exact h.p.ot x hx hc
    · rw [hw] at hc
      split at hc
      · cases hc
      · rename_i e; rw [lookup_pset, if_neg e]; exact h.p.fr c hc hx
    · rw [hw] at hc
      split at hc
      · rename_i e; subst e; exact hb'
      · exact h.p.bz c hc
/-- One that was told is answered. -/
theorem put_acked {o : Ob} (hi : o.Inv) {x : Out} {b : Nat} {k : Int} {pt tl : List (Int × Int)} (h : Put o pt tl) (hl : o.last < 1073741824) (hx : o.outs.find? (fun x => x.xid == k) = some x) (ht : o.wait x.msg.addr = none → tl.lookup x.msg.addr = some x.msg.pot) :
    Put ((o.rem k).goes x.msg.addr b) pt tl ∧ (∃ nw, ((o.rem k).goes x.msg.addr b).outs = (o.rem k).outs ++ nw ∧ (∀ y, y ∈ nw → y.sent = -1 ∧ y.xid = o.last + 1 ∧ ((o.rem k).goes x.msg.addr b).wait y.msg.addr = none) ∧ (o.waits = [] → nw = [])) ∧
    (∀ c, ((o.rem k).goes x.msg.addr b).wait c = none ∨ ((o.rem k).goes x.msg.addr b).wait c = o.wait c ∧ c ≠ x.msg.addr) ∧ (o.waits = [] → ((o.rem k).goes x.msg.addr b).waits = []) := by
  obtain ⟨h1, pre, post, h2, h3, h4⟩ := at_split hx
  have hxo : x ∈ o.outs := by rw [h2]; exact List.mem_append.2 (.inr (List.mem_cons_self ..))
  have hne : ∀ y, y ∈ (o.rem k).outs → y ∈ o.outs ∧ y.msg.addr ≠ x.msg.addr := fun y hy => by
    refine ⟨(mem_rem hi hx hy).1, fun e => ?_⟩
    have ha := hi.ad
    rw [h4] at hy
    rw [h2] at ha
    obtain ⟨_, q2, q3⟩ := List.pairwise_append.1 ha
    rcases List.mem_append.1 hy with hy | hy
    · exact q3 y hy x (List.mem_cons_self ..) e
    · exact (List.pairwise_cons.1 q2).1 y hy e.symm
  have hsplit : ∀ y, y ∈ o.outs → y = x ∨ y ∈ (o.rem k).outs := fun y hy => by
    rw [h2] at hy; rw [h4]
    rcases List.mem_append.1 hy with hy | hy
    · exact .inr (List.mem_append.2 (.inl hy))
    · rcases List.mem_cons.1 hy with hy | hy
      · exact .inl hy
      · exact .inr (List.mem_append.2 (.inr hy))
  have hbz : ∀ y, y ∈ (o.rem k).outs → y.msg.addr ≠ x.msg.addr := fun y hy => (hne y hy).2
  cases hw : o.wait x.msg.addr with
  | none =>
    rw [goes_not (o := o.rem k) (.inl hw)]
    refine ⟨⟨h.wt, fun y hy hc => h.ot y (hne y hy).1 hc, fun c hc hy => ?_, fun c hc => ?_⟩, ⟨[], by simp, fun y hy => (by cases hy), fun _ => rfl⟩, fun c => ?_, fun h => h⟩
    · by_cases e : c = x.msg.addr
      · subst e; rw [h.ot x hxo hw, ht hw]
      · exact h.fr c hc fun y h5 => by
          rcases hsplit y h5 with rfl | h6
          · exact fun e2 => e e2.symm
          · exact hy y h6
    · obtain ⟨y, h5, h6⟩ := h.bz c hc
      rcases hsplit y h5 with rfl | h7
      · subst h6; exact absurd hw hc
      · exact ⟨y, h7, h6⟩
    · by_cases e : c = x.msg.addr
      · subst e; exact .inl hw
      · exact .inr ⟨rfl, e⟩
  | some m =>
    have hma : m.addr = x.msg.addr := hi.wa _ (wait_mem hw)
    rw [goes_go (o := o.rem k) hw (busy_none.2 hbz) hl]
    have hwd : ∀ c, (⟨(o.rem k).outs ++ [⟨b, o.last + 1, { m with xid := o.last + 1 }, -1⟩], goes.wdel o.waits x.msg.addr, o.last + 1⟩ : Ob).wait c = if c = x.msg.addr then none else o.wait c := fun c => look_wdel hi.wn _ _
    have hm : ∀ y, y ∈ (o.rem k).outs ++ [(⟨b, o.last + 1, { m with xid := o.last + 1 }, -1⟩ : Out)] → y ∈ (o.rem k).outs ∨ y = ⟨b, o.last + 1, { m with xid := o.last + 1 }, -1⟩ := fun y hy => by
      rcases List.mem_append.1 hy with hy | hy
      · exact .inl hy
      · rw [List.mem_singleton] at hy; exact .inr hy
    have hnl : o.waits = [] → False := fun e => by unfold wait at hw; rw [e] at hw; cases hw
    refine ⟨⟨fun c n hc => ?_, fun y hy hc => ?_, fun c hc hy => ?_, fun c hc => ?_⟩, ⟨[⟨b, o.last + 1, { m with xid := o.last + 1 }, -1⟩], rfl, fun y hy => ?_, fun e => (hnl e).elim⟩, fun c => ?_, fun e => (hnl e).elim⟩
    · have hc := (hwd c).symm.trans hc
      split at hc
      · cases hc
      · exact h.wt c n hc
    · rcases hm y hy with hy | rfl
      · have hc := (hwd _).symm.trans hc
        rw [if_neg (hbz y hy)] at hc
        exact h.ot y (hne y hy).1 hc
      · show pt.lookup m.addr = some m.pot
        rw [hma]; exact h.wt _ m hw
    · have hca : c ≠ x.msg.addr := fun e => by subst e; exact hy _ (List.mem_append.2 (.inr (List.mem_singleton.2 rfl))) hma
      have hc := (hwd c).symm.trans hc
      rw [if_neg hca] at hc
      exact h.fr c hc fun y h5 => by
        rcases hsplit y h5 with rfl | h6
        · exact fun e2 => hca e2.symm
        · exact hy y (List.mem_append.2 (.inl h6))
    · have hc : (if c = x.msg.addr then none else o.wait c) ≠ none := by rw [← hwd c]; exact hc
      have hca : c ≠ x.msg.addr := fun e => by rw [if_pos e] at hc; exact hc rfl
      rw [if_neg hca] at hc
      obtain ⟨y, h5, h6⟩ := h.bz c hc
      rcases hsplit y h5 with rfl | h7
      · exact absurd h6.symm hca
      · exact ⟨y, List.mem_append.2 (.inl h7), h6⟩
    · rw [List.mem_singleton] at hy; subst hy
      exact ⟨rfl, rfl, (hwd _).trans (if_pos hma)⟩
    · by_cases e : c = x.msg.addr
      · exact .inl ((hwd c).trans (if_pos e))
      · exact .inr ⟨(hwd c).trans (if_neg e), e⟩
theorem last_goes (o : Ob) (a : Int) (b : Nat) : o.last ≤ (o.goes a b).last := by
  rcases goes_cases o a b with e | ⟨m, _, _, _, e⟩ <;> rw [e]
  · exact Int.le_refl _
  · show o.last ≤ o.last + 1; omega
theorem lst_acked {o o2 : Ob} (hi : o.Inv) {a : Int} {m : Msg} {f : Bool} {b : Nat} {pt tl xd : List (Int × Int)} {now : Int} (h : Lst o pt tl xd now) (hn : 0 ≤ now) (hl : o.last < 1073741824) (ha : o.acked ((xd.lookup a).getD 0) b = (m, f, o2)) : Lst o2 pt tl xd now := by
  cases hf : o.outs.find? (fun x => x.xid == (xd.lookup a).getD 0) with
  | none => rw [acked_none hf] at ha; simp only [Prod.mk.injEq] at ha; rw [← ha.2.2]; exact h
  | some x =>
    rw [acked_some hf] at ha; simp only [Prod.mk.injEq] at ha; rw [← ha.2.2]
    obtain ⟨h1, pre, post, h2, h3, h4⟩ := at_split hf
    have hxo : x ∈ o.outs := by rw [h2]; exact List.mem_append.2 (.inr (List.mem_cons_self ..))
    have hs : x.sent ≠ -1 := fun hs => by
      cases hx : xd.lookup a with
      | none => rw [hx] at h1; have := (hi.xs x hxo).1; have h1 : x.xid = 0 := h1; omega
      | some n => rw [hx] at h1; exact h.uns x hxo hs a n hx h1.symm
    obtain ⟨q1, ⟨nw, q2, q3, _⟩, _, _⟩ := put_acked hi (b := b) h.p hl hf fun _ => h.told x hxo hs
    have hm : ∀ y, y ∈ ((o.rem ((xd.lookup a).getD 0)).goes x.msg.addr b).outs → y ∈ o.outs ∨ (y.sent = -1 ∧ y.xid = o.last + 1) := fun y hy => by
      rw [q2] at hy
      rcases List.mem_append.1 hy with hy | hy
      · exact .inl (mem_rem hi hf hy).1
      · exact .inr ⟨(q3 y hy).1, (q3 y hy).2.1⟩
    refine ⟨q1, fun y hy hs => ?_, fun y hy hs c n hc => ?_, fun c n hc => ?_, fun y hy => ?_⟩
    · rcases hm y hy with hy | ⟨e, _⟩
      · exact h.told y hy hs
      · exact absurd e hs
    · rcases hm y hy with hy | ⟨_, e⟩
      · exact h.uns y hy hs c n hc
      · have := h.xl c n hc; omega
    · have := h.xl c n hc; have := last_goes (o.rem ((xd.lookup a).getD 0)) x.msg.addr b
      have e : (o.rem ((xd.lookup a).getD 0)).last = o.last := rfl
      omega
    · rcases hm y hy with hy | ⟨e, _⟩
      · exact h.sn y hy
      · omega
theorem onceK_addr {now : Int} {o : Ob} {k : Nat} {a : Int} : (∀ x, x ∈ (onceK now o k).outs → x.msg.addr ≠ a) ↔ ∀ x, x ∈ o.outs → x.msg.addr ≠ a := by
  constructor
  · intro h x hx
    have := h _ (List.mem_map.2 ⟨x, hx, rfl⟩)
    rw [mark_msg] at this; exact this
  · intro h y hy
    obtain ⟨x, hx, rfl⟩ := List.mem_map.1 hy
    rw [mark_msg]; exact h x hx
theorem lst_start {now n2 : Int} {o : Ob} {pt tl xd : List (Int × Int)} (h : Lst o pt tl xd now) (hn : now ≤ n2) : Lst (onceK n2 o 0) pt tl xd n2 := by
  rw [onceK_zero]; exact ⟨h.p, h.told, h.uns, h.xl, fun x hx => by have := h.sn x hx; omega⟩
theorem lst_step {now : Int} {o : Ob} (hi : o.Inv) (hnow : 0 ≤ now) {k : Nat} {pt tl xd : List (Int × Int)} (hk : k < (o.outs.filter (due now)).length) (h : Lst (onceK now o k) pt tl xd now) {E : Msg} (hE : E = (msgs (o.outs.filter (due now))).getD k Msg.zero) :
    Lst (onceK now o (k + 1)) pt (pset tl E.addr E.pot) (pset xd E.addr E.xid) now := by
  rw [msgs_at hk] at hE
  have hx := getD_mem hk
  generalize hX : (o.outs.filter (due now)).getD k odflt = X at *
  have hxo := (List.mem_filter.1 hx).1
  subst hE
  rw [hi.mx X hxo]
  have ht : (o.outs.filter (due now)).take (k + 1) = (o.outs.filter (due now)).take k ++ [X] := by rw [take_getD hk, hX]
  have hXk : X ∈ (onceK now o k).outs := List.mem_map.2 ⟨X, hxo, by rw [← hX]; exact not_before (told_rise hi) hk⟩
  have key : ∀ y, y ∈ (onceK now o (k + 1)).outs → (y = { X with sent := now }) ∨ (y.xid ≠ X.xid ∧ y.msg.addr ≠ X.msg.addr ∧ y ∈ (onceK now o k).outs) := fun y hy => by
    have hy : y ∈ marks now o ((o.outs.filter (due now)).take (k + 1)) := hy
    rw [ht] at hy
    obtain ⟨y0, h0, rfl⟩ := List.mem_map.1 hy
    by_cases e : y0.xid = X.xid
    · left; rw [uniq hi.xr h0 hxo e, mark_self]
    · right; rw [mark_other e, mark_xid, mark_msg]
      refine ⟨e, fun e2 => ?_, List.mem_map.2 ⟨y0, h0, rfl⟩⟩
      have : ∀ {l : List Out}, l.Pairwise (fun x y => x.msg.addr ≠ y.msg.addr) → ∀ {u v : Out}, u ∈ l → v ∈ l → u.msg.addr = v.msg.addr → u = v := by
        intro l hl
        induction l with
        | nil => intro u v hu; cases hu
        | cons z l ih =>
          obtain ⟨p1, p2⟩ := List.pairwise_cons.1 hl
          intro u v hu hv he
          rcases List.mem_cons.1 hu with hu' | hu' <;> rcases List.mem_cons.1 hv with hv' | hv'
          · rw [hu', hv']
          · subst hu'; exact absurd he (p1 v hv')
          · subst hv'; exact absurd he.symm (p1 u hu')
          · exact ih p2 hu' hv' he
      exact e (by rw [this hi.ad h0 hxo e2])
  refine ⟨⟨h.p.wt, fun y hy hc => ?_, fun c hc hy => ?_, fun c hc => ?_⟩, fun y hy hs => ?_, fun y hy hs c n hc => ?_, fun c n hc => ?_, fun y hy => ?_⟩
  · rcases key y hy with rfl | ⟨_, _, hy⟩
    · exact h.p.ot X hXk hc
    · exact h.p.ot y hy hc
  · have hc2 := onceK_addr.1 hy
    have : c ≠ X.msg.addr := fun e => hc2 X hxo e.symm
    rw [lookup_pset, if_neg this]; exact h.p.fr c hc (onceK_addr.2 hc2)
  · obtain ⟨x, h5, h6⟩ := h.p.bz c hc
    obtain ⟨y, h7, rfl⟩ := List.mem_map.1 h5
    exact ⟨_, List.mem_map.2 ⟨y, h7, rfl⟩, by rw [mark_msg] at h6 ⊢; exact h6⟩
  · rcases key y hy with rfl | ⟨_, e, hy⟩
    · rw [lookup_pset]; exact if_pos rfl
    · rw [lookup_pset, if_neg e]; exact h.told y hy hs
  · rcases key y hy with rfl | ⟨e, _, hy⟩
    · exact absurd (show now = -1 from hs) (by omega)
    · rw [lookup_pset] at hc
      split at hc
      · cases hc; exact fun e2 => e e2.symm
      · exact h.uns y hy hs c n hc
  · rw [lookup_pset] at hc
    split at hc
    · cases hc; exact (hi.xs X hxo).2
    · exact h.xl c n hc
  · rcases key y hy with rfl | ⟨_, _, hy⟩
    · exact Int.le_refl _
    · exact h.sn y hy
/-! all is told, and answered -/
theorem all_due {now : Int} {o : Ob} (h : ∀ x, x ∈ o.outs → x.sent = -1 ∨ now - x.sent ≥ 3) : o.outs.filter (due now) = o.outs := List.filter_eq_self.2 fun x hx => by
  rw [due, Bool.or_eq_true, decide_eq_true_eq, decide_eq_true_eq]; exact h x hx
/-- In the midst of a turn: o is the box as it was told, r the box now. -/
structure Fin (o r : Ob) (k : Nat) (w0 : Prop) (pt tl : List (Int × Int)) : Prop where
  p : Put r pt tl
  nw : ∃ nw, r.outs = o.outs.drop k ++ nw ∧ (∀ y, y ∈ nw → y.sent = -1 ∧ r.wait y.msg.addr = none) ∧ (w0 → nw = [])
  w : w0 → r.waits = []
theorem fin_start {o : Ob} {now : Int} {pt tl : List (Int × Int)} (h : Put o pt tl) : Fin (o.tick now).2 (o.tick now).2 0 (o.waits = []) pt tl := by
  have hmem : ∀ y, y ∈ (o.tick now).2.outs → ∃ x, x ∈ o.outs ∧ y.msg = x.msg := fun y hy => by
    obtain ⟨x, hx, rfl⟩ := List.mem_map.1 hy; exact ⟨x, hx, told_msg now x⟩
  refine ⟨⟨h.wt, fun y hy hc => ?_, fun c hc hy => ?_, fun c hc => ?_⟩, ⟨[], by simp, fun y hy => (by cases hy), fun _ => rfl⟩, fun e => e⟩
  · obtain ⟨x, hx, e⟩ := hmem y hy; rw [e] at hc ⊢; exact h.ot x hx hc
  · exact h.fr c hc fun x hx e => hy _ (List.mem_map.2 ⟨x, hx, rfl⟩) (by rw [told_msg]; exact e)
  · obtain ⟨x, hx, e⟩ := h.bz c hc; exact ⟨_, List.mem_map.2 ⟨x, hx, rfl⟩, by rw [told_msg]; exact e⟩
theorem put_told {o : Ob} {pt tl : List (Int × Int)} (h : Put o pt tl) {x : Out} (hx : x ∈ o.outs) : Put o pt (pset tl x.msg.addr x.msg.pot) :=
  ⟨h.wt, h.ot, fun c hc hy => by rw [lookup_pset, if_neg (fun e => hy x hx e.symm)]; exact h.fr c hc hy, h.bz⟩
theorem fin_step {o r r2 : Ob} (hi : r.Inv) {k : Nat} {w0 : Prop} {pt tl : List (Int × Int)} {b : Nat} {m E : Msg} {f : Bool} (h : Fin o r k w0 pt tl) (hk : k < o.outs.length) (hl : r.last < 1073741824) (hE : E = (o.outs.getD k odflt).msg) (hmx : (o.outs.getD k odflt).msg.xid = (o.outs.getD k odflt).xid)
    (ha : r.acked E.xid b = (m, f, r2)) : f = true ∧ Fin o r2 (k + 1) w0 pt (pset tl E.addr E.pot) := by
  obtain ⟨nw, h1, h2, h3⟩ := h.nw
  generalize hX : o.outs.getD k odflt = X at *
  have hdr : o.outs.drop k = X :: o.outs.drop (k + 1) := by
    rw [List.drop_eq_getElem_cons hk, ← hX, List.getD_eq_getElem?_getD, List.getElem?_eq_getElem hk]; rfl
  subst hE
  rw [hdr] at h1
  rw [hmx] at ha
  have hf : r.outs.find? (fun x => x.xid == X.xid) = some X := by rw [h1, List.cons_append, List.find?_cons_of_pos (by simp)]
  rw [acked_some hf] at ha; simp only [Prod.mk.injEq] at ha
  obtain ⟨_, rfl, rfl⟩ := ha
  have hXr : X ∈ r.outs := by rw [h1]; exact List.mem_cons_self ..
  have hrem : (r.rem X.xid).outs = o.outs.drop (k + 1) ++ nw := by unfold rem; rw [h1]; simp
  obtain ⟨q1, ⟨nw2, q2, q3, q4⟩, q5, q6⟩ := put_acked hi (b := b) (put_told h.p hXr) hl hf fun _ => by rw [lookup_pset]; exact if_pos rfl
  refine ⟨rfl, q1, ⟨nw ++ nw2, by rw [q2, hrem, List.append_assoc], fun y hy => ?_, fun hw => by rw [h3 hw, q4 (h.w hw)]; rfl⟩, fun hw => q6 (h.w hw)⟩
  rcases List.mem_append.1 hy with hy | hy
  · refine ⟨(h2 y hy).1, ?_⟩
    rcases q5 y.msg.addr with e | ⟨e, _⟩
    · exact e
    · rw [e]; exact (h2 y hy).2
  · exact ⟨(q3 y hy).1, (q3 y hy).2.2⟩
theorem look_all {l : List (Int × Msg)} (h : ∀ a, l.lookup a = none) : l = [] := by
  cases l with
  | nil => rfl
  | cons p l => obtain ⟨k, m⟩ := p; have := h k; simp at this
theorem fin_end {o r : Ob} {k : Nat} {w0 : Prop} {pt tl : List (Int × Int)} (h : Fin o r k w0 pt tl) (hk : o.outs.length ≤ k) : Put r pt tl ∧ (∀ x, x ∈ r.outs → x.sent = -1) ∧ r.waits = [] ∧ (w0 → r.outs = []) := by
  obtain ⟨nw, h1, h2, h3⟩ := h.nw
  rw [List.drop_eq_nil_of_le hk, List.nil_append] at h1
  refine ⟨h.p, fun x hx => by rw [h1] at hx; exact (h2 x hx).1, look_all fun a => ?_, fun hw => by rw [h1, h3 hw]⟩
  cases hw : r.wait a with
  | none => exact hw
  | some m =>
    obtain ⟨x, hx, e⟩ := h.p.bz a (by rw [hw]; simp)
    rw [h1] at hx
    have := (h2 x hx).2
    rw [e, hw] at this; cases this
theorem tick_msg {now : Int} {o : Ob} {k : Nat} (hk : k < o.outs.length) : (msgs o.outs).getD k Msg.zero = ((o.tick now).2.outs.getD k odflt).msg := by
  rw [msgs_at hk]
  show _ = ((o.outs.map (told now)).getD k odflt).msg
  rw [List.getD_eq_getElem?_getD, List.getD_eq_getElem?_getD, List.getElem?_map, List.getElem?_eq_getElem hk]
  exact (told_msg now _).symm
theorem len_zero {o : Ob} : o.len = 0 ↔ o.outs = [] ∧ o.waits = [] := by
  unfold len
  constructor
  · intro h
    have h1 : o.outs = [] := List.length_eq_zero_iff.1 (by omega)
    refine ⟨h1, ?_⟩
    have h2 : o.mw.countP o.idle = o.mw.length := List.countP_eq_length.2 fun p _ => by unfold idle busy; rw [h1]; rfl
    have h3 : o.mw.length = 0 := by omega
    unfold mw at h3; rw [List.length_map] at h3; exact List.length_eq_zero_iff.1 h3
  · rintro ⟨h1, h2⟩; unfold mw; rw [h1, h2]; rfl
theorem put_done {o : Ob} {pt tl : List (Int × Int)} (h : Put o pt tl) (hl : o.len = 0) (a : Int) : pt.lookup a = tl.lookup a := by
  obtain ⟨h1, h2⟩ := len_zero.1 hl
  exact h.fr a (by unfold wait; rw [h2]; rfl) fun x hx => by rw [h1] at hx; cases hx
end Ob
end Go.K

namespace Go.K
namespace Ob
/-- Where nothing was answered yet, and nothing told. -/
structure Ans (o : Ob) : Prop where
  s : ∀ x, x ∈ o.outs → x.sent = -1
  n : (o.outs.length : Int) = o.last
  bz : ∀ a, o.wait a ≠ none → ∃ x, x ∈ o.outs ∧ x.msg.addr = a
theorem ans_new : Ans new := ⟨fun x h => (by cases h), rfl, fun a h => absurd rfl h⟩
theorem ans_put {o o2 : Ob} {a p e : Int} {b : Nat} (h : Ans o) (hl : o.last < 1073741824) (hp : o.put (upd a p) b = (e, o2)) : Ans o2 := by
  rw [put_upd hl] at hp
  simp only [Prod.mk.injEq] at hp
  obtain ⟨rfl, rfl⟩ := hp
  by_cases hb : ∀ x, x ∈ o.outs → x.msg.addr ≠ a
  · have hw : o.wait a = none := by
      cases hw : o.wait a with
      | none => rfl
      | some m => obtain ⟨x, hx, he⟩ := h.bz a (by rw [hw]; simp); exact absurd he (hb x hx)
    rw [goes_put hl hb hw rfl]
    refine ⟨fun x hx => ?_, ?_, fun c hc => ?_⟩
    · rcases List.mem_append.1 hx with hx | hx
      · exact h.s x hx
      · rw [List.mem_singleton] at hx; subst hx; rfl
    · have := h.n; simp only [List.length_append, List.length_singleton]; omega
    · obtain ⟨x, h1, h2⟩ := h.bz c hc; exact ⟨x, List.mem_append.2 (.inl h1), h2⟩
  · have hb' : ∃ x, x ∈ o.outs ∧ x.msg.addr = a := Classical.byContradiction fun hc => hb fun x hx he => hc ⟨x, hx, he⟩
    have hbs : ∃ x, (o.set a (upd a p)).busy a = some x := by
      cases hbz : (o.set a (upd a p)).busy a with
      | none => exact absurd (busy_none.1 hbz) hb
      | some x => exact ⟨x, rfl⟩
    rw [goes_not (.inr (.inl hbs))]
    refine ⟨h.s, h.n, fun c hc => ?_⟩
    have hc : (if c = a then some (upd a p) else o.wait c) ≠ none := fun e => hc ((look_wset o.waits a (upd a p) c).trans e)
    by_cases e : c = a
    · subst e; exact hb'
    · rw [if_neg e] at hc; exact h.bz c hc
theorem ans_len {o : Ob} (h : Ans o) (hi : o.Inv) : o.len = o.outs.length := by
  unfold len
  have : o.mw.countP o.idle = 0 := List.countP_eq_zero.2 fun p hp => by
    obtain ⟨q, hq, rfl⟩ := List.mem_map.1 hp
    have hw : o.wait q.1 ≠ none := by
      intro hc
      have : ∀ {l : List (Int × Msg)}, q ∈ l → l.lookup q.1 ≠ none := by
        intro l
        induction l with
        | nil => intro h; cases h
        | cons z l ih =>
          intro h
          rcases List.mem_cons.1 h with h' | h'
          · subst h'; obtain ⟨k, m⟩ := q; simp
          · obtain ⟨k, m⟩ := z
            rw [List.lookup_cons]
            split
            · simp
            · exact ih h'
      exact this hq hc
    obtain ⟨x, hx, e⟩ := h.bz _ hw
    unfold idle
    cases hb : o.busy q.1 with
    | none => exact absurd e (busy_none.1 hb x hx)
    | some y => simp
  omega
theorem ans_tick {o o2 : Ob} {now e : Int} {ms : List Msg} (h : Ans o) (hn : 0 ≤ now ∧ now ≤ 1099511627776) (ht : o.tickE now = (ms, e, o2)) : ms = msgs o.outs ∧ e = 0 ∧ o2 = (o.tick now).2 ∧ o2.last = o.last := by
  obtain ⟨h1, h2, h3⟩ := tick_of ht hn
  rw [all_due fun x hx => .inl (h.s x hx)] at h1
  exact ⟨h1, h2, h3, by rw [h3]; rfl⟩
/-- Behind the first k answers: o is the box as it was told. -/
theorem ans_acked {o r r2 r3 : Ob} (hi : r.Inv) {k : Nat} {nw : List Out} {b b3 : Nat} {m m3 E : Msg} {f f3 : Bool} (h : r.outs = o.outs.drop k ++ nw) (hk : k < o.outs.length) (hE : E = (o.outs.getD k odflt).msg) (hmx : (o.outs.getD k odflt).msg.xid = (o.outs.getD k odflt).xid)
    (ha : r.acked E.xid b = (m, f, r2)) (ha3 : r2.acked E.xid b3 = (m3, f3, r3)) : f = true ∧ m = E ∧ f3 = false ∧ r3 = r2 ∧ ∃ nw2, r2.outs = o.outs.drop (k + 1) ++ nw2 := by
  generalize hX : o.outs.getD k odflt = X at *
  have hdr : o.outs.drop k = X :: o.outs.drop (k + 1) := by
    rw [List.drop_eq_getElem_cons hk, ← hX, List.getD_eq_getElem?_getD, List.getElem?_eq_getElem hk]; rfl
  subst hE
  rw [hdr] at h
  rw [hmx] at ha ha3
  have hf : r.outs.find? (fun x => x.xid == X.xid) = some X := by rw [h, List.cons_append, List.find?_cons_of_pos (by simp)]
  have hXr : X ∈ r.outs := by rw [h]; exact List.mem_cons_self ..
  rw [acked_some hf] at ha; simp only [Prod.mk.injEq] at ha
  obtain ⟨rfl, rfl, rfl⟩ := ha
  have hrem : (r.rem X.xid).outs = o.outs.drop (k + 1) ++ nw := by unfold rem; rw [h]; simp
  have hout : ∃ nw2, ((r.rem X.xid).goes X.msg.addr b).outs = o.outs.drop (k + 1) ++ nw ++ nw2 ∧ ∀ y, y ∈ nw2 → y.xid = r.last + 1 := by
    rcases goes_cases (r.rem X.xid) X.msg.addr b with e | ⟨m, _, _, _, e⟩ <;> rw [e]
    · exact ⟨[], by rw [hrem]; simp, fun y hy => by cases hy⟩
    · exact ⟨[⟨b, r.last + 1, { m with xid := r.last + 1 }, -1⟩], by show (r.rem X.xid).outs ++ _ = _; rw [hrem]; rfl, fun y hy => by rw [List.mem_singleton] at hy; subst hy; rfl⟩
  obtain ⟨nw2, h5, h6⟩ := hout
  have hno : ((r.rem X.xid).goes X.msg.addr b).outs.find? (fun x => x.xid == X.xid) = none := List.find?_eq_none.2 fun y hy => by
    rw [h5, ← hrem] at hy
    rcases List.mem_append.1 hy with hy | hy
    · have := (mem_rem hi hf hy).2; simp [this]
    · have h7 := h6 y hy; have := (hi.xs X hXr).2; simp; omega
  rw [acked_none hno] at ha3; simp only [Prod.mk.injEq] at ha3
  exact ⟨rfl, rfl, ha3.2.1.symm, ha3.2.2.symm, nw ++ nw2, by rw [h5, List.append_assoc]⟩
theorem ans_none {o o2 : Ob} {e : Int} {ms : List Msg} (ht : o.clear.tickE 9 = (ms, e, o2)) : ms.length = 0 ∧ o2 = o.clear := by
  obtain ⟨h1, h2, h3⟩ := tick_of ht (by decide)
  exact ⟨by rw [h1]; rfl, h3⟩
theorem ans_seven {o o2 o3 : Ob} {b : Nat} {e e3 : Int} {ms : List Msg} (hl : o.last < 1073741824) (hp : o.clear.put (upd 1 7) b = (e, o2)) (ht : o2.tickE 9 = (ms, e3, o3)) : ms.length = 1 ∧ (ms.getD 0 Msg.zero).xid = o.last + 1 ∧ (ms.getD 0 Msg.zero).pot = 7 := by
  rw [put_upd (show o.clear.last < 1073741824 from hl)] at hp
  simp only [Prod.mk.injEq] at hp
  obtain ⟨rfl, rfl⟩ := hp
  rw [goes_put (a := 1) (m := upd 1 7) (show o.clear.last < 1073741824 from hl) (fun x hx => by cases hx) rfl rfl] at ht
  obtain ⟨h1, h2, h3⟩ := tick_of ht (by decide)
  rw [h1]; exact ⟨rfl, rfl, rfl⟩
theorem last_put {o o2 : Ob} {m : Msg} {b : Nat} {e : Int} (h : o.put m b = (e, o2)) : o.last ≤ o2.last := by
  unfold put at h
  split at h
  · cases h; exact Int.le_refl _
  · split at h
    · cases h; exact Int.le_refl _
    · cases h; exact last_goes (o.set m.addr (kept m)) m.addr b
theorem same_of {m n : Msg} (h : m = n) : Msg.same m n = true := by rw [h]; exact same_rfl n
theorem clear_len (o : Ob) : o.clear.len = 0 := len_zero.2 ⟨rfl, rfl⟩
end Ob
end Go.K
