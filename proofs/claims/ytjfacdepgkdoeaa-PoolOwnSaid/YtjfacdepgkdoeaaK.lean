/- The base of the walks: what a state of a call is (the slots that are known, the blocks that are owned, the memory that stays), and one rule for each form of code.
Conditions: none; nothing here speaks of a program. -/
import Derived.WalkKit
import Derived.WalkLawsBesides
import Derived.Orders
import Derived.Still
namespace Go.K

abbrev Sg := List (Nat × Obj)
abbrev Hp := List Sg
abbrev Vw := Nat → Option Obj
abbrev Sl := List (Nat × Value)

def Vw.le (V V' : Vw) : Prop := ∀ b o, V b = some o → V' b = some o
theorem Vw.le_refl (V : Vw) : V.le V := fun _ _ h => h
theorem Vw.le_trans {V V' V'' : Vw} (h : V.le V') (h' : V'.le V'') : V.le V'' := fun b o hb => h' b o (h b o hb)
def keys (H : Hp) : List Nat := H.flatten.map (·.1)

/-- The state of memory in a call: B as it began, S what it may write, U what is known to stay as it began, V now, H what is owned. -/
structure St (B : World) (S : List Nat) (U V : Vw) (H : Hp) (w : World) : Prop where
  os : w.os = B.os
  tape : w.tape = B.tape
  output : w.output = B.output
  size : B.heap.size ≤ w.heap.size
  fr : ∀ b, b < B.heap.size → b ∉ S → w.heap[b]? = B.heap[b]?
  own : ∀ b o, (b, o) ∈ H.flatten → w.heap[b]? = some o
  nd : (keys H).Nodup
  dom : ∀ b, b ∈ keys H → b ∈ S ∨ B.heap.size ≤ b
  le : U.le V
  vh : ∀ b o, V b = some o → w.heap[b]? = some o
  vd : ∀ b o, V b = some o → b ∉ keys H
  vn : ∀ b o, V b = some o → U b = some o ∨ b ∈ S ∨ B.heap.size ≤ b

theorem mem_keys {H : Hp} {b : Nat} {o : Obj} (h : (b, o) ∈ H.flatten) : b ∈ keys H := List.mem_map.2 ⟨_, h, rfl⟩
theorem of_mem_keys {H : Hp} {b : Nat} (h : b ∈ keys H) : ∃ o, (b, o) ∈ H.flatten := by
  obtain ⟨⟨b', o⟩, h1, rfl⟩ := List.mem_map.1 h; exact ⟨o, h1⟩
theorem keys_append (H H' : Hp) : keys (H ++ H') = keys H ++ keys H' := by simp [keys]
theorem keys_one (b : Nat) (o : Obj) (H : Hp) : keys ([(b, o)] :: H) = b :: keys H := by simp [keys]

theorem lt_of_some {w : World} {b : Nat} {o : Obj} (h : w.heap[b]? = some o) : b < w.heap.size := by
  rcases Nat.lt_or_ge b w.heap.size with h' | h'
  · exact h'
  · rw [Array.getElem?_eq_none h'] at h; cases h

section
variable {B : World} {S : List Nat} {U V V' : Vw} {H H' : Hp} {w w' : World}

theorem St.key_lt (h : St B S U V H w) {b : Nat} (hb : b ∈ keys H) : b < w.heap.size := by
  obtain ⟨o, ho⟩ := of_mem_keys hb; exact lt_of_some (h.own b o ho)

theorem St.drew (h : St B S U V H w) : St B S U V H { w with drawn := w.drawn + 1 } :=
  ⟨h.os, h.tape, h.output, h.size, h.fr, h.own, h.nd, h.dom, h.le, h.vh, h.vd, h.vn⟩

theorem St.drawnTo (h : St B S U V H w) (n : Nat) : St B S U V H { w with drawn := n } :=
  ⟨h.os, h.tape, h.output, h.size, h.fr, h.own, h.nd, h.dom, h.le, h.vh, h.vd, h.vn⟩

theorem flatten_perm {H' H : Hp} (p : H'.Perm H) : H'.flatten.Perm H.flatten := by
  induction p with
  | nil => exact List.Perm.refl _
  | cons x _ ih => simp only [List.flatten_cons]; exact List.Perm.append_left x ih
  | swap x y l =>
    simp only [List.flatten_cons, ← List.append_assoc]
    exact List.Perm.append_right _ List.perm_append_comm
  | trans _ _ ih1 ih2 => exact ih1.trans ih2

/-- The same blocks in another order, or cut into other pieces. -/
theorem St.recut (h : St B S U V H w) (p : H'.flatten.Perm H.flatten) : St B S U V H' w :=
  have pk : (keys H').Perm (keys H) := p.map _
  ⟨h.os, h.tape, h.output, h.size, h.fr, fun b o hb => h.own b o (p.mem_iff.1 hb), pk.nodup_iff.2 h.nd,
   fun b hb => h.dom b (pk.mem_iff.1 hb), h.le, h.vh, fun b o hb hk => h.vd b o hb (pk.mem_iff.1 hk), h.vn⟩
theorem St.perm (h : St B S U V H w) (p : H'.Perm H) : St B S U V H' w := h.recut (flatten_perm p)

/-- What is owned may be forgotten. -/
theorem St.drop (h : St B S U V (H' ++ H) w) : St B S U V H w :=
  have hk : ∀ b, b ∈ keys H → b ∈ keys (H' ++ H) := fun b hb => by rw [keys_append]; exact List.mem_append.2 (.inr hb)
  ⟨h.os, h.tape, h.output, h.size, h.fr, fun b o hb => h.own b o (by rw [List.flatten_append]; exact List.mem_append.2 (.inr hb)), by have := h.nd; rw [keys_append] at this; exact (List.nodup_append.1 this).2.1,
   fun b hb => h.dom b (hk b hb), h.le, h.vh, fun b o hb hc => h.vd b o hb (hk b hc), h.vn⟩

/-- A new block. -/
theorem St.alloc (h : St B S U V H w) (o : Obj) : St B S U V ([(w.heap.size, o)] :: H) { w with heap := w.heap.push o } := by
  have hk : ∀ b o', w.heap[b]? = some o' → (w.heap.push o)[b]? = some o' := fun b o' hb => by
    rw [Array.getElem?_push, if_neg (by have := lt_of_some hb; omega)]; exact hb
  refine ⟨h.os, h.tape, h.output, by have := h.size; simp; omega, fun b hb hs => ?_, fun b o' hb => ?_, ?_, fun b hb => ?_, h.le, fun b o' hb => hk b o' (h.vh b o' hb), fun b o' hb hc => ?_, h.vn⟩
  · have := h.size
    show (w.heap.push o)[b]? = _
    rw [Array.getElem?_push, if_neg (by omega)]; exact h.fr b hb hs
  · rw [List.flatten_cons] at hb
    rcases List.mem_append.1 hb with hb | hb
    · rw [List.mem_singleton] at hb; cases hb; simp
    · exact hk b o' (h.own b o' hb)
  · rw [keys_one]
    refine List.nodup_cons.2 ⟨fun hc => ?_, h.nd⟩
    have := h.key_lt hc; exact Nat.lt_irrefl _ this
  · rw [keys_one] at hb
    rcases List.mem_cons.1 hb with rfl | hb
    · exact .inr h.size
    · exact h.dom b hb
  · rw [keys_one] at hc
    rcases List.mem_cons.1 hc with rfl | hc
    · exact Nat.lt_irrefl _ (lt_of_some (h.vh _ o' hb))
    · exact h.vd b o' hb hc

theorem keys_set {i : Nat} {s s' : Sg} (hi : H[i]? = some s) (hs : s'.map (·.1) = s.map (·.1)) : keys (H.set i s') = keys H := by
  unfold keys
  induction H generalizing i with
  | nil => rfl
  | cons x H ih =>
    cases i with
    | zero =>
      simp only [List.getElem?_cons_zero, Option.some.injEq] at hi
      subst hi
      simp only [List.set_cons_zero, List.flatten_cons, List.map_append, hs]
    | succ i =>
      simp only [List.getElem?_cons_succ] at hi
      simp only [List.set_cons_succ, List.flatten_cons, List.map_append, ih hi]

theorem mem_of_at {i : Nat} {s : Sg} {b : Nat} {o : Obj} (hi : H[i]? = some s) (h : (b, o) ∈ s) : (b, o) ∈ H.flatten := List.mem_flatten.2 ⟨s, List.mem_of_getElem? hi, h⟩

theorem mem_set {i : Nat} {s s' : Sg} {b : Nat} {o : Obj} (nd : (keys H).Nodup) (hi : H[i]? = some s) (hb : (b, o) ∈ (H.set i s').flatten) : (b, o) ∈ s' ∨ ((b, o) ∈ H.flatten ∧ b ∉ s.map (·.1)) := by
  induction H generalizing i with
  | nil => cases hb
  | cons x H ih =>
    have nd' := nd
    unfold keys at nd'
    simp only [List.flatten_cons, List.map_append] at nd'
    obtain ⟨n1, n2, n3⟩ := List.nodup_append.1 nd'
    cases i with
    | zero =>
      simp only [List.getElem?_cons_zero, Option.some.injEq] at hi
      subst hi
      simp only [List.set_cons_zero, List.flatten_cons] at hb
      rcases List.mem_append.1 hb with hb | hb
      · exact .inl hb
      · exact .inr ⟨by simp only [List.flatten_cons]; exact List.mem_append.2 (.inr hb), fun hk => n3 b hk b (List.mem_map.2 ⟨_, hb, rfl⟩) rfl⟩
    | succ i =>
      simp only [List.getElem?_cons_succ] at hi
      simp only [List.set_cons_succ, List.flatten_cons] at hb
      rcases List.mem_append.1 hb with hb | hb
      · refine .inr ⟨by simp only [List.flatten_cons]; exact List.mem_append.2 (.inl hb), fun hk => ?_⟩
        obtain ⟨⟨b', o'⟩, h1, rfl⟩ := List.mem_map.1 hk
        exact n3 b' (List.mem_map.2 ⟨_, hb, rfl⟩) b' (List.mem_map.2 ⟨_, mem_of_at hi h1, rfl⟩) rfl
      · rcases ih n2 hi hb with h1 | h1
        · exact .inl h1
        · exact .inr ⟨by simp only [List.flatten_cons]; exact List.mem_append.2 (.inr h1.1), h1.2⟩

/-- Blocks that are owned are turned. -/
theorem St.turn {s s' : Sg} {i : Nat} (h : St B S U V H w) (hi : H[i]? = some s) (hs : s'.map (·.1) = s.map (·.1)) (hw : ∀ b, b ∉ s.map (·.1) → w'.heap[b]? = w.heap[b]?) (hb : ∀ b o, (b, o) ∈ s' → w'.heap[b]? = some o)
    (e1 : w'.os = w.os) (e2 : w'.tape = w.tape) (e3 : w'.output = w.output) (e4 : w.heap.size ≤ w'.heap.size) : St B S U V (H.set i s') w' := by
  have hk := keys_set hi hs
  have hsk : ∀ b, b ∈ s.map (·.1) → b ∈ keys H := fun b hb => by
    obtain ⟨⟨b', o'⟩, h1, rfl⟩ := List.mem_map.1 hb
    exact mem_keys (mem_of_at hi h1)
  refine ⟨e1.trans h.os, e2.trans h.tape, e3.trans h.output, Nat.le_trans h.size e4, fun c hc hs' => ?_, fun c oc hc => ?_, by rw [hk]; exact h.nd, fun c hc => h.dom c (by rw [hk] at hc; exact hc), h.le, fun c oc hc => ?_, fun c oc hc => by rw [hk]; exact h.vd c oc hc, h.vn⟩
  · rw [hw c (fun hc' => ?_)]
    · exact h.fr c hc hs'
    · rcases h.dom c (hsk c hc') with h1 | h1
      · exact hs' h1
      · omega
  · rcases mem_set h.nd hi hc with h1 | ⟨h1, h2⟩
    · exact hb c oc h1
    · rw [hw c h2]; exact h.own c oc h1
  · rw [hw c (fun hc' => h.vd c oc hc (hsk c hc'))]; exact h.vh c oc hc

/-- What a call is given, out of what its caller owns. -/
theorem St.give {Hf Hc : Hp} (h : St B S U V (Hf ++ Hc) w) : St w (keys Hc) V V Hc w :=
  have h' := h.drop
  ⟨rfl, rfl, rfl, Nat.le_refl _, fun _ _ _ => rfl, h'.own, h'.nd, fun _ hb => .inl hb, Vw.le_refl V, h.vh, h'.vd, fun _ _ hb => .inl hb⟩

theorem St.take {Hf Hc : Hp} (h : St B S U V (Hf ++ Hc) w) (k : St w (keys Hc) V V' H' w') : St B S U V' (Hf ++ H') w' := by
  have hnd := h.nd
  rw [keys_append] at hnd
  obtain ⟨n1, n2, n3⟩ := List.nodup_append.1 hnd
  have hf : ∀ b, b ∈ keys Hf → b ∈ keys (Hf ++ Hc) := fun b hb => by rw [keys_append]; exact List.mem_append.2 (.inl hb)
  have hc : ∀ b, b ∈ keys Hc → b ∈ keys (Hf ++ Hc) := fun b hb => by rw [keys_append]; exact List.mem_append.2 (.inr hb)
  have hfn : ∀ b, b ∈ keys Hf → b ∉ keys H' := fun b hb hb' => by
    rcases k.dom b hb' with h1 | h1
    · exact n3 b hb b h1 rfl
    · have := h.key_lt (hf b hb); omega
  refine ⟨k.os.trans h.os, k.tape.trans h.tape, k.output.trans h.output, Nat.le_trans h.size k.size, fun b hb hs => ?_, fun b o hb => ?_, ?_, fun b hb => ?_, Vw.le_trans h.le k.le, k.vh, fun b o hb hk => ?_, fun b o hb => ?_⟩
  · rw [k.fr b (Nat.lt_of_lt_of_le hb h.size) (fun hk => ?_)]
    · exact h.fr b hb hs
    · rcases h.dom b (hc b hk) with h1 | h1
      · exact hs h1
      · omega
  · rw [List.flatten_append] at hb
    rcases List.mem_append.1 hb with hb | hb
    · have hkf := mem_keys hb
      rw [k.fr b (h.key_lt (hf b hkf)) (fun hk => n3 b hkf b hk rfl)]
      exact h.own b o (by rw [List.flatten_append]; exact List.mem_append.2 (.inl hb))
    · exact k.own b o hb
  · rw [keys_append]
    exact List.nodup_append.2 ⟨n1, k.nd, fun b hb c hc e => hfn b hb (e ▸ hc)⟩
  · rw [keys_append] at hb
    rcases List.mem_append.1 hb with hb | hb
    · exact h.dom b (hf b hb)
    · rcases k.dom b hb with h1 | h1
      · exact h.dom b (hc b h1)
      · exact .inr (Nat.le_trans h.size h1)
  · rw [keys_append] at hk
    rcases List.mem_append.1 hk with hk | hk
    · rcases k.vn b o hb with h1 | h1 | h1
      · exact h.vd b o h1 (hf b hk)
      · exact n3 b hk b h1 rfl
      · have := h.key_lt (hf b hk); omega
    · exact k.vd b o hb hk
  · rcases k.vn b o hb with h1 | h1 | h1
    · exact h.vn b o h1
    · rcases h.dom b (hc b h1) with h2 | h2
      · exact .inr (.inl h2)
      · exact .inr (.inr h2)
    · exact .inr (.inr (Nat.le_trans h.size h1))

/-- What is owned is given up: from now on it stays as it is. -/
theorem St.leak {s : Sg} (h : St B S U V (s :: H) w) : St B S U (fun c => match s.lookup c with | some o => some o | none => V c) H w := by
  have hd : St B S U V H w := St.drop (H' := [s]) h
  have hlk : ∀ c o, s.lookup c = some o → (c, o) ∈ s := fun c o hc => by
    clear h hd
    induction s with
    | nil => cases hc
    | cons x s ih =>
      obtain ⟨b, ob⟩ := x
      by_cases e : c = b
      · subst e; simp only [List.lookup, beq_self_eq_true] at hc; cases hc; exact List.mem_cons_self ..
      · have : (c == b) = false := by simp [e]
        simp only [List.lookup, this] at hc; exact List.mem_cons_of_mem _ (ih hc)
  have hin : ∀ c o, (c, o) ∈ s → (c, o) ∈ (s :: H).flatten := fun c o hc => by rw [List.flatten_cons]; exact List.mem_append.2 (.inl hc)
  have hnd := h.nd
  unfold keys at hnd
  simp only [List.flatten_cons, List.map_append] at hnd
  obtain ⟨n1, n2, n3⟩ := List.nodup_append.1 hnd
  refine ⟨h.os, h.tape, h.output, h.size, h.fr, hd.own, hd.nd, hd.dom, fun c oc hc => ?_, fun c oc hc => ?_, fun c oc hc => ?_, fun c oc hc => ?_⟩
  · cases e : s.lookup c with
    | none => exact h.le c oc hc
    | some o => exact absurd (mem_keys (hin c o (hlk c o e))) (h.vd c oc (h.le c oc hc))
  · cases e : s.lookup c with
    | none => simp only [e] at hc; exact h.vh c oc hc
    | some o => simp only [e] at hc; cases hc; exact h.own c oc (hin c oc (hlk c oc e))
  · cases e : s.lookup c with
    | none => simp only [e] at hc; exact hd.vd c oc hc
    | some o => exact fun hk => n3 c (List.mem_map.2 ⟨_, hlk c o e, rfl⟩) c hk rfl
  · cases e : s.lookup c with
    | none => simp only [e] at hc; exact h.vn c oc hc
    | some o => exact .inr (h.dom c (mem_keys (hin c o (hlk c o e))))
end

/-! ### The slots -/
structure Env (n : Nat) (L : Sl) (a : Act) (D : List Deferred := []) : Prop where
  size : a.tmps.size = n
  lk : ∀ i v, L.lookup i = some v → a.tmps[i]? = some v
  df : a.defers = D

def ev (L : Sl) : Operand → Option Value
  | .tmp t => L.lookup t
  | .const v => some v
  | .global g => some (.pointer (some ⟨g, 0, none⟩))
  | .func f => some (.func (.func f) #[] #[])

def evs (L : Sl) : List Operand → Option (List Value)
  | [] => some []
  | x :: xs => match ev L x, evs L xs with
    | some v, some vs => some (v :: vs)
    | _, _ => none

theorem Env.ev {n : Nat} {L : Sl} {a : Act} {D : List Deferred} (h : Env n L a D) {x : Operand} {v : Value} (hx : ev L x = some v) : a.eval x = v := by
  cases x with
  | tmp t =>
    have := h.lk t v hx
    show a.tmps.getD t undef = v
    rw [Array.getD_eq_getD_getElem?, this]; rfl
  | const u => simpa [K.ev, Act.eval] using hx
  | global g => simpa [K.ev, Act.eval] using hx
  | func f => simpa [K.ev, Act.eval] using hx

theorem Env.evs {n : Nat} {L : Sl} {a : Act} {D : List Deferred} (h : Env n L a D) : ∀ {xs : List Operand} {vs : List Value}, evs L xs = some vs → xs.map a.eval = vs
  | [], vs, hx => by simpa [K.evs] using hx
  | x :: xs, vs, hx => by
    unfold K.evs at hx
    split at hx
    · rename_i v vs' h1 h2
      cases hx
      rw [List.map_cons, h.ev h1, h.evs h2]
    · cases hx

theorem Env.put {n : Nat} {L : Sl} {a : Act} {D : List Deferred} (h : Env n L a D) {d : Nat} (hd : d < n) (v : Value) : Env n ((d, v) :: L) (a.put (some d) v) D := by
  refine ⟨by simp [Act.put, h.size], fun i u hi => ?_, h.df⟩
  simp only [Act.put]
  rw [Array.getElem?_setIfInBounds]
  by_cases e : d = i
  · subst e
    simp only [List.lookup, beq_self_eq_true] at hi
    cases hi
    simp [h.size, hd]
  · have : (i == d) = false := by simp; exact fun x => e x.symm
    simp only [List.lookup, this] at hi
    rw [if_neg e]; exact h.lk i u hi

theorem Env.put_none {n : Nat} {L : Sl} {a : Act} {D : List Deferred} (h : Env n L a D) (v : Value) : Env n L (a.put none v) D := h

/-- Every slot of L' reads in L as it does there. -/
def subB (L L' : Sl) : Prop := ∀ i v, L'.lookup i = some v → L.lookup i = some v
theorem Env.sub {n : Nat} {L L' : Sl} {a : Act} {D : List Deferred} (h : Env n L a D) (hs : subB L L') : Env n L' a D := ⟨h.size, fun i v hi => h.lk i v (hs i v hi), h.df⟩
theorem subB_nil (L : Sl) : subB L [] := fun _ _ h => by cases h
theorem subB_cons {L L' : Sl} {i : Nat} {v : Value} (h : L.lookup i = some v) (k : subB L L') : subB L ((i, v) :: L') := fun j u hj => by
  by_cases e : j = i
  · subst e; simp only [List.lookup, beq_self_eq_true] at hj; cases hj; exact h
  · have : (j == i) = false := by simp [e]
    simp only [List.lookup, this] at hj; exact k j u hj

theorem Env.start (args : List Value) (n : Nat) (hn : args.length ≤ n) : Env n ((List.range args.length).zip args) { tmps := args.toArray ++ Array.replicate (n - args.toArray.size) undef, defers := [] } := by
  refine ⟨by simp; omega, fun i v hi => ?_, rfl⟩
  have key : ∀ (l : List Value) (k i : Nat) (v : Value), ((List.range' k l.length).zip l).lookup i = some v → k ≤ i ∧ l[i - k]? = some v := by
    intro l
    induction l with
    | nil => intro k i v h; simp at h
    | cons x l ih =>
      intro k i v h
      simp only [List.length_cons, List.range'_succ, List.zip_cons_cons, List.lookup] at h
      by_cases e : i = k
      · subst e; simp only [beq_self_eq_true] at h; cases h; exact ⟨Nat.le_refl _, by simp⟩
      · have : (i == k) = false := by simp [e]
        simp only [this] at h
        obtain ⟨h1, h2⟩ := ih (k + 1) i v h
        refine ⟨by omega, ?_⟩
        have : i - k = (i - (k + 1)) + 1 := by omega
        rw [this, List.getElem?_cons_succ]; exact h2
  rw [List.range_eq_range'] at hi
  obtain ⟨_, h2⟩ := key args 0 i v hi
  simp only [Nat.sub_zero] at h2
  have hlt : i < args.length := by
    rcases Nat.lt_or_ge i args.length with h | h
    · exact h
    · rw [List.getElem?_eq_none h] at h2; cases h2
  simp only [List.append_toArray, ← List.toArray_replicate, List.getElem?_toArray]
  rw [List.getElem?_append_left hlt]; exact h2

end Go.K
