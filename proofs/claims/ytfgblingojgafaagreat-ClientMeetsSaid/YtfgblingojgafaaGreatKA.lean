/- The base of the walks: what a state of a call is (the slots that are known, the blocks that are owned, the memory that stays), and one rule for each form of code.
Conditions: none; nothing here speaks of a program. -/
import Derived.WalkKit
import Derived.WalkLawsBesides
import Derived.Orders
import Derived.Still
import Derived.Laws.IdiomStrings
import Derived.Deep.Quiet
import Derived.StillTail
set_option linter.unusedSimpArgs false
set_option linter.unusedVariables false
set_option linter.unusedSectionVars false
namespace Go.K
abbrev Sg := List (Nat × Obj)
abbrev Hp := List Sg
abbrev Vw := Nat -> Option Obj
abbrev Sl := List (Nat × Value)
def Vw.le (V V' : Vw) : Prop := ∀ b o,V b = some o -> V' b = some o
theorem Vw.le_refl (V : Vw) : V.le V := fun _ _ h => h
theorem Vw.le_trans {V V' V'' : Vw} (h : V.le V') (h' : V'.le V'') : V.le V'' := fun b o hb => h' b o (h b o hb)
def keys (H : Hp) : List Nat := H.flatten.map (·.1)
structure St (B : World) (S : List Nat) (U V : Vw) (H : Hp) (w : World) : Prop where
  os : w.os = B.os
  tape : w.tape = B.tape
  output : w.output = B.output
  size : B.heap.size <= w.heap.size
  fr : ∀ b,b < B.heap.size -> b ∉ S -> w.heap[b]? = B.heap[b]?
  own : ∀ b o,(b,o) ∈ H.flatten -> w.heap[b]? = some o
  nd : (keys H).Nodup
  dom : ∀ b,b ∈ keys H -> b ∈ S \/ B.heap.size <= b
  le : U.le V
  vh : ∀ b o,V b = some o -> w.heap[b]? = some o
  vd : ∀ b o,V b = some o -> b ∉ keys H
  vn : ∀ b o,V b = some o -> U b = some o \/ b ∈ S \/ B.heap.size <= b
theorem mem_keys {H : Hp} {b : Nat} {o : Obj} (h : (b,o) ∈ H.flatten) : b ∈ keys H := List.mem_map.2 ⟨_,h,rfl⟩
theorem of_mem_keys {H : Hp} {b : Nat} (h : b ∈ keys H) : ∃ o,(b,o) ∈ H.flatten := by
  obtain ⟨⟨b',o⟩,h1,rfl⟩ := List.mem_map.1 h; exact ⟨o,h1⟩
theorem keys_append (H H' : Hp) : keys (H ++ H') = keys H ++ keys H' := by simp [keys]
theorem keys_one (b : Nat) (o : Obj) (H : Hp) : keys ([(b,o)] :: H) = b :: keys H := by simp [keys]
theorem lt_of_some {w : World} {b : Nat} {o : Obj} (h : w.heap[b]? = some o) : b < w.heap.size := by
  rcases Nat.lt_or_ge b w.heap.size with h' | h'
  · exact h'
  · rw [Array.getElem?_eq_none h'] at h; cases h
section
variable {B : World} {S : List Nat} {U V V' : Vw} {H H' : Hp} {w w' : World}
theorem St.key_lt (h : St B S U V H w) {b : Nat} (hb : b ∈ keys H) : b < w.heap.size := by
  obtain ⟨o,ho⟩ := of_mem_keys hb; exact lt_of_some (h.own b o ho)
theorem St.drew (h : St B S U V H w) : St B S U V H { w with drawn := w.drawn + 1 } :=
  ⟨h.os,h.tape,h.output,h.size,h.fr,h.own,h.nd,h.dom,h.le,h.vh,h.vd,h.vn⟩
theorem St.drawnTo (h : St B S U V H w) (n : Nat) : St B S U V H { w with drawn := n } :=
  ⟨h.os,h.tape,h.output,h.size,h.fr,h.own,h.nd,h.dom,h.le,h.vh,h.vd,h.vn⟩
theorem flatten_perm {H' H : Hp} (p : H'.Perm H) : H'.flatten.Perm H.flatten := by
  induction p with
  | nil => exact List.Perm.refl _
  | cons x _ ih => simp only [List.flatten_cons]; exact List.Perm.append_left x ih
  | swap x y l =>
    simp only [List.flatten_cons,<- List.append_assoc]
    exact List.Perm.append_right _ List.perm_append_comm
  | trans _ _ ih1 ih2 => exact ih1.trans ih2
theorem St.recut (h : St B S U V H w) (p : H'.flatten.Perm H.flatten) : St B S U V H' w :=
  have pk : (keys H').Perm (keys H) := p.map _
  ⟨h.os,h.tape,h.output,h.size,h.fr,fun b o hb => h.own b o (p.mem_iff.1 hb),pk.nodup_iff.2 h.nd,
   fun b hb => h.dom b (pk.mem_iff.1 hb),h.le,h.vh,fun b o hb hk => h.vd b o hb (pk.mem_iff.1 hk),h.vn⟩
theorem St.perm (h : St B S U V H w) (p : H'.Perm H) : St B S U V H' w := h.recut (flatten_perm p)
theorem St.drop (h : St B S U V (H' ++ H) w) : St B S U V H w :=
  have hk : ∀ b,b ∈ keys H -> b ∈ keys (H' ++ H) := fun b hb => by rw [keys_append]; exact List.mem_append.2 (.inr hb)
  ⟨h.os,h.tape,h.output,h.size,h.fr,fun b o hb => h.own b o (by rw [List.flatten_append]; exact List.mem_append.2 (.inr hb)),by have := h.nd; rw [keys_append] at this; exact (List.nodup_append.1 this).2.1,
   fun b hb => h.dom b (hk b hb),h.le,h.vh,fun b o hb hc => h.vd b o hb (hk b hc),h.vn⟩
theorem St.alloc (h : St B S U V H w) (o : Obj) : St B S U V ([(w.heap.size,o)] :: H) { w with heap := w.heap.push o } := by
  have hk : ∀ b o',w.heap[b]? = some o' -> (w.heap.push o)[b]? = some o' := fun b o' hb => by
    rw [Array.getElem?_push,if_neg (by have := lt_of_some hb; omega)]; exact hb
  refine ⟨h.os,h.tape,h.output,by have := h.size; simp; omega,fun b hb hs => ?_,fun b o' hb => ?_,?_,fun b hb => ?_,h.le,fun b o' hb => hk b o' (h.vh b o' hb),fun b o' hb hc => ?_,h.vn⟩
  · have := h.size
    show (w.heap.push o)[b]? = _
    rw [Array.getElem?_push,if_neg (by omega)]; exact h.fr b hb hs
  · rw [List.flatten_cons] at hb
    rcases List.mem_append.1 hb with hb | hb
    · rw [List.mem_singleton] at hb; cases hb; simp
    · exact hk b o' (h.own b o' hb)
  · rw [keys_one]
    refine List.nodup_cons.2 ⟨fun hc => ?_,h.nd⟩
    have := h.key_lt hc; exact Nat.lt_irrefl _ this
  · rw [keys_one] at hb
    rcases List.mem_cons.1 hb with rfl | hb
    · exact .inr h.size
    · exact h.dom b hb
  · rw [keys_one] at hc
    rcases List.mem_cons.1 hc with rfl | hc
    · exact Nat.lt_irrefl _ (lt_of_some (h.vh _ o' hb))
    · exact h.vd b o' hb hc
theorem keys_set {i : Nat} {s s' : Sg} (hi : H[i]? = some s) (hs : s'.map (·.1) = s.map (·.1)) : keys (H.set i s') = keys H := by
  unfold keys
  induction H generalizing i with
  | nil => rfl
  | cons x H ih =>
    cases i with
    | zero =>
      simp only [List.getElem?_cons_zero,Option.some.injEq] at hi
      subst hi
      simp only [List.set_cons_zero,List.flatten_cons,List.map_append,hs]
    | succ i =>
      simp only [List.getElem?_cons_succ] at hi
      simp only [List.set_cons_succ,List.flatten_cons,List.map_append,ih hi]
theorem mem_of_at {i : Nat} {s : Sg} {b : Nat} {o : Obj} (hi : H[i]? = some s) (h : (b,o) ∈ s) : (b,o) ∈ H.flatten := List.mem_flatten.2 ⟨s,List.mem_of_getElem? hi,h⟩
theorem mem_set {i : Nat} {s s' : Sg} {b : Nat} {o : Obj} (nd : (keys H).Nodup) (hi : H[i]? = some s) (hb : (b,o) ∈ (H.set i s').flatten) : (b,o) ∈ s' \/ ((b,o) ∈ H.flatten /\ b ∉ s.map (·.1)) := by
  induction H generalizing i with
  | nil => cases hb
  | cons x H ih =>
    have nd' := nd
    unfold keys at nd'
    simp only [List.flatten_cons,List.map_append] at nd'
    obtain ⟨n1,n2,n3⟩ := List.nodup_append.1 nd'
    cases i with
    | zero =>
      simp only [List.getElem?_cons_zero,Option.some.injEq] at hi
      subst hi
      simp only [List.set_cons_zero,List.flatten_cons] at hb
      rcases List.mem_append.1 hb with hb | hb
      · exact .inl hb
      · exact .inr ⟨by simp only [List.flatten_cons]; exact List.mem_append.2 (.inr hb),fun hk => n3 b hk b (List.mem_map.2 ⟨_,hb,rfl⟩) rfl⟩
    | succ i =>
      simp only [List.getElem?_cons_succ] at hi
      simp only [List.set_cons_succ,List.flatten_cons] at hb
      rcases List.mem_append.1 hb with hb | hb
      · refine .inr ⟨by simp only [List.flatten_cons]; exact List.mem_append.2 (.inl hb),fun hk => ?_⟩
        obtain ⟨⟨b',o'⟩,h1,rfl⟩ := List.mem_map.1 hk
        exact n3 b' (List.mem_map.2 ⟨_,hb,rfl⟩) b' (List.mem_map.2 ⟨_,mem_of_at hi h1,rfl⟩) rfl
      · rcases ih n2 hi hb with h1 | h1
        · exact .inl h1
        · exact .inr ⟨by simp only [List.flatten_cons]; exact List.mem_append.2 (.inr h1.1),h1.2⟩
theorem St.turn {s s' : Sg} {i : Nat} (h : St B S U V H w) (hi : H[i]? = some s) (hs : s'.map (·.1) = s.map (·.1)) (hw : ∀ b,b ∉ s.map (·.1) -> w'.heap[b]? = w.heap[b]?) (hb : ∀ b o,(b,o) ∈ s' -> w'.heap[b]? = some o)
    (e1 : w'.os = w.os) (e2 : w'.tape = w.tape) (e3 : w'.output = w.output) (e4 : w.heap.size <= w'.heap.size) : St B S U V (H.set i s') w' := by
  have hk := keys_set hi hs
  have hsk : ∀ b,b ∈ s.map (·.1) -> b ∈ keys H := fun b hb => by
    obtain ⟨⟨b',o'⟩,h1,rfl⟩ := List.mem_map.1 hb
    exact mem_keys (mem_of_at hi h1)
  refine ⟨e1.trans h.os,e2.trans h.tape,e3.trans h.output,Nat.le_trans h.size e4,fun c hc hs' => ?_,fun c oc hc => ?_,by rw [hk]; exact h.nd,fun c hc => h.dom c (by rw [hk] at hc; exact hc),h.le,fun c oc hc => ?_,fun c oc hc => by rw [hk]; exact h.vd c oc hc,h.vn⟩
  · rw [hw c (fun hc' => ?_)]
    · exact h.fr c hc hs'
    · rcases h.dom c (hsk c hc') with h1 | h1
      · exact hs' h1
      · omega
  · rcases mem_set h.nd hi hc with h1 | ⟨h1,h2⟩
    · exact hb c oc h1
    · rw [hw c h2]; exact h.own c oc h1
  · rw [hw c (fun hc' => h.vd c oc hc (hsk c hc'))]; exact h.vh c oc hc
theorem St.give {Hf Hc : Hp} (h : St B S U V (Hf ++ Hc) w) : St w (keys Hc) V V Hc w :=
  have h' := h.drop
  ⟨rfl,rfl,rfl,Nat.le_refl _,fun _ _ _ => rfl,h'.own,h'.nd,fun _ hb => .inl hb,Vw.le_refl V,h.vh,h'.vd,fun _ _ hb => .inl hb⟩
theorem St.take {Hf Hc : Hp} (h : St B S U V (Hf ++ Hc) w) (k : St w (keys Hc) V V' H' w') : St B S U V' (Hf ++ H') w' := by
  have hnd := h.nd
  rw [keys_append] at hnd
  obtain ⟨n1,n2,n3⟩ := List.nodup_append.1 hnd
  have hf : ∀ b,b ∈ keys Hf -> b ∈ keys (Hf ++ Hc) := fun b hb => by rw [keys_append]; exact List.mem_append.2 (.inl hb)
  have hc : ∀ b,b ∈ keys Hc -> b ∈ keys (Hf ++ Hc) := fun b hb => by rw [keys_append]; exact List.mem_append.2 (.inr hb)
  have hfn : ∀ b,b ∈ keys Hf -> b ∉ keys H' := fun b hb hb' => by
    rcases k.dom b hb' with h1 | h1
    · exact n3 b hb b h1 rfl
    · have := h.key_lt (hf b hb); omega
  refine ⟨k.os.trans h.os,k.tape.trans h.tape,k.output.trans h.output,Nat.le_trans h.size k.size,fun b hb hs => ?_,fun b o hb => ?_,?_,fun b hb => ?_,Vw.le_trans h.le k.le,k.vh,fun b o hb hk => ?_,fun b o hb => ?_⟩
  · rw [k.fr b (Nat.lt_of_lt_of_le hb h.size) (fun hk => ?_)]
    · exact h.fr b hb hs
    · rcases h.dom b (hc b hk) with h1 | h1
      · exact hs h1
      · omega
  · rw [List.flatten_append] at hb
    rcases List.mem_append.1 hb with hb | hb
    · have hkf := mem_keys hb
      rw [k.fr b (h.key_lt (hf b hkf)) (fun hk => n3 b hkf b hk rfl)]
      exact h.own b o (by rw [List.flatten_append]; exact List.mem_append.2 (.inl hb))
    · exact k.own b o hb
  · rw [keys_append]
    exact List.nodup_append.2 ⟨n1,k.nd,fun b hb c hc e => hfn b hb (e ▸ hc)⟩
  · rw [keys_append] at hb
    rcases List.mem_append.1 hb with hb | hb
    · exact h.dom b (hf b hb)
    · rcases k.dom b hb with h1 | h1
      · exact h.dom b (hc b h1)
      · exact .inr (Nat.le_trans h.size h1)
  · rw [keys_append] at hk
    rcases List.mem_append.1 hk with hk | hk
    · rcases k.vn b o hb with h1 | h1 | h1
      · exact h.vd b o h1 (hf b hk)
      · exact n3 b hk b h1 rfl
      · have := h.key_lt (hf b hk); omega
    · exact k.vd b o hb hk
  · rcases k.vn b o hb with h1 | h1 | h1
    · exact h.vn b o h1
    · rcases h.dom b (hc b h1) with h2 | h2
      · exact .inr (.inl h2)
      · exact .inr (.inr h2)
    · exact .inr (.inr (Nat.le_trans h.size h1))
theorem St.leak {s : Sg} (h : St B S U V (s :: H) w) : St B S U (fun c => match s.lookup c with | some o => some o | none => V c) H w := by
  have hd : St B S U V H w := St.drop (H' := [s]) h
  have hlk : ∀ c o,s.lookup c = some o -> (c,o) ∈ s := fun c o hc => by
    clear h hd
    induction s with
    | nil => cases hc
    | cons x s ih =>
      obtain ⟨b,ob⟩ := x
      by_cases e : c = b
      · subst e; simp only [List.lookup,beq_self_eq_true] at hc; cases hc; exact List.mem_cons_self ..
      · have : (c == b) = false := by simp [e]
        simp only [List.lookup,this] at hc; exact List.mem_cons_of_mem _ (ih hc)
  have hin : ∀ c o,(c,o) ∈ s -> (c,o) ∈ (s :: H).flatten := fun c o hc => by rw [List.flatten_cons]; exact List.mem_append.2 (.inl hc)
  have hnd := h.nd
  unfold keys at hnd
  simp only [List.flatten_cons,List.map_append] at hnd
  obtain ⟨n1,n2,n3⟩ := List.nodup_append.1 hnd
  refine ⟨h.os,h.tape,h.output,h.size,h.fr,hd.own,hd.nd,hd.dom,fun c oc hc => ?_,fun c oc hc => ?_,fun c oc hc => ?_,fun c oc hc => ?_⟩
  · cases e : s.lookup c with
    | none => exact h.le c oc hc
    | some o => exact absurd (mem_keys (hin c o (hlk c o e))) (h.vd c oc (h.le c oc hc))
  · cases e : s.lookup c with
    | none => simp only [e] at hc; exact h.vh c oc hc
    | some o => simp only [e] at hc; cases hc; exact h.own c oc (hin c oc (hlk c oc e))
  · cases e : s.lookup c with
    | none => simp only [e] at hc; exact hd.vd c oc hc
    | some o => exact fun hk => n3 c (List.mem_map.2 ⟨_,hlk c o e,rfl⟩) c hk rfl
  · cases e : s.lookup c with
    | none => simp only [e] at hc; exact h.vn c oc hc
    | some o => exact .inr (h.dom c (mem_keys (hin c o (hlk c o e))))
end
structure Env (n : Nat) (L : Sl) (a : Act) (D : List Deferred := []) : Prop where
  size : a.tmps.size = n
  lk : ∀ i v,L.lookup i = some v -> a.tmps[i]? = some v
  df : a.defers = D
def ev (L : Sl) : Operand -> Option Value
  | .tmp t => L.lookup t
  | .const v => some v
  | .global g => some (.pointer (some ⟨g,0,none⟩))
  | .func f => some (.func (.func f) #[] #[])
def evs (L : Sl) : List Operand -> Option (List Value)
  | [] => some []
  | x :: xs => match ev L x,evs L xs with
    | some v,some vs => some (v :: vs)
    | _,_ => none
theorem Env.ev {n : Nat} {L : Sl} {a : Act} {D : List Deferred} (h : Env n L a D) {x : Operand} {v : Value} (hx : ev L x = some v) : a.eval x = v := by
  cases x with
  | tmp t =>
    have := h.lk t v hx
    show a.tmps.getD t undef = v
    rw [Array.getD_eq_getD_getElem?,this]; rfl
  | const u => simpa [K.ev,Act.eval] using hx
  | global g => simpa [K.ev,Act.eval] using hx
  | func f => simpa [K.ev,Act.eval] using hx
theorem Env.evs {n : Nat} {L : Sl} {a : Act} {D : List Deferred} (h : Env n L a D) : ∀ {xs : List Operand} {vs : List Value},evs L xs = some vs -> xs.map a.eval = vs
  | [],vs,hx => by simpa [K.evs] using hx
  | x :: xs,vs,hx => by
    unfold K.evs at hx
    split at hx
    · rename_i v vs' h1 h2
      cases hx
      rw [List.map_cons,h.ev h1,h.evs h2]
    · cases hx
theorem Env.put {n : Nat} {L : Sl} {a : Act} {D : List Deferred} (h : Env n L a D) {d : Nat} (hd : d < n) (v : Value) : Env n ((d,v) :: L) (a.put (some d) v) D := by
  refine ⟨by simp [Act.put,h.size],fun i u hi => ?_,h.df⟩
  simp only [Act.put]
  rw [Array.getElem?_setIfInBounds]
  by_cases e : d = i
  · subst e
    simp only [List.lookup,beq_self_eq_true] at hi
    cases hi
    simp [h.size,hd]
  · have : (i == d) = false := by simp; exact fun x => e x.symm
    simp only [List.lookup,this] at hi
    rw [if_neg e]; exact h.lk i u hi
def subB (L L' : Sl) : Prop := ∀ i v,L'.lookup i = some v -> L.lookup i = some v
theorem Env.sub {n : Nat} {L L' : Sl} {a : Act} {D : List Deferred} (h : Env n L a D) (hs : subB L L') : Env n L' a D := ⟨h.size,fun i v hi => h.lk i v (hs i v hi),h.df⟩
theorem subB_nil (L : Sl) : subB L [] := fun _ _ h => by cases h
theorem subB_cons {L L' : Sl} {i : Nat} {v : Value} (h : L.lookup i = some v) (k : subB L L') : subB L ((i,v) :: L') := fun j u hj => by
  by_cases e : j = i
  · subst e; simp only [List.lookup,beq_self_eq_true] at hj; cases hj; exact h
  · have : (j == i) = false := by simp [e]
    simp only [List.lookup,this] at hj; exact k j u hj
theorem Env.start (args : List Value) (n : Nat) (hn : args.length <= n) : Env n ((List.range args.length).zip args) { tmps := args.toArray ++ Array.replicate (n - args.toArray.size) undef,defers := [] } := by
  refine ⟨by simp; omega,fun i v hi => ?_,rfl⟩
  have key : ∀ (l : List Value) (k i : Nat) (v : Value),((List.range' k l.length).zip l).lookup i = some v -> k <= i /\ l[i - k]? = some v := by
    intro l
    induction l with
    | nil => intro k i v h; simp at h
    | cons x l ih =>
      intro k i v h
      simp only [List.length_cons,List.range'_succ,List.zip_cons_cons,List.lookup] at h
      by_cases e : i = k
      · subst e; simp only [beq_self_eq_true] at h; cases h; exact ⟨Nat.le_refl _,by simp⟩
      · have : (i == k) = false := by simp [e]
        simp only [this] at h
        obtain ⟨h1,h2⟩ := ih (k + 1) i v h
        refine ⟨by omega,?_⟩
        have : i - k = (i - (k + 1)) + 1 := by omega
        rw [this,List.getElem?_cons_succ]; exact h2
  rw [List.range_eq_range'] at hi
  obtain ⟨_,h2⟩ := key args 0 i v hi
  simp only [Nat.sub_zero] at h2
  have hlt : i < args.length := by
    rcases Nat.lt_or_ge i args.length with h | h
    · exact h
    · rw [List.getElem?_eq_none h] at h2; cases h2
  simp only [List.append_toArray,<- List.toArray_replicate,List.getElem?_toArray]
  rw [List.getElem?_append_left hlt]; exact h2
end Go.K
namespace Go.K
structure Cx where
  P : Program
  n : Nat
  B : World
  S : List Nat
  U : Vw
  D : List Deferred := []
def Is (C : Cx) (V : Vw) (H : Hp) (L : Sl) (a : Act) (w : World) : Prop := Env C.n L a C.D /\ St C.B C.S C.U V H w
def Tr (C : Cx) (V : Vw) (H : Hp) (L : Sl) (c : Code) (Q : Exit -> Act -> World -> Prop) : Prop := ∀ a w,Is C V H L a w -> c.wp C.P Q a w
def Run (C : Cx) (ops : Array Oper) (V : Vw) (H : Hp) (L : Sl) (os : List Oper) (Q : Exit -> Act -> World -> Prop) : Prop := ∀ a w,Is C V H L a w -> wpList C.P ops Q os a w
def Does (P : Program) (f : FuncId) (args : List Value) (V : Vw) (H : Hp) (R : Value -> Vw -> Hp -> Prop) : Prop :=
  (∃ fn,P.funcs[f]? = some fn /\ (fn.name == "runtime.NumGoroutine") = false /\ fn.body.isNone = false) /\
  ∀ B,St B (keys H) V V H B -> Calls P f args.toArray B fun e w' => ∃ v V' H',e = .returned v /\ R v V' H' /\ St B (keys H) V V' H' w'
section
variable {C : Cx} {V : Vw} {H : Hp} {L : Sl} {Q : Exit -> Act -> World -> Prop} {ops : Array Oper} {os : List Oper}
theorem Does.mono {P : Program} {f : FuncId} {args : List Value} {R R' : Value -> Vw -> Hp -> Prop} (h : Does P f args V H R) (k : ∀ v V' H',R v V' H' -> R' v V' H') : Does P f args V H R' :=
  ⟨h.1,fun B hB => (h.2 B hB).mono fun _ _ ⟨v,V',H',e,r,s⟩ => ⟨v,V',H',e,k _ _ _ r,s⟩⟩
theorem Does.intro {P : Program} {f : FuncId} {fn : Func} {c : Code} {args : List Value} {R : Value -> Vw -> Hp -> Prop} (hf : P.funcs[f]? = some fn) (hb : fn.body = some c) (hnm : (fn.name == "runtime.NumGoroutine") = false) (hn : args.length <= fn.ntmps)
    (h : ∀ B,Tr ⟨P,fn.ntmps,B,keys H,V,[]⟩ V H ((List.range args.length).zip args) c (bodyPost P fn fun e w' => ∃ v V' H',e = .returned v /\ R v V' H' /\ St B (keys H) V V' H' w')) :
    Does P f args V H R := ⟨⟨fn,hf,hnm,by rw [hb]; rfl⟩,fun B hB => calls_of_wp hf hb (h B _ _ ⟨Env.start args fn.ntmps hn,hB⟩)⟩
theorem Tr.seq {x y : Code} (h : Tr C V H L x (Exit.then (y.wp C.P Q) Q)) : Tr C V H L (.seq x y) Q := fun a w i => wp_seq (h a w i)
theorem Tr.skip (h : ∀ a w,Is C V H L a w -> Q .normal a w) : Tr C V H L .skip Q := fun a w i => wp_skip (h a w i)
theorem Tr.block {id : Nat} {c : Code} (h : Tr C V H L c (Exit.inBlock id Q)) : Tr C V H L (.block id c) Q := fun a w i => wp_block (h a w i)
theorem Tr.exit {id : Nat} (h : ∀ a w,Is C V H L a w -> Q (.exit id) a w) : Tr C V H L (.exit id) Q := fun a w i => wp_exit (h a w i)
theorem Tr.ret (h : ∀ a w,Is C V H L a w -> Q .ret a w) : Tr C V H L .ret Q := fun a w i => wp_ret (h a w i)
theorem Tr.cond_t {c : Operand} {x y : Code} {t : Bool} (hc : ev L c = some (.bool t)) (e : t = true) (ht : Tr C V H L x Q) : Tr C V H L (.cond c x y) Q :=
  fun a w i => wp_cond_true (by rw [i.1.ev hc,e]) (ht a w i)
theorem Tr.cond_f {c : Operand} {x y : Code} {t : Bool} (hc : ev L c = some (.bool t)) (e : t = false) (hf : Tr C V H L y Q) : Tr C V H L (.cond c x y) Q :=
  fun a w i => wp_cond_false (by rw [i.1.ev hc,e]) (hf a w i)
theorem Tr.region {id : Nat} {l : List Oper} (h : Run C l.toArray V H L l Q) : Tr C V H L (.region id l.toArray false) Q := fun a w i => wp_region_lit (h a w i)
theorem Tr.cut {x y : Code} (V' : Vw) (H' : Hp) (L' : Sl) (h : Tr C V H L x (Exit.then (Is C V' H' L') Q)) (k : Tr C V' H' L' y Q) : Tr C V H L (.seq x y) Q :=
  fun a w i => wp_seq (Code.wp_mono (fun e a' w' q => by cases e <;> first | exact k a' w' q | exact q) (h a w i))
theorem Tr.cutx {x y : Code} {X : Type} (V' : X -> Vw) (H' : X -> Hp) (L' : X -> Sl) (p : X -> Prop) (h : Tr C V H L x (Exit.then (fun a w => ∃ x,p x /\ Is C (V' x) (H' x) (L' x) a w) Q))
    (k : ∀ x,p x -> Tr C (V' x) (H' x) (L' x) y Q) : Tr C V H L (.seq x y) Q :=
  fun a w i => wp_seq (Code.wp_mono (fun e a' w' q => by cases e <;> first | (obtain ⟨x,hp,i'⟩ := q; exact k x hp a' w' i') | exact q) (h a w i))
theorem Tr.loop {c : Code} {X : Type} (V' : X -> Vw) (H' : X -> Hp) (L' : X -> Sl) (p : X -> Prop) (m : X -> Nat) (x0 : X) (h0 : p x0) (he : ∀ a w,Is C V H L a w -> Is C (V' x0) (H' x0) (L' x0) a w)
    (h : ∀ x,p x -> Tr C (V' x) (H' x) (L' x) c (Exit.then (fun a w => ∃ y,p y /\ m y < m x /\ Is C (V' y) (H' y) (L' y) a w) Q)) : Tr C V H L (.loop c) Q := by
  intro a w i b k cs
  have key : ∀ k0 x,m x = k0 -> p x -> ∀ a w,Is C (V' x) (H' x) (L' x) a w ->
      ∃ e a' w',Q e a' w' /\ Arrives C.P (lone (b.at a (.code c :: .inLoop c :: k)) cs w) b k cs e a' w' := by
    intro k0
    induction k0 using Nat.strongRecOn with
    | _ k0 ih =>
      intro x hx hp a w i
      obtain ⟨e,a₁,w₁,hq,harr⟩ := h x hp a w i b (.inLoop c :: k) cs
      cases e with
      | normal =>
        obtain ⟨y,hy,hlt,hi⟩ := hq
        obtain ⟨e₂,a₂,w₂,hq₂,harr₂⟩ := ih (m y) (hx ▸ hlt) y rfl hy a₁ w₁ hi
        exact ⟨e₂,a₂,w₂,hq₂,.of_steps (Steps.trans harr (.one step_inLoop)) harr₂⟩
      | exit id => exact ⟨_,a₁,w₁,hq,.pass (x := .inLoop c) rfl (fun _ _ => .inl (by simp)) harr⟩
      | goto l => exact ⟨_,a₁,w₁,hq,.pass (x := .inLoop c) rfl (fun _ _ => .inl (by simp)) harr⟩
      | ret => exact ⟨_,a₁,w₁,hq,.pass (x := .inLoop c) rfl (fun _ _ => .inl (by simp)) harr⟩
      | panic ch => exact ⟨_,a₁,w₁,hq,.pass (x := .inLoop c) rfl (fun _ _ => .inl (by simp)) harr⟩
      | outgrown => exact ⟨_,a₁,w₁,hq,.pass (x := .inLoop c) rfl (fun _ _ => .inl (by simp)) harr⟩
  obtain ⟨e,a',w',hq,harr⟩ := key _ x0 rfl h0 a w (he a w i)
  exact ⟨e,a',w',hq,.of_steps (.one step_loop) harr⟩
section
variable {fn : Func} {B : World} {S : List Nat} {U : Vw} {P : Program} {n : Nat} {R : Value -> Vw -> Hp -> Prop}
theorem ret1 {t : Tmp} {v : Value} (hr : fn.results = #[.tmp t]) (hv : L.lookup t = some v) (hR : R v V H) (a : Act) (w : World) (i : Is ⟨P,n,B,S,U,[]⟩ V H L a w) :
    bodyPost P fn (fun e w' => ∃ v V' H',e = .returned v /\ R v V' H' /\ St B S U V' H' w') .ret a w :=
  ⟨i.1.df,v,by rw [results_tmp hr,Array.getD_eq_getD_getElem?,i.1.lk t v hv]; rfl,v,V,H,rfl,hR,i.2⟩
theorem ret2 {t u : Tmp} {v z : Value} (hr : fn.results = #[.tmp t,.tmp u]) (hv : L.lookup t = some v) (hz : L.lookup u = some z) (hR : R (.tuple #[v,z]) V H) (a : Act) (w : World) (i : Is ⟨P,n,B,S,U,[]⟩ V H L a w) :
    bodyPost P fn (fun e w' => ∃ v V' H',e = .returned v /\ R v V' H' /\ St B S U V' H' w') .ret a w :=
  ⟨i.1.df,_,by rw [results_tmp2 hr,Array.getD_eq_getD_getElem?,Array.getD_eq_getD_getElem?,i.1.lk t v hv,i.1.lk u z hz]; rfl,_,V,H,rfl,hR,i.2⟩
theorem ret0 (hr : fn.results = #[]) (hR : R (.tuple #[]) V H) (a : Act) (w : World) (i : Is ⟨P,n,B,S,U,[]⟩ V H L a w) :
    bodyPost P fn (fun e w' => ∃ v V' H',e = .returned v /\ R v V' H' /\ St B S U V' H' w') .ret a w :=
  ⟨i.1.df,_,results_none hr _ _ _,_,V,H,rfl,hR,i.2⟩
theorem end0 (hr : fn.results = #[]) (hR : R (.tuple #[]) V H) (a : Act) (w : World) (i : Is ⟨P,n,B,S,U,[]⟩ V H L a w) :
    bodyPost P fn (fun e w' => ∃ v V' H',e = .returned v /\ R v V' H' /\ St B S U V' H' w') .normal a w :=
  ⟨i.1.df,_,results_none hr _ _ _,_,V,H,rfl,hR,i.2⟩
end
theorem Run.perm {H' : Hp} (h : H'.Perm H) (k : Run C ops V H' L os Q) : Run C ops V H L os Q := fun a w i => k a w ⟨i.1,i.2.perm h⟩
theorem Run.on {o : Oper} {j : Nat} {t : Bool} {d : Nat} {b : Bool} (hg : o.guard = some (j,t)) (hj : ((ops[j]?).bind (·.dst)) = some d) (hb : L.lookup d = some (.bool b)) (e : b = t)
    (k : Run C ops V H L (⟨o.dst,o.op,o.type,o.pos,o.after,none⟩ :: os) Q) : Run C ops V H L (o :: os) Q := fun a w i => by
  have h := k a w i
  have hw : Region.wanted o (yielded ops a.tmps) = true := by
    simp only [Region.wanted,hg,yielded,hj,Option.bind_some,i.1.lk d _ hb,e,beq_self_eq_true]
  unfold wpList at h ⊢
  rw [if_pos hw]
  rw [if_pos (by simp [Region.wanted])] at h
  exact h
theorem Run.off {o : Oper} {j : Nat} {t : Bool} {d dd : Nat} {b : Bool} (hg : o.guard = some (j,t)) (hj : ((ops[j]?).bind (·.dst)) = some d) (hb : L.lookup d = some (.bool b)) (e : b = !t) (hd : o.dst = some dd) (hn : dd < C.n)
    (k : Run C ops V H ((dd,undef) :: L) os Q) : Run C ops V H L (o :: os) Q := fun a w i => by
  have hw : Region.wanted o (yielded ops a.tmps) = false := by
    simp only [Region.wanted,hg,yielded,hj,Option.bind_some,i.1.lk d _ hb,e]; cases t <;> rfl
  unfold wpList
  rw [if_neg (by simp [hw]),hd]
  exact k _ _ ⟨i.1.put hn _,i.2⟩
variable {ty : TypeId} {pos : String} {aft : Array Edge} {d : Nat}
def Yl (C : Cx) (V : Vw) (H : Hp) (L : Sl) (op : Op) (ty : TypeId) (v : Value) : Prop :=
  ∀ V' a w,V.le V' -> Is C V' H L a w -> ∀ o : Oper,o.op = op -> o.type = ty -> (execOp a.eval o).run C.P w = .ok (.value v) w
theorem Run.val {op : Op} {v : Value} (hd : d < C.n) (hx : Yl C V H L op ty v)
    (k : Run C ops V H ((d,v) :: L) os Q) : Run C ops V H L (⟨some d,op,ty,pos,aft,none⟩ :: os) Q := fun a w i => by
  unfold wpList
  rw [if_pos (by simp [Region.wanted])]
  refine .inl ?_
  unfold Oper.wp
  rw [hx V a w (Vw.le_refl V) i _ rfl rfl]
  exact k _ _ ⟨i.1.put hd v,i.2⟩
theorem Run.step {op : Op} {p : Value -> Vw -> Hp -> Prop} (hd : d < C.n)
    (hx : ∀ a w,Is C V H L a w -> ∃ v w' V' H',(execOp a.eval ⟨some d,op,ty,pos,aft,none⟩).run C.P w = .ok (.value v) w' /\ p v V' H' /\ St C.B C.S C.U V' H' w')
    (k : ∀ v V' H',p v V' H' -> Run C ops V' H' ((d,v) :: L) os Q) : Run C ops V H L (⟨some d,op,ty,pos,aft,none⟩ :: os) Q := fun a w i => by
  unfold wpList
  rw [if_pos (by simp [Region.wanted])]
  refine .inl ?_
  unfold Oper.wp
  obtain ⟨v,w',V',H',h1,h2,h3⟩ := hx a w i
  rw [h1]
  exact k v V' H' h2 _ _ ⟨i.1.put hd v,h3⟩
theorem lt {m n : Nat} (h : Nat.blt m n = true) : m < n := by simp [Nat.blt] at h; omega
theorem Run.act {op : Op} {V' : Vw} {H' : Hp} (hx : ∀ a w,Is C V H L a w -> ∃ w',(execOp a.eval ⟨none,op,ty,pos,aft,none⟩).run C.P w = .ok .skip w' /\ St C.B C.S C.U V' H' w')
    (k : Run C ops V' H' L os Q) : Run C ops V H L (⟨none,op,ty,pos,aft,none⟩ :: os) Q := fun a w i => by
  unfold wpList
  rw [if_pos (by simp [Region.wanted])]
  refine .inl ?_
  unfold Oper.wp
  obtain ⟨w',h1,h3⟩ := hx a w i
  rw [h1]
  exact k _ _ ⟨i.1,h3⟩
theorem Y.move {x : Operand} {v : Value} (hv : ev L x = some v) : Yl C V H L (.move x) ty (v) := (fun V2 a w hle i o ho hty => by simp only [execOp,ho,i.1.ev hv]; rfl)
theorem Y.assign {x : Operand} {v : Value} (hv : ev L x = some v) : Yl C V H L (.assign x) ty (v) := (fun V2 a w hle i o ho hty => by simp only [execOp,ho,i.1.ev hv]; rfl)
theorem Y.pick_t {x y z : Operand} {t : Bool} {u : Value} (hx : ev L x = some (.bool t)) (e : t = true) (hy : ev L y = some u) : Yl C V H L (.pick x y z) ty (u) := (fun V2 a w hle i o ho hty => by simp only [execOp,ho,i.1.ev hx,i.1.ev hy,asBool,e]; rfl)
theorem Y.pick_f {x y z : Operand} {t : Bool} {u : Value} (hx : ev L x = some (.bool t)) (e : t = false) (hz : ev L z = some u) : Yl C V H L (.pick x y z) ty (u) := (fun V2 a w hle i o ho hty => by simp only [execOp,ho,i.1.ev hx,i.1.ev hz,asBool,e]; rfl)
def intRes (op : BinOp) (k : IntKind) (a b : Int) : Option Value :=
  match op with
  | .add => some (.int k (k.wrap (a + b))) | .sub => some (.int k (k.wrap (a - b))) | .mul => some (.int k (k.wrap (a * b)))
  | .eql => some (.bool (a == b)) | .neq => some (.bool (a != b)) | .lss => some (.bool (a < b)) | .leq => some (.bool (a <= b)) | .gtr => some (.bool (a > b)) | .geq => some (.bool (a >= b))
  | .and => some (.int k (k.wrap (BitVec.ofInt k.bits a &&& BitVec.ofInt k.bits b).toNat))
  | .or => some (.int k (k.wrap (BitVec.ofInt k.bits a ||| BitVec.ofInt k.bits b).toNat))
  | .xor => some (.int k (k.wrap (BitVec.ofInt k.bits a ^^^ BitVec.ofInt k.bits b).toNat))
  | .andNot => some (.int k (k.wrap (BitVec.ofInt k.bits a &&& ~~~BitVec.ofInt k.bits b).toNat))
  | _ => none
theorem run_eqGuard_int {P : Program} {w : World} (op : BinOp) (t : TypeId) (x y : Operand) (k k' : IntKind) (a b : Int) : (eqGuard op t x y (.int k a) (.int k' b)).run P w = .ok () w := by
  unfold eqGuard; cases op <;> rfl
theorem Y.int {x y : Operand} {k : IntKind} {m n : Int} {op : BinOp} {t t' : TypeId} {r : Value} (hx : ev L x = some (.int k m)) (hy : ev L y = some (.int k n)) (hr : intRes op k m n = some r) : Yl C V H L (.binOp op t x y t') ty (r) := (fun V2 a w hle i o ho hty => by
    simp only [execOp,ho,i.1.ev hx,i.1.ev hy,Sem.run_bind,run_eqGuard_int,Result.andThen_ok]
    cases op <;> simp only [intRes,Option.some.injEq,reduceCtorEq] at hr <;> subst hr <;> simp [binOp,Op.intArith,Op.intCmp,Op.intBits])
theorem Y.quo {x y : Operand} {k : IntKind} {m n : Int} {t t' : TypeId} (r : Int) (hx : ev L x = some (.int k m)) (hy : ev L y = some (.int k n)) (hn : n ≠ 0) (hr : k.wrap (m.tdiv n) = r) : Yl C V H L (.binOp .quo t x y t') ty (.int k r) := (fun V2 a w hle i o ho hty => by
    simp only [execOp,ho,i.1.ev hx,i.1.ev hy,Sem.run_bind,run_eqGuard_int,Result.andThen_ok]
    simp [binOp,Op.intDiv,hn,hr])
theorem Y.rem {x y : Operand} {k : IntKind} {m n : Int} {t t' : TypeId} (r : Int) (hx : ev L x = some (.int k m)) (hy : ev L y = some (.int k n)) (hn : n ≠ 0) (hr : m.tmod n = r) : Yl C V H L (.binOp .rem t x y t') ty (.int k r) := (fun V2 a w hle i o ho hty => by
    simp only [execOp,ho,i.1.ev hx,i.1.ev hy,Sem.run_bind,run_eqGuard_int,Result.andThen_ok]
    simp [binOp,Op.intDiv,hn,hr])
theorem Y.shl {x y : Operand} {k k' : IntKind} {m n : Int} {t t' : TypeId} (r : Int) (hx : ev L x = some (.int k m)) (hy : ev L y = some (.int k' n)) (hn : 0 <= n) (hr : k.wrap (m * 2 ^ min n.toNat k.bits) = r) : Yl C V H L (.binOp .shl t x y t') ty (.int k r) := (fun V2 a w hle i o ho hty => by
    simp only [execOp,ho,i.1.ev hx,i.1.ev hy,Sem.run_bind,run_eqGuard_int,Result.andThen_ok]
    simp [binOp,Op.shift,show ¬ n < 0 by omega,hr])
theorem Y.shr {x y : Operand} {k k' : IntKind} {m n : Int} {t t' : TypeId} (r : Int) (hx : ev L x = some (.int k m)) (hy : ev L y = some (.int k' n)) (hn : 0 <= n) (hr : m.fdiv (2 ^ min n.toNat k.bits) = r) : Yl C V H L (.binOp .shr t x y t') ty (.int k r) := (fun V2 a w hle i o ho hty => by
    simp only [execOp,ho,i.1.ev hx,i.1.ev hy,Sem.run_bind,run_eqGuard_int,Result.andThen_ok]
    simp [binOp,Op.shift,show ¬ n < 0 by omega,hr])
theorem Y.not {x : Operand} {b : Bool} {t : TypeId} (hx : ev L x = some (.bool b)) : Yl C V H L (.unOp .not t x) ty (.bool (!b)) := (fun V2 a w hle i o ho hty => by simp [execOp,ho,i.1.ev hx,Op.unary])
def intT (P : Program) (s t : TypeId) : Option IntKind := match P.underlying s,P.underlying t with
  | some _,some (.int k) => some k
  | _,_ => none
theorem Y.conv {x : Operand} {k k' : IntKind} {m : Int} {s t : TypeId} (r : Int) (hx : ev L x = some (.int k m)) (ht : intT C.P s t = some k') (hr : k'.wrap m = r) : Yl C V H L (.convert s t x) ty (.int k' r) := (fun V2 a w hle i o ho hty => by
    subst hr
    unfold intT at ht
    split at ht
    · rename_i u k'' h1 h2
      cases ht
      have h1' := run_underlying (w := w) h1
      have h2' := run_underlying (w := w) h2
      cases u <;> simp [execOp,ho,i.1.ev hx,convert,h1',h2',Conv.intToInt]
    · cases ht)
theorem Y.extract {x : Operand} {vs : Array Value} {ix : Nat} {v : Value} (hx : ev L x = some (.tuple vs)) (hv : vs[ix]? = some v) : Yl C V H L (.extract x ix) ty (v) := (fun V2 a w hle i o ho hty => by simp [execOp,ho,i.1.ev hx,Instr.extract,hv])
theorem Y.nilCheck {x : Operand} {p : Addr} (hx : ev L x = some (.pointer (some p))) : Yl C V H L (.nilCheck x) ty (.pointer (some p)) := (fun V2 a w hle i o ho hty => by simp [execOp,ho,i.1.ev hx])
theorem Y.makeFunc {f : Fn} {l l' : List Operand} {vs vs' : List Value} (h1 : evs L l = some vs) (h2 : evs L l' = some vs') : Yl C V H L (.makeFunc f l.toArray l'.toArray) ty (.func f vs.toArray vs'.toArray) := (fun V2 a w hle i o ho hty => by
    have e1 := i.1.evs h1
    have e2 := i.1.evs h2
    simp [execOp,ho,Instr.makeFunc,e1,e2])
def Kn (V : Vw) (H : Hp) (b : Nat) (o : Obj) : Prop := V b = some o \/ (b,o) ∈ H.flatten
theorem Kn.at {b : Nat} {o : Obj} {s : Sg} (i : Nat) (h : H[i]? = some ((b,o) :: s)) : Kn V H b o := .inr (mem_of_at h (List.mem_cons_self ..))
theorem Kn.le {V' : Vw} {b : Nat} {o : Obj} (h : Kn V H b o) (k : V.le V') : Kn V' H b o := h.imp (k b o) id
theorem Kn.st {B : World} {S : List Nat} {U : Vw} {w : World} {b : Nat} {o : Obj} (h : Kn V H b o) (s : St B S U V H w) : w.heap[b]? = some o := h.elim (s.vh b o) (s.own b o)
def scal (P : Program) (t : TypeId) : Bool := match P.underlying t with
  | some (.struct _) | some (.array _ _) | none => false
  | some _ => true
def aggsz (P : Program) (t : TypeId) : Option Nat := match P.underlying t with
  | some (.struct _) | some (.array _ _) => (P.info? t).map (·.size)
  | _ => none
theorem run_isAgg_scal {P : Program} {t : TypeId} {w : World} (h : scal P t = true) : (isAgg t).run P w = .ok false w := by
  unfold scal at h
  cases hu : P.underlying t with
  | none => rw [hu] at h; cases h
  | some u =>
    rw [hu] at h
    unfold isAgg
    simp only [Sem.run_bind,run_underlying hu,Result.andThen_ok]
    cases u <;> first | rfl | cases h
theorem run_isAgg_agg {P : Program} {t : TypeId} {w : World} {z : Nat} (h : aggsz P t = some z) : (isAgg t).run P w = .ok true w /\ (sizeOf t).run P w = .ok z w := by
  unfold aggsz at h
  cases hu : P.underlying t with
  | none => rw [hu] at h; cases h
  | some u =>
    rw [hu] at h
    have hi : ∀ z,(P.info? t).map (·.size) = some z -> (sizeOf t).run P w = .ok z w := fun z hz => by
      cases hj : P.info? t with
      | none => rw [hj] at hz; cases hz
      | some j => rw [hj] at hz; cases hz; simp [sizeOf,typeInfo,hj,program,Sem.run]
    unfold isAgg
    simp only [Sem.run_bind,run_underlying hu,Result.andThen_ok]
    cases u <;> first | exact ⟨rfl,hi z h⟩ | cases h
theorem cell_of {w : World} {b off : Nat} {c : Array Value} {t : TypeId} {fz : Nat × Nat} {v : Value} (h : w.heap[b]? = some (.cells c t fz)) (hv : c[off]? = some v) : w.cell? ⟨b,off,none⟩ = some v := by
  simp [World.cell?,h,hv]
theorem Y.load {x : Operand} {b off : Nat} {c : Array Value} {e t : TypeId} {fz : Nat × Nat} {v : Value} (hx : ev L x = some (.pointer (some ⟨b,off,none⟩))) (ht : scal C.P t = true) (hk : Kn V H b (.cells c e fz)) (hv : c[off]? = some v) : Yl C V H L (.load t x) ty (v) := (fun V2 a w hle i o ho hty => by
    simp only [execOp,ho,i.1.ev hx,Instr.loadAt,Instr.sureAddr,loadVar,Sem.run_bind,Sem.run_pure,Result.andThen_ok,run_isAgg_scal ht]
    simp [cell_of ((hk.le hle).st i.2) hv])
def cellsAt (c : Array Value) (off : Nat) : Nat -> Option (List Value)
  | 0 => some []
  | n + 1 => match c[off]?,cellsAt c (off + 1) n with
    | some v,some vs => some (v :: vs)
    | _,_ => none
theorem Addr.add_plain (b off i : Nat) : (⟨b,off,none⟩ : Addr).add i = ⟨b,off + i,none⟩ := by
  unfold Addr.add; split
  · rename_i h; subst h; rfl
  · rfl
theorem run_loadCells {P : Program} {w : World} {b : Nat} {c : Array Value} {t : TypeId} {fz : Nat × Nat} (h : w.heap[b]? = some (.cells c t fz)) (off : Nat) : ∀ (n i : Nat) (vs : List Value) (acc : Array Value),cellsAt c (off + i) n = some vs ->
    (loadCellsFrom ⟨b,off,none⟩ i n acc).run P w = .ok (acc ++ vs.toArray) w
  | 0,i,vs,acc,hv => by cases hv; simp [loadCellsFrom]
  | n + 1,i,vs,acc,hv => by
    unfold cellsAt at hv
    split at hv
    · rename_i v vs' h1 h2
      cases hv
      have hc := cell_of h h1
      have := run_loadCells (P := P) h off n (i + 1) vs' (acc.push v) h2
      simp only [loadCellsFrom,Addr.add_plain,Sem.run_bind,run_load,hc,Result.andThen_ok,this]
      simp
    · cases hv
theorem Y.loadAgg {x : Operand} {b off z : Nat} {c : Array Value} {e t : TypeId} {fz : Nat × Nat} {vs : List Value} (hx : ev L x = some (.pointer (some ⟨b,off,none⟩))) (ht : aggsz C.P t = some z) (hk : Kn V H b (.cells c e fz)) (hv : cellsAt c off z = some vs) : Yl C V H L (.load t x) ty (.agg vs.toArray) := (fun V2 a w hle i o ho hty => by
    have h1 := run_isAgg_agg (w := w) ht
    simp only [execOp,ho,i.1.ev hx,Instr.loadAt,Instr.sureAddr,loadVar,Sem.run_bind,Sem.run_pure,Result.andThen_ok,h1.1,h1.2,if_true,loadCells]
    rw [run_loadCells ((hk.le hle).st i.2) off z 0 vs #[] hv]
    simp)
def fieldOff (P : Program) (s : TypeId) (f : Nat) : Option Nat := match P.underlying s with
  | some (.struct fs) => match fs[f]? with
    | some g => match P.info? g.type with
      | some i => if i.size = 0 then none else some g.offset
      | none => none
    | none => none
  | _ => none
theorem Y.fieldAddr {x : Operand} {b off o : Nat} {s : TypeId} {f : Nat} (hx : ev L x = some (.pointer (some ⟨b,off,none⟩))) (hf : fieldOff C.P s f = some o) : Yl C V H L (.fieldAddr s x f) ty (.pointer (some ⟨b,off + o,none⟩)) := (fun V2 a w hle i o ho hty => by
    unfold fieldOff at hf
    cases hu : C.P.underlying s with
    | none => rw [hu] at hf; cases hf
    | some u =>
      rw [hu] at hf
      cases u <;> simp only [reduceCtorEq] at hf
      rename_i fs
      cases hg : fs[f]? with
      | none => rw [hg] at hf; cases hf
      | some g =>
        rw [hg] at hf
        cases hj : C.P.info? g.type with
        | none => simp only [hj,reduceCtorEq] at hf
        | some j =>
          simp only [hj] at hf
          split at hf
          · cases hf
          · rename_i hz
            cases hf
            have hs : (sizeOf g.type).run C.P w = .ok j.size w := by simp [sizeOf,typeInfo,hj,program,Sem.run]
            simp only [execOp,ho,i.1.ev hx,Instr.fieldAt,Sem.run_bind,run_underlying hu,Result.andThen_ok,hg,Instr.sureAddr,Sem.run_pure,fieldPlace,hs,Sem.run_ite,if_neg hz,Addr.add_plain])
end
end Go.K
namespace Go.K
section
variable {C : Cx} {V : Vw} {H : Hp} {L : Sl} {Q : Exit -> Act -> World -> Prop} {ops : Array Oper} {os : List Oper}
variable {ty : TypeId} {pos : String} {aft : Array Edge} {d : Nat}
def pull : List Nat -> Hp -> Hp × Hp
  | [],H => (H,[])
  | i :: is,H => match H[i]? with
    | some s => ((pull is (H.eraseIdx i)).1,s :: (pull is (H.eraseIdx i)).2)
    | none => pull is H
theorem perm_eraseIdx {α : Type} : ∀ (l : List α) (i : Nat) (x : α),l[i]? = some x -> (x :: l.eraseIdx i).Perm l
  | y :: l,0,x,h => by cases h; exact List.Perm.refl _
  | y :: l,i + 1,x,h => by
    simp only [List.getElem?_cons_succ] at h
    simp only [List.eraseIdx_cons_succ]
    exact (List.Perm.swap y x _).trans ((perm_eraseIdx l i x h).cons y)
theorem pull_perm : ∀ (is : List Nat) (H : Hp),((pull is H).1 ++ (pull is H).2).Perm H
  | [],H => by simp [pull]
  | i :: is,H => by
    unfold pull
    split
    · rename_i s hs
      refine List.Perm.trans ?_ (perm_eraseIdx H i s hs)
      refine List.Perm.trans List.perm_middle ?_
      exact (pull_perm is (H.eraseIdx i)).cons s
    · exact pull_perm is H
theorem run_callFunc {P : Program} {f : FuncId} {args : List Value} {w : World} (h : ∃ fn,P.funcs[f]? = some fn /\ (fn.name == "runtime.NumGoroutine") = false /\ fn.body.isNone = false) :
    (callFunc f args.toArray).run P w = .ok (.enter f args.toArray) w := by
  obtain ⟨fn,h1,h2,h3⟩ := h
  have hp : (program : Sem Program).run P w = .ok P w := rfl
  simp only [callFunc,Sem.run_bind,hp,Result.andThen_ok,h1,h2,h3,Bool.false_eq_true,if_false,Sem.run_pure]
theorem Run.call {x : Operand} {l : List Operand} {at_ : Array TypeId} {f : FuncId} {first cap : Array Value} {vs args : List Value} {R : Value -> Vw -> Hp -> Prop} (is : List Nat)
    (hx : ev L x = some (.func (.func f) first cap)) (hl : evs L l = some vs) (ha : first.toList ++ vs ++ cap.toList = args) (hd : d < C.n) (hc : Does C.P f args V (pull is H).2 R)
    (k : ∀ v V' H',V.le V' -> R v V' H' -> Run C ops V' ((pull is H).1 ++ H') ((d,v) :: L) os Q) :
    Run C ops V H L (⟨some d,.call { callee := .value x,args := l.toArray,argTypes := at_ },ty,pos,aft,none⟩ :: os) Q := fun a w i => by
  unfold wpList
  rw [if_pos (by simp [Region.wanted])]
  refine .inl ?_
  unfold Oper.wp
  have hst : St C.B C.S C.U V ((pull is H).1 ++ (pull is H).2) w := i.2.perm (pull_perm is H)
  have e1 := i.1.ev hx
  have e2 := i.1.evs hl
  have hr : (execOp a.eval ⟨some d,.call { callee := .value x,args := l.toArray,argTypes := at_ },ty,pos,aft,none⟩).run C.P w = .ok (.enter f args.toArray) w := by
    have ha' : first ++ (l.map a.eval).toArray ++ cap = args.toArray := by rw [e2,<- ha]; simp
    simp only [execOp,resolve,e1,Deferred.ofValue,Sem.run_bind,Sem.run_pure,Result.andThen_ok,invoke,List.map_toArray,ha']
    exact run_callFunc hc.1
  rw [hr]
  refine (hc.2 w hst.give).mono fun e w' ⟨v,V',H',he,hR,hs⟩ => ?_
  subst he
  have h2 := hst.take hs
  exact k v V' H' hs.le hR _ _ ⟨i.1.put hd v,h2⟩
def zeroOf (P : Program) (t : TypeId) : Option Value := (P.info? t).bind (·.zero)
theorem run_zeroValue {P : Program} {t : TypeId} {w : World} {z : Value} (h : zeroOf P t = some z) : (zeroValue t).run P w = .ok z w := by
  unfold zeroOf at h
  cases hj : P.info? t with
  | none => rw [hj] at h; cases h
  | some j => rw [hj] at h; simp only [Option.bind_some] at h; simp [zeroValue,typeInfo,hj,program,Sem.run,h]
def sizeT (P : Program) (t : TypeId) : Option Nat := (P.info? t).map (·.size)
theorem run_sizeOf {P : Program} {t : TypeId} {w : World} {z : Nat} (h : sizeT P t = some z) : (sizeOf t).run P w = .ok z w := by
  unfold sizeT at h
  cases hj : P.info? t with
  | none => rw [hj] at h; cases h
  | some j => rw [hj] at h; cases h; simp [sizeOf,typeInfo,hj,program,Sem.run]
theorem Run.alloc {t : TypeId} {z : Value} (hz : zeroOf C.P t = some z) (hd : d < C.n) (k : ∀ b,Run C ops V ([(b,.cells z.cells t)] :: H) ((d,.pointer (some ⟨b,0,none⟩)) :: L) os Q) :
    Run C ops V H L (⟨some d,.alloc t,ty,pos,aft,none⟩ :: os) Q :=
  Run.step (p := fun v V' H' => ∃ b,v = .pointer (some ⟨b,0,none⟩) /\ V' = V /\ H' = [(b,.cells z.cells t)] :: H) hd
    (fun a w i => ⟨_,_,V,_,by simp only [execOp,Instr.alloc,Sem.run_bind,run_zeroValue hz,Result.andThen_ok,newVar,newRow,newObj]; rfl,⟨_,rfl,rfl,rfl⟩,i.2.alloc _⟩)
    (fun v V' H' ⟨b,h1,h2,h3⟩ => by subst h1 h2 h3; exact k b)
theorem Run.box {t : TypeId} {x : Operand} {z : Value} (hz : ev L x = some z) (hd : d < C.n) (k : ∀ b,Run C ops V ([(b,.cells z.cells t)] :: H) ((d,.pointer (some ⟨b,0,none⟩)) :: L) os Q) :
    Run C ops V H L (⟨some d,.box t x,ty,pos,aft,none⟩ :: os) Q :=
  Run.step (p := fun v V' H' => ∃ b,v = .pointer (some ⟨b,0,none⟩) /\ V' = V /\ H' = [(b,.cells z.cells t)] :: H) hd
    (fun a w i => ⟨_,_,V,_,by simp only [execOp,Instr.box,i.1.ev hz,Sem.run_bind,newVar,newRow,newObj]; rfl,⟨_,rfl,rfl,rfl⟩,i.2.alloc _⟩)
    (fun v V' H' ⟨b,h1,h2,h3⟩ => by subst h1 h2 h3; exact k b)
def partsOf (L : Sl) : List (Nat × Operand) -> Option (List (Nat × Value))
  | [] => some []
  | (i,x) :: l => match ev L x,partsOf L l with
    | some v,some vs => some ((i,v) :: vs)
    | _,_ => none
theorem Env.parts {n : Nat} {L : Sl} {a : Act} {D : List Deferred} (h : Env n L a D) : ∀ {l : List (Nat × Operand)} {vs : List (Nat × Value)},partsOf L l = some vs -> l.map (fun x => (x.1,a.eval x.2)) = vs
  | [],vs,hx => by simpa [partsOf] using hx
  | (i,x) :: l,vs,hx => by
    unfold partsOf at hx
    split at hx
    · rename_i v vs' h1 h2
      cases hx
      simp only [List.map_cons,h.ev h1,h.parts h2]
    · cases hx
def placesS (P : Program) (t : TypeId) : Option (List (Nat × Nat)) := match P.underlying t with
  | some (.struct fs) => fs.toList.mapM fun f => (sizeT P f.type).map fun z => (f.offset,z)
  | _ => none
def elemA (P : Program) (t : TypeId) : Option Nat := match P.underlying t with
  | some (.array _ e) => sizeT P e
  | _ => none
def elemS (P : Program) (t : TypeId) : Option (TypeId × Nat) := match P.underlying t with
  | some (.slice e) => (sizeT P e).map fun z => (e,z)
  | _ => none
theorem run_mapM_places {P : Program} {w : World} : ∀ (fs : List Field) (ps : List (Nat × Nat)),fs.mapM (fun f => (sizeT P f.type).map fun z => (f.offset,z)) = some ps ->
    ((fs.mapM (fun f : Field => (do pure (f.offset,<- sizeOf f.type) : Sem (Nat × Nat)))).run P w = .ok ps w)
  | [],ps,h => by simp at h; subst h; rfl
  | f :: fs,ps,h => by
    simp only [List.mapM_cons,Option.bind_eq_bind,Option.pure_def] at h
    cases hz : sizeT P f.type with
    | none => rw [hz] at h; cases h
    | some z =>
      rw [hz] at h
      simp only [Option.map_some,Option.bind_some] at h
      cases hr : fs.mapM (fun f => (sizeT P f.type).map fun z => (f.offset,z)) with
      | none => rw [hr] at h; cases h
      | some ps' =>
        rw [hr] at h; cases h
        have ih := run_mapM_places (P := P) (w := w) fs ps' hr
        simp only [List.mapM_cons,Sem.run_bind,run_sizeOf hz,Result.andThen_ok,Sem.run_pure,ih]
def setL (l : List Value) (off : Nat) : List Value -> List Value
  | [] => l
  | v :: vs => setL (l.set off v) (off + 1) vs
def fillL (place : Nat -> Option (Nat × Nat)) (cs : List Value) : List (Nat × Value) -> Option (List Value)
  | [] => some cs
  | (i,v) :: rest => match place i with
    | none => none
    | some (off,size) => if v.cells.size ≠ size || off + v.cells.size > cs.length then none else fillL place (setL cs off v.cells.toList) rest
theorem setL_eq : ∀ (vs : List Value) (l : List Value) (off k : Nat),(setL l (off + k) vs).toArray = (vs.zipIdx k).foldl (fun (cs : Array Value) (x : Value × Nat) => cs.setIfInBounds (off + x.2) x.1) l.toArray
  | [],l,off,k => rfl
  | v :: vs,l,off,k => by
    rw [setL,Nat.add_assoc,setL_eq vs _ off (k + 1)]
    simp
theorem fill_of : ∀ (vs : List (Nat × Value)) (place : Nat -> Option (Nat × Nat)) (cs r : List Value),fillL place cs vs = some r -> Instr.fill place cs.toArray vs = some r.toArray
  | [],place,cs,r,h => by cases h; rfl
  | (i,v) :: rest,place,cs,r,h => by
    unfold fillL at h
    unfold Instr.fill
    cases hp : place i with
    | none => rw [hp] at h; cases h
    | some q =>
      rw [hp] at h
      simp only [List.size_toArray] at h ⊢
      split at h
      · cases h
      · rename_i hn
        rw [if_neg hn]
        have e := setL_eq v.cells.toList cs q.1 0
        have e2 : (v.cells.zipIdx.foldl (fun (cs : Array Value) (x : Value × Nat) => cs.setIfInBounds (q.1 + x.2) x.1) cs.toArray) = (setL cs q.1 v.cells.toList).toArray := by
          rw [Nat.add_zero] at e
          rw [e,<- Array.foldl_toList,Array.toList_zipIdx]
        rw [show (fun (cs : Array Value) (x : Value × Nat) => match x with | (c,j) => cs.setIfInBounds (q.1 + j) c) = (fun (cs : Array Value) (x : Value × Nat) => cs.setIfInBounds (q.1 + x.2) x.1) from rfl,e2]
        exact fill_of rest place _ r h
def rep (l : List Value) : Nat -> List Value
  | 0 => []
  | n + 1 => l ++ rep l n
theorem length_rep (l : List Value) : ∀ n,(rep l n).length = n * l.length
  | 0 => by simp [rep]
  | n + 1 => by rw [rep,List.length_append,length_rep l n,Nat.succ_mul,Nat.add_comm]
theorem rep_get (l : List Value) (hl : 0 < l.length) : ∀ (n j : Nat),j < n * l.length -> (rep l n)[j]? = l[j % l.length]?
  | 0,j,h => by omega
  | n + 1,j,h => by
    rw [rep]
    by_cases hj : j < l.length
    · rw [List.getElem?_append_left hj,Nat.mod_eq_of_lt hj]
    · rw [List.getElem?_append_right (by omega),rep_get l hl n (j - l.length) (by rw [Nat.succ_mul] at h; omega),<- Nat.mod_eq_sub_mod (by omega)]
theorem zeros_rep (c : Array Value) (n : Nat) (hc : 0 < c.size) : (Array.range (n * c.size)).map (c[· % c.size]!) = (rep c.toList n).toArray := by
  have hl : 0 < c.toList.length := by simpa using hc
  apply Array.ext
  · simp [length_rep]
  · intro j h1 h2
    simp only [Array.size_map,Array.size_range] at h1
    have h3 := rep_get c.toList hl n j (by simpa using h1)
    have hm : j % c.size < c.size := Nat.mod_lt _ hc
    simp only [Array.getElem_map,Array.getElem_range,List.getElem_toArray]
    rw [List.getElem?_eq_getElem (by simpa using h2)] at h3
    simp only [Array.length_toList] at h3
    rw [Array.getElem?_toList,getElem?_pos c _ hm] at h3
    rw [getElem!_pos c _ hm]
    exact (Option.some.inj h3).symm
theorem Y.buildS {t : TypeId} {l : List (Nat × Operand)} {vs : List (Nat × Value)} {z : Value} {ps : List (Nat × Nat)} {r : List Value} (hz : zeroOf C.P t = some z) (hp : placesS C.P t = some ps) (hl : partsOf L l = some vs)
    (hr' : fillL (ps[·]?) z.cells.toList vs = some r) : Yl C V H L (.build t l.toArray) ty (.agg r.toArray) := (fun V2 a w hle i o ho hty => by
    have e1 := i.1.parts hl
    have hr : Instr.fill (ps.toArray[·]?) z.cells vs = some r.toArray := by have := fill_of vs _ _ r hr'; simpa using this
    unfold placesS at hp
    cases hu : C.P.underlying t with
    | none => rw [hu] at hp; cases hp
    | some u =>
      rw [hu] at hp
      cases u <;> simp only [reduceCtorEq] at hp
      rename_i fs
      have hm := run_mapM_places (P := C.P) (w := w) fs.toList ps hp
      have e2 : (Array.map (fun x : Nat × Operand => (x.1,a.eval x.2)) l.toArray).toList = vs := by simp [e1]
      have hm' : ((fs.mapM (fun f : Field => (do pure (f.offset,<- sizeOf f.type) : Sem (Nat × Nat)))).run C.P w) = .ok ps.toArray w := by
        rw [Array.mapM_eq_mapM_toList]
        simp only [Sem.run_map,hm,Result.andThen_ok]
      simp only [execOp,ho,Instr.build,Sem.run_bind,run_zeroValue hz,Result.andThen_ok,run_underlying hu,hm',e2,hr,Sem.run_pure])
theorem Y.buildA {t : TypeId} {l : List (Nat × Operand)} {vs : List (Nat × Value)} {z : Value} {e : Nat} {r : List Value} (hz : zeroOf C.P t = some z) (hp : elemA C.P t = some e) (hl : partsOf L l = some vs)
    (hr' : fillL (fun i => some (i * e,e)) z.cells.toList vs = some r) : Yl C V H L (.build t l.toArray) ty (.agg r.toArray) := (fun V2 a w hle i o ho hty => by
    have e1 := i.1.parts hl
    have hr : Instr.fill (fun i => some (i * e,e)) z.cells vs = some r.toArray := by have := fill_of vs _ _ r hr'; simpa using this
    unfold elemA at hp
    cases hu : C.P.underlying t with
    | none => rw [hu] at hp; cases hp
    | some u =>
      rw [hu] at hp
      cases u <;> simp only [reduceCtorEq] at hp
      have e2 : (Array.map (fun x : Nat × Operand => (x.1,a.eval x.2)) l.toArray).toList = vs := by simp [e1]
      simp only [execOp,ho,Instr.build,Sem.run_bind,run_zeroValue hz,Result.andThen_ok,run_underlying hu,run_sizeOf hp,e2,hr,Sem.run_pure])
theorem Run.buildSlice {t et z : TypeId} {n : Nat} {l : List (Nat × Operand)} {vs : List (Nat × Value)} {zv : Value} {r : List Value} (ht : elemS C.P t = some (et,z)) (hz : zeroOf C.P et = some zv) (hl : partsOf L l = some vs) (hn : n * z <= 16777216)
    (hzs : zv.cells.size = z) (hr' : fillL (fun i => some (i * z,z)) (rep zv.cells.toList n) vs = some r) (hn0 : n * z ≠ 0) (hd : d < C.n)
    (k : ∀ b,Run C ops V ([(b,.cells r.toArray et)] :: H) ((d,.slice (some ⟨b,0,none⟩) n n) :: L) os Q) :
    Run C ops V H L (⟨some d,.buildSlice t n l.toArray,ty,pos,aft,none⟩ :: os) Q :=
  Run.step (p := fun v V' H' => ∃ b,v = .slice (some ⟨b,0,none⟩) n n /\ V' = V /\ H' = [(b,.cells r.toArray et)] :: H) hd
    (fun a w i => by
      have e1 := i.1.parts hl
      have hr : Instr.fill (fun i => some (i * z,z)) ((Array.range (n * z)).map (zv.cells[· % zv.cells.size]!)) vs = some r.toArray := by
        have h1 := fill_of vs _ _ r hr'
        have h2 := zeros_rep zv.cells n (by rw [hzs]; exact Nat.pos_of_ne_zero fun h => hn0 (by rw [h]; rfl))
        rw [<- h1,<- h2,hzs]
      have e2 : (Array.map (fun x : Nat × Operand => (x.1,a.eval x.2)) l.toArray).toList = vs := by simp [e1]
      unfold elemS at ht
      cases hu : C.P.underlying t with
      | none => rw [hu] at ht; cases ht
      | some u =>
        rw [hu] at ht
        cases u <;> simp only [reduceCtorEq] at ht
        rename_i e'
        cases hs : sizeT C.P e' with
        | none => rw [hs] at ht; cases ht
        | some z' =>
          rw [hs] at ht
          simp only [Option.map_some,Option.some.injEq,Prod.mk.injEq] at ht
          obtain ⟨h1,h2⟩ := ht
          subst h1 h2
          refine ⟨_,_,V,_,?_,⟨_,rfl,rfl,rfl⟩,i.2.alloc _⟩
          simp only [execOp,Instr.buildSlice,Sem.run_bind,run_underlying hu,Result.andThen_ok,run_sizeOf hs,Sem.run_ite,if_neg hn0,run_zeroValue hz,Sem.run_pure]
          rw [if_neg (by show ¬ n * z' > 2 ^ 24; omega)]
          simp only [Sem.run_pure,e2,hr,newRow,Sem.run_bind]
          rfl)
    (fun v V' H' ⟨b,h1,h2,h3⟩ => by subst h1 h2 h3; exact k b)
def one : Value -> Bool
  | .agg _ | .tuple _ => false
  | _ => true
def putCells (c : Array Value) (off : Nat) : List Value -> Array Value
  | [] => c
  | v :: vs => putCells (c.setIfInBounds off v) (off + 1) vs
theorem size_putCells : ∀ (vs : List Value) (c : Array Value) (off : Nat),(putCells c off vs).size = c.size
  | [],c,off => rfl
  | v :: vs,c,off => by rw [putCells,size_putCells vs]; simp
theorem setCell_block {w : World} {b off : Nat} {c : Array Value} {e : TypeId} {fz : Nat × Nat} (h : w.heap[b]? = some (.cells c e fz)) (v : Value) :
    (w.setCell ⟨b,off,none⟩ v).heap[b]? = some (.cells (c.setIfInBounds off v) e fz) := by
  simp [World.setCell,Array.getElem?_modify,h]
theorem setCell_other {w : World} {b off b' : Nat} (h : b' ≠ b) (v : Value) : (w.setCell ⟨b,off,none⟩ v).heap[b']? = w.heap[b']? := by
  simp only [World.setCell,Array.getElem?_modify]
  rw [if_neg (fun e => h e.symm)]
theorem run_store_one {P : Program} {w : World} {b off : Nat} {c : Array Value} {e : TypeId} {v u : Value} (h : w.heap[b]? = some (.cells c e (0,0))) (hc : c[off]? = some u) (hv : one v = true) :
    (store ⟨b,off,none⟩ v).run P w = .ok () (w.setCell ⟨b,off,none⟩ v) := by
  have h1 := cell_of h hc
  have h2 : w.frozen? ⟨b,off,none⟩ = false := by simp [World.frozen?,h]
  cases v <;> simp only [one,Bool.false_eq_true] at hv <;> simp [store,Sem.run,h1,h2]
theorem run_storeCells {P : Program} {b off : Nat} {e : TypeId} : ∀ (vs : List Value) (i : Nat) (w : World) (c : Array Value),w.heap[b]? = some (.cells c e (0,0)) -> off + i + vs.length <= c.size -> vs.all one = true ->
    ∃ w',(storeCells ⟨b,off,none⟩ vs i).run P w = .ok () w' /\ w'.heap[b]? = some (.cells (putCells c (off + i) vs) e (0,0)) /\ (∀ b',b' ≠ b -> w'.heap[b']? = w.heap[b']?) /\
      w'.os = w.os /\ w'.tape = w.tape /\ w'.output = w.output /\ w'.heap.size = w.heap.size
  | [],i,w,c,h,_,_ => ⟨w,rfl,h,fun _ _ => rfl,rfl,rfl,rfl,rfl⟩
  | v :: vs,i,w,c,h,hl,hv => by
    simp only [List.all_cons,Bool.and_eq_true] at hv
    simp only [List.length_cons] at hl
    have hlt : off + i < c.size := by omega
    have h1 := run_store_one (P := P) (off := off + i) h (u := c[off + i]) (by simp) hv.1
    have h2 := setCell_block (off := off + i) h v
    obtain ⟨w',k1,k2,k3,k4,k5,k6,k7⟩ := run_storeCells (P := P) (off := off) vs (i + 1) (w.setCell ⟨b,off + i,none⟩ v) _ h2 (by simp; omega) hv.2
    refine ⟨w',?_,?_,fun b' hb' => (k3 b' hb').trans (setCell_other hb' v),k4,k5,k6,k7.trans (by simp [World.setCell])⟩
    · simp only [storeCells,Addr.add_plain,Sem.run_bind,h1,Result.andThen_ok]; exact k1
    · exact k2
theorem putCells_list : ∀ (vs : List Value) (l : List Value) (off : Nat),putCells l.toArray off vs = (setL l off vs).toArray
  | [],l,off => rfl
  | v :: vs,l,off => by rw [putCells,setL,<- putCells_list vs]; simp
theorem Run.store {x y : Operand} {b off z i : Nat} {c : List Value} {e t : TypeId} {v : Value} {s : Sg} (hx : ev L x = some (.pointer (some ⟨b,off,none⟩))) (hy : ev L y = some v) (ht : sizeT C.P t = some z) (hi : H[i]? = some [(b,.cells c.toArray e (0,0))])
    (hs : v.cells.size = z) (hl : off + z <= c.length) (h1 : v.cells.toList.all one = true) (hq : [(b,.cells (setL c off v.cells.toList).toArray e (0,0))] = s) (k : Run C ops V (H.set i s) L os Q) :
    Run C ops V H L (⟨none,.store t x y,ty,pos,aft,none⟩ :: os) Q :=
  Run.act (fun a w i' => by
    subst hq
    have hb := i'.2.own b _ (mem_of_at hi (List.mem_cons_self ..))
    obtain ⟨w',k1,k2,k3,k4,k5,k6,k7⟩ := run_storeCells (P := C.P) (off := off) v.cells.toList 0 w c.toArray hb (by simp [hs]; omega) h1
    rw [putCells_list] at k2
    refine ⟨w',?_,i'.2.turn hi rfl (fun b' hb' => k3 b' (by simpa using hb')) (fun b' o ho => ?_) k4 k5 k6 (by omega)⟩
    · simp only [execOp,i'.1.ev hx,i'.1.ev hy,Instr.storeAt,Instr.sureAddr,Sem.run_bind,Sem.run_pure,Result.andThen_ok,storeVar,run_sizeOf ht,Sem.run_ite]
      rw [if_neg (by simp [hs]),k1]
      rfl
    · rw [List.mem_singleton] at ho; cases ho; simpa using k2) k
end
end Go.K
namespace Go.K
def tagOf (P : Program) (t : TypeId) : Option (Nat × IntKind) := match P.underlying t with
  | some (.int k) => some (0,k)
  | some .bool => some (1,.i64)
  | some .string => some (2,.i64)
  | _ => none
def tagsFrom (P : Program) : Nat -> List Field -> Option (List (Nat × IntKind))
  | _,[] => some []
  | j,f :: fs => if f.name = "_" \/ f.offset ≠ j then none else match tagOf P f.type,tagsFrom P (j + 1) fs with
    | some g,some gs => some (g :: gs)
    | _,_ => none
def tags (P : Program) (t : TypeId) : Option (List (Nat × IntKind)) := match P.underlying t with
  | some (.struct fs) => if P.stoodInHeld t || P.eqGuardType P.depth t then none else tagsFrom P 0 fs.toList
  | _ => none
def fitV : Nat × IntKind -> Value -> Bool
  | (0,k),.int k' _ => k == k'
  | (1,_),.bool _ => true
  | (2,_),.string _ => true
  | _,_ => false
def fits : List (Nat × IntKind) -> List Value -> Bool
  | [],[] => true
  | g :: gs,v :: vs => fitV g v && fits gs vs
  | _,_ => false
def eqV : Value -> Value -> Bool
  | .int _ a,.int _ b => a == b
  | .bool a,.bool b => a == b
  | .string a,.string b => a.toList == b.toList
  | _,_ => false
def eqVs : List Value -> List Value -> Bool
  | x :: xs,y :: ys => eqV x y && eqVs xs ys
  | _,_ => true
theorem run_part {P : Program} {w : World} {t : TypeId} {cs : Array Value} {j : Nat} {v : Value} (h : scal P t = true) (hv : cs[j]? = some v) : (part t cs j).run P w = .ok v w := by
  simp only [part,Sem.run_bind,run_isAgg_scal h,Result.andThen_ok,Bool.false_eq_true,if_false,hv,Sem.run_pure]
theorem run_eqFields {P : Program} {w : World} (d : Nat) (xs ys : Array Value) : ∀ (fs : List Field) (j : Nat) (gs : List (Nat × IntKind)) (us vs : List Value),tagsFrom P j fs = some gs -> fits gs us = true -> fits gs vs = true ->
    (∀ i : Nat,us[i]? = (xs.toList.drop j)[i]?) -> (∀ i : Nat,vs[i]? = (ys.toList.drop j)[i]?) -> (Op.eqFields (d + 1) xs ys fs).run P w = .ok (eqVs us vs) w
  | [],j,gs,us,vs,hg,hu,hv,_,_ => by
    cases hg
    cases us with
    | nil => cases vs with
      | nil => rfl
      | cons v vs => cases hv
    | cons u us => cases hu
  | f :: fs,j,gs,us,vs,hg,hu,hv,hx,hy => by
    unfold tagsFrom at hg
    split at hg
    · cases hg
    · rename_i hn
      simp only [not_or,Decidable.not_not] at hn
      cases ht : tagOf P f.type with
      | none => rw [ht] at hg; cases hg
      | some g =>
        rw [ht] at hg
        cases hr : tagsFrom P (j + 1) fs with
        | none => rw [hr] at hg; cases hg
        | some gs' =>
          rw [hr] at hg
          cases hg
          cases us with
          | nil => cases hu
          | cons u us => cases vs with
            | nil => cases hv
            | cons v vs =>
              simp only [fits,Bool.and_eq_true] at hu hv
              have hxs : xs[j]? = some u := by have := hx 0; simp at this; exact this.symm
              have hys : ys[j]? = some v := by have := hy 0; simp at this; exact this.symm
              have ih := run_eqFields (P := P) (w := w) d xs ys fs (j + 1) gs' us vs hr hu.2 hv.2 (fun i => by have := hx (i + 1); simpa [Nat.add_assoc,Nat.add_comm 1 i] using this) (fun i => by have := hy (i + 1); simpa [Nat.add_assoc,Nat.add_comm 1 i] using this)
              have hs : scal P f.type = true := by
                unfold tagOf at ht
                unfold scal
                cases hd : P.underlying f.type with
                | none => rw [hd] at ht; cases ht
                | some q => rw [hd] at ht; cases q <;> first | rfl | cases ht
              have he : (Op.equalIn (d + 1) f.type u v).run P w = .ok (eqV u v) w := by
                unfold tagOf at ht
                cases hd : P.underlying f.type with
                | none => rw [hd] at ht; cases ht
                | some q =>
                  rw [hd] at ht
                  cases q <;> simp only [reduceCtorEq,Option.some.injEq] at ht <;> subst ht
                  · cases u <;> simp only [fitV,Bool.false_eq_true,false_and] at hu
                    cases v <;> simp only [fitV,Bool.false_eq_true,false_and] at hv
                    exact run_equalIn_bool' w d _ _ _ hd
                  · cases u <;> simp only [fitV,Bool.false_eq_true,false_and] at hu
                    cases v <;> simp only [fitV,Bool.false_eq_true,false_and] at hv
                    have h1 := beq_iff_eq.1 hu.1
                    have h2 := beq_iff_eq.1 hv.1
                    subst h1 h2
                    exact run_equalIn_int w d _ _ _ _ _ hd
                  · cases u <;> simp only [fitV,Bool.false_eq_true,false_and] at hu
                    cases v <;> simp only [fitV,Bool.false_eq_true,false_and] at hv
                    exact run_equalIn_string w d _ _ _ hd
              simp only [Op.eqFields,hn.1,ne_eq,not_false_eq_true,if_true,hn.2,Sem.run_bind,run_part hs hxs,run_part hs hys,Result.andThen_ok,he,Sem.run_ite,eqVs]
              cases eqV u v
              · simp
              · simpa using ih
section
variable {C : Cx} {V : Vw} {H : Hp} {L : Sl} {Q : Exit -> Act -> World -> Prop} {ops : Array Oper} {os : List Oper}
variable {ty : TypeId} {pos : String} {aft : Array Edge} {d : Nat}
theorem run_eqS {P : Program} {w : World} {t : TypeId} {gs : List (Nat × IntKind)} {xs ys : Array Value} (ht : tags P t = some gs) (hx : fits gs xs.toList = true) (hy : fits gs ys.toList = true) (op : BinOp) (x y : Operand) :
    (Op.equalIn 10000 t (.agg xs) (.agg ys)).run P w = .ok (eqVs xs.toList ys.toList) w /\ (eqGuard op t x y (.agg xs) (.agg ys)).run P w = .ok () w := by
  unfold tags at ht
  cases hu : P.underlying t with
  | none => rw [hu] at ht; cases ht
  | some u =>
    rw [hu] at ht
    cases u <;> simp only [reduceCtorEq] at ht
    rename_i fs
    split at ht
    · cases ht
    · rename_i hb
      simp only [Bool.or_eq_true,not_or,Bool.not_eq_true] at hb
      have hfs : P.fieldsOf t = fs := by simp [Program.fieldsOf,hu]
      exact ⟨by rw [run_equalIn_struct w 9999 t xs ys (by rw [hfs]; exact hu) hb.1,hfs]; exact run_eqFields 9998 xs ys fs.toList 0 gs _ _ ht hx hy (by simp) (by simp),run_eqGuard_agg w op t x y xs ys hb.2⟩
theorem Y.eqS {x y : Operand} {t t' : TypeId} {gs : List (Nat × IntKind)} {xs ys : Array Value} (hx : ev L x = some (.agg xs)) (hy : ev L y = some (.agg ys)) (ht : tags C.P t = some gs) (h1 : fits gs xs.toList = true) (h2 : fits gs ys.toList = true) :
    Yl C V H L (.binOp .eql t x y t') ty (.bool (eqVs xs.toList ys.toList)) := (fun V2 a w hle i o ho hty => by
  have h := run_eqS (w := w) ht h1 h2 .eql x y
  simp only [execOp,ho,i.1.ev hx,i.1.ev hy,Sem.run_bind,h.2,Result.andThen_ok,run_eql_struct,h.1,Sem.run_pure])
theorem run_eqGuard_string {P : Program} {w : World} (op : BinOp) (t : TypeId) (x y : Operand) (a b : ByteArray) : (eqGuard op t x y (.string a) (.string b)).run P w = .ok () w := by
  unfold eqGuard; cases op <;> rfl
theorem Y.eqStr {x y : Operand} {t t' : TypeId} {a b : ByteArray} (hx : ev L x = some (.string a)) (hy : ev L y = some (.string b)) : Yl C V H L (.binOp .eql t x y t') ty (.bool (a.toList == b.toList)) := (fun V2 ac w hle i o ho hty => by
  simp only [execOp,ho,i.1.ev hx,i.1.ev hy,Sem.run_bind,run_eqGuard_string,Result.andThen_ok,binOp,Op.stringOp,Sem.run_pure])
theorem Y.neStr {x y : Operand} {t t' : TypeId} {a b : ByteArray} (hx : ev L x = some (.string a)) (hy : ev L y = some (.string b)) : Yl C V H L (.binOp .neq t x y t') ty (.bool (!(a.toList == b.toList))) := (fun V2 ac w hle i o ho hty => by
  simp only [execOp,ho,i.1.ev hx,i.1.ev hy,Sem.run_bind,run_eqGuard_string,Result.andThen_ok,binOp,Op.stringOp,Sem.run_pure])
def strT (P : Program) (t : TypeId) : Bool := match P.underlying t with
  | some .string => true
  | _ => false
theorem under_str {P : Program} {t : TypeId} (h : strT P t = true) : P.underlying t = some .string := by
  unfold strT at h
  cases hd : P.underlying t with
  | none => rw [hd] at h; cases h
  | some q => rw [hd] at h; cases q <;> first | rfl | cases h
theorem under_elemS {P : Program} {t e : TypeId} {z : Nat} (h : elemS P t = some (e,z)) : P.underlying t = some (.slice e) /\ sizeT P e = some z := by
  unfold elemS at h
  cases hd : P.underlying t with
  | none => rw [hd] at h; cases h
  | some q =>
    rw [hd] at h
    cases q <;> simp only [reduceCtorEq] at h
    rename_i e'
    cases hs : sizeT P e' with
    | none => rw [hs] at h; cases h
    | some z' => rw [hs] at h; simp only [Option.map_some,Option.some.injEq,Prod.mk.injEq] at h; obtain ⟨rfl,rfl⟩ := h; exact ⟨rfl,hs⟩
theorem Y.lenStr {x : Operand} {t : TypeId} {s : ByteArray} (hx : ev L x = some (.string s)) (ht : strT C.P t = true) : Yl C V H L (.call { callee := .builtin .len,args := #[x],argTypes := #[t] }) ty (.int .i64 s.size) := (fun V2 a w hle i o ho hty => by
  simp [execOp,ho,resolve,invoke,builtin,Builtin.len_,i.1.ev hx,run_underlying (under_str ht),goInt])
theorem Y.lenSl {x : Operand} {t e : TypeId} {z : Nat} {p : Option Addr} {n c : Nat} (hx : ev L x = some (.slice p n c)) (ht : elemS C.P t = some (e,z)) : Yl C V H L (.call { callee := .builtin .len,args := #[x],argTypes := #[t] }) ty (.int .i64 n) := (fun V2 a w hle i o ho hty => by
  simp [execOp,ho,resolve,invoke,builtin,Builtin.len_,i.1.ev hx,run_underlying (under_elemS ht).1,goInt])
theorem Y.idxStr {x y : Operand} {t : TypeId} {s : ByteArray} {k : IntKind} {n : Int} (hx : ev L x = some (.string s)) (hy : ev L y = some (.int k n)) (ht : strT C.P t = true) (h0 : 0 <= n) (h1 : n.toNat < s.size) :
    Yl C V H L (.index t x y) ty (.int .u8 (s.toList.getD n.toNat 0).toNat) := (fun V2 a w hle i o ho hty => by
  have hg : s[n.toNat]? = some (s.toList.getD n.toNat 0) := by
    have : s.toList = s.data.toList := by rw [ByteArray.toList_eq]
    rw [this]
    have h2 : n.toNat < s.data.size := h1
    simp only [getElem?_pos s n.toNat h1,List.getD_eq_getElem?_getD,Array.getElem?_toList]
    simp only [getElem?_pos s.data n.toNat h2]
    rfl
  simp [execOp,ho,Instr.index,i.1.ev hx,i.1.ev hy,asIntOf,run_underlying (under_str ht),h0,hg])
theorem Y.min2 {x y : Operand} {t : TypeId} {ts : Array TypeId} {k : IntKind} {m n : Int} (hx : ev L x = some (.int k m)) (hy : ev L y = some (.int k n)) : Yl C V H L (.call { callee := .builtin .min,args := #[x,y],argTypes := ts }) t (.int k (min m n)) := (fun V2 a w hle i o ho hty => by
  have e : (if n < m then n else m) = min m n := by omega
  simp [execOp,ho,resolve,invoke,builtin,Builtin.min_,Builtin.min2,i.1.ev hx,i.1.ev hy,e])
theorem Y.max2 {x y : Operand} {t : TypeId} {ts : Array TypeId} {k : IntKind} {m n : Int} (hx : ev L x = some (.int k m)) (hy : ev L y = some (.int k n)) : Yl C V H L (.call { callee := .builtin .max,args := #[x,y],argTypes := ts }) t (.int k (max m n)) := (fun V2 a w hle i o ho hty => by
  have e : (if n > m then n else m) = max m n := by omega
  simp [execOp,ho,resolve,invoke,builtin,Builtin.max_,Builtin.max2,i.1.ev hx,i.1.ev hy,e])
def Rd (V : Vw) (H : Hp) (k : Nat) (v : Value) (n : Nat) (xs : List Value) : Prop :=
  xs.length = n * k /\ ∃ p c,v = .slice p n c /\ n <= c /\ (n = 0 \/ ∃ b off cs e fz,p = some ⟨b,off,none⟩ /\ Kn V H b (.cells cs e fz) /\ ∀ j,j < n * k -> cs[off + j]? = xs[j]?)
theorem Rd.le {V V' : Vw} {H : Hp} {k : Nat} {v : Value} {n : Nat} {xs : List Value} (h : Rd V H k v n xs) (hl : V.le V') : Rd V' H k v n xs := by
  obtain ⟨h1,p,c,h2,h3,h4⟩ := h
  refine ⟨h1,p,c,h2,h3,h4.imp id ?_⟩
  rintro ⟨b,off,cs,e,fz,a1,a2,a3⟩
  exact ⟨b,off,cs,e,fz,a1,a2.le hl,a3⟩
theorem Rd.slice {V : Vw} {H : Hp} {k : Nat} {p : Option Addr} {n c : Nat} {xs : List Value} (h : Rd V H k (.slice p n c) n xs) (l m : Nat) (hl : l <= m) (hm : m <= n) :
    Rd V H k (.slice (if c = l then p else p.map (·.add (l * k))) (m - l) (c - l)) (m - l) ((xs.drop (l * k)).take ((m - l) * k)) := by
  obtain ⟨h1,p',c',h2,h3,h4⟩ := h
  cases h2
  have hlen : l * k + (m - l) * k <= n * k := by rw [<- Nat.add_mul]; exact Nat.mul_le_mul_right _ (by omega)
  refine ⟨by rw [List.length_take,List.length_drop,h1]; omega,_,_,rfl,by omega,?_⟩
  rcases h4 with h4 | ⟨b,off,cs,e,fz,a1,a2,a3⟩
  · exact .inl (by omega)
  · by_cases hz : m - l = 0
    · exact .inl hz
    · refine .inr ⟨b,off + l * k,cs,e,fz,?_,a2,fun j hj => ?_⟩
      · rw [if_neg (by omega),a1]; simp [Addr.add_plain]
      · rw [List.getElem?_take,if_pos hj,List.getElem?_drop,Nat.add_assoc]
        exact a3 _ (by omega)
theorem Y.idxAddr {x y : Operand} {t e : TypeId} {z : Nat} {b off n c : Nat} {k : IntKind} {j : Int} (hx : ev L x = some (.slice (some ⟨b,off,none⟩) n c)) (hy : ev L y = some (.int k j)) (ht : elemS C.P t = some (e,z)) (h0 : 0 <= j) (h1 : j.toNat < n) :
    Yl C V H L (.indexAddr t x y) ty (.pointer (some ⟨b,off + j.toNat * z,none⟩)) := (fun V2 a w hle i o ho hty => by
  have hu := (under_elemS ht).1
  have hs := run_sizeOf (w := w) (under_elemS ht).2
  have hj : 0 <= j /\ j < (n : Int) := ⟨h0,by omega⟩
  simp [execOp,ho,i.1.ev hx,i.1.ev hy,Instr.indexAt,asIntOf,run_underlying hu,hs,hj,Addr.add_plain])
def byteV (b : UInt8) : Value := .int .u8 b.toNat
theorem Y.bytesStr {x : Operand} {s t e : TypeId} {v : Value} {bs : List UInt8} (hx : ev L x = some v) (hs : elemS C.P s = some (e,1)) (he : tagOf C.P e = some (0,.u8)) (ht : strT C.P t = true) (hr : Rd V H 1 v bs.length (bs.map byteV)) :
    Yl C V H L (.convert s t x) ty (.string ⟨bs.toArray⟩) := (fun V2 a w hle i o ho hty => by
  have hu := (under_elemS hs).1
  have hut := under_str ht
  have hue : C.P.underlying e = some (.int .u8) := by
    unfold tagOf at he
    cases hd : C.P.underlying e with
    | none => rw [hd] at he; cases he
    | some q => rw [hd] at he; cases q <;> simp at he <;> rw [he]
  obtain ⟨h1,p,c,h2,h3,h4⟩ := hr
  subst h2
  rcases h4 with h4 | ⟨b,off,cs,e',fz,a1,a2,a3⟩
  · have hnil : bs = [] := List.eq_nil_of_length_eq_zero h4
    subst hnil
    cases p with
    | none => simp [execOp,ho,i.1.ev hx,run_convert_bytes_string w s t e none _ _ hu hue hut,Conv.bytesToString]; rfl
    | some p =>
      have := run_convert_bytes_back (P := C.P) w s t e p c [] hu hue hut (fun j hj => by simp at hj)
      simp only [execOp,ho,i.1.ev hx,Sem.run_bind]
      rw [this]; rfl
  · subst a1
    have hk := (a2.le hle).st i.2
    have := run_convert_bytes_back (P := C.P) w s t e ⟨b,off,none⟩ c bs hu hue hut (fun j hj => by
      rw [Addr.add_plain]
      have h5 := a3 j (by omega)
      rw [List.getElem?_map,List.getElem?_eq_getElem hj] at h5
      exact cell_of hk h5)
    simp only [execOp,ho,i.1.ev hx,Sem.run_bind,this]; rfl)
def Ow (e : TypeId) (k : Nat) (v : Value) (n : Nat) (xs : List Value) (s : Sg) : Prop :=
  xs.length = n * k /\ ((v = .slice none 0 0 /\ n = 0 /\ s = []) \/ ∃ b cap cur,v = .slice (some ⟨b,0,none⟩) n cap /\ s = [(b,.cells cur e (0,0))] /\ n <= cap /\ cap <= maxLen /\ cur.size = cap * k /\ ∀ j,j < n * k -> cur[j]? = xs[j]?)
theorem Ow.nil (e : TypeId) (k : Nat) : Ow e k (.slice none 0 0) 0 [] [] := ⟨by simp,.inl ⟨rfl,rfl,rfl⟩⟩
theorem Ow.lit {e : TypeId} {k b n : Nat} {cur : Array Value} (h : cur.size = n * k) (hn : n <= maxLen) : Ow e k (.slice (some ⟨b,0,none⟩) n n) n cur.toList [(b,.cells cur e (0,0))] :=
  ⟨by simpa using h,.inr ⟨b,n,cur,rfl,rfl,Nat.le_refl _,hn,h,fun j _ => by simp⟩⟩
theorem Ow.rd {e : TypeId} {k : Nat} {v : Value} {n : Nat} {xs : List Value} {s : Sg} (h : Ow e k v n xs s) (i : Nat) (hi : H[i]? = some s) : Rd V H k v n xs := by
  obtain ⟨h1,h2⟩ := h
  refine ⟨h1,?_⟩
  rcases h2 with ⟨rfl,rfl,rfl⟩ | ⟨b,cap,cur,rfl,rfl,h3,h4,h5,h6⟩
  · exact ⟨none,0,rfl,Nat.le_refl _,.inl rfl⟩
  · exact ⟨_,cap,rfl,h3,.inr ⟨b,0,cur,e,(0,0),rfl,Kn.at i hi,fun j hj => by rw [Nat.zero_add]; exact h6 j hj⟩⟩
theorem Ow.leak {e : TypeId} {k : Nat} {v : Value} {n : Nat} {xs : List Value} {s : Sg} (h : Ow e k v n xs s) (V : Vw) (H : Hp) : Rd (fun c => match s.lookup c with | some o => some o | none => V c) H k v n xs := by
  obtain ⟨h1,h2⟩ := h
  refine ⟨h1,?_⟩
  rcases h2 with ⟨rfl,rfl,rfl⟩ | ⟨b,cap,cur,rfl,rfl,h3,h4,h5,h6⟩
  · exact ⟨none,0,rfl,Nat.le_refl _,.inl rfl⟩
  · exact ⟨_,cap,rfl,h3,.inr ⟨b,0,cur,e,(0,0),rfl,.inl (by simp [List.lookup]),fun j hj => by rw [Nat.zero_add]; exact h6 j hj⟩⟩
def Src (P : Program) (V : Vw) (H : Hp) (t : TypeId) (k : Nat) (y : Value) (m : Nat) (ys : List Value) : Prop :=
  ys.length = m * k /\ ((∃ e,P.underlying t = some (.slice e)) /\ Rd V H k y m ys \/ P.underlying t = some .string /\ k = 1 /\ ∃ s : ByteArray,y = .string s /\ m = s.size /\ ys = s.toList.map byteV)
theorem Src.of_rd {P : Program} {t e : TypeId} {z k : Nat} {y : Value} {m : Nat} {ys : List Value} (ht : elemS P t = some (e,z)) (h : Rd V H k y m ys) : Src P V H t k y m ys := ⟨h.1,.inl ⟨⟨e,(under_elemS ht).1⟩,h⟩⟩
theorem Src.run {P : Program} {B : World} {S : List Nat} {U : Vw} {t : TypeId} {k : Nat} {y : Value} {m : Nat} {ys : List Value} {w : World} (h : Src P V H t k y m ys) (st : St B S U V H w) :
    (Builtin.lenOf y).run P w = .ok m w /\ (Builtin.firstCells k m y).run P w = .ok ys.toArray w /\ (∃ u,P.underlying t = some u /\ ((∃ q,u = .slice q) \/ u = .string)) := by
  obtain ⟨h1,h2⟩ := h
  rcases h2 with ⟨⟨e,he⟩,hr⟩ | ⟨ht,hk,s,rfl,rfl,rfl⟩
  · obtain ⟨_,p,c,rfl,h3,h4⟩ := hr
    refine ⟨by simp [Builtin.lenOf],?_,_,he,.inl ⟨_,rfl⟩⟩
    rcases h4 with h4 | ⟨b,off,cs,e',fz,rfl,a2,a3⟩
    · subst h4
      have : ys = [] := List.eq_nil_of_length_eq_zero (by simpa using h1)
      subst this
      cases p <;> simp [Builtin.firstCells,loadCells,loadCellsFrom]
    · exact run_firstCells_some w k m _ _ _ ys h1 (fun j v hj => by
        rw [Addr.add_plain]
        have hlt : j < m * k := by rw [<- h1]; exact (List.getElem?_eq_some_iff.1 hj).1
        exact cell_of (a2.st st) ((a3 j hlt).trans hj))
  · subst hk
    refine ⟨by simp [Builtin.lenOf],?_,_,ht,.inr rfl⟩
    simp only [Builtin.firstCells,Sem.run_pure]
    congr 1
    apply Array.ext'
    simp [ByteArray.toList_eq,byteV]
end
end Go.K
namespace Go.K
def zeroInfo (P : Program) (t : TypeId) : Option (Nat × Nat × Value) := match P.info? t with
  | some i => match i.zero with
    | some z => if z.cells.size = i.size then some (i.size,i.bytes,z) else none
    | none => none
  | none => none
theorem zeroInfo_spec {P : Program} {t : TypeId} {k bytes : Nat} {z : Value} (h : zeroInfo P t = some (k,bytes,z)) : ∃ i,P.info? t = some i /\ i.zero = some z /\ i.size = k /\ i.bytes = bytes /\ z.cells.size = k := by
  unfold zeroInfo at h
  cases hj : P.info? t with
  | none => rw [hj] at h; cases h
  | some inf =>
    rw [hj] at h
    simp only at h
    cases hz : inf.zero with
    | none => rw [hz] at h; cases h
    | some zz =>
      rw [hz] at h
      simp only at h
      split at h
      · rename_i hs; cases h; exact ⟨inf,rfl,hz,rfl,rfl,hs⟩
      · cases h
section
variable {P : Program} {w : World}
theorem run_append_more (t u ty e : TypeId) (i : TypeInfo) (z : Value) {ut : TypeDesc} (ht : P.underlying t = some (.slice e)) (hu : P.underlying u = some ut) (hut : (∃ q,ut = .slice q) \/ ut = .string) (hi : P.info? e = some i) (hz : i.zero = some z)
    (p : Option Addr) (n cap m : Nat) (yv : Value) (X Y : Array Value) (h1 : ∀ w',(Builtin.lenOf yv).run P w' = .ok m w') (h2 : (Builtin.firstCells i.size n (.slice p n cap)).run P w.drew = .ok X w.drew)
    (h3 : (Builtin.firstCells i.size m yv).run P w.drew = .ok Y w.drew) (hg : cap < n + m) (h63 : n + m <= 9223372036854775807) (hfit : Builtin.nextslicecap (n + m) cap * i.bytes <= 281474976710656) :
    (Builtin.append_ #[t,u] ty #[.slice p n cap,yv]).run P w = .ok (.slice (some ⟨w.heap.size,0,none⟩) (n + m) (grownCap w (n + m) cap e))
      (w.drew.alloc (.cells (X ++ Y ++ Builtin.zeroCells z.cells (grownCap w (n + m) cap e - (n + m))) e)) := by
  have hn : ¬ (n + m <= cap) := by omega
  have h63' : ¬ (9223372036854775807 < ((n : Int) + (m : Int))) := by omega
  have h48' : ¬ (281474976710656 < Builtin.nextslicecap (n + m) cap * i.bytes) := by omega
  rcases hut with ⟨q,rfl⟩ | rfl <;> simp [Builtin.append_,run_underlying ht,run_underlying hu,sizeOf,typeInfo,zeroValue,hi,hz,h1,hn,h63',h48',Question.forced,h2,h3,newRow,grownCap]
theorem run_append_room' (t u ty e : TypeId) (i : TypeInfo) {ut : TypeDesc} (ht : P.underlying t = some (.slice e)) (hu : P.underlying u = some ut) (hut : (∃ q,ut = .slice q) \/ ut = .string) (hi : P.info? e = some i)
    (b n cap m : Nat) (yv : Value) (ys : List Value) (cur : Array Value) (h1 : ∀ w',(Builtin.lenOf yv).run P w' = .ok m w') (h3 : (Builtin.firstCells i.size m yv).run P w = .ok ys.toArray w)
    (hb : w.heap[b]? = some (.cells cur e (0,0))) (hl : n * i.size + ys.length <= cur.size) (h1s : ys.all one = true) (hg : n + m <= cap) :
    ∃ w',(Builtin.append_ #[t,u] ty #[.slice (some ⟨b,0,none⟩) n cap,yv]).run P w = .ok (.slice (some ⟨b,0,none⟩) (n + m) cap) w' /\ w'.heap[b]? = some (.cells (putCells cur (n * i.size) ys) e (0,0)) /\ (∀ b',b' ≠ b -> w'.heap[b']? = w.heap[b']?) /\
      w'.os = w.os /\ w'.tape = w.tape /\ w'.output = w.output /\ w'.heap.size = w.heap.size := by
  obtain ⟨w',k1,k2,k3⟩ := run_storeCells (P := P) (off := n * i.size) ys 0 w cur hb (by omega) h1s
  refine ⟨w',?_,by simpa using k2,k3⟩
  rcases hut with ⟨q,rfl⟩ | rfl <;> simp [Builtin.append_,run_underlying ht,run_underlying hu,sizeOf,typeInfo,hi,h1,hg,h3,Addr.add_plain,k1]
end
theorem putCells_get : ∀ (vs : List Value) (c : Array Value) (off j : Nat),off + vs.length <= c.size -> (putCells c off vs)[j]? = if j < off then c[j]? else if j < off + vs.length then vs[j - off]? else c[j]?
  | [],c,off,j,h => by simp [putCells]; omega
  | v :: vs,c,off,j,h => by
    simp only [List.length_cons] at h
    rw [putCells,putCells_get vs _ (off + 1) j (by simp; omega)]
    simp only [List.length_cons]
    by_cases h1 : j < off
    · rw [if_pos (by omega),if_pos h1,Array.getElem?_setIfInBounds,if_neg (by omega)]
    · rw [if_neg h1]
      by_cases h2 : j = off
      · subst h2
        rw [if_pos (by omega),if_pos (by omega),Array.getElem?_setIfInBounds,if_pos rfl]
        simp; omega
      · rw [if_neg (by omega)]
        have e : j - off = (j - (off + 1)) + 1 := by omega
        rw [e,List.getElem?_cons_succ]
        by_cases h3 : j < off + 1 + vs.length
        · rw [if_pos h3,if_pos (by omega)]
        · rw [if_neg h3,if_neg (by omega),Array.getElem?_setIfInBounds,if_neg (by omega)]
theorem set_nil_perm : ∀ {H : Hp} {j : Nat} {s : Sg},H[j]? = some s -> (s :: H.set j []).flatten.Perm H.flatten
  | q :: H,0,s,h => by simp only [List.getElem?_cons_zero,Option.some.injEq] at h; subst h; simp
  | q :: H,j + 1,s,h => by
    simp only [List.getElem?_cons_succ] at h
    have := set_nil_perm h
    simp only [List.set_cons_succ,List.flatten_cons] at this ⊢
    exact (List.perm_append_comm_assoc _ _ _).trans (this.append_left q)
theorem set_perm : ∀ {H : Hp} {j : Nat} {s : Sg} (s' : Sg),H[j]? = some s -> (H.set j s').flatten.Perm (s' :: H.set j []).flatten
  | q :: H,0,s,s',h => by simp
  | q :: H,j + 1,s,s',h => by
    simp only [List.getElem?_cons_succ] at h
    have := set_perm s' h
    simp only [List.set_cons_succ,List.flatten_cons] at this ⊢
    exact (this.append_left q).trans (List.perm_append_comm_assoc _ _ _)
theorem St.swap {B : World} {S : List Nat} {U V : Vw} {H : Hp} {w : World} {j : Nat} {s : Sg} (h : St B S U V H w) (hj : H[j]? = some s) (n : Nat) (o : Obj) :
    St B S U V (H.set j [(w.heap.size,o)]) { w with drawn := n,heap := w.heap.push o } :=
  ((((h.recut (set_nil_perm hj)).drop (H' := [s])).drawnTo n).alloc o).recut (set_perm _ hj)
section
variable {C : Cx} {V : Vw} {H : Hp} {L : Sl} {Q : Exit -> Act -> World -> Prop} {ops : Array Oper} {os : List Oper}
variable {ty : TypeId} {pos : String} {aft : Array Edge} {d : Nat}
theorem Run.append {x y : Operand} {t u e : TypeId} {k bytes n m j : Nat} {zv v yv : Value} {xs ys : List Value} {s : Sg} (hx : ev L x = some v) (hy : ev L y = some yv) (ht : elemS C.P t = some (e,k)) (hz : zeroInfo C.P e = some (k,bytes,zv)) (hk : 0 < k)
    (hi : H[j]? = some s) (ho : Ow e k v n xs s) (hs : Src C.P V H u k yv m ys) (hb : (n + m) * bytes <= 140737488355328) (hm : n + m <= 9223372036854775807) (h1 : ys.all one = true) (hd : d < C.n)
    (kk : ∀ v' s',Ow e k v' (n + m) (xs ++ ys) s' -> (∃ p c,v' = .slice p (n + m) c) -> Run C ops V (H.set j s') ((d,v') :: L) os Q) :
    Run C ops V H L (⟨some d,.call { callee := .builtin .append,args := #[x,y],argTypes := #[t,u] },ty,pos,aft,none⟩ :: os) Q :=
  Run.step (p := fun v' V' H' => ∃ s',Ow e k v' (n + m) (xs ++ ys) s' /\ (∃ p c,v' = .slice p (n + m) c) /\ V' = V /\ H' = H.set j s') hd (fun (a : Act) (w : World) (i : Is C V H L a w) => by
    have hu := (under_elemS ht).1
    obtain ⟨c1,c2,ut,c3,c4⟩ := hs.run i.2
    have c1' : ∀ w',(Builtin.lenOf yv).run C.P w' = .ok m w' := fun w' => by
      rcases hs.2 with ⟨_,_,p,c,q,_⟩ | ⟨_,_,str,q,q',_⟩
      · subst q; simp [Builtin.lenOf]
      · subst q; simp [Builtin.lenOf,q']
    have hys := hs.1
    obtain ⟨inf,hj,hzz,rfl,rfl,hzs⟩ := zeroInfo_spec hz
    have hoo := ho
    obtain ⟨l1,l2⟩ := ho
    have hlen : (xs ++ ys).length = (n + m) * inf.size := by rw [List.length_append,l1,hys,Nat.add_mul]
    have hrun : ∀ (p : Option Addr) (cap : Nat),v = .slice p n cap -> (execOp a.eval ⟨some d,.call { callee := .builtin .append,args := #[x,y],argTypes := #[t,u] },ty,pos,aft,none⟩).run C.P w =
        ((Builtin.append_ #[t,u] ty #[.slice p n cap,yv]).run C.P w).andThen fun r w' => .ok (.value r) w' := fun p cap hv => by
      have e1 := i.1.ev hx
      have e2 := i.1.ev hy
      simp [execOp,resolve,invoke,builtin,e1,e2,hv]
    have std : St C.B C.S C.U V H w.drew := i.2.drawnTo _
    have c2' : (Builtin.firstCells inf.size m yv).run C.P w.drew = .ok ys.toArray w.drew := (hs.run std).2.1
    have grown : ∀ (p : Option Addr) (cap : Nat),cap < n + m -> v = .slice p n cap -> (Builtin.firstCells inf.size n (.slice p n cap)).run C.P w.drew = .ok xs.toArray w.drew ->
        ∃ r w' V' H',(execOp a.eval ⟨some d,.call { callee := .builtin .append,args := #[x,y],argTypes := #[t,u] },ty,pos,aft,none⟩).run C.P w = .ok (.value r) w' /\
          (∃ s',Ow e inf.size r (n + m) (xs ++ ys) s' /\ (∃ p c,r = .slice p (n + m) c) /\ V' = V /\ H' = H.set j s') /\ St C.B C.S C.U V' H' w' := by
      intro p cap hcap hv hold
      have hr := run_append_more (P := C.P) (w := w) t u ty e inf zv hu c3 c4 hj hzz p n cap m yv xs.toArray ys.toArray c1' hold c2' hcap hm (growslice_fits hcap hb)
      refine ⟨_,_,V,_,by rw [hrun p cap hv,hr]; rfl,⟨_,⟨hlen,.inr ⟨w.heap.size,_,_,rfl,rfl,grownCap_ge _ _ _ _,grownCap_le_maxLen _ _ _ _ (by unfold maxLen; omega),?_,?_⟩⟩,⟨_,_,rfl⟩,rfl,rfl⟩,i.2.swap hi _ _⟩
      · simp only [Array.size_append,List.size_toArray,size_zeroCells,hzs,l1,hys,<- Nat.add_mul]
        have := grownCap_ge w (n + m) cap e
        congr 1; omega
      · intro q hq
        rw [Array.getElem?_append_left (by simp only [Array.size_append,List.size_toArray,l1,hys,<- Nat.add_mul]; exact hq)]
        simp
    rcases l2 with ⟨rfl,rfl,rfl⟩ | ⟨b,cap,cur,rfl,rfl,q1,q2,q3,q4⟩
    · have hx0 : xs = [] := List.eq_nil_of_length_eq_zero (by simpa using l1)
      subst hx0
      by_cases hm0 : m = 0
      · subst hm0
        have hy0 : ys = [] := List.eq_nil_of_length_eq_zero (by simpa using hys)
        subst hy0
        have hset : H.set j [] = H := by
          clear kk hx hy ht hz hk hs hb hm h1 hd i hu c1 c2 c3 c4 c1' hys hj hzz hzs hoo hlen hrun std c2' grown l1
          induction H generalizing j with
          | nil => rfl
          | cons q H ih =>
            cases j with
            | zero => simp only [List.getElem?_cons_zero,Option.some.injEq] at hi; subst hi; rfl
            | succ j => simp only [List.getElem?_cons_succ] at hi; simp [ih hi]
        refine ⟨.slice none 0 0,w,V,_,?_,⟨[],⟨by simp,.inl ⟨rfl,rfl,rfl⟩⟩,⟨_,_,rfl⟩,rfl,rfl⟩,by rw [hset]; exact i.2⟩
        rw [hrun none 0 rfl]
        rcases c4 with ⟨q,rfl⟩ | rfl <;> simp [Builtin.append_,run_underlying hu,run_underlying c3,sizeOf,typeInfo,hj,c1',c2]
      · exact grown none 0 (by omega) rfl (run_firstCells_none w.drew inf.size 0 0 0)
    · have hcell := i.2.own b _ (mem_of_at hi (List.mem_cons_self ..))
      by_cases hroom : n + m <= cap
      · have hfit : n * inf.size + ys.length <= cur.size := by rw [hys,q3,<- Nat.add_mul]; exact Nat.mul_le_mul_right _ hroom
        obtain ⟨w',k1,k2,k3,k4,k5,k6,k7⟩ := run_append_room' (P := C.P) (w := w) t u ty e inf hu c3 c4 hj b n cap m yv ys cur c1' c2 hcell hfit h1 hroom
        refine ⟨_,w',V,_,by rw [hrun _ cap rfl,k1]; rfl,⟨[(b,.cells (putCells cur (n * inf.size) ys) e (0,0))],⟨hlen,.inr ⟨b,cap,_,rfl,rfl,hroom,q2,by rw [size_putCells]; exact q3,fun q hq => ?_⟩⟩,⟨_,_,rfl⟩,rfl,rfl⟩,
          i.2.turn hi rfl (fun b' hb' => k3 b' (by simpa using hb')) (fun b' o' ho' => by rw [List.mem_singleton] at ho'; cases ho'; exact k2) k4 k5 k6 (by omega)⟩
        rw [putCells_get _ _ _ _ hfit,hys]
        rw [Nat.add_mul] at hq
        by_cases hlt : q < n * inf.size
        · rw [if_pos hlt,List.getElem?_append_left (by omega)]; exact q4 q hlt
        · rw [if_neg hlt,if_pos hq,List.getElem?_append_right (by omega),l1]
      · refine grown _ cap (by omega) rfl ?_
        exact run_firstCells_some w.drew inf.size n _ _ _ xs l1 (fun q v hq => by
          rw [Addr.add_plain,Nat.zero_add]
          have hlt : q < n * inf.size := by rw [<- l1]; exact (List.getElem?_eq_some_iff.1 hq).1
          exact cell_of (w := w.drew) (std.own b _ (mem_of_at hi (List.mem_cons_self ..))) ((q4 q hlt).trans hq)))
    (fun v' V' H' ⟨s',q1,q2,q3,q4⟩ => by subst q3 q4; exact kk v' s' q1 q2)
theorem Run.makeSlice {x y : Operand} {t e : TypeId} {k bytes n : Nat} {zv : Value} (hx : ev L x = some (.int .i64 (n : Int))) (hy : ev L y = some (.int .i64 (n : Int))) (ht : elemS C.P t = some (e,k)) (hz : zeroInfo C.P e = some (k,bytes,zv)) (hk : 0 < k)
    (hb : bytes * n <= 281474976710656) (hn : n <= 9223372036854775807) (hd : d < C.n)
    (kk : ∀ b,Run C ops V ([(b,.cells (rep zv.cells.toList n).toArray e)] :: H) ((d,.slice (some ⟨b,0,none⟩) n n) :: L) os Q) :
    Run C ops V H L (⟨some d,.makeSlice t x y,ty,pos,aft,none⟩ :: os) Q :=
  Run.step (p := fun v V' H' => ∃ b,v = .slice (some ⟨b,0,none⟩) n n /\ V' = V /\ H' = [(b,.cells (rep zv.cells.toList n).toArray e)] :: H) hd
    (fun (a : Act) (w : World) (i : Is C V H L a w) => by
      have hu := (under_elemS ht).1
      obtain ⟨inf,hj,hzz,h1,h2,hzs⟩ := zeroInfo_spec hz
      subst h1 h2
      have hw : IntKind.i64.wrap (n : Int) = n := by
        have e1 : (2 ^ IntKind.i64.bits : Int) = 18446744073709551616 := rfl
        have e2 : (2 ^ (IntKind.i64.bits - 1) : Int) = 9223372036854775808 := rfl
        simp only [IntKind.wrap,e1,e2,show IntKind.i64.signed = true from rfl,Bool.true_and,decide_eq_true_eq]
        split <;> omega
      have hbig : ¬ ((281474976710656 : Int) < (inf.bytes : Int) * (n : Int)) := by
        have : ((inf.bytes * n : Nat) : Int) <= 281474976710656 := by omega
        rw [Int.natCast_mul] at this; omega
      have hneg : ¬ ((n : Int) < 0) := by omega
      have hz2 := zeros_rep zv.cells n (by omega)
      rw [hzs] at hz2
      have hroom : (askRoom (n * inf.bytes)).run C.P w = .ok () w := by unfold askRoom; split <;> rfl
      have hzv : (zeroValue e).run C.P w = .ok zv w := by simp [zeroValue,typeInfo,hj,program,Sem.run,hzz]
      refine ⟨_,_,V,_,?_,⟨w.heap.size,rfl,rfl,rfl⟩,i.2.alloc _⟩
      have h48 : ((2 : Int) ^ 48) = 281474976710656 := rfl
      simp only [execOp,i.1.ev hx,i.1.ev hy,Instr.makeSlice,Sem.run_bind,run_underlying hu,Result.andThen_ok,asInt,asIntOf,Sem.run_pure,typeInfo,run_program,hj,hw,h48]
      simp only [hneg,hbig,decide_false,Bool.or_false,Int.lt_irrefl,Bool.false_eq_true,if_false,GT.gt,Sem.run_bind,hroom,Result.andThen_ok,Int.toNat_natCast,sizeOf,typeInfo,run_program,hj,Sem.run_pure,newRow,Sem.run_ite]
      by_cases h0 : n * inf.size = 0
      · have hn0 : n = 0 := by rcases Nat.mul_eq_zero.1 h0 with h | h <;> omega
        subst hn0
        rw [if_pos h0]
        simp [rep,newObj,Sem.run,show Array.range 0 = #[] from by simp]
      · rw [if_neg h0]
        simp only [Sem.run_bind,hzv,Result.andThen_ok,Sem.run_pure,hzs,hz2]
        rfl)
    (fun v V' H' ⟨b,h1,h2,h3⟩ => by subst h1 h2 h3; exact kk b)
end
end Go.K
namespace Go.K
theorem St.weak {B : World} {S : List Nat} {U V V' : Vw} {H : Hp} {w : World} (h : St B S U V' H w) (k : V.le V') (ku : U.le V) : St B S U V H w :=
  ⟨h.os,h.tape,h.output,h.size,h.fr,h.own,h.nd,h.dom,ku,fun b o hb => h.vh b o (k b o hb),fun b o hb => h.vd b o (k b o hb),fun b o hb => h.vn b o (k b o hb)⟩
def Cl (C : Cx) (V : Vw) (H : Hp) (w : World) : Prop := C.U.le V /\ ∃ V',V.le V' /\ St C.B C.S C.U V' H w
theorem Cl.st {C : Cx} {V : Vw} {H : Hp} {w : World} (h : Cl C V H w) : St C.B C.S C.U V H w := let ⟨hu,_,k,s⟩ := h; s.weak k hu
theorem Cl.of {C : Cx} {V : Vw} {H : Hp} {w : World} (h : St C.B C.S C.U V H w) : Cl C V H w := ⟨h.le,V,Vw.le_refl V,h⟩
section
variable {P : Program} {ops : Array Oper} {md : Region.Mode} {D : World -> Prop}
def headQ (P : Program) (md : Region.Mode) (ops : Array Oper) (D : World -> Prop) (n : Nat) (E : Array Bool -> Act -> Prop) : Nat -> Array Bool -> Act -> Prop
  | 0,listed,a => E listed a
  | f + 1,listed,a => Region.ready md ops listed ≠ [] /\ ∀ i,i ∈ Region.ready md ops listed -> i < n /\ qOp P ops D i (headQ P md ops D n E f (listed.setIfInBounds i true)) a
theorem any_of_headQ {n g : Nat} {E : Array Bool -> Act -> Prop} {Q : Exit -> Act -> World -> Prop} (hE : ∀ listed a w,D w -> E listed a -> wpAny P md ops Q g listed a w) :
    ∀ (f : Nat) (listed : Array Bool) (a : Act) (w : World),D w -> headQ P md ops D n E f listed a -> wpAny P md ops Q (g + f) listed a w
  | 0,_,_,_,hw,h => hE _ _ _ hw h
  | f + 1,listed,a,w,hw,h => ⟨fun h0 => (h.1 h0).elim,fun i hi => wpOp_of_qOp hw (fun a' w' hw' h' => any_of_headQ hE f _ a' w' hw' h') (h.2 i hi).2⟩
theorem headQ_take {n i : Nat} {oi : Oper} {v : Value} {E : Array Bool -> Act -> Prop} (hi : ops[i]? = some oi) (hsel : ∀ (j : Nat) (o : Oper) cs b,ops[j]? = some o -> o.op ≠ .select cs b)
    (hs : Region.sinkB md ops n = true) (hc : Region.chainB md ops n = true) (hn : n < ops.size) (hin : i < n) (hE : ∀ listed a,E listed a -> ∀ j,j ∈ Region.ready md ops listed -> n <= j) (f : Nat) :
    ∀ (listed : Array Bool) (a : Act),HeadInv md ops n listed ->
      (∀ j oj,ops[j]? = some oj -> j ≠ i -> listed.getD j true = false -> (∀ e,e ∈ oj.after -> Region.binds md e = true -> e.on ≠ i) -> oi.apart ops oj = true) ->
      i ∈ Region.ready md ops listed -> YieldsIn P ops D oi v a -> headQ P md ops D n E f (listed.setIfInBounds i true) (a.put oi.dst v) -> headQ P md ops D n E (f + 1) listed a := by
  have inHead : ∀ listed,HeadInv md ops n listed -> i ∈ Region.ready md ops listed -> ∀ j,j ∈ Region.ready md ops listed -> j < n := fun listed inv hr j hj =>
    Nat.lt_of_not_le fun h => tail_waits hs hc hn inv _ i rfl hin (mem_ready.1 hr).1 j h hj
  have notNil : ∀ listed,i ∈ Region.ready md ops listed -> Region.ready md ops listed ≠ [] := fun listed hr h => by rw [h] at hr; cases hr
  induction f with
  | zero =>
    intro listed a inv _ hr hy hh
    refine ⟨notNil listed hr,fun j hj => ⟨inHead listed inv hr j hj,?_⟩⟩
    by_cases e : j = i
    · subst e; exact hy.qOp hi hh
    · have h1 := hE _ _ hh j (ready_mono hj e)
      have h2 := inHead listed inv hr j hj
      omega
  | succ f ih =>
    intro listed a inv hfree hr hy hh
    refine ⟨notNil listed hr,fun j hj => ⟨inHead listed inv hr j hj,?_⟩⟩
    by_cases e : j = i
    · subst e; exact hy.qOp hi hh
    · have hjn := inHead listed inv hr j hj
      obtain ⟨hju,oj,hoj,hdeps⟩ := mem_ready.1 hj
      have hno : ∀ ed,ed ∈ oj.after -> Region.binds md ed = true -> ed.on ≠ i := fun ed he hb heq => by
        have h1 := hdeps ed he hb
        rw [heq,getD_both (mem_ready.1 hr).1] at h1
        cases h1
      have h2 := qOp_put hoj (hfree j oj hoj e hju hno) (fun cs b => hsel i oi cs b hi) (fun cs b => hsel j oj cs b hoj) hy (hh.2 j (ready_mono hj e)).2
      refine qOp_mono (fun a' ⟨h3,h4⟩ => ih (listed.setIfInBounds j true) a' (inv.set hj hjn) (fun k ok hk hki hku hkn => hfree k ok hk hki ?_ hkn) (ready_mono hr fun q => e q.symm) h3 ?_) h2
      · by_cases q : j = k
        · subst q; exact hju
        · rw [getD_set_ne true q] at hku; exact hku
      · rw [Array.setIfInBounds_comm _ _ e]; exact h4
theorem headQ_lex {n g : Nat} {E : Act -> Prop} (hsel : Region.noSelect ops = true) (hs : Region.sinkB md ops n = true) (hc : Region.chainB md ops n = true) (hn : n < ops.size) :
    ∀ (l : List Oper) (k : Nat) (listed : Array Bool) (a : Act),(∀ j,j < l.length -> l[j]? = ops[k + j]?) -> k + l.length = n -> HeadInv md ops n listed -> Region.lexHead md ops g l.length k listed = true -> wpQuiet P ops D E l a ->
    headQ P md ops D n (fun listed' a' => Region.seqB md ops g n listed' = true /\ E a') l.length listed a
  | [],k,listed,a,_,hk,_,hB,h => by
    have e : k = n := by simpa using hk
    subst e
    exact ⟨by simpa [Region.lexHead] using hB,h⟩
  | o :: l,k,listed,a,hl,hk,inv,hB,h => by
    have h0 : ops[k]? = some o := by simpa using (hl 0 (by simp)).symm
    simp only [List.length_cons] at hk
    simp only [List.length_cons,Region.lexHead,Bool.and_eq_true] at hB
    obtain ⟨⟨hr,hf⟩,hB'⟩ := hB
    have hr' : k ∈ Region.ready md ops listed := by simpa using hr
    have hq : qOp P ops D k (wpQuiet P ops D E l) a := by unfold qOp; simp only [h0]; exact h
    obtain ⟨v,hy,hK⟩ := yieldsIn_of_qOp h0 hq
    exact headQ_take h0 (Region.noSelect_spec hsel) hs hc hn (by omega) (fun listed' a' hL => seqB_ready hL.1) l.length listed a inv (Region.free_spec h0 hf) hr' hy
      (headQ_lex hsel hs hc hn l (k + 1) _ _ (fun j hj => by have := hl (j + 1) (by simp; omega); simpa [Nat.add_assoc,Nat.add_comm 1 j] using this) (by omega) (inv.set hr' (by omega)) hB' hK)
theorem wp_region_head_tail {id : Nat} {Q : Exit -> Act -> World -> Prop} {a : Act} {w : World} {l : List Oper} (n : Nat) (hm : P.follows .mixedOrders = true) (hB : Region.lexTailB .any l.toArray n = true) (hD : D { w with drawn := w.drawn + 1 })
    (h : wpQuiet P l.toArray D (fun a' => ∀ w',D w' -> wpList P l.toArray Q (l.drop n) a' w') (l.take n) a) : (Code.region id l.toArray true).wp P Q a w := by
  simp only [Region.lexTailB,Bool.and_eq_true,decide_eq_true_eq] at hB
  obtain ⟨⟨⟨⟨hsel,hn⟩,hs⟩,hc⟩,hlex⟩ := hB
  have hn' : n < l.length := by simpa using hn
  have htl : (l.take n).length = n := by simp; omega
  have hdl : (l.drop n).length = l.toArray.size - n := by simp
  have inv0 : HeadInv .any l.toArray n (Array.replicate l.toArray.size false) :=
    ⟨by simp,fun j oj _ hl => (by rw [getD_replicate_false] at hl; cases hl),fun t _ ht => getD_in (by simpa using ht) (getD_replicate_false _ _)⟩
  have hh := headQ_lex (md := .any) (g := l.toArray.size - n) hsel hs hc hn (l.take n) 0 _ a (fun j hj => by
    have hj' : j < n := by rw [htl] at hj; exact hj
    simp [hj']) (by simpa using htl) inv0 (by rw [htl]; exact hlex) h
  refine wp_region_any hm ?_
  have := any_of_headQ (Q := Q) (g := l.toArray.size - n) (fun listed a' w' hw' hL => by
    have := wpAny_of_seq (md := .any) (Q' := Q) (l.drop n) n listed a' w' (fun j => by simp [List.getElem?_drop]) (by rw [hdl]; exact hL.1) (hL.2 w' hw')
    rwa [hdl] at this) _ _ _ _ hD hh
  rw [htl,show l.toArray.size - n + n = l.toArray.size by omega] at this
  exact this
end
section
variable {C : Cx} {V : Vw} {H : Hp} {L : Sl} {Q : Exit -> Act -> World -> Prop} {ops : Array Oper} {os : List Oper}
variable {ty : TypeId} {pos : String} {aft : Array Edge} {d : Nat}
def RunQ (C : Cx) (ops : Array Oper) (V : Vw) (H : Hp) (L : Sl) (os : List Oper) (K : Act -> World -> Prop) : Prop :=
  ∀ a,Env C.n L a C.D -> wpQuiet C.P ops (Cl C V H) (fun a' => ∀ w',Cl C V H w' -> K a' w') os a
theorem Tr.quiet {id : Nat} {l : List Oper} (hm : C.P.follows .mixedOrders = true) (hB : Region.lexB .any l.toArray = true) (h : RunQ C l.toArray V H L l (Q .normal)) : Tr C V H L (.region id l.toArray true) Q :=
  fun a _ i => wp_region_quiet hm hB (Cl.of i.2.drew) (by simpa using h a i.1)
theorem Tr.tail {id : Nat} {l : List Oper} (n : Nat) (hm : C.P.follows .mixedOrders = true) (hB : Region.lexTailB .any l.toArray n = true) (h : RunQ C l.toArray V H L (l.take n) (wpList C.P l.toArray Q (l.drop n))) : Tr C V H L (.region id l.toArray true) Q :=
  fun a _ i => wp_region_head_tail n hm hB (Cl.of i.2.drew) (h a i.1)
variable {K : Act -> World -> Prop}
theorem RunQ.nil (h : ∀ a w,Is C V H L a w -> K a w) : RunQ C ops V H L [] K := fun a ha w' hw' => h a w' ⟨ha,hw'.st⟩
theorem RunQ.nil_run {os' : List Oper} (h : Run C ops V H L os' Q) : RunQ C ops V H L [] (wpList C.P ops Q os') := RunQ.nil h
theorem RunQ.val {op : Op} {v : Value} (hd : d < C.n) (hx : Yl C V H L op ty v) (k : RunQ C ops V H ((d,v) :: L) os K) : RunQ C ops V H L (⟨some d,op,ty,pos,aft,none⟩ :: os) K := fun a i => by
  unfold wpQuiet
  rw [if_pos (by simp [Region.wanted])]
  refine ⟨v,fun w hw => ?_,k _ (i.put hd v)⟩
  unfold Oper.quietAt
  rw [hx V a w (Vw.le_refl V) ⟨i,hw.st⟩ _ rfl rfl]
  exact ⟨rfl,rfl⟩
theorem RunQ.on {o : Oper} {j : Nat} {t : Bool} {d : Nat} {b : Bool} (hg : o.guard = some (j,t)) (hj : ((ops[j]?).bind (·.dst)) = some d) (hb : L.lookup d = some (.bool b)) (e : b = t)
    (k : RunQ C ops V H L (⟨o.dst,o.op,o.type,o.pos,o.after,none⟩ :: os) K) : RunQ C ops V H L (o :: os) K := fun a i => by
  have h := k a i
  have hw : Region.wanted o (yielded ops a.tmps) = true := by
    simp only [Region.wanted,hg,yielded,hj,Option.bind_some,i.lk d _ hb,e,beq_self_eq_true]
  unfold wpQuiet at h ⊢
  rw [if_pos hw]
  rw [if_pos (by simp [Region.wanted])] at h
  exact h
theorem RunQ.off {o : Oper} {j : Nat} {t : Bool} {d dd : Nat} {b : Bool} (hg : o.guard = some (j,t)) (hj : ((ops[j]?).bind (·.dst)) = some d) (hb : L.lookup d = some (.bool b)) (e : b = !t) (hd : o.dst = some dd) (hn : dd < C.n)
    (k : RunQ C ops V H ((dd,undef) :: L) os K) : RunQ C ops V H L (o :: os) K := fun a i => by
  have hw : Region.wanted o (yielded ops a.tmps) = false := by
    simp only [Region.wanted,hg,yielded,hj,Option.bind_some,i.lk d _ hb,e]; cases t <;> rfl
  unfold wpQuiet
  rw [if_neg (by simp [hw]),hd]
  exact k _ (i.put hn _)
end
end Go.K
namespace Go.K
section
variable {C : Cx} {V : Vw} {H : Hp} {L : Sl} {Q : Exit -> Act -> World -> Prop} {ops : Array Oper} {os : List Oper}
variable {ty : TypeId} {pos : String} {aft : Array Edge} {d : Nat}
def Pv (v0 : Value) (V : Vw) (H : Hp) : Value -> Vw -> Hp -> Prop := fun v V' H' => v = v0 /\ V' = V /\ H' = H
theorem Does.frame {P : Program} {f : FuncId} {args : List Value} {v0 : Value} (h : Does P f args V [] (Pv v0 V [])) : Does P f args V H (Pv v0 V H) :=
  ⟨h.1,fun B hB => (h.2 B ⟨rfl,rfl,rfl,Nat.le_refl _,fun _ _ _ => rfl,fun _ _ hb => (by cases hb),List.nodup_nil,fun _ hb => (by cases hb),Vw.le_refl V,hB.vh,fun _ _ _ hb => (by cases hb),fun _ _ hb => .inl hb⟩).mono
    fun e w' ⟨v,V',H',he,hR,s⟩ => by
      obtain ⟨h1,h2,h3⟩ := hR
      subst h1 h2 h3
      refine ⟨v,V',H,he,⟨rfl,rfl,rfl⟩,?_⟩
      have hs := St.take (Hf := H) (Hc := []) (V' := V') (H' := []) (w' := w') (by simpa using hB) s
      simpa using hs⟩
theorem Run.call0 {x : Operand} {l : List Operand} {at_ : Array TypeId} {f : FuncId} {first cap : Array Value} {vs args : List Value} {v0 : Value}
    (hx : ev L x = some (.func (.func f) first cap)) (hl : evs L l = some vs) (ha : first.toList ++ vs ++ cap.toList = args) (hd : d < C.n) (hc : Does C.P f args V H (Pv v0 V H))
    (k : Run C ops V H ((d,v0) :: L) os Q) :
    Run C ops V H L (⟨some d,.call { callee := .value x,args := l.toArray,argTypes := at_ },ty,pos,aft,none⟩ :: os) Q := fun a w i => by
  have hp : ((List.range H.length).map fun _ => 0).length = H.length := by simp
  unfold wpList
  rw [if_pos (by simp [Region.wanted])]
  refine .inl ?_
  unfold Oper.wp
  have e1 := i.1.ev hx
  have e2 := i.1.evs hl
  have hr : (execOp a.eval ⟨some d,.call { callee := .value x,args := l.toArray,argTypes := at_ },ty,pos,aft,none⟩).run C.P w = .ok (.enter f args.toArray) w := by
    have ha' : first ++ (l.map a.eval).toArray ++ cap = args.toArray := by rw [e2,<- ha]; simp
    simp only [execOp,resolve,e1,Deferred.ofValue,Sem.run_bind,Sem.run_pure,Result.andThen_ok,invoke,List.map_toArray,ha']
    exact run_callFunc hc.1
  rw [hr]
  have hst : St C.B C.S C.U V ([] ++ H) w := i.2
  refine (hc.2 w hst.give).mono fun e w' ⟨v,V',H',he,⟨h1,h2,h3⟩,hs⟩ => ?_
  subst he h1 h2 h3
  exact k _ _ ⟨i.1.put hd v,hst.take hs⟩
theorem RunQ.call0 {K : Act -> World -> Prop} {x : Operand} {l : List Operand} {at_ : Array TypeId} {f : FuncId} {first cap : Array Value} {vs args : List Value} {v0 : Value}
    (hx : ev L x = some (.func (.func f) first cap)) (hl : evs L l = some vs) (ha : first.toList ++ vs ++ cap.toList = args) (hd : d < C.n) (hc : Does C.P f args V H (Pv v0 V H))
    (k : RunQ C ops V H ((d,v0) :: L) os K) : RunQ C ops V H L (⟨some d,.call { callee := .value x,args := l.toArray,argTypes := at_ },ty,pos,aft,none⟩ :: os) K := fun a i => by
  unfold wpQuiet
  rw [if_pos (by simp [Region.wanted])]
  refine ⟨v0,fun w hw => ?_,k _ (i.put hd v0)⟩
  have hst : St C.B C.S C.U V ([] ++ H) w := hw.st
  have e1 := i.ev hx
  have e2 := i.evs hl
  have hr : (execOp a.eval ⟨some d,.call { callee := .value x,args := l.toArray,argTypes := at_ },ty,pos,aft,none⟩).run C.P w = .ok (.enter f args.toArray) w := by
    have ha' : first ++ (l.map a.eval).toArray ++ cap = args.toArray := by rw [e2,<- ha]; simp
    simp only [execOp,resolve,e1,Deferred.ofValue,Sem.run_bind,Sem.run_pure,Result.andThen_ok,invoke,List.map_toArray,ha']
    exact run_callFunc hc.1
  unfold Oper.quietAt
  rw [hr]
  refine ⟨rfl,(hc.2 w hst.give).mono fun e w' ⟨v',V',H',he,⟨h1,h2,h3⟩,hs⟩ => ?_⟩
  subst h1 h2 h3
  exact ⟨he,hw.1,V',hs.le,hst.take hs⟩
theorem Run.keep (is : List Nat) (k : Run C ops V (pull is H).2 L os Q) : Run C ops V H L os Q := fun a w i => k a w ⟨i.1,(i.2.perm (pull_perm is H)).drop⟩
theorem wrap_i64 {n : Int} (h : -9223372036854775808 <= n /\ n <= 9223372036854775807) : IntKind.i64.wrap n = n := by
  have e1 : (2 ^ IntKind.i64.bits : Int) = 18446744073709551616 := rfl
  have e2 : (2 ^ (IntKind.i64.bits - 1) : Int) = 9223372036854775808 := rfl
  simp only [IntKind.wrap,e1,e2,show IntKind.i64.signed = true from rfl,Bool.true_and,decide_eq_true_eq]
  split <;> omega
theorem wrap_u8 {n : Int} (h : 0 <= n /\ n <= 255) : IntKind.u8.wrap n = n := by
  have e1 : (2 ^ IntKind.u8.bits : Int) = 256 := rfl
  simp only [IntKind.wrap,e1,show IntKind.u8.signed = false from rfl,Bool.false_and,Bool.false_eq_true,if_false]
  omega
theorem wrap_u32 {n : Int} (h : 0 <= n /\ n <= 4294967295) : IntKind.u32.wrap n = n := by
  have e1 : (2 ^ IntKind.u32.bits : Int) = 4294967296 := rfl
  simp only [IntKind.wrap,e1,show IntKind.u32.signed = false from rfl,Bool.false_and,Bool.false_eq_true,if_false]
  omega
theorem wrap_u8_mod (n : Int) : IntKind.u8.wrap n = n % 256 := by
  have e1 : (2 ^ IntKind.u8.bits : Int) = 256 := rfl
  simp only [IntKind.wrap,e1,show IntKind.u8.signed = false from rfl,Bool.false_and,Bool.false_eq_true,if_false]
theorem Y.add {x y : Operand} {m n : Int} {t t' : TypeId} (hx : ev L x = some (.int .i64 m)) (hy : ev L y = some (.int .i64 n)) (h : -9223372036854775808 <= m + n /\ m + n <= 9223372036854775807) : Yl C V H L (.binOp .add t x y t') ty (.int .i64 (m + n)) :=
  Y.int hx hy (by simp only [intRes,wrap_i64 h])
theorem Y.sub {x y : Operand} {m n : Int} {t t' : TypeId} (hx : ev L x = some (.int .i64 m)) (hy : ev L y = some (.int .i64 n)) (h : -9223372036854775808 <= m - n /\ m - n <= 9223372036854775807) : Yl C V H L (.binOp .sub t x y t') ty (.int .i64 (m - n)) :=
  Y.int hx hy (by simp only [intRes,wrap_i64 h])
theorem Y.mul {x y : Operand} {m n : Int} {t t' : TypeId} (hx : ev L x = some (.int .i64 m)) (hy : ev L y = some (.int .i64 n)) (h : -9223372036854775808 <= m * n /\ m * n <= 9223372036854775807) : Yl C V H L (.binOp .mul t x y t') ty (.int .i64 (m * n)) :=
  Y.int hx hy (by simp only [intRes,wrap_i64 h])
def Ex (C : Cx) (V : Vw) (H : Hp) (L : Sl) (Q : Exit -> Act -> World -> Prop) (e : Exit) : Prop := ∀ a w,Is C V H L a w -> Q e a w
theorem Tr.to_ret (h : Ex C V H L Q .ret) : Tr C V H L .ret Q := Tr.ret h
theorem Tr.to_exit {id : Nat} (h : Ex C V H L Q (.exit id)) : Tr C V H L (.exit id) Q := Tr.exit h
theorem Tr.to_end (h : Ex C V H L Q .normal) : Tr C V H L .skip Q := Tr.skip h
theorem Run.to_end (h : Ex C V H L Q .normal) : Run C ops V H L [] Q := h
theorem RunQ.to_end (h : Ex C V H L Q .normal) : RunQ C ops V H L [] (Q .normal) := RunQ.nil h
theorem Ex.exit_in {id : Nat} (h : Ex C V H L Q .normal) : Ex C V H L (Exit.inBlock id Q) (.exit id) := fun a w i => by simpa [Exit.inBlock] using h a w i
theorem Ex.exit_out {id id' : Nat} (hne : Nat.beq id id' = false) (h : Ex C V H L Q (.exit id)) : Ex C V H L (Exit.inBlock id' Q) (.exit id) := fun a w i => by
  have : ¬ id = id' := fun e => by subst e; simp at hne
  simpa [Exit.inBlock,this] using h a w i
theorem Ex.round {X : Type} {p : X -> Prop} {μ : X -> Nat} {V' : X -> Vw} {H' : X -> Hp} {L' : X -> Sl} {m : Nat} (y : X) (hp : p y) (hm : μ y < m) (hV : V' y = V) (hH : H' y = H) (hL : subB L (L' y)) :
    Ex C V H L (Exit.then (fun a w => ∃ y,p y /\ μ y < m /\ Is C (V' y) (H' y) (L' y) a w) Q) .normal := fun _ _ i => ⟨y,hp,hm,by rw [hV,hH]; exact ⟨i.1.sub hL,i.2⟩⟩
theorem Ex.cut {L' : Sl} {H' : Hp} (hH : H' = H) (hL : subB L L') : Ex C V H L (Exit.then (Is C V H' L') Q) .normal := fun _ _ i => ⟨i.1.sub hL,by rw [hH]; exact i.2⟩
theorem Ex.cutx {X : Type} {p : X -> Prop} {V' : X -> Vw} {H' : X -> Hp} {L' : X -> Sl} (y : X) (hp : p y) (hV : V' y = V) (hH : H' y = H) (hL : subB L (L' y)) :
    Ex C V H L (Exit.then (fun a w => ∃ y,p y /\ Is C (V' y) (H' y) (L' y) a w) Q) .normal := fun _ _ i => ⟨y,hp,by rw [hV,hH]; exact ⟨i.1.sub hL,i.2⟩⟩
theorem Ex.keep {e : Exit} (is : List Nat) (k : Ex C V (pull is H).2 L Q e) : Ex C V H L Q e := fun a w i => k a w ⟨i.1,(i.2.perm (pull_perm is H)).drop⟩
theorem Ex.perm {e : Exit} {H' : Hp} (h : H'.Perm H) (k : Ex C V H' L Q e) : Ex C V H L Q e := fun a w i => k a w ⟨i.1,i.2.perm h⟩
section
variable {fn : Func} {B : World} {S : List Nat} {U : Vw} {P : Program} {n : Nat} {R : Value -> Vw -> Hp -> Prop}
theorem Ex.ret1 {t : Tmp} {v : Value} (hr : fn.results = #[.tmp t]) (hv : L.lookup t = some v) (hR : R v V H) : Ex ⟨P,n,B,S,U,[]⟩ V H L (bodyPost P fn fun e w' => ∃ v V' H',e = .returned v /\ R v V' H' /\ St B S U V' H' w') .ret := K.ret1 hr hv hR
theorem Ex.ret2 {t u : Tmp} {v z : Value} (hr : fn.results = #[.tmp t,.tmp u]) (hv : L.lookup t = some v) (hz : L.lookup u = some z) (hR : R (.tuple #[v,z]) V H) : Ex ⟨P,n,B,S,U,[]⟩ V H L (bodyPost P fn fun e w' => ∃ v V' H',e = .returned v /\ R v V' H' /\ St B S U V' H' w') .ret := K.ret2 hr hv hz hR
theorem Ex.ret0 (hr : fn.results = #[]) (hR : R (.tuple #[]) V H) : Ex ⟨P,n,B,S,U,[]⟩ V H L (bodyPost P fn fun e w' => ∃ v V' H',e = .returned v /\ R v V' H' /\ St B S U V' H' w') .ret := K.ret0 hr hR
theorem Ex.end0 (hr : fn.results = #[]) (hR : R (.tuple #[]) V H) : Ex ⟨P,n,B,S,U,[]⟩ V H L (bodyPost P fn fun e w' => ∃ v V' H',e = .returned v /\ R v V' H' /\ St B S U V' H' w') .normal := K.end0 hr hR
theorem Ex.retCell {t ad b off z : Nat} {c : Array Value} {e : TypeId} {fz : Nat × Nat} {vs : List Value} (is : List Nat) (hr : fn.results = #[.cell ad t]) (hv : L.lookup ad = some (.pointer (some ⟨b,off,none⟩))) (ht : aggsz P t = some z) (hk : Kn V H b (.cells c e fz)) (hc : cellsAt c off z = some vs)
    (hR : R (.agg vs.toArray) V (pull is H).2) : Ex ⟨P,n,B,S,U,[]⟩ V H L (bodyPost P fn fun e w' => ∃ v V' H',e = .returned v /\ R v V' H' /\ St B S U V' H' w') .ret := fun a w i => by
  refine ⟨i.1.df,.agg vs.toArray,?_,_,V,(pull is H).2,rfl,hR,(i.2.perm (pull_perm is H)).drop⟩
  have h1 := run_isAgg_agg (w := w) ht
  have h2 : a.tmps[ad]?.getD undef = .pointer (some ⟨b,off,none⟩) := by rw [i.1.lk _ _ hv]; rfl
  have h3 := run_loadCells (P := P) (hk.st i.2) off z 0 vs #[] hc
  simp [results,hr,Array.getD_eq_getD_getElem?,h2,asAddr,loadVar,h1.1,h1.2,loadCells,h3]
theorem Ex.retCell2 {t ad b off z u : Nat} {c : Array Value} {e : TypeId} {fz : Nat × Nat} {vs : List Value} {y : Value} (is : List Nat) (hr : fn.results = #[.cell ad t,.tmp u]) (hv : L.lookup ad = some (.pointer (some ⟨b,off,none⟩))) (hy : L.lookup u = some y) (ht : aggsz P t = some z) (hk : Kn V H b (.cells c e fz)) (hc : cellsAt c off z = some vs)
    (hR : R (.tuple #[.agg vs.toArray,y]) V (pull is H).2) : Ex ⟨P,n,B,S,U,[]⟩ V H L (bodyPost P fn fun e w' => ∃ v V' H',e = .returned v /\ R v V' H' /\ St B S U V' H' w') .ret := fun a w i => by
  refine ⟨i.1.df,.tuple #[.agg vs.toArray,y],?_,_,V,(pull is H).2,rfl,hR,(i.2.perm (pull_perm is H)).drop⟩
  have h1 := run_isAgg_agg (w := w) ht
  have h2 : a.tmps[ad]?.getD undef = .pointer (some ⟨b,off,none⟩) := by rw [i.1.lk _ _ hv]; rfl
  have h4 : a.tmps[u]?.getD undef = y := by rw [i.1.lk _ _ hy]; rfl
  have h3 := run_loadCells (P := P) (hk.st i.2) off z 0 vs #[] hc
  simp [results,hr,Array.getD_eq_getD_getElem?,h2,h4,asAddr,loadVar,h1.1,h1.2,loadCells,h3]
end
end
end Go.K
namespace Go.K
section
variable {C : Cx} {V : Vw} {H : Hp} {L : Sl} {Q : Exit -> Act -> World -> Prop} {ops : Array Oper} {os : List Oper}
variable {ty : TypeId} {pos : String} {aft : Array Edge} {d : Nat}
theorem Rd.opened {k : Nat} {v : Value} {n : Nat} {xs : List Value} (h : Rd V H k v n xs) (hn : 0 < n) :
    ∃ b off c cs e fz,v = .slice (some ⟨b,off,none⟩) n c /\ n <= c /\ Kn V H b (.cells cs e fz) /\ ∀ j,j < n * k -> cs[off + j]? = xs[j]? := by
  obtain ⟨_,p,c,h2,h3,h4⟩ := h
  rcases h4 with h4 | ⟨b,off,cs,e,fz,a1,a2,a3⟩
  · omega
  · exact ⟨b,off,c,cs,e,fz,by rw [h2,a1],h3,a2,a3⟩
theorem Rd.form {k : Nat} {v : Value} {n : Nat} {xs : List Value} (h : Rd V H k v n xs) : ∃ p c,v = .slice p n c /\ n <= c := by
  obtain ⟨_,p,c,h2,h3,_⟩ := h; exact ⟨p,c,h2,h3⟩
theorem Rd.len {k : Nat} {v : Value} {n : Nat} {xs : List Value} (h : Rd V H k v n xs) : xs.length = n * k := h.1
theorem Rd.nil (V : Vw) (H : Hp) (k : Nat) : Rd V H k (.slice none 0 0) 0 [] := ⟨by simp,none,0,rfl,Nat.le_refl _,.inl rfl⟩
theorem Rd.one {b : Nat} {e : TypeId} {fz : Nat × Nat} {k n : Nat} {cs : Array Value} (hk : Kn V H b (.cells cs e fz)) (hs : cs.size = n * k) : Rd V H k (.slice (some ⟨b,0,none⟩) n n) n cs.toList :=
  ⟨by simpa using hs,_,_,rfl,Nat.le_refl _,.inr ⟨b,0,cs,e,fz,rfl,hk,fun j hj => by simp⟩⟩
theorem at1 {cs : Array Value} {off n i : Nat} {xs : List Value} {v : Value} (h : ∀ j,j < n * 1 -> cs[off + j]? = xs[j]?) (hi : i < n) (hx : xs[i]? = some v) : cs[off + (i : Int).toNat * 1]? = some v := by
  rw [Int.toNat_natCast,Nat.mul_one]; exact (h i (by omega)).trans hx
theorem map_at {α : Type} (f : α -> Value) {l : List α} {i : Nat} (z : α) (h : i < l.length) : (l.map f)[i]? = some (f (l.getD i z)) := by
  rw [List.getElem?_map,List.getElem?_eq_getElem h]; simp [List.getD_eq_getElem?_getD,List.getElem?_eq_getElem h]
theorem take_succ_getD {α : Type} (l : List α) (i : Nat) (z : α) (h : i < l.length) : l.take (i + 1) = l.take i ++ [l.getD i z] := by
  rw [List.take_succ_eq_append_getElem h]; simp [List.getD_eq_getElem?_getD,List.getElem?_eq_getElem h]
theorem le {m n : Nat} (h : Nat.ble m n = true) : m <= n := Nat.le_of_ble_eq_true h
def arrT (P : Program) (t : TypeId) : Option (Nat × Nat) := match P.underlying t with
  | some (.array n e) => (sizeT P e).map fun z => (n,z)
  | _ => none
theorem Y.idxArr {x y : Operand} {t : TypeId} {z n : Nat} {b off : Nat} {k : IntKind} {j : Int} (hx : ev L x = some (.pointer (some ⟨b,off,none⟩))) (hy : ev L y = some (.int k j)) (ht : arrT C.P t = some (n,z)) (h0 : 0 <= j) (h1 : j.toNat < n) :
    Yl C V H L (.indexAddr t x y) ty (.pointer (some ⟨b,off + j.toNat * z,none⟩)) := (fun V2 a w hle i o ho hty => by
  unfold arrT at ht
  cases hu : C.P.underlying t with
  | none => rw [hu] at ht; cases ht
  | some u =>
    rw [hu] at ht
    cases u <;> simp only [reduceCtorEq] at ht
    rename_i n' e
    cases hs : sizeT C.P e with
    | none => rw [hs] at ht; cases ht
    | some z' =>
      rw [hs] at ht
      simp only [Option.map_some,Option.some.injEq,Prod.mk.injEq] at ht
      obtain ⟨rfl,rfl⟩ := ht
      have hs' := run_sizeOf (w := w) hs
      have hj : 0 <= j /\ j < (n' : Int) := ⟨h0,by omega⟩
      simp [execOp,ho,i.1.ev hx,i.1.ev hy,Instr.indexAt,Instr.sureAddr,asIntOf,run_underlying hu,hs',hj,Addr.add_plain])
end
end Go.K
namespace Go.K
section
variable {C : Cx} {V : Vw} {H : Hp} {L : Sl} {Q : Exit -> Act -> World -> Prop} {ops : Array Oper} {os : List Oper}
variable {ty : TypeId} {pos : String} {aft : Array Edge} {d : Nat}
def RunAny (C : Cx) (ops : Array Oper) (g : Nat) (listed : Array Bool) (V : Vw) (H : Hp) (L : Sl) (Q : Exit -> Act -> World -> Prop) : Prop := ∀ a w,Is C V H L a w -> wpAny C.P .any ops Q g listed a w
theorem wpOp_of_run {i : Nat} {o : Oper} {K : Act -> World -> Prop} {a : Act} {w : World} (ho : ops[i]? = some o) (h : wpList C.P ops (Exit.then K Q) [o] a w) : wpOp C.P ops Q i K a w := by
  unfold wpOp
  simp only [ho]
  unfold wpList at h
  split
  · rename_i hw
    rw [if_pos hw] at h
    rcases h with h | h
    · refine .inl ?_
      unfold Oper.wp at h ⊢
      generalize (execOp a.eval o).run C.P w = r at h
      cases r with
      | ok n w' =>
        cases n <;> simp only [Oper.upon] at h ⊢ <;> first
          | exact h
          | exact Calls.mono h (fun e w'' he => by cases e <;> exact he)
      | halt x w' => cases x <;> simp only [Oper.upon] at h ⊢ <;> exact h
    · exact .inr h
  · rename_i hw
    rw [if_neg hw] at h
    exact h
theorem RunAny.done {g : Nat} {listed : Array Bool} (hr : Region.ready .any ops listed = []) (h : Ex C V H L Q .normal) : RunAny C ops g listed V H L Q := fun a w i => wpAny_done hr (h a w i) g
theorem RunAny.one {g i : Nat} {o : Oper} {listed : Array Bool} (hr : Region.ready .any ops listed = [i]) (ho : ops[i]? = some o)
    (h : Run C ops V H L [o] (Exit.then (wpAny C.P .any ops Q g (listed.setIfInBounds i true)) Q)) : RunAny C ops (g + 1) listed V H L Q := fun a w q =>
  wpAny_all hr (by simp) (fun j hj => by rw [List.mem_singleton] at hj; subst hj; exact wpOp_of_run ho (h a w q))
theorem RunAny.two {g i j : Nat} {o o' : Oper} {listed : Array Bool} (hr : Region.ready .any ops listed = [i,j]) (ho : ops[i]? = some o) (ho' : ops[j]? = some o')
    (h : Run C ops V H L [o] (Exit.then (wpAny C.P .any ops Q g (listed.setIfInBounds i true)) Q)) (h' : Run C ops V H L [o'] (Exit.then (wpAny C.P .any ops Q g (listed.setIfInBounds j true)) Q)) : RunAny C ops (g + 1) listed V H L Q := fun a w q =>
  wpAny_all hr (by simp) (fun k hk => by
    rcases List.mem_cons.1 hk with rfl | hk
    · exact wpOp_of_run ho (h a w q)
    · rw [List.mem_singleton] at hk; subst hk; exact wpOp_of_run ho' (h' a w q))
theorem RunAny.three {g i j k : Nat} {o o' o2 : Oper} {listed : Array Bool} (hr : Region.ready .any ops listed = [i,j,k]) (ho : ops[i]? = some o) (ho' : ops[j]? = some o') (ho2 : ops[k]? = some o2)
    (h : Run C ops V H L [o] (Exit.then (wpAny C.P .any ops Q g (listed.setIfInBounds i true)) Q)) (h' : Run C ops V H L [o'] (Exit.then (wpAny C.P .any ops Q g (listed.setIfInBounds j true)) Q))
    (h2 : Run C ops V H L [o2] (Exit.then (wpAny C.P .any ops Q g (listed.setIfInBounds k true)) Q)) : RunAny C ops (g + 1) listed V H L Q := fun a w q =>
  wpAny_all hr (by simp) (fun m hm => by
    rcases List.mem_cons.1 hm with rfl | hm
    · exact wpOp_of_run ho (h a w q)
    · rcases List.mem_cons.1 hm with rfl | hm
      · exact wpOp_of_run ho' (h' a w q)
      · rw [List.mem_singleton] at hm; subst hm; exact wpOp_of_run ho2 (h2 a w q))
def C0 (C : Cx) (B : World) : Cx := ⟨C.P,C.n,B,[],fun _ => none,C.D⟩
theorem st0 (w : World) : St w [] (fun _ => none) (fun _ => none) [] w :=
  ⟨rfl,rfl,rfl,Nat.le_refl _,fun _ _ _ => rfl,fun _ _ h => (by cases h),List.nodup_nil,fun _ h => (by cases h),fun _ _ h => h,fun _ _ h => (by cases h),fun _ _ h => (by cases h),fun _ _ h => (by cases h)⟩
theorem RunAny.take {g i : Nat} {op : Op} {v : Value} {listed : Array Bool} (ho : ops[i]? = some ⟨some d,op,ty,pos,aft,none⟩) (hs : Region.noSelect ops = true) (hf : Region.free .any ops listed i = true) (hr : (Region.ready .any ops listed).contains i = true)
    (hQ : ∀ c a w,Q (.panic c) (a.put (some d) v) w -> Q (.panic c) a w) (hd : d < C.n) (hy : ∀ B,Yl (C0 C B) (fun _ => none) [] L op ty v) (h : RunAny C ops g (listed.setIfInBounds i true) V H ((d,v) :: L) Q) : RunAny C ops (g + 1) listed V H L Q := fun a w q =>
  wpAny_take ho hs hf hr hQ (.inl ⟨by simp [Region.wanted],fun w' => hy w' _ a w' (Vw.le_refl _) ⟨q.1,st0 w'⟩ _ rfl rfl⟩) (h _ w ⟨q.1.put hd v,q.2⟩)
theorem Run.callW {x : Operand} {l : List Operand} {at_ : Array TypeId} {f : FuncId} {first cap : Array Value} {vs args : List Value} {R : Value -> Vw -> Hp -> Prop}
    (hx : ev L x = some (.func (.func f) first cap)) (hl : evs L l = some vs) (ha : first.toList ++ vs ++ cap.toList = args) (hd : d < C.n) (hc : Does C.P f args V H R)
    (k : ∀ v V' H',V.le V' -> R v V' H' -> Run C ops V' H' ((d,v) :: L) os Q) :
    Run C ops V H L (⟨some d,.call { callee := .value x,args := l.toArray,argTypes := at_ },ty,pos,aft,none⟩ :: os) Q := fun a w i => by
  unfold wpList
  rw [if_pos (by simp [Region.wanted])]
  refine .inl ?_
  unfold Oper.wp
  have e1 := i.1.ev hx
  have e2 := i.1.evs hl
  have hr : (execOp a.eval ⟨some d,.call { callee := .value x,args := l.toArray,argTypes := at_ },ty,pos,aft,none⟩).run C.P w = .ok (.enter f args.toArray) w := by
    have ha' : first ++ (l.map a.eval).toArray ++ cap = args.toArray := by rw [e2,<- ha]; simp
    simp only [execOp,resolve,e1,Deferred.ofValue,Sem.run_bind,Sem.run_pure,Result.andThen_ok,invoke,List.map_toArray,ha']
    exact run_callFunc hc.1
  rw [hr]
  have hst : St C.B C.S C.U V ([] ++ H) w := i.2
  refine (hc.2 w hst.give).mono fun e w' ⟨v,V',H',he,hR,hs⟩ => ?_
  subst he
  exact k v V' H' hs.le hR _ _ ⟨i.1.put hd v,hst.take hs⟩
theorem Ow.form {e : TypeId} {k : Nat} {v : Value} {n : Nat} {xs : List Value} {s : Sg} (h : Ow e k v n xs s) : ∃ p c,v = .slice p n c := by
  rcases h.2 with ⟨h1,h2,_⟩ | ⟨b,cap,cur,h1,_⟩
  · exact ⟨none,0,by rw [h1,h2]⟩
  · exact ⟨_,_,h1⟩
theorem Run.nilseg (k : Run C ops V ([] :: H) L os Q) : Run C ops V H L os Q := fun a w i => k a w ⟨i.1,i.2.recut (by simp)⟩
theorem all_one_bytes (l : List UInt8) : (l.map byteV).all one = true := by simp [byteV,one]
theorem byteV_of {z : Int} (h : 0 <= z /\ z <= 255) : byteV (UInt8.ofNat z.toNat) = .int .u8 z := by
  unfold byteV
  congr 1
  have : z.toNat < 256 := by omega
  simp [Nat.mod_eq_of_lt this]; omega
theorem Ex.drop {e : Exit} {s : Sg} {H : Hp} (k : Ex C V H L Q e) : Ex C V (s :: H) L Q e := fun a w i => k a w ⟨i.1,St.drop (H' := [s]) i.2⟩
theorem Kn.cons {b : Nat} {o : Obj} {s : Sg} (h : Kn V H b o) : Kn V (s :: H) b o := h.imp id (fun h => by rw [List.flatten_cons]; exact List.mem_append.2 (.inr h))
theorem Rd.cons {k : Nat} {v : Value} {n : Nat} {xs : List Value} {s : Sg} (h : Rd V H k v n xs) : Rd V (s :: H) k v n xs := by
  obtain ⟨h1,p,c,h2,h3,h4⟩ := h
  refine ⟨h1,p,c,h2,h3,h4.imp id ?_⟩
  rintro ⟨b,off,cs,e,fz,a1,a2,a3⟩
  exact ⟨b,off,cs,e,fz,a1,a2.cons,a3⟩
theorem Rd.of_nil {k : Nat} {v : Value} {n : Nat} {xs : List Value} (h : Rd V [] k v n xs) : Rd V H k v n xs := by
  obtain ⟨h1,p,c,h2,h3,h4⟩ := h
  refine ⟨h1,p,c,h2,h3,h4.imp id ?_⟩
  rintro ⟨b,off,cs,e,fz,a1,a2,a3⟩
  exact ⟨b,off,cs,e,fz,a1,a2.imp id (fun h => by cases h),a3⟩
end
end Go.K
namespace Go.K
section
variable {P : Program} {ops : Array Oper} {Q : Exit -> Act -> World -> Prop} {md : Region.Mode} {D : World -> Prop}
def anyD (P : Program) (md : Region.Mode) (ops : Array Oper) (D : World -> Prop) (Q : Exit -> Act -> World -> Prop) : Nat -> Array Bool -> Act -> World -> Prop
  | 0,listed,a,w => Region.ready md ops listed = [] /\ Q .normal a w
  | f + 1,listed,a,w => (Region.ready md ops listed = [] -> Q .normal a w) /\ ∀ i,i ∈ Region.ready md ops listed -> wpOp P ops Q i (fun a' w' => D w' /\ anyD P md ops D Q f (listed.setIfInBounds i true) a' w') a w
theorem any_of_anyD : ∀ (f : Nat) (listed : Array Bool) (a : Act) (w : World),anyD P md ops D Q f listed a w -> wpAny P md ops Q f listed a w
  | 0,_,_,_,h => h
  | f + 1,_,_,_,h => ⟨h.1,fun i hi => wpOp_mono (fun a' w' h' => any_of_anyD f _ a' w' h'.2) (h.2 i hi)⟩
def YieldsD (P : Program) (ops : Array Oper) (D : World -> Prop) (o : Oper) (v : Value) (a : Act) : Prop :=
  (Region.wanted o (yielded ops a.tmps) = true /\ ∀ w,D w -> (execOp a.eval o).run P w = .ok (.value v) w) \/ (Region.wanted o (yielded ops a.tmps) = false /\ v = undef)
theorem YieldsD.wpOp {i : Nat} {o : Oper} {v : Value} {a : Act} (hi : ops[i]? = some o) (hy : YieldsD P ops D o v a) {K : Act -> World -> Prop} {w : World} (hw : D w) (h : K (a.put o.dst v) w) : wpOp P ops Q i K a w := by
  unfold Go.wpOp
  simp only [hi]
  rcases hy with ⟨hg,hv⟩ | ⟨hg,rfl⟩
  · simp only [hg,if_true,Oper.wp,hv w hw,Oper.upon]; exact .inl h
  · simp only [hg,Bool.false_eq_true,if_false]; exact h
theorem wpOp_apart {j : Nat} {oi oj : Oper} {v : Value} (hj : ops[j]? = some oj) (hap : oi.apart ops oj = true) (hsi : ∀ cs b,oi.op ≠ .select cs b) (hsj : ∀ cs b,oj.op ≠ .select cs b)
    (hQ : ∀ c a w,Q (.panic c) (a.put oi.dst v) w -> Q (.panic c) a w) {K : Act -> World -> Prop} {a : Act} {w : World} (hy : YieldsD P ops D oi v a) (h : wpOp P ops Q j K (a.put oi.dst v) w) :
    wpOp P ops Q j (fun a' w' => YieldsD P ops D oi v a' /\ K (a'.put oi.dst v) w') a w := by
  obtain ⟨h1,h2,h3⟩ := Oper.apart_spec hap
  have same : ∀ a' : Act,execOp a'.eval oi = execOp a.eval oi -> Region.wanted oi (yielded ops a'.tmps) = Region.wanted oi (yielded ops a.tmps) -> YieldsD P ops D oi v a' := fun a' he hw => by
    unfold YieldsD at hy ⊢; rw [he,hw]; exact hy
  have keep : ∀ u,YieldsD P ops D oi v (a.put oj.dst u) := fun u => same _ (execOp_put oi hsi a oj.dst u h3) (wanted_put oi a oj.dst u h3)
  have keepD : ∀ d u,YieldsD P ops D oi v (({ a with defers := d :: a.defers } : Act).put oj.dst u) := fun d u => same _ (execOp_put oi hsi _ oj.dst u h3) (wanted_put oi _ oj.dst u h3)
  unfold wpOp at *
  simp only [hj] at *
  rw [wanted_put oj a oi.dst v h1] at h
  by_cases hw : Region.wanted oj (yielded ops a.tmps) = true
  · rw [if_pos hw] at h ⊢
    rcases h with h | ⟨hasks,hlets⟩
    · refine .inl ?_
      unfold Oper.wp at *
      rw [execOp_put oj hsj a oi.dst v h1] at h
      generalize (execOp a.eval oj).run P w = r at *
      cases r with
      | halt x w' => cases x <;> simp only [Oper.upon] at h ⊢; exact hQ _ _ _ h
      | ok n w' =>
        cases n <;> simp only [Oper.upon] at h ⊢
        · exact ⟨keep _,by rw [<- Act.put_comm a v _ h2]; exact h⟩
        · exact ⟨keep _,by rw [<- Act.put_comm a v _ h2]; exact h⟩
        · refine Calls.mono h fun e w'' he => ?_
          cases e with
          | returned u => exact ⟨keep u,by rw [<- Act.put_comm a v u h2]; exact he⟩
          | panicked c => exact hQ _ _ _ he
          | outgrown => exact he
        · refine ⟨keepD _ _,?_⟩
          rw [<- Act.put_comm _ v undef h2,<- Act.put_defers]; exact h
        · exact Rows.mono h fun u w'' he => ⟨keep u,by rw [<- Act.put_comm a v u h2]; exact he⟩
    · exact .inr ⟨by unfold Oper.asks at *; rw [execOp_put oj hsj a oi.dst v h1] at hasks; exact hasks,hlets⟩
  · rw [if_neg hw] at h ⊢
    exact ⟨keep _,by rw [<- Act.put_comm a v undef h2]; exact h⟩
theorem anyD_take {i : Nat} {oi : Oper} {v : Value} (hi : ops[i]? = some oi) (hsel : ∀ (j : Nat) (o : Oper) cs b,ops[j]? = some o -> o.op ≠ .select cs b) (hQ : ∀ c a w,Q (.panic c) (a.put oi.dst v) w -> Q (.panic c) a w) (f : Nat) :
    ∀ (listed : Array Bool) (a : Act) (w : World),(∀ j oj,ops[j]? = some oj -> j ≠ i -> listed.getD j true = false -> (∀ e,e ∈ oj.after -> Region.binds md e = true -> e.on ≠ i) -> oi.apart ops oj = true) ->
      i ∈ Region.ready md ops listed -> D w -> YieldsD P ops D oi v a -> anyD P md ops D Q f (listed.setIfInBounds i true) (a.put oi.dst v) w -> anyD P md ops D Q (f + 1) listed a w := by
  induction f with
  | zero =>
    intro listed a w _ hr hw hy hh
    refine ⟨fun h => (by rw [h] at hr; cases hr),fun j hj => ?_⟩
    by_cases e : j = i
    · subst e; exact hy.wpOp hi hw ⟨hw,hh⟩
    · have := ready_mono hj e
      rw [hh.1] at this; cases this
  | succ f ih =>
    intro listed a w hfree hr hw hy hh
    refine ⟨fun h => (by rw [h] at hr; cases hr),fun j hj => ?_⟩
    by_cases e : j = i
    · subst e; exact hy.wpOp hi hw ⟨hw,hh⟩
    · obtain ⟨hju,oj,hoj,hdeps⟩ := mem_ready.1 hj
      have hno : ∀ ed,ed ∈ oj.after -> Region.binds md ed = true -> ed.on ≠ i := fun ed he hb heq => by
        have h1 := hdeps ed he hb
        rw [heq,getD_both (mem_ready.1 hr).1] at h1
        cases h1
      have h2 := wpOp_apart hoj (hfree j oj hoj e hju hno) (fun cs b => hsel i oi cs b hi) (fun cs b => hsel j oj cs b hoj) hQ hy (hh.2 j (ready_mono hj e))
      refine wpOp_mono (fun a' w' ⟨h3,h4,h5⟩ => ⟨h4,ih (listed.setIfInBounds j true) a' w' (fun k ok hk hki hku hkn => hfree k ok hk hki ?_ hkn) (ready_mono hr fun q => e q.symm) h4 h3 ?_⟩) h2
      · by_cases q : j = k
        · subst q; exact hju
        · rw [getD_set_ne true q] at hku; exact hku
      · rw [Array.setIfInBounds_comm _ _ e]; exact h5
end
section
variable {C : Cx} {V : Vw} {H : Hp} {L : Sl} {Q : Exit -> Act -> World -> Prop} {ops : Array Oper} {os : List Oper}
variable {ty : TypeId} {pos : String} {aft : Array Edge} {d : Nat}
def DK (S0 : Sg) (w : World) : Prop := ∀ b o,(b,o) ∈ S0 -> w.heap[b]? = some o
def KnAll (V : Vw) (H : Hp) (S0 : Sg) : Prop := ∀ b o,(b,o) ∈ S0 -> Kn V H b o
theorem KnAll.nil : KnAll V H [] := fun _ _ h => by cases h
theorem KnAll.cons {b : Nat} {o : Obj} {S0 : Sg} (h : Kn V H b o) (k : KnAll V H S0) : KnAll V H ((b,o) :: S0) := fun c oc hc => by
  rcases List.mem_cons.1 hc with e | hc
  · cases e; exact h
  · exact k c oc hc
def RunD (C : Cx) (ops : Array Oper) (S0 : Sg) (g : Nat) (listed : Array Bool) (V : Vw) (H : Hp) (L : Sl) (Q : Exit -> Act -> World -> Prop) : Prop := ∀ a w,Is C V H L a w -> anyD C.P .any ops (DK S0) Q g listed a w
theorem Tr.anyD {id : Nat} {l : List Oper} (S0 : Sg) (hm : C.P.follows .mixedOrders = true) (h : RunD C l.toArray S0 l.toArray.size (Array.replicate l.toArray.size false) V H L Q) : Tr C V H L (.region id l.toArray true) Q :=
  fun a w i => wp_region_any hm (any_of_anyD _ _ _ _ (h a _ ⟨i.1,i.2.drew⟩))
variable {S0 : Sg}
theorem RunD.done {g : Nat} {listed : Array Bool} (hr : Region.ready .any ops listed = []) (h : Ex C V H L Q .normal) : RunD C ops S0 g listed V H L Q := fun a w i => by
  cases g with
  | zero => exact ⟨hr,h a w i⟩
  | succ g => exact ⟨fun _ => h a w i,fun j hj => by rw [hr] at hj; cases hj⟩
theorem RunD.one {g i : Nat} {o : Oper} {listed : Array Bool} (hr : Region.ready .any ops listed = [i]) (ho : ops[i]? = some o)
    (h : Run C ops V H L [o] (Exit.then (fun a' w' => DK S0 w' /\ K.anyD C.P .any ops (DK S0) Q g (listed.setIfInBounds i true) a' w') Q)) : RunD C ops S0 (g + 1) listed V H L Q := fun a w q =>
  ⟨fun h0 => (by rw [hr] at h0; cases h0),fun j hj => by rw [hr,List.mem_singleton] at hj; subst hj; exact wpOp_of_run ho (h a w q)⟩
theorem RunD.two {g i j : Nat} {o o' : Oper} {listed : Array Bool} (hr : Region.ready .any ops listed = [i,j]) (ho : ops[i]? = some o) (ho' : ops[j]? = some o')
    (h : Run C ops V H L [o] (Exit.then (fun a' w' => DK S0 w' /\ K.anyD C.P .any ops (DK S0) Q g (listed.setIfInBounds i true) a' w') Q))
    (h' : Run C ops V H L [o'] (Exit.then (fun a' w' => DK S0 w' /\ K.anyD C.P .any ops (DK S0) Q g (listed.setIfInBounds j true) a' w') Q)) : RunD C ops S0 (g + 1) listed V H L Q := fun a w q =>
  ⟨fun h0 => (by rw [hr] at h0; cases h0),fun k hk => by
    rw [hr] at hk
    rcases List.mem_cons.1 hk with rfl | hk
    · exact wpOp_of_run ho (h a w q)
    · rw [List.mem_singleton] at hk; subst hk; exact wpOp_of_run ho' (h' a w q)⟩
theorem Ex.anyD {g : Nat} {listed : Array Bool} (hk : KnAll V H S0) (h : RunD C ops S0 g listed V H L Q) : Ex C V H L (Exit.then (fun a' w' => DK S0 w' /\ K.anyD C.P .any ops (DK S0) Q g listed a' w') Q) .normal := fun a w i => ⟨fun b o hb => (hk b o hb).st i.2,h a w i⟩
def VK (S0 : Sg) : Vw := fun b => S0.lookup b
theorem lookup_mem : ∀ {S0 : Sg} {b : Nat} {o : Obj},S0.lookup b = some o -> (b,o) ∈ S0
  | (c,oc) :: S0,b,o,h => by
    by_cases e : b = c
    · subst e; simp only [List.lookup,beq_self_eq_true] at h; cases h; exact List.mem_cons_self ..
    · have : (b == c) = false := by simp [e]
      simp only [List.lookup,this] at h; exact List.mem_cons_of_mem _ (lookup_mem h)
theorem stK {w : World} (h : DK S0 w) : St w [] (VK S0) (VK S0) [] w :=
  ⟨rfl,rfl,rfl,Nat.le_refl _,fun _ _ _ => rfl,fun _ _ h => (by cases h),List.nodup_nil,fun _ h => (by cases h),Vw.le_refl _,fun b o hb => h b o (lookup_mem hb),fun _ _ _ h => (by cases h),fun _ _ h => .inl h⟩
def CK (C : Cx) (S0 : Sg) (B : World) : Cx := ⟨C.P,C.n,B,[],VK S0,C.D⟩
theorem RunD.take {g i : Nat} {op : Op} {v : Value} {listed : Array Bool} {b : Nat} {o : Obj} (m : Nat) (hm : S0[m]? = some (b,o)) (ho : ops[i]? = some ⟨some d,op,ty,pos,aft,none⟩) (hs : Region.noSelect ops = true) (hf : Region.free .any ops listed i = true)
    (hr : (Region.ready .any ops listed).contains i = true) (hQ : ∀ c a w,Q (.panic c) (a.put (some d) v) w -> Q (.panic c) a w) (hd : d < C.n) (hk : KnAll V H S0) (hy : ∀ B,Yl (CK C [(b,o)] B) (VK [(b,o)]) [] L op ty v)
    (h : RunD C ops S0 g (listed.setIfInBounds i true) V H ((d,v) :: L) Q) : RunD C ops S0 (g + 1) listed V H L Q := fun a w q =>
  anyD_take ho (Region.noSelect_spec hs) hQ g listed a w (Region.free_spec ho hf) (by simpa using hr) (fun b o hb => (hk b o hb).st q.2)
    (.inl ⟨by simp [Region.wanted],fun w' hw' => hy w' _ a w' (Vw.le_refl _) ⟨q.1,stK fun c oc hc => by rw [List.mem_singleton] at hc; cases hc; exact hw' b o (List.mem_of_getElem? hm)⟩ _ rfl rfl⟩) (h _ w ⟨q.1.put hd v,q.2⟩)
theorem RunD.pure {g i : Nat} {op : Op} {v : Value} {listed : Array Bool} (ho : ops[i]? = some ⟨some d,op,ty,pos,aft,none⟩) (hs : Region.noSelect ops = true) (hf : Region.free .any ops listed i = true)
    (hr : (Region.ready .any ops listed).contains i = true) (hQ : ∀ c a w,Q (.panic c) (a.put (some d) v) w -> Q (.panic c) a w) (hd : d < C.n) (hk : KnAll V H S0) (hy : ∀ B,Yl (CK C [] B) (VK []) [] L op ty v)
    (h : RunD C ops S0 g (listed.setIfInBounds i true) V H ((d,v) :: L) Q) : RunD C ops S0 (g + 1) listed V H L Q := fun a w q =>
  anyD_take ho (Region.noSelect_spec hs) hQ g listed a w (Region.free_spec ho hf) (by simpa using hr) (fun b o hb => (hk b o hb).st q.2)
    (.inl ⟨by simp [Region.wanted],fun w' _ => hy w' _ a w' (Vw.le_refl _) ⟨q.1,stK fun c oc hc => by cases hc⟩ _ rfl rfl⟩) (h _ w ⟨q.1.put hd v,q.2⟩)
theorem Kn.vk1 {b : Nat} {o : Obj} : Kn (VK [(b,o)]) [] b o := .inl (by simp [VK,List.lookup])
end
end Go.K
