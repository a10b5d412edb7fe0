/- Ranges of addresses in plain Lean.
Conditions: none; no program in sight. -/
import Derived.Test.YtinkencbkcciiaaGreatSA
import Derived.Test.YtinkencbkcciiaaGreatKB
import Derived.Test.YtinkencbkcciiaaGreatLA
import Derived.Test.YtinkencbkcciiaaGreatKC
set_option linter.unusedSimpArgs false
set_option linter.unusedVariables false
set_option linter.unusedSectionVars false
namespace Go.K
open Go.Sort
@[reducible] def ltc {α : Type} (cm : α → α → Int) (x y : α) : Bool := decide (cm x y < 0)
structure Rg where
  low : Int
  high : Int
deriving DecidableEq
instance : Inhabited Rg := ⟨⟨0,0⟩⟩
namespace Rg
def cells (s : Rg) : List Value := [.int .u32 s.low,.int .u32 s.high]
def dflt : Rg := ⟨0,0⟩
theorem len (s : Rg) : s.cells.length = 2 := rfl
theorem enc : Enc cells 2 := ⟨fun _ => rfl,fun _ => rfl⟩
def tags : List (Nat × IntKind) := [(0,.u32),(0,.u32)]
structure Ok (s : Rg) : Prop where
  l0 : 0 ≤ s.low
  l1 : s.low ≤ 4294967295
  h0 : 0 ≤ s.high
  h1 : s.high ≤ 4294967295
theorem of_wf {q : List Value} (h : wfVs tags q) : ∃ s : Rg,q = s.cells ∧ s.Ok := by
  obtain ⟨v0,c0,rfl,h0,k0⟩ := wfVs_cons (show wfVs ((0,IntKind.u32) :: (0,IntKind.u32) :: []) q from h)
  obtain ⟨v1,c1,rfl,h1,k1⟩ := wfVs_cons k0
  obtain rfl := wfVs_nil k1
  obtain ⟨n0,rfl,w0⟩ := wfV_int h0
  obtain ⟨n1,rfl,w1⟩ := wfV_int h1
  have a := Go.bounds_u32 w0
  have b := Go.bounds_u32 w1
  exact ⟨⟨n0,n1⟩,rfl,a.1,a.2,b.1,b.2⟩
def cmp3 (a b : Int) : Int := if a < b then -1 else if a > b then 1 else 0
def cmp (x y : Rg) : Int := cmp3 x.low y.low
theorem cmp3_neg {a b : Int} : decide (cmp3 a b < 0) = decide (a < b) := by
  unfold cmp3; split
  · rename_i h; simp [h]
  · rename_i h; split <;> simp [h]
theorem swo_cmp : SWO (ltc cmp) := by
  have e : ∀ x y : Rg,ltc cmp x y = decide (x.low < y.low) := fun x y => cmp3_neg
  constructor
  all_goals simp only [e]
  all_goals (try intros); (try simp at *); (try omega)
end Rg
end Go.K
namespace Go.K
namespace Rg
def In (l : List Rg) (a : Int) : Prop := ∃ r,r ∈ l ∧ r.low ≤ a ∧ a ≤ r.high
def Can (l : List Rg) : Prop := (∀ r,r ∈ l → r.low ≤ r.high) ∧ l.Pairwise fun r s => r.high + 1 < s.low
theorem can_ge {r : Rg} {l : List Rg} (h : Can (r :: l)) {a : Int} (ha : In (r :: l) a) : r.low ≤ a := by
  obtain ⟨s,hs,h1,h2⟩ := ha
  rcases List.mem_cons.1 hs with rfl | hs
  · exact h1
  · have := (List.pairwise_cons.1 h.2).1 s hs
    have := h.1 r (List.mem_cons_self ..)
    omega
theorem can_one : ∀ {l m : List Rg},Can l → Can m → (∀ a,In l a ↔ In m a) → l = m
  | [],[],_,_,_ => rfl
  | [],s :: m,_,k,e => by
    have := (e s.low).2 ⟨s,List.mem_cons_self ..,by omega,k.1 s (List.mem_cons_self ..)⟩
    obtain ⟨_,h,_⟩ := this; cases h
  | r :: l,[],h,_,e => by
    have := (e r.low).1 ⟨r,List.mem_cons_self ..,by omega,h.1 r (List.mem_cons_self ..)⟩
    obtain ⟨_,h,_⟩ := this; cases h
  | r :: l,s :: m,h,k,e => by
    have hr := h.1 r (List.mem_cons_self ..)
    have ks := k.1 s (List.mem_cons_self ..)
    have e1 : r.low = s.low := by
      have a1 := can_ge k ((e r.low).1 ⟨r,List.mem_cons_self ..,by omega,hr⟩)
      have a2 := can_ge h ((e s.low).2 ⟨s,List.mem_cons_self ..,by omega,ks⟩)
      omega
    have top : ∀ {r : Rg} {l : List Rg},Can (r :: l) → ¬ In (r :: l) (r.high + 1) := fun {r l} h hc => by
      obtain ⟨q,hq,q1,q2⟩ := hc
      rcases List.mem_cons.1 hq with rfl | hq
      · omega
      · have := (List.pairwise_cons.1 h.2).1 q hq; omega
    have e2 : r.high = s.high := by
      rcases Int.lt_trichotomy r.high s.high with hl | he | hg
      · exact absurd ((e (r.high + 1)).2 ⟨s,List.mem_cons_self ..,by omega,by omega⟩) (top h)
      · exact he
      · exact absurd ((e (s.high + 1)).1 ⟨r,List.mem_cons_self ..,by omega,by omega⟩) (top k)
    have e3 : r = s := by cases r; cases s; simp at e1 e2; rw [e1,e2]
    subst e3
    have e4 : ∀ {r : Rg} {l m : List Rg},Can (r :: l) → Can (r :: m) → (∀ a,In (r :: l) a ↔ In (r :: m) a) → ∀ a,In l a → In m a := fun {r l m} h k e a ⟨q,hq,q1,q2⟩ => by
      have := (List.pairwise_cons.1 h.2).1 q hq
      have hrr := h.1 r (List.mem_cons_self ..)
      obtain ⟨q',hq',q1',q2'⟩ := (e a).1 ⟨q,List.mem_cons_of_mem _ hq,q1,q2⟩
      rcases List.mem_cons.1 hq' with rfl | hq'
      · omega
      · exact ⟨q',hq',q1',q2'⟩
    rw [can_one ⟨fun q hq => h.1 q (List.mem_cons_of_mem _ hq),(List.pairwise_cons.1 h.2).2⟩ ⟨fun q hq => k.1 q (List.mem_cons_of_mem _ hq),(List.pairwise_cons.1 k.2).2⟩ (fun a => ⟨e4 h k e a,e4 k h (fun a => (e a).symm) a⟩)]
def jn (o : List Rg) (r : Rg) : List Rg := match o with
  | [] => [r]
  | q :: o => if r.low ≤ q.high + 1 then ⟨q.low,max q.high r.high⟩ :: o else r :: q :: o
def joinR (l : List Rg) : List Rg := l.foldl jn []
def join (l : List Rg) : List Rg := (joinR l).reverse
theorem joinR_snoc (l : List Rg) (r : Rg) : joinR (l ++ [r]) = jn (joinR l) r := by unfold joinR; rw [List.foldl_append]; rfl
theorem jn_len (o : List Rg) (r : Rg) : (jn o r).length ≤ o.length + 1 := by unfold jn; split; simp; split; simp; simp
theorem joinR_len (l : List Rg) : (joinR l).length ≤ l.length := by
  have : ∀ (l o : List Rg),(l.foldl jn o).length ≤ o.length + l.length := fun l => by
    induction l with
    | nil => intro o; simp
    | cons r l ih => intro o; rw [List.foldl_cons]; have := ih (jn o r); have := jn_len o r; simp; omega
  have := this l []; simpa [joinR] using this
theorem join_len (l : List Rg) : (join l).length ≤ l.length := by unfold join; rw [List.length_reverse]; exact joinR_len l
theorem join_new {l : List Rg} {r : Rg} (h : join l = [] ∨ ∃ o q,join l = o ++ [q] ∧ ¬ r.low ≤ q.high + 1) : join (l ++ [r]) = join l ++ [r] := by
  unfold join at *
  rw [joinR_snoc]
  rcases h with h | ⟨o,q,h,hq⟩
  · have := List.reverse_eq_nil_iff.1 h; rw [this]; rfl
  · have : joinR l = q :: o.reverse := by rw [← List.reverse_reverse (joinR l),h]; simp
    rw [this,show jn (q :: o.reverse) r = r :: q :: o.reverse from if_neg hq]; simp
theorem join_up {l : List Rg} {r q : Rg} {o : List Rg} (h : join l = o ++ [q]) (hq : r.low ≤ q.high + 1) : join (l ++ [r]) = o ++ [⟨q.low,max q.high r.high⟩] := by
  unfold join at *
  rw [joinR_snoc]
  have : joinR l = q :: o.reverse := by rw [← List.reverse_reverse (joinR l),h]; simp
  rw [this,show jn (q :: o.reverse) r = ⟨q.low,max q.high r.high⟩ :: o.reverse from if_pos hq]; simp
def Lows (l : List Rg) : Prop := l.Pairwise fun r s => r.low ≤ s.low
theorem joinR_can : ∀ (l o : List Rg),(∀ r,r ∈ l → r.low ≤ r.high) → Lows l → (∀ q,q ∈ o → q.low ≤ q.high) → (o.Pairwise fun s r => r.high + 1 < s.low) → (∀ q,q ∈ o → ∀ r,r ∈ l → q.low ≤ r.low) →
    (∀ q,q ∈ l.foldl jn o → q.low ≤ q.high) ∧ ((l.foldl jn o).Pairwise fun s r => r.high + 1 < s.low) ∧ ∀ a,In (l.foldl jn o) a ↔ In o a ∨ In l a
  | [],o,_,_,h1,h2,_ => ⟨h1,h2,fun a => by simp [In]⟩
  | r :: l,o,hl,hs,h1,h2,h3 => by
    have hr := hl r (List.mem_cons_self ..)
    have hs1 := List.pairwise_cons.1 hs
    rw [List.foldl_cons]
    have key : (∀ q,q ∈ jn o r → q.low ≤ q.high) ∧ ((jn o r).Pairwise fun s r => r.high + 1 < s.low) ∧ (∀ q,q ∈ jn o r → ∀ s,s ∈ l → q.low ≤ s.low) ∧ ∀ a,In (jn o r) a ↔ In o a ∨ (r.low ≤ a ∧ a ≤ r.high) := by
      cases o with
      | nil => exact ⟨fun q hq => by simp [jn] at hq; subst hq; exact hr,by simp [jn],fun q hq s hs' => by simp [jn] at hq; subst hq; exact hs1.1 s hs',fun a => by simp [In,jn]⟩
      | cons q o =>
        have hq := h1 q (List.mem_cons_self ..)
        have hqr := h3 q (List.mem_cons_self ..) r (List.mem_cons_self ..)
        have h2' := List.pairwise_cons.1 h2
        rw [show jn (q :: o) r = if r.low ≤ q.high + 1 then ⟨q.low,max q.high r.high⟩ :: o else r :: q :: o from rfl]
        split
        · rename_i hc
          refine ⟨fun z hz => ?_,?_,fun z hz s hs' => ?_,fun a => ?_⟩
          · rcases List.mem_cons.1 hz with rfl | hz
            · simp only; omega
            · exact h1 z (List.mem_cons_of_mem _ hz)
          · exact List.pairwise_cons.2 ⟨fun z hz => h2'.1 z hz,h2'.2⟩
          · rcases List.mem_cons.1 hz with rfl | hz
            · exact h3 q (List.mem_cons_self ..) s (List.mem_cons_of_mem _ hs')
            · exact h3 z (List.mem_cons_of_mem _ hz) s (List.mem_cons_of_mem _ hs')
          · simp only [In,List.mem_cons]
            constructor
            · rintro ⟨z,rfl | hz,a1,a2⟩
              · simp only at a1 a2
                by_cases hh : a ≤ q.high
                · exact .inl ⟨q,.inl rfl,a1,hh⟩
                · exact .inr ⟨by omega,by omega⟩
              · exact .inl ⟨z,.inr hz,a1,a2⟩
            · rintro (⟨z,rfl | hz,a1,a2⟩ | ⟨a1,a2⟩)
              · exact ⟨_,.inl rfl,a1,by simp only; omega⟩
              · exact ⟨z,.inr hz,a1,a2⟩
              · exact ⟨_,.inl rfl,by simp only; omega,by simp only; omega⟩
        · rename_i hc
          refine ⟨fun z hz => ?_,?_,fun z hz s hs' => ?_,fun a => ?_⟩
          · rcases List.mem_cons.1 hz with rfl | hz
            · exact hr
            · exact h1 z hz
          · refine List.pairwise_cons.2 ⟨fun z hz => ?_,h2⟩
            rcases List.mem_cons.1 hz with rfl | hz
            · omega
            · have := h2'.1 z hz; omega
          · rcases List.mem_cons.1 hz with rfl | hz
            · exact hs1.1 s hs'
            · exact h3 z hz s (List.mem_cons_of_mem _ hs')
          · simp only [In,List.mem_cons]
            constructor
            · rintro ⟨z,rfl | hz,a1,a2⟩
              · exact .inr ⟨a1,a2⟩
              · exact .inl ⟨z,hz,a1,a2⟩
            · rintro (⟨z,hz,a1,a2⟩ | ⟨a1,a2⟩)
              · exact ⟨z,.inr hz,a1,a2⟩
              · exact ⟨r,.inl rfl,a1,a2⟩
    obtain ⟨k1,k2,k3,k4⟩ := key
    obtain ⟨c1,c2,c3⟩ := joinR_can l (jn o r) (fun s hs => hl s (List.mem_cons_of_mem _ hs)) hs1.2 k1 k2 k3
    refine ⟨c1,c2,fun a => ?_⟩
    rw [c3,k4]
    simp only [In,List.mem_cons]
    constructor
    · rintro ((h | h) | ⟨s,hs,h⟩)
      · exact .inl h
      · exact .inr ⟨r,.inl rfl,h⟩
      · exact .inr ⟨s,.inr hs,h⟩
    · rintro (h | ⟨s,rfl | hs,h⟩)
      · exact .inl (.inl h)
      · exact .inl (.inr h)
      · exact .inr ⟨s,hs,h⟩
theorem join_can {l : List Rg} (hl : ∀ r,r ∈ l → r.low ≤ r.high) (hs : Lows l) : Can (join l) ∧ ∀ a,In (join l) a ↔ In l a := by
  obtain ⟨h1,h2,h3⟩ := joinR_can l [] hl hs (fun _ h => by cases h) List.Pairwise.nil (fun _ h => by cases h)
  refine ⟨⟨fun r hr => h1 r (by unfold join joinR at hr; simpa using hr),?_⟩,fun a => ?_⟩
  · unfold join joinR; rw [List.pairwise_reverse]; exact h2
  · have : In (join l) a ↔ In (joinR l) a := by unfold join In; simp
    rw [this]; unfold joinR; rw [h3]; simp [In]
def put (x : Rg) : List Rg → List Rg
  | [] => [x]
  | y :: l => if y.low < x.low then y :: put x l else x :: y :: l
def srt : List Rg → List Rg
  | [] => []
  | x :: l => put x (srt l)
theorem put_perm (x : Rg) : ∀ l,(put x l).Perm (x :: l)
  | [] => List.Perm.refl _
  | y :: l => by unfold put; split; exact ((put_perm x l).cons y).trans (List.Perm.swap x y l); exact List.Perm.refl _
theorem srt_perm : ∀ l,(srt l).Perm l
  | [] => List.Perm.refl _
  | x :: l => (put_perm x _).trans ((srt_perm l).cons x)
theorem put_lows {x : Rg} : ∀ {l : List Rg},Lows l → Lows (put x l)
  | [],_ => by simp [put,Lows]
  | y :: l,h => by
    unfold put
    have h1 := List.pairwise_cons.1 h
    split
    · refine List.pairwise_cons.2 ⟨fun z hz => ?_,put_lows h1.2⟩
      rcases List.mem_cons.1 ((put_perm x l).mem_iff.1 hz) with rfl | hz
      · omega
      · exact h1.1 z hz
    · refine List.pairwise_cons.2 ⟨fun z hz => ?_,h⟩
      rcases List.mem_cons.1 hz with rfl | hz
      · omega
      · have := h1.1 z hz; omega
theorem srt_lows : ∀ l,Lows (srt l)
  | [] => List.Pairwise.nil
  | x :: l => put_lows (srt_lows l)
def odd (r : Rg) : Bool := decide (r.high < r.low)
def can (l : List Rg) : List Rg := join (srt l)
theorem in_perm {l m : List Rg} (p : l.Perm m) (a : Int) : In l a ↔ In m a := ⟨fun ⟨r,h,k⟩ => ⟨r,p.mem_iff.1 h,k⟩,fun ⟨r,h,k⟩ => ⟨r,p.mem_iff.2 h,k⟩⟩
theorem can_spec {l : List Rg} (h : ∀ r,r ∈ l → odd r = false) : Can (can l) ∧ ∀ a,In (can l) a ↔ In l a := by
  have := join_can (l := srt l) (fun r hr => by have := h r ((srt_perm l).mem_iff.1 hr); unfold odd at this; have := of_decide_eq_false this; omega) (srt_lows l)
  exact ⟨this.1,fun a => (this.2 a).trans (in_perm (srt_perm l) a)⟩
theorem join_any {l m : List Rg} (h : ∀ r,r ∈ l → odd r = false) (p : m.Perm l) (hs : Lows m) : join m = can l := by
  have h1 := join_can (l := m) (fun r hr => by have := h r (p.mem_iff.1 hr); unfold odd at this; have := of_decide_eq_false this; omega) hs
  have h2 := can_spec h
  exact can_one h1.1 h2.1 (fun a => (h1.2 a).trans ((in_perm p a).trans (h2.2 a).symm))
def size (r : Rg) : Int := r.high - r.low + 1
def cnt (l : List Rg) : Int := (l.map size).sum
theorem cnt_snoc (l : List Rg) (r : Rg) : cnt (l ++ [r]) = cnt l + size r := by unfold cnt; simp
theorem cnt_take {l : List Rg} {i : Nat} (h : i < l.length) : cnt (l.take (i + 1)) = cnt (l.take i) + size (l.getD i dflt) := by rw [take_succ_getD l i dflt h,cnt_snoc]
def pool (l : List Rg) : List Rg × Int := if l.any odd = true then ([],1) else if cnt (can l) > 256 then ([],3) else (can l,0)
end Rg
end Go.K
namespace Go.K
theorem ixf_any {α : Type} (b : α → Bool) (l : List α) (d : α) : decide (ixf b l ≥ 0) = l.any b := by
  rcases ixf_cases b l d with ⟨h,hn⟩ | ⟨i,h,hi,hb,_⟩
  · rw [h]
    refine Eq.symm (Bool.eq_false_iff.2 fun hc => ?_)
    obtain ⟨x,hx,hb⟩ := List.any_eq_true.1 hc
    obtain ⟨j,hj,rfl⟩ := List.mem_iff_getElem.1 hx
    have := hn j hj
    rw [List.getD_eq_getElem?_getD,List.getElem?_eq_getElem hj] at this
    simp only [Option.getD_some] at this; rw [this] at hb; cases hb
  · rw [h,List.any_eq_true.2 ⟨l.getD i d,by rw [List.getD_eq_getElem?_getD,List.getElem?_eq_getElem hi]; exact List.getElem_mem hi,hb⟩]
    exact decide_eq_true (by omega)
theorem getD_mem' {α : Type} {l : List α} {i : Nat} (h : i < l.length) (d : α) : l.getD i d ∈ l := by
  rw [List.getD_eq_getElem?_getD,List.getElem?_eq_getElem h]; exact List.getElem_mem h
theorem flat_set1 {α : Type} {f : α → List Value} {k : Nat} (hz : ∀ x,(f x).length = k) : ∀ {l : List α} {i o : Nat} {x d : α} {v : Value},i < l.length → o < k → (f (l.getD i d)).set o v = f x → (l.flatMap f).set (i * k + o) v = (l.set i x).flatMap f
  | [],i,o,x,d,v,h,_,_ => by simp at h
  | a :: l,0,o,x,d,v,h,ho,e => by
    simp only [Nat.zero_mul,Nat.zero_add,List.flatMap_cons,List.set_cons_zero]
    rw [List.set_append_left _ _ (by rw [hz]; exact ho)]
    have : (f a).set o v = f x := by simpa using e
    rw [this]
  | a :: l,i + 1,o,x,d,v,h,ho,e => by
    simp only [List.flatMap_cons,List.set_cons_succ]
    rw [List.set_append_right _ _ (by rw [hz,Nat.add_mul]; omega),hz,show (i + 1) * k + o - k = i * k + o by rw [Nat.add_mul]; omega]
    rw [flat_set1 hz (d := d) (by simpa using h) ho (by simpa using e)]
theorem Ow.upd {α : Type} {f : α → List Value} {k : Nat} (hz : ∀ x,(f x).length = k) {e n i o : Nat} {s : Value} {l : List α} {x d : α} {v : Value} {sg : Sg} (h : Ow e k s n ((l.flatMap f).set (i * k + o) v) sg) (hi : i < l.length) (ho : o < k) (hx : (f (l.getD i d)).set o v = f x) : Ow e k s n ((l.set i x).flatMap f) sg := by
  rw [flat_set1 hz hi ho hx] at h; exact h
namespace Rg
def yv (s : Rg) : List Value := [.agg (cells s).toArray]
theorem Ok.all {s : Rg} (h : s.Ok) : 0 ≤ s.low ∧ s.low ≤ 4294967295 ∧ 0 ≤ s.high ∧ s.high ≤ 4294967295 := ⟨h.l0,h.l1,h.h0,h.h1⟩
def Oks (l : List Rg) : Prop := ∀ r,r ∈ l → r.Ok
theorem dflt_ok : dflt.Ok := ⟨by decide,by decide,by decide,by decide⟩
theorem Oks.at {l : List Rg} (h : Oks l) (i : Nat) : (l.getD i dflt).Ok := by
  by_cases hi : i < l.length
  · exact h _ (getD_mem' hi _)
  · rw [List.getD_eq_getElem?_getD,List.getElem?_eq_none (by omega)]; exact dflt_ok
theorem Oks.bd {l : List Rg} (h : Oks l) (i : Nat) : 0 ≤ (l.getD i dflt).low ∧ (l.getD i dflt).low ≤ 4294967295 ∧ 0 ≤ (l.getD i dflt).high ∧ (l.getD i dflt).high ≤ 4294967295 := (h.at i).all
theorem Oks.perm {l m : List Rg} (h : Oks l) (p : m.Perm l) : Oks m := fun r hr => h r (p.mem_iff.1 hr)
theorem Oks.take {l : List Rg} (h : Oks l) (i : Nat) : Oks (l.take i) := fun r hr => h r (List.mem_of_mem_take hr)
theorem jn_ok {o : List Rg} {r : Rg} (h : Oks o) (hr : r.Ok) : Oks (jn o r) := by
  cases o with
  | nil => intro q hq; simp [jn] at hq; subst hq; exact hr
  | cons q o =>
    have hq := h q (List.mem_cons_self ..)
    rw [show jn (q :: o) r = if r.low ≤ q.high + 1 then ⟨q.low,max q.high r.high⟩ :: o else r :: q :: o from rfl]
    split
    · intro z hz
      rcases List.mem_cons.1 hz with rfl | hz
      · have a := hq.all; have b := hr.all
        exact ⟨a.1,a.2.1,by show 0 ≤ max q.high r.high; omega,by show max q.high r.high ≤ _; omega⟩
      · exact h z (List.mem_cons_of_mem _ hz)
    · intro z hz
      rcases List.mem_cons.1 hz with rfl | hz
      · exact hr
      · exact h z hz
theorem join_ok {l : List Rg} (h : Oks l) : Oks (join l) := by
  have : ∀ (l o : List Rg),Oks l → Oks o → Oks (l.foldl jn o) := fun l => by
    induction l with
    | nil => intro o _ h; exact h
    | cons r l ih => intro o h1 h2; exact ih (jn o r) (fun q hq => h1 q (List.mem_cons_of_mem _ hq)) (jn_ok h2 (h1 r (List.mem_cons_self ..)))
  intro r hr
  exact this l [] h (fun _ h => by cases h) r (by unfold join joinR at hr; simpa using hr)
theorem can_ok {l : List Rg} (h : Oks l) : Oks (can l) := join_ok (h.perm (srt_perm l))
theorem can_len (l : List Rg) : (can l).length ≤ l.length := by
  have := join_len (srt l); rw [(srt_perm l).length_eq] at this; exact this
theorem last_split {l : List Rg} (h : 0 < l.length) : ∃ o,l = o ++ [l.getD (l.length - 1) dflt] ∧ o.length = l.length - 1 := by
  refine ⟨l.take (l.length - 1),?_,by rw [List.length_take]; omega⟩
  rw [← take_succ_getD l (l.length - 1) dflt (by omega),List.take_of_length_le (by omega)]
theorem join_set {m : List Rg} {i n : Nat} (h : i < m.length) (e : n = (join (m.take i)).length) (hn : 0 < n) (hq : (m.getD i dflt).low ≤ ((join (m.take i)).getD (n - 1) dflt).high + 1) :
    join (m.take (i + 1)) = (join (m.take i)).set (n - 1) ⟨((join (m.take i)).getD (n - 1) dflt).low,max ((join (m.take i)).getD (n - 1) dflt).high (m.getD i dflt).high⟩ := by
  subst e
  obtain ⟨o,ho,hl⟩ := last_split hn
  rw [take_succ_getD m i dflt h,join_up (o := o) (q := (join (m.take i)).getD ((join (m.take i)).length - 1) dflt) ho hq]
  generalize (join (m.take i)).getD ((join (m.take i)).length - 1) dflt = q at *
  rw [← hl]
  conv => rhs; rw [ho]
  simp
theorem join_add {m : List Rg} {i n : Nat} (h : i < m.length) (e : n = (join (m.take i)).length) (hq : n = 0 ∨ ¬ (m.getD i dflt).low ≤ ((join (m.take i)).getD (n - 1) dflt).high + 1) : join (m.take (i + 1)) = join (m.take i) ++ [m.getD i dflt] := by
  subst e
  rw [take_succ_getD m i dflt h]
  refine join_new ?_
  rcases hq with hq | hq
  · exact .inl (List.eq_nil_of_length_eq_zero hq)
  · by_cases h0 : (join (m.take i)).length = 0
    · exact .inl (List.eq_nil_of_length_eq_zero h0)
    · obtain ⟨o,ho,_⟩ := last_split (l := join (m.take i)) (by omega)
      exact .inr ⟨o,_,ho,hq⟩
theorem cnt_bd : ∀ {l : List Rg},Oks l → -(4294967296 * (l.length : Int)) ≤ cnt l ∧ cnt l ≤ 4294967296 * (l.length : Int)
  | [],_ => by simp [cnt]
  | r :: l,h => by
    have ih := cnt_bd (l := l) fun q hq => h q (List.mem_cons_of_mem _ hq)
    have hr := (h r (List.mem_cons_self ..)).all
    have e : cnt (r :: l) = size r + cnt l := by simp [cnt]
    rw [e]; unfold size
    simp only [List.length_cons]
    omega
theorem lows_of {l : List Rg} (h : Srt (ltc cmp) l) : Lows l := by
  refine h.imp ?_
  intro a b hh
  rw [show ltc cmp b a = decide (b.low < a.low) from cmp3_neg] at hh
  simpa using hh
theorem odd_all {l : List Rg} (h : l.any odd = false) : ∀ r,r ∈ l → odd r = false := fun r hr => by
  cases hh : odd r with
  | false => rfl
  | true => rw [List.any_eq_true.2 ⟨r,hr,hh⟩] at h; cases h
theorem pool_odd {l : List Rg} (h : l.any odd = true) : pool l = ([],1) := if_pos h
theorem pool_full {l : List Rg} (h : l.any odd = false) (k : cnt (can l) > 256) : pool l = ([],3) := by unfold pool; rw [if_neg (by simp [h]),if_pos k]
theorem pool_ok {l : List Rg} (h : l.any odd = false) (k : ¬ cnt (can l) > 256) : pool l = (can l,0) := by unfold pool; rw [if_neg (by simp [h]),if_neg k]
theorem pool_len (l : List Rg) : (pool l).1.length ≤ l.length := by
  unfold pool; split
  · simp
  · split
    · simp
    · exact can_len l
theorem pool_oks {l : List Rg} (h : Oks l) : Oks (pool l).1 := by
  unfold pool; split
  · intro r hr; cases hr
  · split
    · intro r hr; cases hr
    · exact can_ok h
end Rg
end Go.K
