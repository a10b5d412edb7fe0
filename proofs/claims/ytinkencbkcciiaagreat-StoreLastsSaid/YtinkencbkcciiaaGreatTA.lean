/- What is known of a pool's addresses, in plain Lean.
Conditions: none; no program in sight. -/
import Derived.Test.YtinkencbkcciiaaGreatLA
import Derived.Test.YtinkencbkcciiaaGreatRB
import Derived.Test.YtinkencbkcciiaaGreatKF
import Derived.Test.YtinkencbkcciiaaGreatKA
set_option linter.unusedSimpArgs false
set_option linter.unusedVariables false
set_option linter.unusedSectionVars false
namespace Go.K
open Go.Sort
namespace Le
instance : Inhabited Le := ⟨Le.dflt⟩
theorem enc1 : Enc Le.cells 8 := ⟨fun _ => rfl,fun _ => rfl⟩
def agg (x : Le) : Value := .agg x.cells.toArray
def mt (l : List Le) : List (Int × Value) := l.map fun x => (x.addr,agg x)
def Ris (l : List Le) : Prop := l.Pairwise fun x y => x.addr < y.addr
def get (l : List Le) (a : Int) : Option Le := l.find? fun x => x.addr == a
theorem mt_get (l : List Le) (a : Int) : mget (mt l) a = (get l a).map agg := by
  unfold mget mt get
  induction l with
  | nil => rfl
  | cons x l ih =>
    simp only [List.map_cons,List.lookup_cons,List.find?_cons,ih]
    by_cases h : x.addr = a
    · subst h; simp
    · have h1 : (a == x.addr) = false := by simp; exact fun e => h e.symm
      have h2 : (x.addr == a) = false := by simp [h]
      rw [h1,h2]
def put (l : List Le) (x : Le) : List Le := l.map fun y => if y.addr = x.addr then x else y
theorem put_len (l : List Le) (x : Le) : (put l x).length = l.length := by unfold put; simp
theorem put_ris {l : List Le} (h : Ris l) (x : Le) : Ris (put l x) := by
  unfold put Ris
  rw [List.pairwise_map]
  refine h.imp fun {a b} hab => ?_
  split <;> split <;> omega
theorem put_same {l : List Le} {x : Le} (h : ∀ y,y ∈ l → y.addr ≠ x.addr) : put l x = l := by
  unfold put
  conv => rhs; rw [← List.map_id l]
  exact List.map_congr_left fun y hy => if_neg (h y hy)
theorem mt_put {l : List Le} (hr : Ris l) {x : Le} (h : get l x.addr ≠ none) : mset (mt l) x.addr (agg x) = mt (put l x) := by
  induction l with
  | nil => exact absurd rfl h
  | cons y l ih =>
    obtain ⟨h1,h2⟩ := List.pairwise_cons.1 hr
    show (if y.addr = x.addr then _ else _) = _
    by_cases e : y.addr = x.addr
    · rw [if_pos e]
      have : put (y :: l) x = x :: l := by
        show (if y.addr = x.addr then x else y) :: put l x = _
        rw [if_pos e,put_same fun z hz => by have := h1 z hz; omega]
      rw [this]; rfl
    · rw [if_neg e]
      have hg : get l x.addr ≠ none := by
        unfold get at h ⊢
        rw [List.find?_cons_of_neg (by simp [e])] at h; exact h
      rw [show List.map (fun x : Le => (x.addr,agg x)) l = mt l from rfl,ih h2 hg]
      show _ = mt ((if y.addr = x.addr then x else y) :: put l x)
      rw [if_neg e]; rfl
theorem get_at {l : List Le} {a : Int} {i : Nat} (h : ∀ j,j < i → (l.getD j dflt).addr ≠ a) (hi : i < l.length) (he : (l.getD i dflt).addr = a) : get l a = some (l.getD i dflt) := by
  unfold get
  induction l generalizing i with
  | nil => simp at hi
  | cons x l ih =>
    cases i with
    | zero => rw [List.find?_cons_of_pos (by simpa using he)]; rfl
    | succ i =>
      have h0 := h 0 (by omega)
      rw [List.find?_cons_of_neg (by simpa using h0)]
      exact ih (i := i) (fun j hj => by have := h (j + 1) (by omega); simpa using this) (by simpa using hi) (by simpa using he)
theorem get_no {l : List Le} {a : Int} (h : ∀ j,j < l.length → (l.getD j dflt).addr ≠ a) : get l a = none := by
  unfold get
  rw [List.find?_eq_none]
  intro x hx
  obtain ⟨i,hi,rfl⟩ := List.getElem_of_mem hx
  have := h i hi
  rw [List.getD_eq_getElem?_getD,List.getElem?_eq_getElem hi] at this
  simpa using this
theorem put_at {l : List Le} (hr : Ris l) {x : Le} {i : Nat} (hi : i < l.length) (he : (l.getD i dflt).addr = x.addr) : l.set i x = put l x := by
  induction l generalizing i with
  | nil => simp at hi
  | cons y l ih =>
    obtain ⟨h1,h2⟩ := List.pairwise_cons.1 hr
    cases i with
    | zero =>
      have he : y.addr = x.addr := he
      show x :: l = (if y.addr = x.addr then x else y) :: put l x
      rw [if_pos he,put_same fun z hz => by have := h1 z hz; omega]
    | succ i =>
      have hi' : i < l.length := by simpa using hi
      have he' : (l.getD i dflt).addr = x.addr := by simpa using he
      have hm : l.getD i dflt ∈ l := by rw [List.getD_eq_getElem?_getD,List.getElem?_eq_getElem hi']; exact List.getElem_mem hi'
      show y :: l.set i x = (if y.addr = x.addr then x else y) :: put l x
      rw [if_neg (by have := h1 _ hm; omega),ih h2 hi' he']
def tm (n : Int) : Bool := decide (n ≥ 0) && decide (n ≤ 1099511627776)
def held (b : Int) : Bool := decide (b ≥ 2) && decide (b ≤ 4)
def right (x : Le) : Bool := tm x.till && tm x.acked && tm x.told && tm x.at_ && tm x.ver && (decide (x.bind ≥ 0) && decide (x.bind ≤ 5)) &&
  (if held x.bind then decide (x.client.size ≥ 1) && decide (x.client.size ≤ 32) else decide (x.client.size = 0) && decide (x.till = 0) && decide (x.acked = 0) && decide (x.told = 0) && decide (x.at_ = 0))
def bare (a b v : Int) : Le := ⟨a,b,⟨#[]⟩,0,0,0,0,v⟩
def setE (l : List Le) (x : Le) : Int × List Le := if right x = false then (1,l) else match get l x.addr with
  | none => (4,l)
  | some _ => (0,put l x)
theorem setE_wrong {l : List Le} {x : Le} (h : right x = false) : setE l x = (1,l) := if_pos h
theorem setE_none {l : List Le} {x : Le} (h : right x = true) (k : get l x.addr = none) : setE l x = (4,l) := by unfold setE; rw [if_neg (by rw [h]; simp),k]
theorem setE_ok {l : List Le} {x y : Le} (h : right x = true) (k : get l x.addr = some y) : setE l x = (0,put l x) := by unfold setE; rw [if_neg (by rw [h]; simp),k]
theorem setE_ris {l : List Le} (h : Ris l) (x : Le) : Ris (setE l x).2 := by
  unfold setE; split
  · exact h
  · split
    · exact h
    · exact put_ris h x
theorem setE_len (l : List Le) (x : Le) : (setE l x).2.length = l.length := by
  unfold setE; split
  · rfl
  · split
    · rfl
    · exact put_len l x
def getE (l : List Le) (a : Int) : Le × Int := match get l a with
  | none => (dflt,4)
  | some x => (x,0)
def bnd (l : List Le) (b : Int) : List Le := l.filter fun x => x.bind == b
def cmpBy (k : Le → Int) (x y : Le) : Int := if Rg.cmp3 (k x) (k y) ≠ 0 then Rg.cmp3 (k x) (k y) else Rg.cmp3 x.addr y.addr
def ltBy (k : Le → Int) (x y : Le) : Prop := k x < k y ∨ (k x = k y ∧ x.addr < y.addr)
theorem cmpBy_neg (k : Le → Int) (x y : Le) : ltc (cmpBy k) x y = true ↔ ltBy k x y := by
  unfold ltc cmpBy ltBy Rg.cmp3
  rw [decide_eq_true_eq]
  repeat' split
  all_goals omega
theorem srtBy {k : Le → Int} {l : List Le} (h : Srt (ltc (cmpBy k)) l) : l.Pairwise fun x y => ¬ ltBy k y x := h.imp fun {x y} e => fun hc => by
  rw [(cmpBy_neg k y x).2 hc] at e; cases e
theorem ris_inj {l : List Le} (h : Ris l) {x y : Le} (hx : x ∈ l) (hy : y ∈ l) (e : x.addr = y.addr) : x = y := by
  induction l with
  | nil => cases hx
  | cons z l ih =>
    obtain ⟨h1,h2⟩ := List.pairwise_cons.1 h
    rcases List.mem_cons.1 hx with hx' | hx' <;> rcases List.mem_cons.1 hy with hy' | hy'
    · rw [hx',hy']
    · subst hx'; have := h1 y hy'; omega
    · subst hy'; have := h1 x hx'; omega
    · exact ih h2 hx' hy'
theorem uniq_by {k : Le → Int} : ∀ {l m : List Le},(∀ x y,x ∈ l → y ∈ l → x.addr = y.addr → x = y) → l.Pairwise (fun x y => ¬ ltBy k y x) → m.Pairwise (fun x y => ¬ ltBy k y x) → l.Perm m → l = m
  | [],m,_,_,_,p => (List.Perm.eq_nil p.symm).symm
  | x :: l,[],_,_,_,p => absurd p.length_eq (by simp)
  | x :: l,y :: m,hi,h1,h2,p => by
    obtain ⟨a1,a2⟩ := List.pairwise_cons.1 h1
    obtain ⟨b1,b2⟩ := List.pairwise_cons.1 h2
    have hy : y ∈ x :: l := p.mem_iff.2 (List.mem_cons_self ..)
    have hx : x ∈ y :: m := p.mem_iff.1 (List.mem_cons_self ..)
    have e : x = y := by
      rcases List.mem_cons.1 hy with e | hy'
      · exact e.symm
      · rcases List.mem_cons.1 hx with e | hx'
        · exact e
        · have c1 := a1 y hy'
          have c2 := b1 x hx'
          refine hi x y (List.mem_cons_self ..) hy ?_
          unfold ltBy at c1 c2; omega
    subst e
    rw [uniq_by (fun u v hu hv => hi u v (List.mem_cons_of_mem _ hu) (List.mem_cons_of_mem _ hv)) a2 b2 (p.cons_inv)]
theorem uniq_of {k : Le → Int} {l m t : List Le} (hr : Ris t) (ht : ∀ x,x ∈ l → x ∈ t) (h1 : l.Pairwise fun x y => ¬ ltBy k y x) (h2 : m.Pairwise fun x y => ¬ ltBy k y x) (p : l.Perm m) : l = m :=
  uniq_by (fun x y hx hy e => ris_inj hr (ht x hx) (ht y hy) e) h1 h2 p
theorem ris_alike {l : List Le} (h : Ris l) : l.Pairwise fun x y => ¬ ltBy (fun _ => 0) y x := h.imp fun {x y} e => by unfold ltBy; dsimp only; omega
end Le
end Go.K
namespace Go.K
open Go.Sort
namespace Le
def yv (s : Le) : List Value := [agg s]
theorem tm_iff {n : Int} : tm n = true ↔ 0 ≤ n ∧ n ≤ 1099511627776 := by unfold tm; simp
theorem tm_t {n : Int} (h : tm n = true) : 0 ≤ n ∧ n ≤ 1099511627776 := tm_iff.1 h
theorem tm_f {n : Int} (h : tm n = false) : ¬ (0 ≤ n ∧ n ≤ 1099511627776) := fun hc => by rw [tm_iff.2 hc] at h; cases h
theorem held_iff {b : Int} : held b = true ↔ 2 ≤ b ∧ b ≤ 4 := by unfold held; simp
theorem held_t {b : Int} (h : held b = true) : 2 ≤ b ∧ b ≤ 4 := held_iff.1 h
theorem held_f {b : Int} (h : held b = false) : ¬ (2 ≤ b ∧ b ≤ 4) := fun hc => by rw [held_iff.2 hc] at h; cases h
def tms (x : Le) (i : Nat) : Int := [x.till,x.acked,x.told,x.at_,x.ver].getD i 0
theorem right_iff {x : Le} : right x = true ↔ (0 ≤ x.till ∧ x.till ≤ 1099511627776) ∧ (0 ≤ x.acked ∧ x.acked ≤ 1099511627776) ∧ (0 ≤ x.told ∧ x.told ≤ 1099511627776) ∧ (0 ≤ x.at_ ∧ x.at_ ≤ 1099511627776) ∧ (0 ≤ x.ver ∧ x.ver ≤ 1099511627776) ∧ (0 ≤ x.bind ∧ x.bind ≤ 5) ∧
    ((2 ≤ x.bind ∧ x.bind ≤ 4) ∧ (1 ≤ x.client.size ∧ x.client.size ≤ 32) ∨ ¬ (2 ≤ x.bind ∧ x.bind ≤ 4) ∧ x.client.size = 0 ∧ x.till = 0 ∧ x.acked = 0 ∧ x.told = 0 ∧ x.at_ = 0) := by
  unfold right
  by_cases h : held x.bind = true
  · have hb := held_iff.1 h
    rw [if_pos h]
    simp only [Bool.and_eq_true,tm_iff,decide_eq_true_eq]
    constructor
    · rintro ⟨⟨⟨⟨⟨⟨h1,h2⟩,h3⟩,h4⟩,h5⟩,h6⟩,h7⟩
      exact ⟨h1,h2,h3,h4,h5,by omega,.inl ⟨hb,by omega⟩⟩
    · rintro ⟨h1,h2,h3,h4,h5,h6,h7⟩
      refine ⟨⟨⟨⟨⟨⟨h1,h2⟩,h3⟩,h4⟩,h5⟩,by omega⟩,by omega⟩
  · have hb : ¬ (2 ≤ x.bind ∧ x.bind ≤ 4) := fun hc => h (held_iff.2 hc)
    rw [if_neg h]
    simp only [Bool.and_eq_true,tm_iff,decide_eq_true_eq]
    constructor
    · rintro ⟨⟨⟨⟨⟨⟨h1,h2⟩,h3⟩,h4⟩,h5⟩,h6⟩,⟨⟨⟨h7,h8⟩,h9⟩,h10⟩,h11⟩
      exact ⟨h1,h2,h3,h4,h5,by omega,.inr ⟨hb,h7,h8,h9,h10,h11⟩⟩
    · rintro ⟨h1,h2,h3,h4,h5,h6,h7⟩
      refine ⟨⟨⟨⟨⟨⟨h1,h2⟩,h3⟩,h4⟩,h5⟩,by omega⟩,⟨⟨⟨?_,?_⟩,?_⟩,?_⟩,?_⟩ <;> omega
theorem right_f {x : Le} (h : ¬ ((0 ≤ x.till ∧ x.till ≤ 1099511627776) ∧ (0 ≤ x.acked ∧ x.acked ≤ 1099511627776) ∧ (0 ≤ x.told ∧ x.told ≤ 1099511627776) ∧ (0 ≤ x.at_ ∧ x.at_ ≤ 1099511627776) ∧ (0 ≤ x.ver ∧ x.ver ≤ 1099511627776) ∧ (0 ≤ x.bind ∧ x.bind ≤ 5) ∧
    ((2 ≤ x.bind ∧ x.bind ≤ 4) ∧ (1 ≤ x.client.size ∧ x.client.size ≤ 32) ∨ ¬ (2 ≤ x.bind ∧ x.bind ≤ 4) ∧ x.client.size = 0 ∧ x.till = 0 ∧ x.acked = 0 ∧ x.told = 0 ∧ x.at_ = 0))) : false = right x := by
  cases hr : right x with
  | false => rfl
  | true => exact absurd (right_iff.1 hr) h
theorem right_d {x : Le} {p : Prop} [Decidable p] (h : p ↔ ((0 ≤ x.till ∧ x.till ≤ 1099511627776) ∧ (0 ≤ x.acked ∧ x.acked ≤ 1099511627776) ∧ (0 ≤ x.told ∧ x.told ≤ 1099511627776) ∧ (0 ≤ x.at_ ∧ x.at_ ≤ 1099511627776) ∧ (0 ≤ x.ver ∧ x.ver ≤ 1099511627776) ∧ (0 ≤ x.bind ∧ x.bind ≤ 5) ∧
    ((2 ≤ x.bind ∧ x.bind ≤ 4) ∧ (1 ≤ x.client.size ∧ x.client.size ≤ 32) ∨ ¬ (2 ≤ x.bind ∧ x.bind ≤ 4) ∧ x.client.size = 0 ∧ x.till = 0 ∧ x.acked = 0 ∧ x.told = 0 ∧ x.at_ = 0))) : decide p = right x := by
  rw [Bool.eq_iff_iff,decide_eq_true_eq,right_iff]; exact h
def same (x y : Le) : Bool := eqVs x.cells y.cells
theorem same_self (x : Le) : same x x = true := by simp [same,cells,eqVs,eqV]
theorem same_eq {x y : Le} : same x y = true ↔ x = y := by
  constructor
  · intro h
    simp only [same,cells,eqVs,eqV,Bool.and_eq_true,beq_iff_eq,Bool.and_true] at h
    obtain ⟨h1,h2,h3,h4,h5,h6,h7,h8⟩ := h
    have h3 : x.client = y.client := by
      apply ByteArray.ext; apply Array.toList_inj.1
      rw [ByteArray.toList_eq,ByteArray.toList_eq] at h3; exact h3
    cases x; cases y; simp_all
  · rintro rfl; exact same_self x
theorem same_of {x y : Le} (h : x = y) : same x y = true := same_eq.2 h
theorem nil_size {s : ByteArray} : s = ⟨#[]⟩ ↔ s.size = 0 := by
  constructor
  · rintro rfl; rfl
  · intro h; apply ByteArray.ext; exact Array.eq_empty_of_size_eq_zero h
theorem str0 (s : ByteArray) : (s.toList == (⟨#[]⟩ : ByteArray).toList) = decide (s.size = 0) := by
  have h1 : s.toList.length = s.size := by rw [ByteArray.toList_eq]; simp
  have h2 : (⟨#[]⟩ : ByteArray).toList = [] := by rw [ByteArray.toList_eq]
  rw [h2]
  cases h : s.toList with
  | nil => rw [h] at h1; simp at h1; simp [← h1]
  | cons x l => rw [h] at h1; simp at h1; simp [← h1]
theorem str0_t {s : ByteArray} (h : (s.toList == (⟨#[]⟩ : ByteArray).toList) = true) : s.size = 0 := by rw [str0] at h; exact of_decide_eq_true h
theorem str0_f {s : ByteArray} (h : (s.toList == (⟨#[]⟩ : ByteArray).toList) = false) : 1 ≤ s.size := by rw [str0] at h; have := of_decide_eq_false h; omega
theorem same_bare {x : Le} : same x ⟨x.addr,x.bind,⟨#[]⟩,0,0,0,0,x.ver⟩ = true ↔ x.client.size = 0 ∧ x.till = 0 ∧ x.acked = 0 ∧ x.told = 0 ∧ x.at_ = 0 := by
  rw [same_eq,← nil_size]
  constructor
  · intro h; rw [h]; exact ⟨rfl,rfl,rfl,rfl,rfl⟩
  · rintro ⟨h1,h2,h3,h4,h5⟩; cases x; simp_all
theorem right_s {x : Le} (h1 : (0 ≤ x.till ∧ x.till ≤ 1099511627776) ∧ (0 ≤ x.acked ∧ x.acked ≤ 1099511627776) ∧ (0 ≤ x.told ∧ x.told ≤ 1099511627776) ∧ (0 ≤ x.at_ ∧ x.at_ ≤ 1099511627776) ∧ (0 ≤ x.ver ∧ x.ver ≤ 1099511627776)) (h2 : 0 ≤ x.bind ∧ x.bind ≤ 5) (h3 : ¬ (2 ≤ x.bind ∧ x.bind ≤ 4)) : same x ⟨x.addr,x.bind,⟨#[]⟩,0,0,0,0,x.ver⟩ = right x := by
  rw [Bool.eq_iff_iff,same_bare,right_iff]
  constructor
  · intro h; exact ⟨h1.1,h1.2.1,h1.2.2.1,h1.2.2.2.1,h1.2.2.2.2,h2,.inr ⟨h3,h⟩⟩
  · rintro ⟨_,_,_,_,_,_,h | h⟩
    · exact absurd h.1 h3
    · exact h.2
theorem tms_all {x : Le} (h : ∀ j,j < 5 → tm (tms x j) = true) : (0 ≤ x.till ∧ x.till ≤ 1099511627776) ∧ (0 ≤ x.acked ∧ x.acked ≤ 1099511627776) ∧ (0 ≤ x.told ∧ x.told ≤ 1099511627776) ∧ (0 ≤ x.at_ ∧ x.at_ ≤ 1099511627776) ∧ (0 ≤ x.ver ∧ x.ver ≤ 1099511627776) :=
  ⟨tm_iff.1 (h 0 (by omega)),tm_iff.1 (h 1 (by omega)),tm_iff.1 (h 2 (by omega)),tm_iff.1 (h 3 (by omega)),tm_iff.1 (h 4 (by omega))⟩
theorem tms_not {x : Le} {j : Nat} (hj : j < 5) (h : tms x j < 0 ∨ tms x j > 1099511627776) : false = right x := by
  refine right_f fun hc => ?_
  match j,hj with
  | 0,_ => have h : x.till < 0 ∨ x.till > 1099511627776 := h; omega
  | 1,_ => have h : x.acked < 0 ∨ x.acked > 1099511627776 := h; omega
  | 2,_ => have h : x.told < 0 ∨ x.told > 1099511627776 := h; omega
  | 3,_ => have h : x.at_ < 0 ∨ x.at_ > 1099511627776 := h; omega
  | 4,_ => have h : x.ver < 0 ∨ x.ver > 1099511627776 := h; omega
def ofv : Value → Le
  | .agg c => match c.toList with
    | [.int _ a,.int _ b,.string s,.int _ t,.int _ k,.int _ d,.int _ e,.int _ v] => ⟨a,b,s,t,k,d,e,v⟩
    | _ => dflt
  | _ => dflt
theorem mt_perm {l m : List Le} (h : (mt l).Perm (mt m)) : l.Perm m := by
  have h1 := h.map fun p => ofv p.2
  have e : ∀ l : List Le,(mt l).map (fun p => ofv p.2) = l := fun l => by
    unfold mt; rw [List.map_map]
    conv => rhs; rw [← List.map_id l]
    rfl
  rw [e,e] at h1; exact h1
theorem mt_snoc (l : List Le) (x : Le) : mt (l ++ [x]) = mt l ++ [(x.addr,agg x)] := by unfold mt; simp
theorem mt_len (l : List Le) : (mt l).length = l.length := by unfold mt; simp
theorem mt_mem {l : List Le} {k : Int} {u : Value} (h : (k,u) ∈ mt l) : ∃ x,x ∈ l ∧ k = x.addr ∧ u = agg x := by
  obtain ⟨x,hx,he⟩ := List.mem_map.1 h
  simp only [Prod.mk.injEq] at he
  exact ⟨x,hx,he.1.symm,he.2.symm⟩
theorem fil_yes {f : Le → Bool} {l : List Le} {x : Le} (h : f x = true) : (l ++ [x]).filter f = l.filter f ++ [x] := by rw [List.filter_append]; simp [h]
theorem fil_no {f : Le → Bool} {l : List Le} {x : Le} (h : f x = false) : (l ++ [x]).filter f = l.filter f := by rw [List.filter_append]; simp [h]
theorem fil_le (f : Le → Bool) (l : List Le) : (l.filter f).length ≤ l.length := List.length_filter_le f l
theorem sorted_eq {k : Le → Int} {f : Le → Bool} {l xs ys z : List Le} (hr : Ris l) (h1 : xs.Perm (l.filter f)) (h2 : ys.Perm xs) (h3 : Srt (ltc (cmpBy k)) ys) (hz : z.Perm (l.filter f)) (hs : z.Pairwise fun x y => ¬ ltBy k y x) : ys = z :=
  uniq_of hr (fun x hx => (List.mem_filter.1 ((h2.trans h1).mem_iff.1 hx)).1) (srtBy h3) hs ((h2.trans h1).trans hz.symm)
theorem swoBy (k : Le → Int) : SWO (ltc (cmpBy k)) := by
  have e : ∀ x y : Le,ltc (cmpBy k) x y = decide (k x < k y ∨ (k x = k y ∧ x.addr < y.addr)) := fun x y => Bool.eq_iff_iff.2 ((cmpBy_neg k x y).trans (decide_eq_true_iff (p := k x < k y ∨ (k x = k y ∧ x.addr < y.addr))).symm)
  constructor
  all_goals simp only [e]
  · intro x; rw [decide_eq_false_iff_not]; omega
  · intro x y z h1 h2; rw [decide_eq_true_eq] at *; omega
  · intro x y z h1 h2; rw [decide_eq_false_iff_not] at *; omega
end Le
end Go.K
