/- Slices that are sorted in place: the rows of an owned block as an array of elements; loads, stores, indices by their numbers.
Conditions: as each theorem names them; nothing here speaks of a program. -/
import Derived.Test.YtinkencbkcciiaaGreatKB
import Derived.Sort.LotA
import Derived.Sort.LotB
import Derived.Sort.LotC
import Derived.Sort.LotD3
set_option linter.unusedSimpArgs false
set_option linter.unusedVariables false
set_option linter.unusedSectionVars false
namespace Go.K
open Go.Sort
def cel {α : Type} (enc : α → List Value) (d : Array α) (rest : List Value) : List Value := d.toList.flatMap enc ++ rest
def sgD {α : Type} (enc : α → List Value) (e : TypeId) (b : Nat) (rest : List Value) (d : Array α) : Sg := [(b,.cells (cel enc d rest).toArray e (0,0))]
structure Enc {α : Type} (enc : α → List Value) (k : Nat) : Prop where
  len : ∀ x,(enc x).length = k
  one : ∀ x,(enc x).all one = true
theorem flat_len {α : Type} {enc : α → List Value} {k : Nat} (h : Enc enc k) : ∀ l : List α,(l.flatMap enc).length = l.length * k
  | [] => by simp
  | x :: l => by rw [List.flatMap_cons,List.length_append,h.len,flat_len h l,List.length_cons,Nat.add_mul]; omega
theorem flat_at {α : Type} {enc : α → List Value} {k : Nat} (h : Enc enc k) (r : List Value) : ∀ (l : List α) (i j : Nat) (x : α),l[i]? = some x → j < k → (l.flatMap enc ++ r)[i * k + j]? = (enc x)[j]?
  | [],i,j,x,hx,_ => by simp at hx
  | y :: l,0,j,x,hx,hj => by
    simp at hx; subst hx
    rw [List.flatMap_cons,List.append_assoc,List.getElem?_append_left (by rw [h.len]; omega)]; simp
  | y :: l,i + 1,j,x,hx,hj => by
    rw [List.flatMap_cons,List.append_assoc,List.getElem?_append_right (by rw [h.len,Nat.add_mul]; omega),h.len,show (i + 1) * k + j - k = i * k + j by rw [Nat.add_mul]; omega]
    exact flat_at h r l i j x (by simpa using hx) hj
theorem setL_append : ∀ (vs a b : List Value) (off : Nat),a.length ≤ off → setL (a ++ b) off vs = a ++ setL b (off - a.length) vs
  | [],a,b,off,h => rfl
  | v :: vs,a,b,off,h => by
    rw [setL,setL,List.set_append_right _ _ h,setL_append vs a _ (off + 1) (by omega),show off + 1 - a.length = off - a.length + 1 by omega]
theorem setL_here : ∀ (vs p b : List Value),vs.length = p.length → ∀ q,setL (q ++ (p ++ b)) q.length vs = q ++ (vs ++ b)
  | [], p, b, h, q => by cases p; · rfl
                         · simp at h
  | v :: vs,[],b,h,q => by simp at h
  | v :: vs,u :: p,b,h,q => by
    have e : (q ++ (u :: p ++ b)).set q.length v = (q ++ [v]) ++ (p ++ b) := by simp
    rw [setL,e,show q.length + 1 = (q ++ [v]).length by simp,setL_here vs p b (by simpa using h) (q ++ [v])]; simp
theorem flat_set {α : Type} {enc : α → List Value} {k : Nat} (h : Enc enc k) (r : List Value) (x : α) : ∀ (l : List α) (i : Nat),i < l.length → setL (l.flatMap enc ++ r) (i * k) (enc x) = (l.set i x).flatMap enc ++ r
  | [],i,hi => by simp at hi
  | y :: l,0,hi => by
    have := setL_here (enc x) (enc y) (l.flatMap enc ++ r) (by rw [h.len,h.len]) []
    simpa using this
  | y :: l,i + 1,hi => by
    rw [List.flatMap_cons,List.append_assoc,setL_append _ _ _ _ (by rw [h.len,Nat.add_mul]; omega),h.len,show (i + 1) * k - k = i * k by rw [Nat.add_mul]; omega,flat_set h r x l i (by simpa using hi)]
    simp [List.set_cons_succ]
section
variable {α : Type} [Inhabited α] {enc : α → List Value} {k : Nat}
theorem cel_at (h : Enc enc k) {d : Array α} {rest : List Value} {i j : Nat} (hi : i < d.size) (hj : j < k) : (cel enc d rest).toArray[i * k + j]? = (enc d[i]!)[j]? := by
  rw [List.getElem?_toArray]
  exact flat_at h rest d.toList i j d[i]! (by rw [getElem!_pos d i hi]; simp [hi]) hj
theorem cellsAt_eq {c : Array Value} {off : Nat} : ∀ (l : List Value) (o : Nat),(∀ j,j < l.length → c[off + o + j]? = l[j]?) → cellsAt c (off + o) l.length = some l
  | [],o,_ => rfl
  | v :: l,o,h => by
    have h0 := h 0 (by simp)
    simp at h0
    show (match c[off + o]?,cellsAt c (off + o + 1) l.length with | some v,some vs => some (v :: vs) | _,_ => none) = _
    rw [h0,Nat.add_assoc,cellsAt_eq l (o + 1) (fun j hj => by have := h (j + 1) (by simpa using hj); rw [show off + (o + 1) + j = off + o + (j + 1) by omega]; simpa using this)]
theorem cel_cells (h : Enc enc k) {d : Array α} {rest : List Value} {i : Nat} (hi : i < d.size) : cellsAt (cel enc d rest).toArray (i * k) k = some (enc d[i]!) := by
  have := cellsAt_eq (c := (cel enc d rest).toArray) (off := i * k) (enc d[i]!) 0 (fun j hj => by rw [h.len] at hj; simpa using cel_at h hi hj)
  rw [h.len] at this; simpa using this
omit [Inhabited α] in
theorem cel_set (h : Enc enc k) {d : Array α} {rest : List Value} {i : Nat} (hi : i < d.size) (x : α) : setL (cel enc d rest) (i * k) (enc x) = cel enc (d.setIfInBounds i x) rest := by
  unfold cel; rw [flat_set h rest x d.toList i (by simpa using hi)]; simp
omit [Inhabited α] in
theorem cel_len (h : Enc enc k) {d : Array α} {rest : List Value} : (cel enc d rest).length = d.size * k + rest.length := by
  unfold cel; rw [List.length_append,flat_len h]; simp
end
section
variable {C : Cx} {V : Vw} {H : Hp} {L : Sl} {Q : Exit → Act → World → Prop} {ops : Array Oper} {os : List Oper} {ty : TypeId} {pos : String} {aft : Array Edge}
variable {α : Type} [Inhabited α] {enc : α → List Value} {k : Nat}
theorem Y.idxN {x y : Operand} {t e : TypeId} {z : Nat} {b n c : Nat} {kk : IntKind} {m : Int} (i : Nat) (hx : ev L x = some (.slice (some ⟨b,0,none⟩) n c)) (hy : ev L y = some (.int kk m)) (ht : elemS C.P t = some (e,z)) (hm : m = (i : Int)) (h1 : i < n) :
    Yl C V H L (.indexAddr t x y) ty (.pointer (some ⟨b,i * z,none⟩)) := by
  subst hm
  have := Y.idxAddr (C := C) (V := V) (H := H) (L := L) (ty := ty) hx hy ht (by omega) (by simpa using h1)
  simpa using this
theorem Y.ldA {x : Operand} {b e i z : Nat} {t : TypeId} {d : Array α} {rest : List Value} {vs : List Value} (hx : ev L x = some (.pointer (some ⟨b,i * z,none⟩))) (ht : aggsz C.P t = some z) (hk : Kn V H b (.cells (cel enc d rest).toArray e (0,0))) (he : Enc enc z) (hi : i < d.size) (hv : enc d[i]! = vs) :
    Yl C V H L (.load t x) ty (.agg vs.toArray) :=
  Y.loadAgg hx ht hk (by rw [cel_cells he hi,hv])
theorem Run.stD {x y : Operand} {b e i s z : Nat} {t : TypeId} {d : Array α} {rest : List Value} {v : Value} (u : α) (hx : ev L x = some (.pointer (some ⟨b,i * z,none⟩))) (hy : ev L y = some v) (ht : sizeT C.P t = some z) (hH : H[s]? = some (sgD enc e b rest d)) (he : Enc enc z) (hi : i < d.size) (hv : v.cells.toList = enc u)
    (kk : Run C ops V (H.set s (sgD enc e b rest (d.setIfInBounds i u))) L os Q) : Run C ops V H L (⟨none,.store t x y,ty,pos,aft,none⟩ :: os) Q :=
  Run.store hx hy ht hH (by rw [← Array.length_toList,hv,he.len]) (by rw [cel_len he]; have := Nat.mul_le_mul_right z (show i + 1 ≤ d.size from hi); rw [Nat.add_mul] at this; omega) (by rw [hv]; exact he.one u)
    (by rw [hv,cel_set he hi]; rfl) kk
theorem Y.addN {x y : Operand} {m n : Int} {t t' : TypeId} (r : Int) (hx : ev L x = some (.int .i64 m)) (hy : ev L y = some (.int .i64 n)) (hr : m + n = r) (h : -9223372036854775808 ≤ r ∧ r ≤ 9223372036854775807) : Yl C V H L (.binOp .add t x y t') ty (.int .i64 r) := by
  subst hr; exact Y.add hx hy h
theorem Y.subN {x y : Operand} {m n : Int} {t t' : TypeId} (r : Int) (hx : ev L x = some (.int .i64 m)) (hy : ev L y = some (.int .i64 n)) (hr : m - n = r) (h : -9223372036854775808 ≤ r ∧ r ≤ 9223372036854775807) : Yl C V H L (.binOp .sub t x y t') ty (.int .i64 r) := by
  subst hr; exact Y.sub hx hy h
theorem Y.mulN {x y : Operand} {m n : Int} {t t' : TypeId} (r : Int) (hx : ev L x = some (.int .i64 m)) (hy : ev L y = some (.int .i64 n)) (hr : m * n = r) (h : -9223372036854775808 ≤ r ∧ r ≤ 9223372036854775807) : Yl C V H L (.binOp .mul t x y t') ty (.int .i64 r) := by
  subst hr; exact Y.mul hx hy h
theorem Y.quoN {x y : Operand} {m n : Nat} {t t' : TypeId} (hx : ev L x = some (.int .i64 (m : Int))) (hy : ev L y = some (.int .i64 (n : Int))) (hn : 0 < n) (h : m ≤ 9223372036854775807) : Yl C V H L (.binOp .quo t x y t') ty (.int .i64 ((m / n : Nat) : Int)) :=
  Y.quo _ hx hy (by omega) (by
    have e : (m : Int).tdiv (n : Int) = ((m / n : Nat) : Int) := rfl
    rw [e]; have h2 := Nat.div_le_self m n; generalize m / n = q at *; exact wrap_i64 ⟨by omega,by omega⟩)
end
section
variable {α : Type} [Inhabited α] {lt : α → α → Bool}
theorem insInner_go {a j : Nat} {d : Array α} (h : a < j) (hl : lt d[j]! d[j - 1]! = true) : insInner lt a j d = insInner lt a (j - 1) (swp d j (j - 1)) := by
  obtain ⟨j,rfl⟩ : ∃ j',j = j' + 1 := ⟨j - 1,by omega⟩
  simp only [Nat.add_sub_cancel] at hl
  rw [insInner,if_pos (by simp [hl]; omega)]; rfl
theorem insInner_stop {a j : Nat} {d : Array α} (h : j ≤ a ∨ lt d[j]! d[j - 1]! = false) : insInner lt a j d = d := by
  cases j with
  | zero => rfl
  | succ j =>
    simp only [Nat.add_sub_cancel] at h
    rw [insInner,if_neg]
    rcases h with h | h <;> simp [h] <;> omega
theorem insOuter_go {a b i : Nat} {d : Array α} (h : i < b) : insOuter lt a b i d = insOuter lt a b (i + 1) (insInner lt a i d) := by rw [insOuter,if_pos h]
theorem insOuter_stop {a b i : Nat} {d : Array α} (h : b ≤ i) : insOuter lt a b i d = d := by rw [insOuter,if_neg (by omega)]
end
end Go.K
namespace Go.K
open Go.Sort
section
variable {α : Type} [Inhabited α] {lt : α → α → Bool}
def up1 (lt : α → α → Bool) (d : Array α) (a j i : Nat) : Nat := scanUp (fun z => lt z d[a]!) d j i
def dn1 (lt : α → α → Bool) (d : Array α) (a i j : Nat) : Nat := scanDown (fun z => !lt z d[a]!) d i j
def up2 (lt : α → α → Bool) (d : Array α) (a j i : Nat) : Nat := scanUp (fun z => !lt d[a]! z) d j i
def dn2 (lt : α → α → Bool) (d : Array α) (a i j : Nat) : Nat := scanDown (fun z => lt d[a]! z) d i j
theorem scanUp_go {p : α → Bool} {d : Array α} {j i : Nat} (h : i ≤ j) (hp : p d[i]! = true) : scanUp p d j (i + 1) = scanUp p d j i := by
  rw [scanUp.eq_def p d j i,if_pos (by simp [h,hp])]
theorem scanUp_stop {p : α → Bool} {d : Array α} {j i : Nat} (h : j < i ∨ p d[i]! = false) : scanUp p d j i = i := by
  rw [scanUp,if_neg]
  rcases h with h | h
  · simp; omega
  · simp [h]
theorem scanDown_go {p : α → Bool} {d : Array α} {j i : Nat} (h : i ≤ j) (h1 : 1 ≤ j) (hp : p d[j]! = true) : scanDown p d i (j - 1) = scanDown p d i j := by
  obtain ⟨j,rfl⟩ : ∃ k,j = k + 1 := ⟨j - 1,by omega⟩
  rw [scanDown.eq_2,if_pos (by simp [h,hp])]; rfl
theorem scanDown_stop {p : α → Bool} {d : Array α} {j i : Nat} (h1 : 1 ≤ i) (h : j < i ∨ p d[j]! = false) : scanDown p d i j = j := by
  cases j with
  | zero => rfl
  | succ j =>
    rw [scanDown,if_neg]
    rcases h with h | h
    · simp; omega
    · simp [h]
section
variable {d : Array α} {a i j : Nat}
theorem up1_go (h : i ≤ j) (hl : lt d[i]! d[a]! = true) : up1 lt d a j (i + 1) = up1 lt d a j i := scanUp_go h hl
theorem up1_stop (h : j < i ∨ lt d[i]! d[a]! = false) : up1 lt d a j i = i := scanUp_stop h
theorem dn1_go (h : i ≤ j) (h1 : 1 ≤ i) (hl : lt d[j]! d[a]! = false) : dn1 lt d a i (j - 1) = dn1 lt d a i j := scanDown_go h (by omega) (by simp [hl])
theorem dn1_stop (h1 : 1 ≤ i) (h : j < i ∨ lt d[j]! d[a]! = true) : dn1 lt d a i j = j := scanDown_stop h1 (h.imp id fun e => by simp [e])
theorem up2_go (h : i ≤ j) (hl : lt d[a]! d[i]! = false) : up2 lt d a j (i + 1) = up2 lt d a j i := scanUp_go h (by simp [hl])
theorem up2_stop (h : j < i ∨ lt d[a]! d[i]! = true) : up2 lt d a j i = i := scanUp_stop (h.imp id fun e => by simp [e])
theorem dn2_go (h : i ≤ j) (h1 : 1 ≤ i) (hl : lt d[a]! d[j]! = true) : dn2 lt d a i (j - 1) = dn2 lt d a i j := scanDown_go h (by omega) hl
theorem dn2_stop (h1 : 1 ≤ i) (h : j < i ∨ lt d[a]! d[j]! = false) : dn2 lt d a i j = j := scanDown_stop h1 h
end
theorem up1_at {d : Array α} {a i j i1 : Nat} (h : up1 lt d a j i = i1) (h2 : i1 ≤ j) : lt d[i1]! d[a]! = false := by subst h; exact (scanUp_spec (fun z => lt z d[a]!) d j _ i rfl).2.2.2 h2
theorem dn1_at {d : Array α} {a i j j1 : Nat} (h : dn1 lt d a i j = j1) (h2 : i ≤ j1) (h3 : 0 < j1) : lt d[j1]! d[a]! = true := by
  unfold dn1 at h; subst h; have := (scanDown_spec (fun z => !lt z d[a]!) d i j).2.2.2 h2 h3; simpa using this
theorem cross1 {d : Array α} {a i j i1 j1 : Nat} (h : up1 lt d a j i = i1) (h2 : dn1 lt d a i1 j = j1) (h3 : ¬ j1 < i1) (h4 : 1 ≤ i1) (h5 : j1 ≤ j) : i1 < j1 := by
  rcases Nat.lt_or_ge i1 j1 with q | q
  · exact q
  · obtain rfl : i1 = j1 := by omega
    have e1 := up1_at h h5
    rw [dn1_at h2 (Nat.le_refl _) (by omega)] at e1; cases e1
theorem up2_at {d : Array α} {a i j i1 : Nat} (h : up2 lt d a j i = i1) (h2 : i1 ≤ j) : lt d[a]! d[i1]! = true := by
  unfold up2 at h; subst h; have := (scanUp_spec (fun z => !lt d[a]! z) d j _ i rfl).2.2.2 h2; simpa using this
theorem dn2_at {d : Array α} {a i j j1 : Nat} (h : dn2 lt d a i j = j1) (h2 : i ≤ j1) (h3 : 0 < j1) : lt d[a]! d[j1]! = false := by
  subst h; exact (scanDown_spec (fun z => lt d[a]! z) d i j).2.2.2 h2 h3
theorem cross2 {d : Array α} {a i j i1 j1 : Nat} (h : up2 lt d a j i = i1) (h2 : dn2 lt d a i1 j = j1) (h3 : ¬ j1 < i1) (h4 : 1 ≤ i1) (h5 : j1 ≤ j) : i1 < j1 := by
  rcases Nat.lt_or_ge i1 j1 with q | q
  · exact q
  · obtain rfl : i1 = j1 := by omega
    have e1 := up2_at h h5
    rw [dn2_at h2 (Nat.le_refl _) (by omega)] at e1; cases e1
theorem partLoop_end {a i j i1 j1 : Nat} {d : Array α} (hi : up1 lt d a j i = i1) (hj : dn1 lt d a i1 j = j1) (h : j1 < i1) : partLoop lt a i j d = (j1,d) := by
  subst hi; subst hj
  rw [partLoop_eq]; exact if_pos h
theorem partLoop_go {a i j i1 j1 : Nat} {d : Array α} (hi : up1 lt d a j i = i1) (hj : dn1 lt d a i1 j = j1) (h : ¬ j1 < i1) : partLoop lt a i j d = partLoop lt a (i1 + 1) (j1 - 1) (swp d i1 j1) := by
  subst hi; subst hj
  rw [partLoop_eq]; exact if_neg h
theorem partition_one {a b p i1 j1 : Nat} {d : Array α} (hi : up1 lt (swp d a p) a (b - 1) (a + 1) = i1) (hj : dn1 lt (swp d a p) a i1 (b - 1) = j1) (h : j1 < i1) : partition lt d a b p = (j1,true,swp (swp d a p) j1 a) := by
  subst hi; subst hj
  unfold partition; exact if_pos h
theorem partition_two {a b p i1 j1 j2 : Nat} {d d2 : Array α} (hi : up1 lt (swp d a p) a (b - 1) (a + 1) = i1) (hj : dn1 lt (swp d a p) a i1 (b - 1) = j1) (h : ¬ j1 < i1)
    (h2 : partLoop lt a (i1 + 1) (j1 - 1) (swp (swp d a p) i1 j1) = (j2,d2)) : partition lt d a b p = (j2,false,swp d2 j2 a) := by
  subst hi; subst hj
  have e : partition lt d a b p = ((partLoop lt a (up1 lt (swp d a p) a (b - 1) (a + 1) + 1) (dn1 lt (swp d a p) a (up1 lt (swp d a p) a (b - 1) (a + 1)) (b - 1) - 1) (swp (swp d a p) (up1 lt (swp d a p) a (b - 1) (a + 1)) (dn1 lt (swp d a p) a (up1 lt (swp d a p) a (b - 1) (a + 1)) (b - 1)))).1,false,
      swp (partLoop lt a (up1 lt (swp d a p) a (b - 1) (a + 1) + 1) (dn1 lt (swp d a p) a (up1 lt (swp d a p) a (b - 1) (a + 1)) (b - 1) - 1) (swp (swp d a p) (up1 lt (swp d a p) a (b - 1) (a + 1)) (dn1 lt (swp d a p) a (up1 lt (swp d a p) a (b - 1) (a + 1)) (b - 1)))).2
        (partLoop lt a (up1 lt (swp d a p) a (b - 1) (a + 1) + 1) (dn1 lt (swp d a p) a (up1 lt (swp d a p) a (b - 1) (a + 1)) (b - 1) - 1) (swp (swp d a p) (up1 lt (swp d a p) a (b - 1) (a + 1)) (dn1 lt (swp d a p) a (up1 lt (swp d a p) a (b - 1) (a + 1)) (b - 1)))).1 a) := by
    unfold partition; exact if_neg h
  rw [e,h2]
theorem partEqLoop_end {a i j i1 j1 : Nat} {d : Array α} (hi : up2 lt d a j i = i1) (hj : dn2 lt d a i1 j = j1) (h : j1 < i1) : partEqLoop lt a i j d = (i1,d) := by
  subst hi; subst hj
  rw [partEqLoop_eq]; exact if_pos h
theorem partEqLoop_go {a i j i1 j1 : Nat} {d : Array α} (hi : up2 lt d a j i = i1) (hj : dn2 lt d a i1 j = j1) (h : ¬ j1 < i1) : partEqLoop lt a i j d = partEqLoop lt a (i1 + 1) (j1 - 1) (swp d i1 j1) := by
  subst hi; subst hj
  rw [partEqLoop_eq]; exact if_neg h
section
variable {hi f r : Nat} {d : Array α}
theorem sift_end (h : hi ≤ 2 * r + 1) : siftDown lt hi f r d = d := by rw [siftDown,dif_pos h]
theorem sift_stop2 (h : 2 * r + 1 + 1 < hi) (h1 : lt d[f + (2 * r + 1)]! d[f + (2 * r + 1) + 1]! = true) (h2 : lt d[f + r]! d[f + (2 * r + 1 + 1)]! = false) : siftDown lt hi f r d = d := by
  rw [siftDown,dif_neg (by omega),if_pos (by simp [h,h1]),if_pos (by rw [h2]; rfl)]
theorem sift_go2 (h : 2 * r + 1 + 1 < hi) (h1 : lt d[f + (2 * r + 1)]! d[f + (2 * r + 1) + 1]! = true) (h2 : lt d[f + r]! d[f + (2 * r + 1 + 1)]! = true) : siftDown lt hi f r d = siftDown lt hi f (2 * r + 1 + 1) (swp d (f + r) (f + (2 * r + 1 + 1))) := by
  rw [siftDown.eq_def lt hi f r,dif_neg (by omega),if_pos (by simp [h,h1]),if_neg (by rw [h2]; decide),dif_pos h]
theorem sift_stop1 (h : 2 * r + 1 < hi) (h1 : ¬ 2 * r + 1 + 1 < hi ∨ lt d[f + (2 * r + 1)]! d[f + (2 * r + 1) + 1]! = false) (h2 : lt d[f + r]! d[f + (2 * r + 1)]! = false) : siftDown lt hi f r d = d := by
  rw [siftDown,dif_neg (by omega),if_neg (by rcases h1 with h1 | h1 <;> simp [h1]),if_pos (by rw [h2]; rfl)]
theorem sift_go1 (h : 2 * r + 1 < hi) (h1 : ¬ 2 * r + 1 + 1 < hi ∨ lt d[f + (2 * r + 1)]! d[f + (2 * r + 1) + 1]! = false) (h2 : lt d[f + r]! d[f + (2 * r + 1)]! = true) : siftDown lt hi f r d = siftDown lt hi f (2 * r + 1) (swp d (f + r) (f + (2 * r + 1))) := by
  rw [siftDown.eq_def lt hi f r,dif_neg (by omega),if_neg (by rcases h1 with h1 | h1 <;> simp [h1]),if_neg (by rw [h2]; decide)]
theorem sift_size : ∀ (n hi f r : Nat) (d : Array α),hi - r ≤ n → (siftDown lt hi f r d).size = d.size := by
  intro n
  induction n with
  | zero => intro hi f r d h; rw [sift_end (by omega)]
  | succ n ih =>
    intro hi f r d h
    rw [siftDown]
    split
    · rfl
    · split
      · split
        · rfl
        · split
          · rw [ih _ _ _ _ (by omega),swp_size]
          · rfl
      · split
        · rfl
        · rw [ih _ _ _ _ (by omega),swp_size]
end
section
variable {b i j : Nat} {d : Array α}
theorem reverseLoop_go (h : i < j) : reverseLoop i j d = reverseLoop (i + 1) (j - 1) (swp d i j) := by rw [reverseLoop.eq_def i j d,if_pos h]
theorem reverseLoop_stop (h : j ≤ i) : reverseLoop i j d = d := by rw [reverseLoop,if_neg (by omega)]
theorem scanSorted_go (h : i < b) (hl : lt d[i]! d[i - 1]! = false) : scanSorted lt d b (i + 1) = scanSorted lt d b i := by rw [scanSorted.eq_def lt d b i,if_pos (by simp [h,hl])]
theorem scanSorted_stop (h : b ≤ i ∨ lt d[i]! d[i - 1]! = true) : scanSorted lt d b i = i := by
  rw [scanSorted,if_neg]
  rcases h with h | h
  · simp; omega
  · simp [h]
theorem shiftDown_go (h : 1 ≤ j) (hl : lt d[j]! d[j - 1]! = true) : shiftDown lt (j - 1) (swp d j (j - 1)) = shiftDown lt j d := by
  obtain ⟨j,rfl⟩ : ∃ k,j = k + 1 := ⟨j - 1,by omega⟩
  simp only [Nat.add_sub_cancel] at hl ⊢
  rw [shiftDown.eq_2,if_neg (by simp [hl])]
theorem shiftDown_stop (h : j < 1 ∨ lt d[j]! d[j - 1]! = false) : shiftDown lt j d = d := by
  cases j with
  | zero => rfl
  | succ j =>
    simp only [Nat.add_sub_cancel] at h
    rw [shiftDown,if_pos]
    rcases h with h | h
    · omega
    · simp [h]
theorem shiftUp_go (h : j < b) (hl : lt d[j]! d[j - 1]! = true) : shiftUp lt b (j + 1) (swp d j (j - 1)) = shiftUp lt b j d := by rw [shiftUp.eq_def lt b j,if_pos h,if_neg (by simp [hl])]
theorem shiftUp_stop (h : b ≤ j ∨ lt d[j]! d[j - 1]! = false) : shiftUp lt b j d = d := by
  rw [shiftUp]
  by_cases hb : j < b
  · rw [if_pos hb,if_pos]
    rcases h with h | h
    · omega
    · simp [h]
  · rw [if_neg hb]
end
theorem sift_sz {hi f r : Nat} {d : Array α} : (siftDown lt hi f r d).size = d.size := sift_size _ hi f r d (Nat.le_refl _)
section
variable {a b s i i2 : Nat} {d : Array α}
theorem pins_done (h : s < 5) (hi : scanSorted lt d b i = i2) (he : i2 = b) : partialIns lt a b (5 - s) i d = (d,true) := by
  rw [show 5 - s = (4 - s) + 1 by omega,partialIns_succ,if_pos (hi.trans he)]
theorem pins_short (h : s < 5) (hi : scanSorted lt d b i = i2) (he : i2 ≠ b) (hl : b - a < 50) : partialIns lt a b (5 - s) i d = (d,false) := by
  rw [show 5 - s = (4 - s) + 1 by omega,partialIns_succ,hi,if_neg he,if_pos hl]
theorem pins_go (h : s < 5) (hi : scanSorted lt d b i = i2) (he : i2 ≠ b) (hl : ¬ b - a < 50) : partialIns lt a b (5 - s) i d = partialIns lt a b (5 - (s + 1)) i2 (fixUp lt b i2 (fixDown lt a i2 (swp d i2 (i2 - 1)))) := by
  rw [show 5 - s = (4 - s) + 1 by omega,partialIns_succ,hi,if_neg he,if_neg hl,show 5 - (s + 1) = 4 - s by omega]
theorem pins_end (h : 5 ≤ s) : partialIns lt a b (5 - s) i d = (d,false) := by rw [show 5 - s = 0 by omega]; rfl
end
structure PInv (lt : α → α → Bool) (x y n : Nat) (d0 : Array α) (a b : Nat) (d : Array α) : Prop where
  sz : d.size = n
  ab : a ≤ b
  bn : b ≤ n
  len : b - a ≤ y - x
  bel : Below lt a b d
  k : ∀ R,PermIn a b d R → SortedIn lt a b R → PermIn x y d0 R ∧ SortedIn lt x y R
variable {x y n a b : Nat} {d0 d : Array α}
theorem PInv.new (hd : d.size = n) (h1 : x ≤ y) (h2 : y ≤ n) (h3 : Below lt x y d) : PInv lt x y n d x y d := ⟨hd,h1,h2,Nat.le_refl _,h3,fun _ h h' => ⟨h,h'⟩⟩
theorem PInv.perm {d' : Array α} (h : PInv lt x y n d0 a b d) (p : PermIn a b d d') : PInv lt x y n d0 a b d' :=
  ⟨p.1.trans h.sz,h.ab,h.bn,h.len,h.bel.perm (by rw [h.sz]; exact h.bn) p,fun R hR hs => h.k R (permIn_trans _ _ _ _ _ p hR) hs⟩
theorem PInv.eqs (hs : SWO lt) {pv mid : Nat} {d4 : Array α} (h : PInv lt x y n d0 a b d) (ha : 0 < a) (h1 : a ≤ pv) (h2 : pv < b) (hn : lt d[a - 1]! d[pv]! = false) (e : partitionEqual lt d a b pv = (mid,d4)) :
    a < mid ∧ PInv lt x y n d0 mid b d4 := by
  obtain ⟨q1,q2,q3,q4,q5⟩ := round_eq hs (partitionEqual_holds lt) ha h1 h2 (by rw [h.sz]; exact h.bn) h.bel hn e
  have := h.len
  exact ⟨q1,q3.trans h.sz,q2,h.bn,by omega,q4,fun R hR hS => have := q5 R hR hS; h.k R this.1 this.2⟩
theorem PInv.part (hs : SWO lt) {pv mid : Nat} {ap : Bool} {d4 : Array α} (h : PInv lt x y n d0 a b d) (h1 : a ≤ pv) (h2 : pv < b) (e : partition lt d a b pv = (mid,ap,d4)) :
    a ≤ mid ∧ mid < b ∧ d4.size = n ∧ Below lt a mid d4 ∧ Below lt (mid + 1) b d4 ∧ (∀ L,PermIn a mid d4 L → SortedIn lt a mid L → PInv lt x y n d0 (mid + 1) b L) ∧ (∀ L,PermIn (mid + 1) b d4 L → SortedIn lt (mid + 1) b L → PInv lt x y n d0 a mid L) := by
  obtain ⟨q1,q2,q3,q4,q5,q6,q7⟩ := round_part hs (partition_holds lt) h1 h2 (by rw [h.sz]; exact h.bn) h.bel e
  have hl := h.len
  have hb := h.bn
  refine ⟨q1,q2,q3.trans h.sz,q4,q5,fun L hL hS => ?_,fun L hL hS => ?_⟩
  · obtain ⟨w1,w2⟩ := q6 L hL hS
    exact ⟨by rw [hL.1,q3,h.sz],by omega,h.bn,by omega,w1,fun R hR hS' => have := w2 R hR hS'; h.k R this.1 this.2⟩
  · obtain ⟨w1,w2⟩ := q7 L hL hS
    exact ⟨by rw [hL.1,q3,h.sz],q1,by omega,by omega,w1,fun R hR hS' => have := w2 R hR hS'; h.k R this.1 this.2⟩
end
end Go.K
namespace Go.K
theorem wrap_u64_mod (n : Int) : IntKind.u64.wrap n = n % 18446744073709551616 := by
  unfold IntKind.wrap
  have h : IntKind.u64.signed = false := rfl
  have hb : (2 : Int) ^ IntKind.u64.bits = 18446744073709551616 := by decide
  simp only [h,hb,Bool.false_and,Bool.false_eq_true,if_false]
theorem wrap_u64 {n : Int} (h : 0 ≤ n ∧ n ≤ 18446744073709551615) : IntKind.u64.wrap n = n := by rw [wrap_u64_mod]; omega
def xorU (a b : Int) : Int := IntKind.u64.wrap ((BitVec.ofInt IntKind.u64.bits a ^^^ BitVec.ofInt IntKind.u64.bits b).toNat)
def andU (a b : Int) : Int := IntKind.u64.wrap ((BitVec.ofInt IntKind.u64.bits a &&& BitVec.ofInt IntKind.u64.bits b).toNat)
def shlU (a : Int) (n : Nat) : Int := IntKind.u64.wrap (a * 2 ^ n)
def shrU (a : Int) (n : Nat) : Int := a.fdiv (2 ^ n)
theorem andU_nat {a : Int} {m : Nat} (h : m ≤ 18446744073709551615) : ∃ o : Nat,andU a (m : Int) = (o : Int) ∧ o ≤ m := by
  refine ⟨(BitVec.ofInt IntKind.u64.bits a &&& BitVec.ofInt IntKind.u64.bits (m : Int)).toNat,?_,?_⟩
  · unfold andU
    have := (BitVec.ofInt IntKind.u64.bits a &&& BitVec.ofInt IntKind.u64.bits (m : Int)).isLt
    have hb : (2 : Nat) ^ IntKind.u64.bits = 18446744073709551616 := by decide
    exact wrap_u64 (by omega)
  · rw [BitVec.toNat_and]
    refine Nat.le_trans Nat.and_le_right ?_
    rw [BitVec.toNat_ofInt]
    have hb : (2 : Nat) ^ IntKind.u64.bits = 18446744073709551616 := by decide
    rw [hb]; omega
theorem subU {m : Nat} (h : 1 ≤ m) (h2 : m ≤ 18446744073709551615) : intRes .sub .u64 (m : Int) 1 = some (.int .u64 ((m - 1 : Nat) : Int)) := by
  have e : (m : Int) - 1 = ((m - 1 : Nat) : Int) := by omega
  simp only [intRes,e]
  rw [wrap_u64 (by omega)]
theorem shl_one {k : Nat} (h : k ≤ 40) : IntKind.u64.wrap (1 * 2 ^ min ((k : Int)).toNat IntKind.u64.bits) = ((2 ^ k : Nat) : Int) := by
  have hm : min ((k : Int)).toNat IntKind.u64.bits = k := by
    have : IntKind.u64.bits = 64 := rfl
    rw [this]; omega
  have hp : (2 : Nat) ^ k ≤ 2 ^ 40 := Nat.pow_le_pow_right (by omega) h
  rw [hm,Int.one_mul]
  have e : (2 : Int) ^ k = ((2 ^ k : Nat) : Int) := by norm_cast
  have h4 : (2 : Nat) ^ 40 = 1099511627776 := by decide
  rw [e]; generalize 2 ^ k = z at hp ⊢
  exact wrap_u64 ⟨by omega,by omega⟩
section
variable {C : Cx} {V : Vw} {H : Hp} {L : Sl} {ty : TypeId}
theorem Y.shrN {x y : Operand} {k k' : IntKind} {m q : Nat} {n : Int} {t t' : TypeId} (hx : ev L x = some (.int k (m : Int))) (hy : ev L y = some (.int k' n)) (hn : 0 ≤ n) (hq : (2 : Int) ^ min n.toNat k.bits = ((q : Nat) : Int)) : Yl C V H L (.binOp .shr t x y t') ty (.int k ((m / q : Nat) : Int)) :=
  Y.shr _ hx hy hn (by rw [hq,Int.fdiv_eq_ediv_of_nonneg _ (by omega)]; rfl)
end
theorem len_bound {s t q m : Nat} (hq : q * 2 ^ s ≤ m) (ht : 2 ^ t ≤ 2 * q) : 2 ^ (s + t) ≤ 2 * m := by
  rw [Nat.pow_add]
  calc 2 ^ s * 2 ^ t ≤ 2 ^ s * (2 * q) := Nat.mul_le_mul_left _ ht
    _ = 2 * (q * 2 ^ s) := by rw [Nat.mul_comm q,Nat.mul_left_comm]
    _ ≤ 2 * m := Nat.mul_le_mul_left _ hq
end Go.K
namespace Go.K
open Go.Sort
section
variable {α : Type} [Inhabited α] {enc : α → List Value} {k : Nat} {lt : α → α → Bool}
theorem Ow.toD (he : Enc enc k) {e : TypeId} {v : Value} {l : List α} {s : Sg} (h : Ow e k v l.length (l.flatMap enc) s) :
    (v = .slice none 0 0 ∧ l = [] ∧ s = []) ∨ ∃ b cap rest,v = .slice (some ⟨b,0,none⟩) l.length cap ∧ s = sgD enc e b rest l.toArray ∧ l.length ≤ cap ∧ cap ≤ maxLen ∧ l.length * k + rest.length = cap * k := by
  obtain ⟨h1,⟨h2,h3,h4⟩ | ⟨b,cap,cur,h2,h3,h4,h5,h6,h7⟩⟩ := h
  · exact .inl ⟨h2,List.length_eq_zero_iff.1 h3,h4⟩
  · have hle : l.length * k ≤ cap * k := Nat.mul_le_mul_right k h4
    refine .inr ⟨b,cap,cur.toList.drop (l.length * k),h2,?_,h4,h5,by simp [h6]; omega⟩
    rw [h3]; unfold sgD cel
    have e1 : l.flatMap enc = cur.toList.take (l.length * k) := by
      apply List.ext_getElem?
      intro j
      rw [List.getElem?_take]
      split
      · rename_i hj; rw [← h7 j hj]; simp
      · rename_i hj; rw [List.getElem?_eq_none (by rw [h1]; omega)]
    rw [show l.toArray.toList = l by simp,e1,List.take_append_drop]
theorem Ow.ofD (he : Enc enc k) {e : TypeId} {b cap : Nat} {rest : List Value} {l : List α} (h1 : l.length ≤ cap) (h2 : cap ≤ maxLen) (h3 : l.length * k + rest.length = cap * k) :
    Ow e k (.slice (some ⟨b,0,none⟩) l.length cap) l.length (l.flatMap enc) (sgD enc e b rest l.toArray) := by
  refine ⟨flat_len he l,.inr ⟨b,cap,_,rfl,rfl,h1,h2,?_,fun j hj => ?_⟩⟩
  · have := cel_len he (d := l.toArray) (rest := rest); simp at this ⊢; rw [this]; exact h3
  · unfold cel; rw [List.getElem?_toArray,List.getElem?_append_left (by simp [flat_len he]; exact hj)]
def Srt (lt : α → α → Bool) (l : List α) : Prop := l.Pairwise fun x y => lt y x = false
theorem srt_of {d : Array α} (h : SortedIn lt 0 d.size d) : Srt lt d.toList := by
  refine List.pairwise_iff_getElem.2 fun i j hi hj hij => ?_
  have := h i j (Nat.zero_le _) hij (by simpa using hj)
  rw [getElem!_pos d i (by simpa using hi),getElem!_pos d j (by simpa using hj)] at this
  simpa using this
theorem perm_of {d d' : Array α} (h : PermIn 0 d.size d d') : d'.toList.Perm d.toList := by
  have h2 := h.2.2
  rw [Array.extract_eq_self_of_le (Nat.le_of_eq h.1),show d.extract 0 d.size = d by simp] at h2
  exact h2
end
def nI (x : Int) : List Value := [.int .i64 x]
theorem nI_enc : Enc nI 1 := ⟨fun _ => rfl,fun _ => rfl⟩
end Go.K
