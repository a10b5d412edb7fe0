/- The library's sort in plain Lean, by rounds: each loop's one step, and what pdqsort's loop keeps.
Conditions: none; no program in sight. -/
import Derived.Test.YtjfacdepgkdoeaaS1
set_option linter.unusedSectionVars false
set_option linter.unusedVariables false
set_option linter.unusedSimpArgs false
namespace Go.K
open Go.Sort
section
variable {α : Type} [Inhabited α] {lt : α → α → Bool}
/-! ### the scans -/
def up1 (lt : α → α → Bool) (d : Array α) (a j i : Nat) : Nat := scanUp (fun z => lt z d[a]!) d j i
def dn1 (lt : α → α → Bool) (d : Array α) (a i j : Nat) : Nat := scanDown (fun z => !lt z d[a]!) d i j
def up2 (lt : α → α → Bool) (d : Array α) (a j i : Nat) : Nat := scanUp (fun z => !lt d[a]! z) d j i
def dn2 (lt : α → α → Bool) (d : Array α) (a i j : Nat) : Nat := scanDown (fun z => lt d[a]! z) d i j
theorem scanUp_go {p : α → Bool} {d : Array α} {j i : Nat} (h : i ≤ j) (hp : p d[i]! = true) : scanUp p d j (i + 1) = scanUp p d j i := by
  rw [scanUp.eq_def p d j i, if_pos (by simp [h, hp])]
theorem scanUp_stop {p : α → Bool} {d : Array α} {j i : Nat} (h : j < i ∨ p d[i]! = false) : scanUp p d j i = i := by
  rw [scanUp, if_neg]
  rcases h with h | h
  · simp; omega
  · simp [h]
theorem scanDown_go {p : α → Bool} {d : Array α} {j i : Nat} (h : i ≤ j) (h1 : 1 ≤ j) (hp : p d[j]! = true) : scanDown p d i (j - 1) = scanDown p d i j := by
  obtain ⟨j, rfl⟩ : ∃ k, j = k + 1 := ⟨j - 1, by omega⟩
  rw [scanDown.eq_2, if_pos (by simp [h, hp])]; rfl
theorem scanDown_stop {p : α → Bool} {d : Array α} {j i : Nat} (h1 : 1 ≤ i) (h : j < i ∨ p d[j]! = false) : scanDown p d i j = j := by
  cases j with
  | zero => rfl
  | succ j =>
    rw [scanDown, if_neg]
    rcases h with h | h
    · simp; omega
    · simp [h]
section
variable {d : Array α} {a i j : Nat}
theorem up1_go (h : i ≤ j) (hl : lt d[i]! d[a]! = true) : up1 lt d a j (i + 1) = up1 lt d a j i := scanUp_go h hl
theorem up1_stop (h : j < i ∨ lt d[i]! d[a]! = false) : up1 lt d a j i = i := scanUp_stop h
theorem dn1_go (h : i ≤ j) (h1 : 1 ≤ i) (hl : lt d[j]! d[a]! = false) : dn1 lt d a i (j - 1) = dn1 lt d a i j := scanDown_go h (by omega) (by simp [hl])
theorem dn1_stop (h1 : 1 ≤ i) (h : j < i ∨ lt d[j]! d[a]! = true) : dn1 lt d a i j = j := scanDown_stop h1 (h.imp id fun e => by simp [e])
theorem up2_go (h : i ≤ j) (hl : lt d[a]! d[i]! = false) : up2 lt d a j (i + 1) = up2 lt d a j i := scanUp_go h (by simp [hl])
theorem up2_stop (h : j < i ∨ lt d[a]! d[i]! = true) : up2 lt d a j i = i := scanUp_stop (h.imp id fun e => by simp [e])
theorem dn2_go (h : i ≤ j) (h1 : 1 ≤ i) (hl : lt d[a]! d[j]! = true) : dn2 lt d a i (j - 1) = dn2 lt d a i j := scanDown_go h (by omega) hl
theorem dn2_stop (h1 : 1 ≤ i) (h : j < i ∨ lt d[a]! d[j]! = false) : dn2 lt d a i j = j := scanDown_stop h1 h
end
theorem up1_at {d : Array α} {a i j i1 : Nat} (h : up1 lt d a j i = i1) (h2 : i1 ≤ j) : lt d[i1]! d[a]! = false := by subst h; exact (scanUp_spec (fun z => lt z d[a]!) d j _ i rfl).2.2.2 h2
theorem dn1_at {d : Array α} {a i j j1 : Nat} (h : dn1 lt d a i j = j1) (h2 : i ≤ j1) (h3 : 0 < j1) : lt d[j1]! d[a]! = true := by
  unfold dn1 at h; subst h; have := (scanDown_spec (fun z => !lt z d[a]!) d i j).2.2.2 h2 h3; simpa using this
theorem cross1 {d : Array α} {a i j i1 j1 : Nat} (h : up1 lt d a j i = i1) (h2 : dn1 lt d a i1 j = j1) (h3 : ¬ j1 < i1) (h4 : 1 ≤ i1) (h5 : j1 ≤ j) : i1 < j1 := by
  rcases Nat.lt_or_ge i1 j1 with q | q
  · exact q
  · obtain rfl : i1 = j1 := by omega
    have e1 := up1_at h h5
    rw [dn1_at h2 (Nat.le_refl _) (by omega)] at e1; cases e1
theorem up2_at {d : Array α} {a i j i1 : Nat} (h : up2 lt d a j i = i1) (h2 : i1 ≤ j) : lt d[a]! d[i1]! = true := by
  unfold up2 at h; subst h; have := (scanUp_spec (fun z => !lt d[a]! z) d j _ i rfl).2.2.2 h2; simpa using this
theorem dn2_at {d : Array α} {a i j j1 : Nat} (h : dn2 lt d a i j = j1) (h2 : i ≤ j1) (h3 : 0 < j1) : lt d[a]! d[j1]! = false := by
  subst h; exact (scanDown_spec (fun z => lt d[a]! z) d i j).2.2.2 h2 h3
theorem cross2 {d : Array α} {a i j i1 j1 : Nat} (h : up2 lt d a j i = i1) (h2 : dn2 lt d a i1 j = j1) (h3 : ¬ j1 < i1) (h4 : 1 ≤ i1) (h5 : j1 ≤ j) : i1 < j1 := by
  rcases Nat.lt_or_ge i1 j1 with q | q
  · exact q
  · obtain rfl : i1 = j1 := by omega
    have e1 := up2_at h h5
    rw [dn2_at h2 (Nat.le_refl _) (by omega)] at e1; cases e1
/-! ### partition -/
theorem partLoop_end {a i j i1 j1 : Nat} {d : Array α} (hi : up1 lt d a j i = i1) (hj : dn1 lt d a i1 j = j1) (h : j1 < i1) : partLoop lt a i j d = (j1, d) := by
  subst hi; subst hj
  rw [partLoop_eq]; exact if_pos h
theorem partLoop_go {a i j i1 j1 : Nat} {d : Array α} (hi : up1 lt d a j i = i1) (hj : dn1 lt d a i1 j = j1) (h : ¬ j1 < i1) : partLoop lt a i j d = partLoop lt a (i1 + 1) (j1 - 1) (swp d i1 j1) := by
  subst hi; subst hj
  rw [partLoop_eq]; exact if_neg h
theorem partition_one {a b p i1 j1 : Nat} {d : Array α} (hi : up1 lt (swp d a p) a (b - 1) (a + 1) = i1) (hj : dn1 lt (swp d a p) a i1 (b - 1) = j1) (h : j1 < i1) : partition lt d a b p = (j1, true, swp (swp d a p) j1 a) := by
  subst hi; subst hj
  unfold partition; exact if_pos h
theorem partition_two {a b p i1 j1 j2 : Nat} {d d2 : Array α} (hi : up1 lt (swp d a p) a (b - 1) (a + 1) = i1) (hj : dn1 lt (swp d a p) a i1 (b - 1) = j1) (h : ¬ j1 < i1)
    (h2 : partLoop lt a (i1 + 1) (j1 - 1) (swp (swp d a p) i1 j1) = (j2, d2)) : partition lt d a b p = (j2, false, swp d2 j2 a) := by
  subst hi; subst hj
  have e : partition lt d a b p = ((partLoop lt a (up1 lt (swp d a p) a (b - 1) (a + 1) + 1) (dn1 lt (swp d a p) a (up1 lt (swp d a p) a (b - 1) (a + 1)) (b - 1) - 1) (swp (swp d a p) (up1 lt (swp d a p) a (b - 1) (a + 1)) (dn1 lt (swp d a p) a (up1 lt (swp d a p) a (b - 1) (a + 1)) (b - 1)))).1, false,
      swp (partLoop lt a (up1 lt (swp d a p) a (b - 1) (a + 1) + 1) (dn1 lt (swp d a p) a (up1 lt (swp d a p) a (b - 1) (a + 1)) (b - 1) - 1) (swp (swp d a p) (up1 lt (swp d a p) a (b - 1) (a + 1)) (dn1 lt (swp d a p) a (up1 lt (swp d a p) a (b - 1) (a + 1)) (b - 1)))).2
        (partLoop lt a (up1 lt (swp d a p) a (b - 1) (a + 1) + 1) (dn1 lt (swp d a p) a (up1 lt (swp d a p) a (b - 1) (a + 1)) (b - 1) - 1) (swp (swp d a p) (up1 lt (swp d a p) a (b - 1) (a + 1)) (dn1 lt (swp d a p) a (up1 lt (swp d a p) a (b - 1) (a + 1)) (b - 1)))).1 a) := by
    unfold partition; exact if_neg h
  rw [e, h2]
theorem partEqLoop_end {a i j i1 j1 : Nat} {d : Array α} (hi : up2 lt d a j i = i1) (hj : dn2 lt d a i1 j = j1) (h : j1 < i1) : partEqLoop lt a i j d = (i1, d) := by
  subst hi; subst hj
  rw [partEqLoop_eq]; exact if_pos h
theorem partEqLoop_go {a i j i1 j1 : Nat} {d : Array α} (hi : up2 lt d a j i = i1) (hj : dn2 lt d a i1 j = j1) (h : ¬ j1 < i1) : partEqLoop lt a i j d = partEqLoop lt a (i1 + 1) (j1 - 1) (swp d i1 j1) := by
  subst hi; subst hj
  rw [partEqLoop_eq]; exact if_neg h
/-! ### the heap -/
section
variable {hi f r : Nat} {d : Array α}
theorem sift_end (h : hi ≤ 2 * r + 1) : siftDown lt hi f r d = d := by rw [siftDown, dif_pos h]
theorem sift_stop2 (h : 2 * r + 1 + 1 < hi) (h1 : lt d[f + (2 * r + 1)]! d[f + (2 * r + 1) + 1]! = true) (h2 : lt d[f + r]! d[f + (2 * r + 1 + 1)]! = false) : siftDown lt hi f r d = d := by
  rw [siftDown, dif_neg (by omega), if_pos (by simp [h, h1]), if_pos (by rw [h2]; rfl)]
theorem sift_go2 (h : 2 * r + 1 + 1 < hi) (h1 : lt d[f + (2 * r + 1)]! d[f + (2 * r + 1) + 1]! = true) (h2 : lt d[f + r]! d[f + (2 * r + 1 + 1)]! = true) : siftDown lt hi f r d = siftDown lt hi f (2 * r + 1 + 1) (swp d (f + r) (f + (2 * r + 1 + 1))) := by
  rw [siftDown.eq_def lt hi f r, dif_neg (by omega), if_pos (by simp [h, h1]), if_neg (by rw [h2]; decide), dif_pos h]
theorem sift_stop1 (h : 2 * r + 1 < hi) (h1 : ¬ 2 * r + 1 + 1 < hi ∨ lt d[f + (2 * r + 1)]! d[f + (2 * r + 1) + 1]! = false) (h2 : lt d[f + r]! d[f + (2 * r + 1)]! = false) : siftDown lt hi f r d = d := by
  rw [siftDown, dif_neg (by omega), if_neg (by rcases h1 with h1 | h1 <;> simp [h1]), if_pos (by rw [h2]; rfl)]
theorem sift_go1 (h : 2 * r + 1 < hi) (h1 : ¬ 2 * r + 1 + 1 < hi ∨ lt d[f + (2 * r + 1)]! d[f + (2 * r + 1) + 1]! = false) (h2 : lt d[f + r]! d[f + (2 * r + 1)]! = true) : siftDown lt hi f r d = siftDown lt hi f (2 * r + 1) (swp d (f + r) (f + (2 * r + 1))) := by
  rw [siftDown.eq_def lt hi f r, dif_neg (by omega), if_neg (by rcases h1 with h1 | h1 <;> simp [h1]), if_neg (by rw [h2]; decide)]
theorem sift_size : ∀ (n hi f r : Nat) (d : Array α), hi - r ≤ n → (siftDown lt hi f r d).size = d.size := by
  intro n
  induction n with
  | zero => intro hi f r d h; rw [sift_end (by omega)]
  | succ n ih =>
    intro hi f r d h
    rw [siftDown]
    split
    · rfl
    · split
      · split
        · rfl
        · split
          · rw [ih _ _ _ _ (by omega), swp_size]
          · rfl
      · split
        · rfl
        · rw [ih _ _ _ _ (by omega), swp_size]
end
/-! ### shifts, and the rest -/
section
variable {b i j : Nat} {d : Array α}
theorem reverseLoop_go (h : i < j) : reverseLoop i j d = reverseLoop (i + 1) (j - 1) (swp d i j) := by rw [reverseLoop.eq_def i j d, if_pos h]
theorem reverseLoop_stop (h : j ≤ i) : reverseLoop i j d = d := by rw [reverseLoop, if_neg (by omega)]
theorem scanSorted_go (h : i < b) (hl : lt d[i]! d[i - 1]! = false) : scanSorted lt d b (i + 1) = scanSorted lt d b i := by rw [scanSorted.eq_def lt d b i, if_pos (by simp [h, hl])]
theorem scanSorted_stop (h : b ≤ i ∨ lt d[i]! d[i - 1]! = true) : scanSorted lt d b i = i := by
  rw [scanSorted, if_neg]
  rcases h with h | h
  · simp; omega
  · simp [h]
theorem shiftDown_go (h : 1 ≤ j) (hl : lt d[j]! d[j - 1]! = true) : shiftDown lt (j - 1) (swp d j (j - 1)) = shiftDown lt j d := by
  obtain ⟨j, rfl⟩ : ∃ k, j = k + 1 := ⟨j - 1, by omega⟩
  simp only [Nat.add_sub_cancel] at hl ⊢
  rw [shiftDown.eq_2, if_neg (by simp [hl])]
theorem shiftDown_stop (h : j < 1 ∨ lt d[j]! d[j - 1]! = false) : shiftDown lt j d = d := by
  cases j with
  | zero => rfl
  | succ j =>
    simp only [Nat.add_sub_cancel] at h
    rw [shiftDown, if_pos]
    rcases h with h | h
    · omega
    · simp [h]
theorem shiftUp_go (h : j < b) (hl : lt d[j]! d[j - 1]! = true) : shiftUp lt b (j + 1) (swp d j (j - 1)) = shiftUp lt b j d := by rw [shiftUp.eq_def lt b j, if_pos h, if_neg (by simp [hl])]
theorem shiftUp_stop (h : b ≤ j ∨ lt d[j]! d[j - 1]! = false) : shiftUp lt b j d = d := by
  rw [shiftUp]
  by_cases hb : j < b
  · rw [if_pos hb, if_pos]
    rcases h with h | h
    · omega
    · simp [h]
  · rw [if_neg hb]
end
theorem sift_sz {hi f r : Nat} {d : Array α} : (siftDown lt hi f r d).size = d.size := sift_size _ hi f r d (Nat.le_refl _)
section
variable {a b s i i2 : Nat} {d : Array α}
theorem pins_done (h : s < 5) (hi : scanSorted lt d b i = i2) (he : i2 = b) : partialIns lt a b (5 - s) i d = (d, true) := by
  rw [show 5 - s = (4 - s) + 1 by omega, partialIns_succ, if_pos (hi.trans he)]
theorem pins_short (h : s < 5) (hi : scanSorted lt d b i = i2) (he : i2 ≠ b) (hl : b - a < 50) : partialIns lt a b (5 - s) i d = (d, false) := by
  rw [show 5 - s = (4 - s) + 1 by omega, partialIns_succ, hi, if_neg he, if_pos hl]
theorem pins_go (h : s < 5) (hi : scanSorted lt d b i = i2) (he : i2 ≠ b) (hl : ¬ b - a < 50) : partialIns lt a b (5 - s) i d = partialIns lt a b (5 - (s + 1)) i2 (fixUp lt b i2 (fixDown lt a i2 (swp d i2 (i2 - 1)))) := by
  rw [show 5 - s = (4 - s) + 1 by omega, partialIns_succ, hi, if_neg he, if_neg hl, show 5 - (s + 1) = 4 - s by omega]
theorem pins_end (h : 5 ≤ s) : partialIns lt a b (5 - s) i d = (d, false) := by rw [show 5 - s = 0 by omega]; rfl
end
/-! ### pdqsort -/
/-- What the loop keeps: whatever sorted permutation of the part that is left comes back, the whole is one. -/
structure PInv (lt : α → α → Bool) (x y n : Nat) (d0 : Array α) (a b : Nat) (d : Array α) : Prop where
  sz : d.size = n
  ab : a ≤ b
  bn : b ≤ n
  len : b - a ≤ y - x
  bel : Below lt a b d
  k : ∀ R, PermIn a b d R → SortedIn lt a b R → PermIn x y d0 R ∧ SortedIn lt x y R
variable {x y n a b : Nat} {d0 d : Array α}
theorem PInv.new (hd : d.size = n) (h1 : x ≤ y) (h2 : y ≤ n) (h3 : Below lt x y d) : PInv lt x y n d x y d := ⟨hd, h1, h2, Nat.le_refl _, h3, fun _ h h' => ⟨h, h'⟩⟩
theorem PInv.perm {d' : Array α} (h : PInv lt x y n d0 a b d) (p : PermIn a b d d') : PInv lt x y n d0 a b d' :=
  ⟨p.1.trans h.sz, h.ab, h.bn, h.len, h.bel.perm (by rw [h.sz]; exact h.bn) p, fun R hR hs => h.k R (permIn_trans _ _ _ _ _ p hR) hs⟩
theorem PInv.eqs (hs : SWO lt) {pv mid : Nat} {d4 : Array α} (h : PInv lt x y n d0 a b d) (ha : 0 < a) (h1 : a ≤ pv) (h2 : pv < b) (hn : lt d[a - 1]! d[pv]! = false) (e : partitionEqual lt d a b pv = (mid, d4)) :
    a < mid ∧ PInv lt x y n d0 mid b d4 := by
  obtain ⟨q1, q2, q3, q4, q5⟩ := round_eq hs (partitionEqual_holds lt) ha h1 h2 (by rw [h.sz]; exact h.bn) h.bel hn e
  have := h.len
  exact ⟨q1, q3.trans h.sz, q2, h.bn, by omega, q4, fun R hR hS => have := q5 R hR hS; h.k R this.1 this.2⟩
theorem PInv.part (hs : SWO lt) {pv mid : Nat} {ap : Bool} {d4 : Array α} (h : PInv lt x y n d0 a b d) (h1 : a ≤ pv) (h2 : pv < b) (e : partition lt d a b pv = (mid, ap, d4)) :
    a ≤ mid ∧ mid < b ∧ d4.size = n ∧ Below lt a mid d4 ∧ Below lt (mid + 1) b d4 ∧ (∀ L, PermIn a mid d4 L → SortedIn lt a mid L → PInv lt x y n d0 (mid + 1) b L) ∧ (∀ L, PermIn (mid + 1) b d4 L → SortedIn lt (mid + 1) b L → PInv lt x y n d0 a mid L) := by
  obtain ⟨q1, q2, q3, q4, q5, q6, q7⟩ := round_part hs (partition_holds lt) h1 h2 (by rw [h.sz]; exact h.bn) h.bel e
  have hl := h.len
  have hb := h.bn
  refine ⟨q1, q2, q3.trans h.sz, q4, q5, fun L hL hS => ?_, fun L hL hS => ?_⟩
  · obtain ⟨w1, w2⟩ := q6 L hL hS
    exact ⟨by rw [hL.1, q3, h.sz], by omega, h.bn, by omega, w1, fun R hR hS' => have := w2 R hR hS'; h.k R this.1 this.2⟩
  · obtain ⟨w1, w2⟩ := q7 L hL hS
    exact ⟨by rw [hL.1, q3, h.sz], q1, by omega, by omega, w1, fun R hR hS' => have := w2 R hR hS'; h.k R this.1 this.2⟩
end
end Go.K
