/- The rule of the walks on append.
Conditions: none; nothing here speaks of a program. -/
import Derived.Test.YtjfacdepgkdoeaaK4
namespace Go.K

def zeroInfo (P : Program) (t : TypeId) : Option (Nat × Nat × Value) := match P.info? t with
  | some i => match i.zero with
    | some z => if z.cells.size = i.size then some (i.size, i.bytes, z) else none
    | none => none
  | none => none

theorem zeroInfo_spec {P : Program} {t : TypeId} {k bytes : Nat} {z : Value} (h : zeroInfo P t = some (k, bytes, z)) : ∃ i, P.info? t = some i ∧ i.zero = some z ∧ i.size = k ∧ i.bytes = bytes ∧ z.cells.size = k := by
  unfold zeroInfo at h
  cases hj : P.info? t with
  | none => rw [hj] at h; cases h
  | some inf =>
    rw [hj] at h
    simp only at h
    cases hz : inf.zero with
    | none => rw [hz] at h; cases h
    | some zz =>
      rw [hz] at h
      simp only at h
      split at h
      · rename_i hs; cases h; exact ⟨inf, rfl, hz, rfl, rfl, hs⟩
      · cases h

section
variable {P : Program} {w : World}
theorem run_append_more (t u ty e : TypeId) (i : TypeInfo) (z : Value) {ut : TypeDesc} (ht : P.underlying t = some (.slice e)) (hu : P.underlying u = some ut) (hut : (∃ q, ut = .slice q) ∨ ut = .string) (hi : P.info? e = some i) (hz : i.zero = some z)
    (p : Option Addr) (n cap m : Nat) (yv : Value) (X Y : Array Value) (h1 : ∀ w', (Builtin.lenOf yv).run P w' = .ok m w') (h2 : (Builtin.firstCells i.size n (.slice p n cap)).run P w.drew = .ok X w.drew)
    (h3 : (Builtin.firstCells i.size m yv).run P w.drew = .ok Y w.drew) (hg : cap < n + m) (h63 : n + m ≤ 9223372036854775807) (hfit : Builtin.nextslicecap (n + m) cap * i.bytes ≤ 281474976710656) :
    (Builtin.append_ #[t, u] ty #[.slice p n cap, yv]).run P w = .ok (.slice (some ⟨w.heap.size, 0, none⟩) (n + m) (grownCap w (n + m) cap e))
      (w.drew.alloc (.cells (X ++ Y ++ Builtin.zeroCells z.cells (grownCap w (n + m) cap e - (n + m))) e)) := by
  have hn : ¬ (n + m ≤ cap) := by omega
  have h63' : ¬ (9223372036854775807 < ((n : Int) + (m : Int))) := by omega
  have h48' : ¬ (281474976710656 < Builtin.nextslicecap (n + m) cap * i.bytes) := by omega
  rcases hut with ⟨q, rfl⟩ | rfl <;> simp [Builtin.append_, run_underlying ht, run_underlying hu, sizeOf, typeInfo, zeroValue, hi, hz, h1, hn, h63', h48', Question.forced, h2, h3, newRow, grownCap]

theorem run_append_room' (t u ty e : TypeId) (i : TypeInfo) {ut : TypeDesc} (ht : P.underlying t = some (.slice e)) (hu : P.underlying u = some ut) (hut : (∃ q, ut = .slice q) ∨ ut = .string) (hi : P.info? e = some i)
    (b n cap m : Nat) (yv : Value) (ys : List Value) (cur : Array Value) (h1 : ∀ w', (Builtin.lenOf yv).run P w' = .ok m w') (h3 : (Builtin.firstCells i.size m yv).run P w = .ok ys.toArray w)
    (hb : w.heap[b]? = some (.cells cur e (0, 0))) (hl : n * i.size + ys.length ≤ cur.size) (h1s : ys.all one = true) (hg : n + m ≤ cap) :
    ∃ w', (Builtin.append_ #[t, u] ty #[.slice (some ⟨b, 0, none⟩) n cap, yv]).run P w = .ok (.slice (some ⟨b, 0, none⟩) (n + m) cap) w' ∧ w'.heap[b]? = some (.cells (putCells cur (n * i.size) ys) e (0, 0)) ∧ (∀ b', b' ≠ b → w'.heap[b']? = w.heap[b']?) ∧
      w'.os = w.os ∧ w'.tape = w.tape ∧ w'.output = w.output ∧ w'.heap.size = w.heap.size := by
  obtain ⟨w', k1, k2, k3⟩ := run_storeCells (P := P) (off := n * i.size) ys 0 w cur hb (by omega) h1s
  refine ⟨w', ?_, by simpa using k2, k3⟩
  rcases hut with ⟨q, rfl⟩ | rfl <;> simp [Builtin.append_, run_underlying ht, run_underlying hu, sizeOf, typeInfo, hi, h1, hg, h3, Addr.add_plain, k1]
end

theorem putCells_get : ∀ (vs : List Value) (c : Array Value) (off j : Nat), off + vs.length ≤ c.size → (putCells c off vs)[j]? = if j < off then c[j]? else if j < off + vs.length then vs[j - off]? else c[j]?
  | [], c, off, j, h => by simp [putCells]; omega
  | v :: vs, c, off, j, h => by
    simp only [List.length_cons] at h
    rw [putCells, putCells_get vs _ (off + 1) j (by simp; omega)]
    simp only [List.length_cons]
    by_cases h1 : j < off
    · rw [if_pos (by omega), if_pos h1, Array.getElem?_setIfInBounds, if_neg (by omega)]
    · rw [if_neg h1]
      by_cases h2 : j = off
      · subst h2
        rw [if_pos (by omega), if_pos (by omega), Array.getElem?_setIfInBounds, if_pos rfl]
        simp; omega
      · rw [if_neg (by omega)]
        have e : j - off = (j - (off + 1)) + 1 := by omega
        rw [e, List.getElem?_cons_succ]
        by_cases h3 : j < off + 1 + vs.length
        · rw [if_pos h3, if_pos (by omega)]
        · rw [if_neg h3, if_neg (by omega), Array.getElem?_setIfInBounds, if_neg (by omega)]

theorem set_nil_perm : ∀ {H : Hp} {j : Nat} {s : Sg}, H[j]? = some s → (s :: H.set j []).flatten.Perm H.flatten
  | q :: H, 0, s, h => by simp only [List.getElem?_cons_zero, Option.some.injEq] at h; subst h; simp
  | q :: H, j + 1, s, h => by
    simp only [List.getElem?_cons_succ] at h
    have := set_nil_perm h
    simp only [List.set_cons_succ, List.flatten_cons] at this ⊢
    exact (List.perm_append_comm_assoc _ _ _).trans (this.append_left q)
theorem set_perm : ∀ {H : Hp} {j : Nat} {s : Sg} (s' : Sg), H[j]? = some s → (H.set j s').flatten.Perm (s' :: H.set j []).flatten
  | q :: H, 0, s, s', h => by simp
  | q :: H, j + 1, s, s', h => by
    simp only [List.getElem?_cons_succ] at h
    have := set_perm s' h
    simp only [List.set_cons_succ, List.flatten_cons] at this ⊢
    exact (this.append_left q).trans (List.perm_append_comm_assoc _ _ _)

/-- What was owned at one place is forgotten, and something new stands there. -/
theorem St.swap {B : World} {S : List Nat} {U V : Vw} {H : Hp} {w : World} {j : Nat} {s : Sg} (h : St B S U V H w) (hj : H[j]? = some s) (n : Nat) (o : Obj) :
    St B S U V (H.set j [(w.heap.size, o)]) { w with drawn := n, heap := w.heap.push o } :=
  ((((h.recut (set_nil_perm hj)).drop (H' := [s])).drawnTo n).alloc o).recut (set_perm _ hj)

section
variable {C : Cx} {V : Vw} {H : Hp} {L : Sl} {Q : Exit → Act → World → Prop} {ops : Array Oper} {os : List Oper}
variable {ty : TypeId} {pos : String} {aft : Array Edge} {d : Nat}

theorem Run.append {x y : Operand} {t u e : TypeId} {k bytes n m j : Nat} {zv v yv : Value} {xs ys : List Value} {s : Sg} (hx : ev L x = some v) (hy : ev L y = some yv) (ht : elemS C.P t = some (e, k)) (hz : zeroInfo C.P e = some (k, bytes, zv)) (hk : 0 < k)
    (hi : H[j]? = some s) (ho : Ow e k v n xs s) (hs : Src C.P V H u k yv m ys) (hb : (n + m) * bytes ≤ 140737488355328) (hm : n + m ≤ 9223372036854775807) (h1 : ys.all one = true) (hd : d < C.n)
    (kk : ∀ v' s', Ow e k v' (n + m) (xs ++ ys) s' → (∃ p c, v' = .slice p (n + m) c) → Run C ops V (H.set j s') ((d, v') :: L) os Q) :
    Run C ops V H L (⟨some d, .call { callee := .builtin .append, args := #[x, y], argTypes := #[t, u] }, ty, pos, aft, none⟩ :: os) Q :=
  Run.step (p := fun v' V' H' => ∃ s', Ow e k v' (n + m) (xs ++ ys) s' ∧ (∃ p c, v' = .slice p (n + m) c) ∧ V' = V ∧ H' = H.set j s') hd (fun (a : Act) (w : World) (i : Is C V H L a w) => by
    have hu := (under_elemS ht).1
    obtain ⟨c1, c2, ut, c3, c4⟩ := hs.run i.2
    have c1' : ∀ w', (Builtin.lenOf yv).run C.P w' = .ok m w' := fun w' => by
      rcases hs.2 with ⟨_, _, p, c, q, _⟩ | ⟨_, _, str, q, q', _⟩
      · subst q; simp [Builtin.lenOf]
      · subst q; simp [Builtin.lenOf, q']
    have hys := hs.1
    obtain ⟨inf, hj, hzz, rfl, rfl, hzs⟩ := zeroInfo_spec hz
    have hoo := ho
    obtain ⟨l1, l2⟩ := ho
    have hlen : (xs ++ ys).length = (n + m) * inf.size := by rw [List.length_append, l1, hys, Nat.add_mul]
    have hrun : ∀ (p : Option Addr) (cap : Nat), v = .slice p n cap → (execOp a.eval ⟨some d, .call { callee := .builtin .append, args := #[x, y], argTypes := #[t, u] }, ty, pos, aft, none⟩).run C.P w =
        ((Builtin.append_ #[t, u] ty #[.slice p n cap, yv]).run C.P w).andThen fun r w' => .ok (.value r) w' := fun p cap hv => by
      have e1 := i.1.ev hx
      have e2 := i.1.ev hy
      simp [execOp, resolve, invoke, builtin, e1, e2, hv]
    have std : St C.B C.S C.U V H w.drew := i.2.drawnTo _
    have c2' : (Builtin.firstCells inf.size m yv).run C.P w.drew = .ok ys.toArray w.drew := (hs.run std).2.1
    have grown : ∀ (p : Option Addr) (cap : Nat), cap < n + m → v = .slice p n cap → (Builtin.firstCells inf.size n (.slice p n cap)).run C.P w.drew = .ok xs.toArray w.drew →
        ∃ r w' V' H', (execOp a.eval ⟨some d, .call { callee := .builtin .append, args := #[x, y], argTypes := #[t, u] }, ty, pos, aft, none⟩).run C.P w = .ok (.value r) w' ∧
          (∃ s', Ow e inf.size r (n + m) (xs ++ ys) s' ∧ (∃ p c, r = .slice p (n + m) c) ∧ V' = V ∧ H' = H.set j s') ∧ St C.B C.S C.U V' H' w' := by
      intro p cap hcap hv hold
      have hr := run_append_more (P := C.P) (w := w) t u ty e inf zv hu c3 c4 hj hzz p n cap m yv xs.toArray ys.toArray c1' hold c2' hcap hm (growslice_fits hcap hb)
      refine ⟨_, _, V, _, by rw [hrun p cap hv, hr]; rfl, ⟨_, ⟨hlen, .inr ⟨w.heap.size, _, _, rfl, rfl, grownCap_ge _ _ _ _, grownCap_le_maxLen _ _ _ _ (by unfold maxLen; omega), ?_, ?_⟩⟩, ⟨_, _, rfl⟩, rfl, rfl⟩, i.2.swap hi _ _⟩
      · simp only [Array.size_append, List.size_toArray, size_zeroCells, hzs, l1, hys, ← Nat.add_mul]
        have := grownCap_ge w (n + m) cap e
        congr 1; omega
      · intro q hq
        rw [Array.getElem?_append_left (by simp only [Array.size_append, List.size_toArray, l1, hys, ← Nat.add_mul]; exact hq)]
        simp
    rcases l2 with ⟨rfl, rfl, rfl⟩ | ⟨b, cap, cur, rfl, rfl, q1, q2, q3, q4⟩
    · have hx0 : xs = [] := List.eq_nil_of_length_eq_zero (by simpa using l1)
      subst hx0
      by_cases hm0 : m = 0
      · subst hm0
        have hy0 : ys = [] := List.eq_nil_of_length_eq_zero (by simpa using hys)
        subst hy0
        have hset : H.set j [] = H := by
          clear kk hx hy ht hz hk hs hb hm h1 hd i hu c1 c2 c3 c4 c1' hys hj hzz hzs hoo hlen hrun std c2' grown l1
          induction H generalizing j with
          | nil => rfl
          | cons q H ih =>
            cases j with
            | zero => simp only [List.getElem?_cons_zero, Option.some.injEq] at hi; subst hi; rfl
            | succ j => simp only [List.getElem?_cons_succ] at hi; simp [ih hi]
        refine ⟨.slice none 0 0, w, V, _, ?_, ⟨[], ⟨by simp, .inl ⟨rfl, rfl, rfl⟩⟩, ⟨_, _, rfl⟩, rfl, rfl⟩, by rw [hset]; exact i.2⟩
        rw [hrun none 0 rfl]
        rcases c4 with ⟨q, rfl⟩ | rfl <;> simp [Builtin.append_, run_underlying hu, run_underlying c3, sizeOf, typeInfo, hj, c1', c2]
      · exact grown none 0 (by omega) rfl (run_firstCells_none w.drew inf.size 0 0 0)
    · have hcell := i.2.own b _ (mem_of_at hi (List.mem_cons_self ..))
      by_cases hroom : n + m ≤ cap
      · have hfit : n * inf.size + ys.length ≤ cur.size := by rw [hys, q3, ← Nat.add_mul]; exact Nat.mul_le_mul_right _ hroom
        obtain ⟨w', k1, k2, k3, k4, k5, k6, k7⟩ := run_append_room' (P := C.P) (w := w) t u ty e inf hu c3 c4 hj b n cap m yv ys cur c1' c2 hcell hfit h1 hroom
        refine ⟨_, w', V, _, by rw [hrun _ cap rfl, k1]; rfl, ⟨[(b, .cells (putCells cur (n * inf.size) ys) e (0, 0))], ⟨hlen, .inr ⟨b, cap, _, rfl, rfl, hroom, q2, by rw [size_putCells]; exact q3, fun q hq => ?_⟩⟩, ⟨_, _, rfl⟩, rfl, rfl⟩,
          i.2.turn hi rfl (fun b' hb' => k3 b' (by simpa using hb')) (fun b' o' ho' => by rw [List.mem_singleton] at ho'; cases ho'; exact k2) k4 k5 k6 (by omega)⟩
        rw [putCells_get _ _ _ _ hfit, hys]
        rw [Nat.add_mul] at hq
        by_cases hlt : q < n * inf.size
        · rw [if_pos hlt, List.getElem?_append_left (by omega)]; exact q4 q hlt
        · rw [if_neg hlt, if_pos hq, List.getElem?_append_right (by omega), l1]
      · refine grown _ cap (by omega) rfl ?_
        exact run_firstCells_some w.drew inf.size n _ _ _ xs l1 (fun q v hq => by
          rw [Addr.add_plain, Nat.zero_add]
          have hlt : q < n * inf.size := by rw [← l1]; exact (List.getElem?_eq_some_iff.1 hq).1
          exact cell_of (w := w.drew) (std.own b _ (mem_of_at hi (List.mem_cons_self ..))) ((q4 q hlt).trans hq)))
    (fun v' V' H' ⟨s', q1, q2, q3, q4⟩ => by subst q3 q4; exact kk v' s' q1 q2)
theorem Run.makeSlice {x y : Operand} {t e : TypeId} {k bytes n : Nat} {zv : Value} (hx : ev L x = some (.int .i64 (n : Int))) (hy : ev L y = some (.int .i64 (n : Int))) (ht : elemS C.P t = some (e, k)) (hz : zeroInfo C.P e = some (k, bytes, zv)) (hk : 0 < k)
    (hb : bytes * n ≤ 281474976710656) (hn : n ≤ 9223372036854775807) (hd : d < C.n)
    (kk : ∀ b, Run C ops V ([(b, .cells (rep zv.cells.toList n).toArray e)] :: H) ((d, .slice (some ⟨b, 0, none⟩) n n) :: L) os Q) :
    Run C ops V H L (⟨some d, .makeSlice t x y, ty, pos, aft, none⟩ :: os) Q :=
  Run.step (p := fun v V' H' => ∃ b, v = .slice (some ⟨b, 0, none⟩) n n ∧ V' = V ∧ H' = [(b, .cells (rep zv.cells.toList n).toArray e)] :: H) hd
    (fun (a : Act) (w : World) (i : Is C V H L a w) => by
      have hu := (under_elemS ht).1
      obtain ⟨inf, hj, hzz, h1, h2, hzs⟩ := zeroInfo_spec hz
      subst h1 h2
      have hw : IntKind.i64.wrap (n : Int) = n := by
        have e1 : (2 ^ IntKind.i64.bits : Int) = 18446744073709551616 := rfl
        have e2 : (2 ^ (IntKind.i64.bits - 1) : Int) = 9223372036854775808 := rfl
        simp only [IntKind.wrap, e1, e2, show IntKind.i64.signed = true from rfl, Bool.true_and, decide_eq_true_eq]
        split <;> omega
      have hbig : ¬ ((281474976710656 : Int) < (inf.bytes : Int) * (n : Int)) := by
        have : ((inf.bytes * n : Nat) : Int) ≤ 281474976710656 := by omega
        rw [Int.natCast_mul] at this; omega
      have hneg : ¬ ((n : Int) < 0) := by omega
      have hz2 := zeros_rep zv.cells n (by omega)
      rw [hzs] at hz2
      have hroom : (askRoom (n * inf.bytes)).run C.P w = .ok () w := by unfold askRoom; split <;> rfl
      have hzv : (zeroValue e).run C.P w = .ok zv w := by simp [zeroValue, typeInfo, hj, program, Sem.run, hzz]
      refine ⟨_, _, V, _, ?_, ⟨w.heap.size, rfl, rfl, rfl⟩, i.2.alloc _⟩
      have h48 : ((2 : Int) ^ 48) = 281474976710656 := rfl
      simp only [execOp, i.1.ev hx, i.1.ev hy, Instr.makeSlice, Sem.run_bind, run_underlying hu, Result.andThen_ok, asInt, asIntOf, Sem.run_pure, typeInfo, run_program, hj, hw, h48]
      simp only [hneg, hbig, decide_false, Bool.or_false, Int.lt_irrefl, Bool.false_eq_true, if_false, GT.gt, Sem.run_bind, hroom, Result.andThen_ok, Int.toNat_natCast, sizeOf, typeInfo, run_program, hj, Sem.run_pure, newRow, Sem.run_ite]
      by_cases h0 : n * inf.size = 0
      · have hn0 : n = 0 := by rcases Nat.mul_eq_zero.1 h0 with h | h <;> omega
        subst hn0
        rw [if_pos h0]
        simp [rep, newObj, Sem.run, show Array.range 0 = #[] from by simp]
      · rw [if_neg h0]
        simp only [Sem.run_bind, hzv, Result.andThen_ok, Sem.run_pure, hzs, hz2]
        rfl)
    (fun v V' H' ⟨b, h1, h2, h3⟩ => by subst h1 h2 h3; exact kk b)
end
end Go.K
