/- The rule of the walks on append of new noughts: append(s, make([]T, m)...).
Conditions: none; nothing here speaks of a program. -/
import Derived.Test.YtjfacdepgkdoeaaK10
namespace Go.K
section
variable {P : Program} {w : World}
theorem run_zeros_more (t u ty e : TypeId) (i : TypeInfo) (z : Value) (ht : P.underlying t = some (.slice e)) (hu : P.underlying u = some (.int .i64)) (hi : P.info? e = some i) (hz : i.zero = some z)
    (p : Option Addr) (n cap m : Nat) (X : Array Value) (hm : 0 < m) (hs : 0 < i.size) (hw : IntKind.i64.wrap (m : Int) = m) (hb : (m : Int) * (i.bytes : Int) ≤ 281474976710656) (h2 : (Builtin.firstCells i.size n (.slice p n cap)).run P w.drew = .ok X w.drew)
    (hg : cap < n + m) (h63 : n + m ≤ 9223372036854775807) (hfit : Builtin.nextslicecap (n + m) cap * i.bytes ≤ 281474976710656) :
    (Builtin.append_ #[t, u] ty #[.slice p n cap, .int .i64 (m : Int)]).run P w = .ok (.slice (some ⟨w.heap.size, 0, none⟩) (n + m) (grownCap w (n + m) cap e))
      (w.drew.alloc (.cells (X ++ Builtin.zeroCells z.cells m ++ Builtin.zeroCells z.cells (grownCap w (n + m) cap e - (n + m))) e)) := by
  have hn : ¬ (n + m ≤ cap) := by omega
  have h63' : ¬ (9223372036854775807 < ((n : Int) + (m : Int))) := by omega
  have h48' : ¬ (281474976710656 < Builtin.nextslicecap (n + m) cap * i.bytes) := by omega
  have hb' : ¬ ((281474976710656 : Int) < (m : Int) * (i.bytes : Int)) := by omega
  have hneg : ¬ ((m : Int) < 0) := by omega
  have hms : ¬ m * i.size = 0 := fun h => by rcases Nat.mul_eq_zero.1 h with h | h <;> omega
  simp [Builtin.append_, run_underlying ht, run_underlying hu, sizeOf, typeInfo, zeroValue, hi, hz, hn, h63', h48', Question.forced, h2, newRow, grownCap, asInt, asIntOf, hw, hb', hneg, hms]

theorem run_zeros_room (t u ty e : TypeId) (i : TypeInfo) (z : Value) (ht : P.underlying t = some (.slice e)) (hu : P.underlying u = some (.int .i64)) (hi : P.info? e = some i) (hz : i.zero = some z)
    (b n cap m : Nat) (cur : Array Value) (hm : 0 < m) (hs : 0 < i.size) (hw : IntKind.i64.wrap (m : Int) = m) (hbb : (m : Int) * (i.bytes : Int) ≤ 281474976710656)
    (hb : w.heap[b]? = some (.cells cur e (0, 0))) (hl : n * i.size + (Builtin.zeroCells z.cells m).toList.length ≤ cur.size) (h1s : (Builtin.zeroCells z.cells m).toList.all one = true) (hg : n + m ≤ cap) :
    ∃ w', (Builtin.append_ #[t, u] ty #[.slice (some ⟨b, 0, none⟩) n cap, .int .i64 (m : Int)]).run P w = .ok (.slice (some ⟨b, 0, none⟩) (n + m) cap) w' ∧ w'.heap[b]? = some (.cells (putCells cur (n * i.size) (Builtin.zeroCells z.cells m).toList) e (0, 0)) ∧
      (∀ b', b' ≠ b → w'.heap[b']? = w.heap[b']?) ∧ w'.os = w.os ∧ w'.tape = w.tape ∧ w'.output = w.output ∧ w'.heap.size = w.heap.size := by
  obtain ⟨w', k1, k2, k3⟩ := run_storeCells (P := P) (off := n * i.size) _ 0 w cur hb (by omega) h1s
  refine ⟨w', ?_, by simpa using k2, k3⟩
  have hb' : ¬ ((281474976710656 : Int) < (m : Int) * (i.bytes : Int)) := by omega
  have hneg : ¬ ((m : Int) < 0) := by omega
  have hms : ¬ m * i.size = 0 := fun h => by rcases Nat.mul_eq_zero.1 h with h | h <;> omega
  simp [Builtin.append_, run_underlying ht, run_underlying hu, sizeOf, typeInfo, zeroValue, hi, hz, hg, Addr.add_plain, asInt, asIntOf, hw, hb', hneg, hms, k1]
end

section
variable {C : Cx} {V : Vw} {H : Hp} {L : Sl} {Q : Exit → Act → World → Prop} {ops : Array Oper} {os : List Oper}
variable {ty : TypeId} {pos : String} {aft : Array Edge} {d : Nat}

theorem Run.appendZeros {x y : Operand} {t u e : TypeId} {k bytes n m j : Nat} {zv v : Value} {xs : List Value} {s : Sg} (hx : ev L x = some v) (hy : ev L y = some (.int .i64 (m : Int))) (ht : elemS C.P t = some (e, k)) (hu : tagOf C.P u = some (0, .i64)) (hz : zeroInfo C.P e = some (k, bytes, zv)) (hk : 0 < k) (hm0 : 0 < m)
    (hi : H[j]? = some s) (ho : Ow e k v n xs s) (hb : (n + m) * bytes ≤ 140737488355328) (hm : n + m ≤ 9223372036854775807) (h1 : (rep zv.cells.toList m).all one = true) (hd : d < C.n)
    (kk : ∀ v' s', Ow e k v' (n + m) (xs ++ rep zv.cells.toList m) s' → (∃ p c, v' = .slice p (n + m) c) → Run C ops V (H.set j s') ((d, v') :: L) os Q) :
    Run C ops V H L (⟨some d, .call { callee := .builtin .append, args := #[x, y], argTypes := #[t, u] }, ty, pos, aft, none⟩ :: os) Q :=
  Run.step (p := fun v' V' H' => ∃ s', Ow e k v' (n + m) (xs ++ rep zv.cells.toList m) s' ∧ (∃ p c, v' = .slice p (n + m) c) ∧ V' = V ∧ H' = H.set j s') hd (fun (a : Act) (w : World) (i : Is C V H L a w) => by
    have hut := (under_elemS ht).1
    have huu : C.P.underlying u = some (.int .i64) := by
      unfold tagOf at hu
      cases hd : C.P.underlying u with
      | none => rw [hd] at hu; cases hu
      | some q => rw [hd] at hu; cases q <;> simp at hu <;> rw [hu]
    obtain ⟨inf, hj, hzz, rfl, rfl, hzs⟩ := zeroInfo_spec hz
    have hoo := ho
    obtain ⟨l1, l2⟩ := ho
    have hzr : Builtin.zeroCells zv.cells m = (rep zv.cells.toList m).toArray := by unfold Builtin.zeroCells; rw [zeros_rep zv.cells m (by omega)]
    have hys : (rep zv.cells.toList m).length = m * inf.size := by rw [length_rep]; simp [hzs]
    have hlen : (xs ++ rep zv.cells.toList m).length = (n + m) * inf.size := by rw [List.length_append, l1, hys, Nat.add_mul]
    have hrun : ∀ (p : Option Addr) (cap : Nat), v = .slice p n cap → (execOp a.eval ⟨some d, .call { callee := .builtin .append, args := #[x, y], argTypes := #[t, u] }, ty, pos, aft, none⟩).run C.P w =
        ((Builtin.append_ #[t, u] ty #[.slice p n cap, .int .i64 (m : Int)]).run C.P w).andThen fun r w' => .ok (.value r) w' := fun p cap hv => by
      have e1 := i.1.ev hx
      have e2 := i.1.ev hy
      simp [execOp, resolve, invoke, builtin, e1, e2, hv]
    have std : St C.B C.S C.U V H w.drew := i.2.drawnTo _
    have hwr : IntKind.i64.wrap (m : Int) = m := wrap_i64 (by omega)
    have hmb : (m : Int) * (inf.bytes : Int) ≤ 281474976710656 := by
      have : m * inf.bytes ≤ 140737488355328 := Nat.le_trans (Nat.mul_le_mul_right _ (by omega)) hb
      have h2 : ((m * inf.bytes : Nat) : Int) ≤ 281474976710656 := by omega
      rwa [Int.natCast_mul] at h2
    have grown : ∀ (p : Option Addr) (cap : Nat), cap < n + m → v = .slice p n cap → (Builtin.firstCells inf.size n (.slice p n cap)).run C.P w.drew = .ok xs.toArray w.drew →
        ∃ r w' V' H', (execOp a.eval ⟨some d, .call { callee := .builtin .append, args := #[x, y], argTypes := #[t, u] }, ty, pos, aft, none⟩).run C.P w = .ok (.value r) w' ∧
          (∃ s', Ow e inf.size r (n + m) (xs ++ rep zv.cells.toList m) s' ∧ (∃ p c, r = .slice p (n + m) c) ∧ V' = V ∧ H' = H.set j s') ∧ St C.B C.S C.U V' H' w' := by
      intro p cap hcap hv hold
      have hr := run_zeros_more (P := C.P) (w := w) t u ty e inf zv hut huu hj hzz p n cap m xs.toArray hm0 hk hwr hmb hold hcap hm (growslice_fits hcap hb)
      refine ⟨_, _, V, _, by rw [hrun p cap hv, hr]; rfl, ⟨_, ⟨hlen, .inr ⟨w.heap.size, _, _, rfl, rfl, grownCap_ge _ _ _ _, grownCap_le_maxLen _ _ _ _ (by unfold maxLen; omega), ?_, ?_⟩⟩, ⟨_, _, rfl⟩, rfl, rfl⟩, i.2.swap hi _ _⟩
      · rw [hzr]
        simp only [Array.size_append, List.size_toArray, size_zeroCells, hzs, l1, hys, ← Nat.add_mul]
        have := grownCap_ge w (n + m) cap e
        congr 1; omega
      · intro q hq
        rw [hzr, Array.getElem?_append_left (by simp only [Array.size_append, List.size_toArray, l1, hys, ← Nat.add_mul]; exact hq)]
        simp
    rcases l2 with ⟨rfl, rfl, rfl⟩ | ⟨b, cap, cur, rfl, rfl, q1, q2, q3, q4⟩
    · have hx0 : xs = [] := List.eq_nil_of_length_eq_zero (by simpa using l1)
      subst hx0
      exact grown none 0 (by omega) rfl (run_firstCells_none w.drew inf.size 0 0 0)
    · have hcell := i.2.own b _ (mem_of_at hi (List.mem_cons_self ..))
      by_cases hroom : n + m ≤ cap
      · have hfit : n * inf.size + (rep zv.cells.toList m).length ≤ cur.size := by rw [hys, q3, ← Nat.add_mul]; exact Nat.mul_le_mul_right _ hroom
        obtain ⟨w', k1, k2, k3, k4, k5, k6, k7⟩ := run_zeros_room (P := C.P) (w := w) t u ty e inf zv hut huu hj hzz b n cap m cur hm0 hk hwr hmb hcell (by rw [hzr]; simpa using hfit) (by rw [hzr]; simpa using h1) hroom
        rw [hzr] at k2
        simp only at k2
        refine ⟨_, w', V, _, by rw [hrun _ cap rfl, k1]; rfl, ⟨[(b, .cells (putCells cur (n * inf.size) (rep zv.cells.toList m)) e (0, 0))], ⟨hlen, .inr ⟨b, cap, _, rfl, rfl, hroom, q2, by rw [size_putCells]; exact q3, fun q hq => ?_⟩⟩, ⟨_, _, rfl⟩, rfl, rfl⟩,
          i.2.turn hi rfl (fun b' hb' => k3 b' (by simpa using hb')) (fun b' o' ho' => by rw [List.mem_singleton] at ho'; cases ho'; exact k2) k4 k5 k6 (by omega)⟩
        rw [putCells_get _ _ _ _ hfit, hys]
        rw [Nat.add_mul] at hq
        by_cases hlt : q < n * inf.size
        · rw [if_pos hlt, List.getElem?_append_left (by omega)]; exact q4 q hlt
        · rw [if_neg hlt, if_pos hq, List.getElem?_append_right (by omega), l1]
      · refine grown _ cap (by omega) rfl ?_
        exact run_firstCells_some w.drew inf.size n _ _ _ xs l1 (fun q v hq => by
          rw [Addr.add_plain, Nat.zero_add]
          have hlt : q < n * inf.size := by rw [← l1]; exact (List.getElem?_eq_some_iff.1 hq).1
          exact cell_of (w := w.drew) (std.own b _ (mem_of_at hi (List.mem_cons_self ..))) ((q4 q hlt).trans hq)))
    (fun v' V' H' ⟨s', q1, q2, q3, q4⟩ => by subst q3 q4; exact kk v' s' q1 q2)

/-- An empty slice, made by its parts. -/
theorem Run.buildSlice0 {t et : TypeId} {z : Nat} (ht : elemS C.P t = some (et, z)) (hd : d < C.n)
    (k : ∀ b, Run C ops V ([(b, .cells #[] et)] :: H) ((d, .slice (some ⟨b, 0, none⟩) 0 0) :: L) os Q) :
    Run C ops V H L (⟨some d, .buildSlice t 0 #[], ty, pos, aft, none⟩ :: os) Q :=
  Run.step (p := fun v V' H' => ∃ b, v = .slice (some ⟨b, 0, none⟩) 0 0 ∧ V' = V ∧ H' = [(b, .cells #[] et)] :: H) hd
    (fun a w i => by
      have hu := (under_elemS ht).1
      have hs := run_sizeOf (w := w) (under_elemS ht).2
      refine ⟨_, _, V, _, ?_, ⟨_, rfl, rfl, rfl⟩, i.2.alloc _⟩
      simp [execOp, Instr.buildSlice, run_underlying hu, hs, Instr.fill, newRow]
      rw [show Array.range 0 = #[] from by simp, Array.map_empty])
    (fun v V' H' ⟨b, h1, h2, h3⟩ => by subst h1 h2 h3; exact k b)
end
end Go.K
