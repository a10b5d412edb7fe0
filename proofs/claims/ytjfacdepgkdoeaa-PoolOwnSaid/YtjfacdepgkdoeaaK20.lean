/- What is shown at a walk's end; a string's bytes, as a slice.
Conditions: none; nothing here speaks of a program. -/
import Derived.Test.YtjfacdepgkdoeaaK17
import Derived.Test.YtjfacdepgkdoeaaK23
import Derived.Test.YtjfacdepgkdoeaaK19
set_option linter.unusedSimpArgs false
namespace Go.K
/-- Once the block is known to all, v reads so. -/
def Shows (k : Nat) (v : Value) (n : Nat) (xs : List Value) (s : Sg) : Prop := ∀ V2 : Vw, (∀ b o, s.lookup b = some o → V2 b = some o) → Rd V2 [] k v n xs
theorem Ow.shows {e k : Nat} {v : Value} {n : Nat} {xs : List Value} {s : Sg} (h : Ow e k v n xs s) : Shows k v n xs s := fun V2 hs => h.show hs
section
variable {C : Cx} {V : Vw} {H : Hp} {L : Sl} {Q : Exit → Act → World → Prop} {ops : Array Oper} {os : List Oper}
variable {ty : TypeId} {pos : String} {aft : Array Edge} {d : Nat}
theorem Ex.show {e : Exit} {s : Sg} (k : ∀ V2 : Vw, V.le V2 → (∀ b o, s.lookup b = some o → V2 b = some o) → Ex C V2 H L Q e) : Ex C V (s :: H) L Q e := fun a w i =>
  k (fun c => match s.lookup c with | some o => some o | none => V c) (fun b o h => by
    have hn := i.2.vd b o h
    have hl : s.lookup b = none := by
      cases hl : s.lookup b with
      | none => rfl
      | some o' => exact absurd (mem_keys (H := s :: H) (o := o') (by rw [List.flatten_cons]; exact List.mem_append_left _ (lookup_mem hl))) hn
    simp only [hl]; exact h) (fun b o h => by simp only [h]) a w ⟨i.1, i.2.leak⟩
theorem Ex.keepTo {e : Exit} {H' : Hp} (is : List Nat) (h : (pull is H).2 = H') (k : Ex C V H' L Q e) : Ex C V H L Q e := Ex.keep is (by rw [h]; exact k)
theorem Run.keepTo {H' : Hp} (is : List Nat) (h : (pull is H).2 = H') (k : Run C ops V H' L os Q) : Run C ops V H L os Q := Run.keep is (by rw [h]; exact k)
/-- The heap, written anew. -/
theorem Run.heapTo {H' : Hp} (h : H = H') (k : Run C ops V H' L os Q) : Run C ops V H L os Q := by subst h; exact k
theorem Run.strBytes {x : Operand} {s t e : TypeId} {str : ByteArray} (hx : ev L x = some (.string str)) (hs : elemS C.P t = some (e, 1)) (he : tagOf C.P e = some (0, .u8)) (ht : strT C.P s = true) (hd : d < C.n)
    (kk : ∀ v s', Shows 1 v str.size (str.toList.map byteV) s' → (∃ p c, v = .slice p str.size c) → Run C ops V (s' :: H) ((d, v) :: L) os Q) :
    Run C ops V H L (⟨some d, .convert s t x, ty, pos, aft, none⟩ :: os) Q :=
  Run.step (p := fun v V' H' => ∃ s', Shows 1 v str.size (str.toList.map byteV) s' ∧ (∃ p c, v = .slice p str.size c) ∧ V' = V ∧ H' = s' :: H) hd (fun a w i => by
    have hu := (under_elemS hs).1
    have hut := under_str ht
    have hue : C.P.underlying e = some (.int .u8) := by
      unfold tagOf at he
      cases hd : C.P.underlying e with
      | none => rw [hd] at he; cases he
      | some q => rw [hd] at he; cases q <;> simp at he <;> rw [he]
    have hr := run_bytes_of_string (P := C.P) w s t e str hut hu hue
    have hcell := grownCap_ge w str.size 0 e
    have hrun : (execOp a.eval ⟨some d, .convert s t x, ty, pos, aft, none⟩).run C.P w = .ok (.value (.slice (some ⟨w.heap.size, 0, none⟩) str.size (grownCap w str.size 0 e))) (w.drew.alloc (.cells (bytesRow str (grownCap w str.size 0 e)) e ((bytesRow str (grownCap w str.size 0 e)).size, (bytesRow str (grownCap w str.size 0 e)).size + 1))) := by
      simp only [execOp, i.1.ev hx, Sem.run_bind, hr]; rfl
    refine ⟨_, _, V, _, hrun, ⟨_, ?_, ⟨_, _, rfl⟩, rfl, rfl⟩, i.2.drew.alloc _⟩
    · intro V2 hsh
      refine ⟨by simp [ByteArray.toList_eq], _, _, rfl, hcell, .inr ⟨w.heap.size, 0, _, _, _, rfl, .inl (hsh w.heap.size _ (by simp only [List.lookup, beq_self_eq_true]; rfl)), fun j hj => ?_⟩⟩
      rw [Nat.zero_add]
      unfold bytesRow
      rw [Array.getElem?_append_left (by simpa using hj)]
      simp [ByteArray.toList_eq]
      rfl)
    (fun v V' H' ⟨s', q1, q2, q3, q4⟩ => by subst q3 q4; exact kk v s' q1 q2)
end
end Go.K
