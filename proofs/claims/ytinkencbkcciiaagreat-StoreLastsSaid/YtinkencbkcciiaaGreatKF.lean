/- The rule of the walks on a store of a whole element into a slice of one's own.
Conditions: none; nothing here speaks of a program. -/
import Derived.Test.YtinkencbkcciiaaGreatKE
import Derived.Test.YtinkencbkcciiaaGreatSA
set_option linter.unusedSimpArgs false
set_option linter.unusedVariables false
set_option linter.unusedSectionVars false
namespace Go.K
theorem setL_size : ∀ (vs l : List Value) (off : Nat),(setL l off vs).length = l.length
  | [],_,_ => rfl
  | v :: vs,l,off => by show (setL (l.set off v) (off + 1) vs).length = _; rw [setL_size vs]; simp
theorem setL_same {N : Nat} : ∀ (vs c xs : List Value) (off : Nat),(∀ m,m < N → c[m]? = xs[m]?) → off + vs.length ≤ N → N ≤ c.length → N ≤ xs.length → ∀ m,m < N → (setL c off vs)[m]? = (setL xs off vs)[m]?
  | [],_,_,_,h,_,_,_ => h
  | v :: vs,c,xs,off,h,h1,h2,h3 => by
    simp only [List.length_cons] at h1
    refine setL_same vs (c.set off v) (xs.set off v) (off + 1) (fun m hm => ?_) (by omega) (by simpa using h2) (by simpa using h3)
    rw [List.getElem?_set,List.getElem?_set]
    by_cases e : off = m
    · rw [if_pos e,if_pos e,if_pos (by omega),if_pos (by omega)]
    · rw [if_neg e,if_neg e]; exact h m hm
theorem flat_setL {α : Type} {f : α → List Value} {k : Nat} (h : Enc f k) {l : List α} {i : Nat} {x : α} (hi : i < l.length) : setL (l.flatMap f) (i * k) (f x) = (l.set i x).flatMap f := by
  have := flat_set h [] x l i hi
  simpa using this
section
variable {C : Cx} {V : Vw} {H : Hp} {L : Sl} {Q : Exit → Act → World → Prop} {ops : Array Oper} {os : List Oper}
variable {ty : TypeId} {pos : String} {aft : Array Edge} {d : Nat}
theorem Run.stOA {α : Type} {f : α → List Value} {x y : Operand} {t e k n c j i : Nat} {p : Option Addr} {l : List α} {u : α} {s : Sg} (hz : Enc f k) (hk0 : 0 < k) (hx : ev L x = some (elp p (i * k))) (hy : ev L y = some (.agg (f u).toArray)) (ht : sizeT C.P t = some k) (ho : Ow e k (.slice p n c) n (l.flatMap f) s) (hi : H[j]? = some s) (hil : i < l.length) (h1 : (f u).all one = true)
    (kk : ∀ s',Ow e k (.slice p n c) n ((l.set i u).flatMap f) s' → Run C ops V (H.set j s') L os Q) : Run C ops V H L (⟨none,.store t x y,ty,pos,aft,none⟩ :: os) Q := by
  obtain ⟨h1',⟨_,h2,_⟩ | ⟨b,cap,cur,h2,h3,h4,h5,h6,h7⟩⟩ := ho
  · exfalso
    subst h2; rw [flat_len hz] at h1'
    have := Nat.mul_pos (show 0 < l.length by omega) hk0
    omega
  · cases h2; subst h3
    rw [flat_len hz] at h1'
    have hik : i * k + k ≤ n * k := by rw [← h1',← Nat.succ_mul]; exact Nat.mul_le_mul_right _ hil
    have hnc : n * k ≤ c * k := Nat.mul_le_mul_right _ h4
    refine Run.store (s := [(b,.cells (setL cur.toList (i * k) (f u)).toArray e (0,0))]) (c := cur.toList) (by rw [elp_some,Nat.zero_add] at hx; exact hx) hy ht (by rw [hi]) (by show (f u).toArray.size = k; simp [hz.len]) (by rw [Array.length_toList,h6]; omega) (by show (f u).toArray.toList.all one = true; simpa using h1) rfl (kk _ ?_)
    refine ⟨by rw [flat_len hz,List.length_set]; exact h1',.inr ⟨b,c,_,rfl,rfl,h4,h5,by rw [List.size_toArray,setL_size,Array.length_toList]; exact h6,fun m hm => ?_⟩⟩
    rw [← flat_setL hz hil,List.getElem?_toArray]
    exact setL_same (N := n * k) (f u) cur.toList (l.flatMap f) (i * k) (fun m hm => by rw [Array.getElem?_toList]; exact h7 m hm) (by rw [hz.len]; exact hik) (by rw [Array.length_toList,h6]; exact hnc) (by rw [flat_len hz]; omega) m hm
end
end Go.K
namespace Go.K
section
variable {C : Cx} {V : Vw} {H : Hp} {L : Sl} {Q : Exit → Act → World → Prop} {l : Nat}
end
end Go.K
namespace Go.K
theorem Does.outcut {P : Program} {f : FuncId} {args : List Value} {V : Vw} {H : Hp} {R R' : Value → Vw → Hp → Prop} (h : Does P f args V H R) (k : ∀ v V' H',R v V' H' → ∃ H2,H2.flatten.Perm H'.flatten ∧ R' v V' H2) : Does P f args V H R' :=
  ⟨h.1,fun B hB => (h.2 B hB).mono fun e w' ⟨v,V',H',q1,q2,q3⟩ => let ⟨H2,p,r⟩ := k v V' H' q2; ⟨v,V',H2,q1,r,q3.recut p⟩⟩
theorem one_piece (H : Hp) : ([H.flatten] : Hp).flatten.Perm H.flatten := List.Perm.of_eq (by simp)
theorem Does.one {P : Program} {f : FuncId} {args : List Value} {V : Vw} {H : Hp} {R : Value → Vw → Hp → Prop} (h : Does P f args V H R) : Does P f args V [H.flatten] R := h.recut (one_piece H)
theorem two_piece (s : Sg) (H : Hp) : ([s,H.flatten] : Hp).flatten.Perm (s :: H).flatten := List.Perm.of_eq (by simp)
end Go.K
namespace Go.K
theorem Om.form {kk : IntKind} {v : Value} {l : List (Int × Value)} {s : Sg} (h : Om kk v l s) : ∃ b,v = .map (some b) := by
  obtain ⟨b,_,_,e,_⟩ := h; exact ⟨b,e⟩
theorem Does.frameP {P : Program} {f : FuncId} {args : List Value} {v0 : Value} {V : Vw} {H Hf Hc : Hp} (h : Does P f args V Hc (Pv v0 V Hc)) (p : (Hf ++ Hc).Perm H) : Does P f args V H (Pv v0 V H) :=
  ⟨h.1,fun B hB => (h.2 B (hB.perm p).give).mono fun e w' ⟨v,V',H',he,hR,s⟩ => by
    obtain ⟨h1,h2,h3⟩ := hR
    subst h1 h2 h3
    exact ⟨v,V',H,he,⟨rfl,rfl,rfl⟩,((hB.perm p).take s).perm p.symm⟩⟩
theorem erase_perm {α : Type} : ∀ {l : List α} {j : Nat} {x : α},l[j]? = some x → (l.eraseIdx j ++ [x]).Perm l
  | [],_,_,h => by cases h
  | y :: l,0,x,h => by
    simp only [List.getElem?_cons_zero,Option.some.injEq] at h; subst h
    exact List.perm_append_comm (l₂ := [y])
  | y :: l,j + 1,x,h => by
    simp only [List.getElem?_cons_succ] at h
    exact (erase_perm h).cons y
theorem Does.frame1 {P : Program} {f : FuncId} {args : List Value} {v0 : Value} {V : Vw} {H : Hp} {s : Sg} (j : Nat) (hj : H[j]? = some s) (h : Does P f args V [s] (Pv v0 V [s])) : Does P f args V H (Pv v0 V H) := h.frameP (erase_perm hj)
section
variable {C : Cx} {V : Vw} {H : Hp} {L : Sl} {Q : Exit → Act → World → Prop} {ops : Array Oper} {os : List Oper}
variable {ty : TypeId} {pos : String} {aft : Array Edge} {d : Nat}
variable {α : Type} {f : α → Value}
def pm (f : α → Value) (l : List (Int × α)) : List (Int × Value) := l.map fun x => (x.1,f x.2)
end
end Go.K
