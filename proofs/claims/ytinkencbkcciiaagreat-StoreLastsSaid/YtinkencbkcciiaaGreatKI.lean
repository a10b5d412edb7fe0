/- Arrays of numbers that are held against one another.
Conditions: none; nothing here speaks of a program. -/
import Derived.Test.YtinkencbkcciiaaGreatKH
import Derived.Test.YtinkencbkcciiaaGreatKC
import Derived.ChangeKeysEq
import Derived.Test.YtinkencbkcciiaaGreatKE
import Derived.Test.YtinkencbkcciiaaGreatKB
import Derived.LoopN
import Derived.Laws.CopyRow
import Derived.Laws.IdiomCopy
set_option linter.unusedSimpArgs false
set_option linter.unusedVariables false
set_option linter.unusedSectionVars false
namespace Go.K
section
variable {C : Cx} {V : Vw} {H : Hp} {L : Sl} {ty : TypeId}
end
end Go.K
namespace Go.K
theorem YDoes.perm {P : Program} {l : Nat} {args : List Value} {V : Vw} {H H' : Hp} {R : Value → Vw → Hp → Prop} (h : YDoes P l args V H R) (p : H'.Perm H) : YDoes P l args V H' R := fun B hB => by
  obtain ⟨fn,tmps,asg,body,h1,h2⟩ := h B ((hB.perm p.symm).memS (keys_perm p))
  exact ⟨fn,tmps,asg,body,h1,h2.mono fun e w' ⟨v,V',H2,q1,q2,q3⟩ => ⟨v,V',H2,q1,q2,q3.memS (fun b => (keys_perm p b).symm)⟩⟩
def IterO (P : Program) (gf : FuncId) (caps : List Value) (V : Vw) (Hs : Hp) {α : Type} (enc : α → List Value) (gv : α → Sg) (G : α → Prop) (S Sp : List α → Prop) (N : Nat) : Prop :=
  ∀ (l : Nat) (J Jx : List α → Hp → Prop),(∀ xs x H,G x → J xs H → xs.length < N → YDoes P l (enc x) V (gv x :: H) (fun u V' H' => V' = V ∧ (u = .bool true ∧ J (xs ++ [x]) H' ∨ u = .bool false ∧ Jx (xs ++ [x]) H'))) →
    ∀ Hy,J [] Hy → Does P gf (.func (.yield l) #[] #[] :: caps) V (Hs ++ Hy) (fun _ V' H' => V' = V ∧ ∃ xs Hy',H' = Hs ++ Hy' ∧ (S xs ∧ J xs Hy' ∨ Sp xs ∧ Jx xs Hy'))
section
variable {C : Cx} {V : Vw} {H : Hp} {L : Sl} {Q : Exit → Act → World → Prop}
theorem Tr.rangeO {g : Operand} {ps : Array Tmp} {asg body : Code} {gf : FuncId} {caps : List Value} {α : Type} {enc : α → List Value} {gv : α → Sg} {G : α → Prop} {S Sp : List α → Prop} {N : Nat} (Hk Hs Hy : Hp) (hH : H.Perm (Hk ++ (Hs ++ Hy)))
    (hg : ev L g = some (.func (.func gf) #[] caps.toArray)) (hit : IterO C.P gf caps V Hs enc gv G S Sp N) (J : List α → Hp → Prop) (Jx : Code → List α → Hp → Prop) (h0 : J [] Hy)
    (hb : ∀ l r xs x H,LoopIs C.n L ps asg body r → fresh r → G x → J xs H → xs.length < N → YDoes C.P l (enc x) V (rec_ l r :: gv x :: H) (Rd1 C.n L ps asg body V l J Jx (xs ++ [x])))
    (k1 : ∀ D xs H',S xs → J xs H' → Ex { C with D := mark D :: C.D } V (defd D :: (Hk ++ (Hs ++ H'))) L Q .normal)
    (k2 : ∀ D c xs H',Sp xs → Jx c xs H' → After { C with D := mark D :: C.D } V (defd D :: (Hk ++ (Hs ++ H'))) L Q (some c)) :
    Tr C V H L (.rangeFunc g ps asg body) Q := by
  refine Tr.rangeFunc Hk (Hs ++ Hy) hH hg (Rr := fun l r _ V' H' => V' = V ∧ ∃ xs r' H2,H' = Hs ++ (rec_ l r' :: H2) ∧ (S xs ∧ J xs H2 ∧ fresh r' ∨ Sp xs ∧ ∃ c,r'.state = .done ∧ r'.pending = some c ∧ Jx c xs H2)) ?_ ?_
  · intro l r hLI hs hp
    have := hit l (fun xs H => ∃ r' H2,H = rec_ l r' :: H2 ∧ LoopIs C.n L ps asg body r' ∧ fresh r' ∧ J xs H2) (fun xs H => ∃ r' c H2,H = rec_ l r' :: H2 ∧ r'.state = .done ∧ r'.pending = some c ∧ Jx c xs H2)
      (fun xs x H hG ⟨r',H2,e,h1,h2,h3⟩ hN => by
        subst e
        exact ((hb l r' xs x H2 h1 h2 hG h3 hN).perm (List.Perm.swap _ _ _)).mono fun u V' H' ⟨q1,q2⟩ => ⟨q1,q2.imp (fun ⟨a,r2,H3,b,c,d,e⟩ => ⟨a,r2,H3,d,b,c,e⟩) (fun ⟨a,r2,c,H3,b,d,e,f⟩ => ⟨a,r2,c,H3,e,b,d,f⟩)⟩)
      (rec_ l r :: Hy) ⟨r,Hy,rfl,hLI,⟨hs,hp⟩,h0⟩
    refine (this.perm List.perm_middle.symm).mono ?_
    rintro v V' H' ⟨rfl,xs,Hy',rfl,⟨h1,r',H2,rfl,h2,h3,h4⟩ | ⟨h1,r',c,H2,rfl,h2,h3,h4⟩⟩
    · exact ⟨rfl,xs,r',H2,rfl,.inl ⟨h1,h4,h3⟩⟩
    · exact ⟨rfl,xs,r',H2,rfl,.inr ⟨h1,c,h2,h3,h4⟩⟩
  · rintro l r D v V' H' _ ⟨rfl,xs,r',H2,rfl,⟨h1,h2,h3⟩ | ⟨h1,c,h2,h3,h4⟩⟩
    · refine ⟨r',Hs ++ H2,List.perm_middle,by rw [h3.1]; simp,?_⟩
      rw [h3.2]; exact k1 D xs H2 h1 h2
    · refine ⟨r',Hs ++ H2,List.perm_middle,by rw [h2]; simp,?_⟩
      rw [h3]; exact k2 D c xs H2 h1 h4
end
end Go.K
namespace Go.K
section
variable {C : Cx} {H : Hp} {L : Sl} {Q : Exit → Act → World → Prop} {ops : Array Oper} {os : List Oper}
theorem Ex.showAll {e : Exit} : ∀ {ss : List Sg} {V : Vw},(∀ V2 : Vw,V.le V2 → (∀ s,s ∈ ss → ∀ b o,s.lookup b = some o → V2 b = some o) → Ex C V2 H L Q e) → Ex C V (ss ++ H) L Q e
  | [],V,k => k V (Vw.le_refl V) fun s h => absurd h List.not_mem_nil
  | s :: ss,V,k => Ex.show fun V2 hle hsh => Ex.showAll fun V3 hle3 hsh3 => k V3 (Vw.le_trans hle hle3) fun s' h b o hb => by
    rcases List.mem_cons.1 h with rfl | h
    · exact hle3 b o (hsh b o hb)
    · exact hsh3 s' h b o hb
theorem Ex.showFlat {e : Exit} {α : Type} {f : α → Sg} {xs : List α} {V : Vw} (k : ∀ V2 : Vw,V.le V2 → (∀ x,x ∈ xs → ∀ b o,(f x).lookup b = some o → V2 b = some o) → Ex C V2 H L Q e) : Ex C V (xs.flatMap f :: H) L Q e := by
  have h := Ex.showAll (C := C) (H := H) (L := L) (Q := Q) (e := e) (ss := xs.map f) (V := V) fun V2 h1 h2 => k V2 h1 fun x hx => h2 (f x) (List.mem_map.2 ⟨x,hx,rfl⟩)
  refine Ex.recut ?_ h
  simp [List.flatMap_def]
end
end Go.K
namespace Go.K
section
variable {C : Cx} {V : Vw} {H : Hp} {L : Sl} {Q : Exit → Act → World → Prop} {c : Code}
theorem Tr.unroll (n : Nat) (h : Tr C V H L c (Exit.then (Code.rounds C.P c Q n) Q)) : Tr C V H L (.loop c) Q := fun a w i => wp_loop_rounds (n + 1) (h a w i)
theorem Ex.goU {n : Nat} (h : Tr C V H L c (Exit.then (Code.rounds C.P c Q n) Q)) : Ex C V H L (Exit.then (Code.rounds C.P c Q (n + 1)) Q) .normal := fun a w i => h a w i
end
end Go.K
namespace Go.K
theorem one_oneCell {v : Value} (h : one v = true) : v.oneCell' = true := by cases v <;> first | rfl | (simp [one] at h)
section
variable {C : Cx} {V : Vw} {H : Hp} {L : Sl} {Q : Exit → Act → World → Prop} {ops : Array Oper} {os : List Oper}
variable {ty : TypeId} {pos : String} {aft : Array Edge} {d : Nat}
theorem info_of_elemS {P : Program} {t e : TypeId} (ht : elemS P t = some (e,1)) : (P.info? e).map (·.size) = some 1 := (under_elemS ht).2
theorem set_self {H : Hp} : ∀ {j : Nat} {s : Sg},H[j]? = some s → H.set j s = H := by
  induction H with
  | nil => intro j s h; rfl
  | cons q H ih =>
    intro j s h
    cases j with
    | zero => simp only [List.getElem?_cons_zero,Option.some.injEq] at h; subst h; rfl
    | succ j => simp only [List.getElem?_cons_succ] at h; simp [ih h]
theorem Run.copyO {x y : Operand} {t u e n c m at_ j : Nat} {p : Option Addr} {yv : Value} {xs ys : List Value} {s : Sg} (hx : ev L x = some (.slice (if c = at_ then p else p.map (·.add (at_ * 1))) (n - at_) (c - at_))) (hy : ev L y = some yv)
    (ht : elemS C.P t = some (e,1)) (ho : Ow e 1 (.slice p n c) n xs s) (hj : H[j]? = some s) (hr : Rd V H 1 yv m ys) (hm : at_ + m ≤ n) (h1 : ys.all one = true) (hd : d < C.n)
    (kk : ∀ s',Ow e 1 (.slice p n c) n (xs.take at_ ++ ys ++ xs.drop (at_ + m)) s' → Run C ops V (H.set j s') ((d,.int .i64 (m : Int)) :: L) os Q) :
    Run C ops V H L (⟨some d,.call { callee := .builtin .copy,args := #[x,y],argTypes := #[t,u] },ty,pos,aft,none⟩ :: os) Q :=
  Run.step (p := fun v V' H' => ∃ s',Ow e 1 (.slice p n c) n (xs.take at_ ++ ys ++ xs.drop (at_ + m)) s' ∧ v = .int .i64 (m : Int) ∧ V' = V ∧ H' = H.set j s') hd (fun (a : Act) (w : World) (i : Is C V H L a w) => by
    have hu := (under_elemS ht).1
    have hsz := info_of_elemS ht
    obtain ⟨hl,sp,sc,rfl,hsc,hcell⟩ := hr
    rw [Nat.mul_one] at hl
    have hmin : Nat.min m (n - at_) = m := by show min m (n - at_) = m; omega
    have hxl : xs.length = n := by have := ho.1; omega
    have hex : ∀ r w2,(Builtin.copy_ #[t,u] ty #[.slice (if c = at_ then p else p.map (·.add (at_ * 1))) (n - at_) (c - at_),.slice sp m sc]).run C.P w = .ok r w2 →
        (execOp a.eval ⟨some d,.call { callee := .builtin .copy,args := #[x,y],argTypes := #[t,u] },ty,pos,aft,none⟩).run C.P w = .ok (.value r) w2 := fun r w2 h => by
      have e1 := i.1.ev hx
      have e2 := i.1.ev hy
      simp only [Nat.mul_one] at h e1
      simp [execOp,resolve,invoke,builtin,e1,e2,h]
    by_cases hm0 : m = 0
    · subst hm0
      obtain rfl : ys = [] := List.eq_nil_of_length_eq_zero hl
      refine ⟨_,w,V,H,hex _ _ (run_copy_none w t u ty e _ sp (n - at_) (c - at_) 0 sc hu hsz (by simp)),⟨s,?_,rfl,rfl,(set_self hj).symm⟩,i.2⟩
      rw [List.append_nil,Nat.add_zero,List.take_append_drop]; exact ho
    · rcases ho.2 with ⟨q,rfl,rfl⟩ | ⟨b,cap,cur,q,rfl,q1,q2,q3,q4⟩
      · omega
      · cases q
        rcases hcell with hz | ⟨b2,off,cs,e2,fz,rfl,a2,a3⟩
        · exact absurd hz hm0
        · have hg := i.2.own b _ (mem_of_at hj (List.mem_cons_self ..))
          rw [Nat.mul_one] at q3
          rw [if_neg (show ¬ c = at_ by omega)] at hx hex
          have hp : (some (⟨b,0,none⟩ : Addr)).map (·.add (at_ * 1)) = some ⟨b,at_,none⟩ := by simp [Addr.add_plain]
          rw [hp] at hex
          have hsrc : ∀ (k : Nat) (v : Value),ys[k]? = some v → w.cell? ((⟨b2,off,none⟩ : Addr).add k) = some v := fun k v hk => by
            rw [Addr.add_plain]
            have hlt : k < m := by rw [← hl]; exact (List.getElem?_eq_some_iff.1 hk).1
            exact cell_of (a2.st i.2) ((a3 k (by omega)).trans hk)
          have hrun := run_copy_row (P := C.P) w t u ty e b at_ (n - at_) (c - at_) ⟨b2,off,none⟩ m sc cur e ys hu hsz hg (by rw [hl,hmin]) hsrc (by omega) (fun v hv => one_oneCell (List.all_eq_true.1 h1 v hv))
          rw [hl] at hrun
          refine ⟨_,_,V,_,hex _ _ hrun,⟨[(b,.cells (cur.toList.take at_ ++ ys ++ cur.toList.drop (at_ + m)).toArray e (0,0))],⟨by simp only [List.length_append,List.length_take,List.length_drop,hxl,hl]; omega,.inr ⟨b,c,_,rfl,rfl,q1,q2,?_,fun k hk => ?_⟩⟩,rfl,rfl,rfl⟩,
            i.2.turn hj rfl (fun b' hb' => setRow_other _ _ _ _ (by simpa using hb')) (fun b' o' ho' => by rw [List.mem_singleton] at ho'; cases ho'; exact setRow_heap _ _ _ _ _ _ hg) rfl rfl rfl (by rw [size_setRow]; exact Nat.le_refl _)⟩
          · simp only [List.size_toArray,List.length_append,List.length_take,List.length_drop,Array.length_toList,hl]; omega
          · have hq := q4 k hk
            rw [List.getElem?_toArray]
            simp only [List.getElem?_append,List.length_append,List.length_take,Array.length_toList,hl,hxl,List.getElem?_take,List.getElem?_drop,Array.getElem?_toList]
            rw [show min at_ cur.size = at_ by omega,show min at_ n = at_ by omega]
            by_cases z1 : k < at_ + m
            · rw [if_pos z1,if_pos z1]
              by_cases z2 : k < at_
              · rw [if_pos z2,if_pos z2,if_pos z2,if_pos z2]; exact hq
              · rw [if_neg z2,if_neg z2]
            · rw [if_neg z1,if_neg z1]
              have hz := q4 (at_ + m + (k - (at_ + m))) (by omega)
              exact hz)
    (fun v V' H' ⟨s',q1,q2,q3,q4⟩ => by subst q2 q3 q4; exact kk s' q1)
end
end Go.K
namespace Go.K
theorem rep_cells (n : Nat) : rep (Value.int .u8 0).cells.toList n = (List.replicate n (0 : UInt8)).map byteV := by
  induction n with
  | zero => rfl
  | succ n ih => rw [List.replicate_succ,List.map_cons,← ih]; rfl
theorem Ow.made {e b n : Nat} (h : n ≤ 9223372036854775807) (h2 : n ≤ maxLen) : Ow e 1 (.slice (some ⟨b,0,none⟩) n n) n ((List.replicate n (0 : UInt8)).map byteV) [(b,.cells (rep (Value.int .u8 0).cells.toList n).toArray e (0,0))] := by
  rw [rep_cells]
  have := Ow.lit (e := e) (k := 1) (b := b) (n := n) (cur := ((List.replicate n (0 : UInt8)).map byteV).toArray) (by simp) h2
  simpa using this
theorem own1_eq {R Y1 : List Value} {n1 : Nat} (h1 : Y1.length = n1) (hR : R.length = 0 + n1) : R.take 0 ++ Y1 ++ R.drop (0 + n1) = Y1 := by
  rw [List.drop_of_length_le (by omega)]; simp
theorem own2_eq {R Y1 Y2 : List Value} {n1 n2 : Nat} (h1 : Y1.length = n1) (h2 : Y2.length = n2) (hR : R.length = 0 + n1 + n2) : (R.take 0 ++ Y1 ++ R.drop (0 + n1)).take (0 + n1) ++ Y2 ++ (R.take 0 ++ Y1 ++ R.drop (0 + n1)).drop (0 + n1 + n2) = Y1 ++ Y2 := by
  rw [List.take_zero,List.nil_append,Nat.zero_add,List.take_append_of_le_length (by omega),List.take_of_length_le (by omega),List.drop_append,List.drop_of_length_le (by omega),List.drop_drop,List.drop_of_length_le (by omega)]
  simp
end Go.K
