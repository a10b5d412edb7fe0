/- The rules of the walks on elements of slices: their addresses, loads and stores, without a word of where the slice lies.
Conditions: none; nothing here speaks of a program. -/
import Derived.Test.YtinkencbkcciiaaGreatKB
import Derived.Test.YtinkencbkcciiaaGreatSA
import Derived.MapKept
import Derived.RangeFuncIn
import Derived.RangeFuncLeaves
import Derived.RangeFuncRecord
import Derived.RangeFuncSeq
import Derived.OrdersIn
import Derived.Maps.RangeRun
set_option linter.unusedSimpArgs false
set_option linter.unusedVariables false
set_option linter.unusedSectionVars false
namespace Go.K
def elp (p : Option Addr) (j : Nat) : Value := .pointer (p.map fun a => ⟨a.block,a.off + j,none⟩)
theorem elp_some (b off j : Nat) : elp (some ⟨b,off,none⟩) j = .pointer (some ⟨b,off + j,none⟩) := rfl
section
variable {C : Cx} {V : Vw} {H : Hp} {L : Sl} {Q : Exit → Act → World → Prop} {ops : Array Oper} {os : List Oper}
variable {ty : TypeId} {pos : String} {aft : Array Edge} {d : Nat}
theorem Rd.at {k n c : Nat} {p : Option Addr} {xs : List Value} (h : Rd V H k (.slice p n c) n xs) (hn : 0 < n) :
    ∃ b off cs e fz,p = some ⟨b,off,none⟩ ∧ Kn V H b (.cells cs e fz) ∧ ∀ j,j < n * k → cs[off + j]? = xs[j]? := by
  obtain ⟨_,p',c',h2,_,h4 | h4⟩ := h
  · omega
  · cases h2; exact h4
theorem Y.idxR {x y : Operand} {t e z n c : Nat} {p : Option Addr} {kk : IntKind} {m : Int} {xs : List Value} (i : Nat) (hx : ev L x = some (.slice p n c)) (hy : ev L y = some (.int kk m)) (ht : elemS C.P t = some (e,z)) (hr : Rd V H z (.slice p n c) n xs)
    (hm : m = (i : Int)) (hi : i < n) : Yl C V H L (.indexAddr t x y) ty (elp p (i * z)) := by
  obtain ⟨b,off,cs,e',fz,rfl,_,_⟩ := hr.at (by omega)
  subst hm
  exact Y.idxAddr hx hy ht (by omega) (by simpa using hi)
theorem Y.fieldR {x : Operand} {s f o j k n c : Nat} {p : Option Addr} {xs : List Value} (hx : ev L x = some (elp p j)) (hf : fieldOff C.P s f = some o) (hr : Rd V H k (.slice p n c) n xs) (hn : 0 < n) : Yl C V H L (.fieldAddr s x f) ty (elp p (j + o)) := by
  obtain ⟨b,off,cs,e',fz,rfl,_,_⟩ := hr.at hn
  have := Y.fieldAddr (C := C) (V := V) (H := H) (ty := ty) hx hf
  rw [Nat.add_assoc] at this; exact this
theorem Y.ldR {x : Operand} {t j k n c : Nat} {p : Option Addr} {xs : List Value} {v : Value} (hx : ev L x = some (elp p j)) (ht : scal C.P t = true) (hr : Rd V H k (.slice p n c) n xs) (hv : xs[j]? = some v) : Yl C V H L (.load t x) ty v := by
  have hj : j < n * k := by
    have := hr.1
    rcases Nat.lt_or_ge j xs.length with h | h
    · omega
    · rw [List.getElem?_eq_none h] at hv; cases hv
  have hn : 0 < n := by rcases Nat.eq_zero_or_pos n with h | h; (subst h; omega); exact h
  obtain ⟨b,off,cs,e',fz,rfl,hk,hcs⟩ := hr.at hn
  exact Y.load hx ht hk ((hcs j hj).trans hv)
theorem Y.ldRA {x : Operand} {t j k n c z : Nat} {p : Option Addr} {xs vs : List Value} (hx : ev L x = some (elp p j)) (ht : aggsz C.P t = some z) (hr : Rd V H k (.slice p n c) n xs) (hz : vs.length = z) (hz0 : 0 < z) (hv : ∀ o,o < z → xs[j + o]? = vs[o]?) : Yl C V H L (.load t x) ty (.agg vs.toArray) := by
  have hlast : j + (z - 1) < n * k := by
    have h1 := hv (z - 1) (by omega)
    have := hr.1
    rcases Nat.lt_or_ge (j + (z - 1)) xs.length with h | h
    · omega
    · rw [List.getElem?_eq_none h,List.getElem?_eq_getElem (by omega)] at h1; cases h1
  have hn : 0 < n := by rcases Nat.eq_zero_or_pos n with h | h; (subst h; omega); exact h
  obtain ⟨b,off,cs,e',fz,rfl,hk,hcs⟩ := hr.at hn
  subst hz
  exact Y.loadAgg hx ht hk (cellsAt_of vs (off + j) fun o ho => by rw [Nat.add_assoc,hcs _ (by omega)]; exact hv o ho)
section
variable {α : Type} {f : α → List Value} {z : Nat} {l : List α}
theorem rows_atA (hz : ∀ x,(f x).length = z) {i : Nat} (hi : i < l.length) (d : α) {o : Nat} (ho : o < z) : (l.map f).flatten[i * z + o]? = (f (l.getD i d))[o]? := by
  rw [flatten_at (z := z) _ i o (fun r hr => by obtain ⟨x,_,rfl⟩ := List.mem_map.1 hr; exact hz x) ho,List.getElem?_map,List.getElem?_eq_getElem hi]
  simp [List.getD_eq_getElem?_getD,List.getElem?_eq_getElem hi]
theorem rows_at (hz : ∀ x,(f x).length = z) {i : Nat} (hi : i < l.length) (d : α) {o : Nat} {v : Value} (ho : o < z) (hv : (f (l.getD i d))[o]? = some v) : (l.map f).flatten[i * z + o]? = some v := by rw [rows_atA hz hi d ho,hv]
theorem flatm_at (hz : ∀ x,(f x).length = z) {i : Nat} (hi : i < l.length) (d : α) {o : Nat} {v : Value} (ho : o < z) (hv : (f (l.getD i d))[o]? = some v) : (l.flatMap f)[i * z + o]? = some v := by rw [List.flatMap_def]; exact rows_at hz hi d ho hv
theorem flatm_at0 (hz : ∀ x,(f x).length = z) {i : Nat} (hi : i < l.length) (d : α) {v : Value} (ho : 0 < z) (hv : (f (l.getD i d))[0]? = some v) : (l.flatMap f)[i * z]? = some v := flatm_at hz hi d ho hv
theorem flatm_atA (hz : ∀ x,(f x).length = z) {i : Nat} (hi : i < l.length) (d : α) : ∀ o,o < z → (l.flatMap f)[i * z + o]? = (f (l.getD i d))[o]? := fun o ho => by rw [List.flatMap_def]; exact rows_atA hz hi d ho
theorem flat_snoc (x : α) : (l ++ [x]).flatMap f = l.flatMap f ++ f x := by simp
theorem flat_cut (hz : ∀ x,(f x).length = z) (a b : Nat) : ((l.flatMap f).drop (a * z)).take (b * z) = ((l.drop a).take b).flatMap f := by
  induction l generalizing a b with
  | nil => simp
  | cons x l ih =>
    cases a with
    | succ a =>
      rw [List.flatMap_cons,List.drop_succ_cons,← ih a b,Nat.succ_mul,show a * z + z = z + a * z by omega,← List.drop_drop,show (f x ++ l.flatMap f).drop z = l.flatMap f from by rw [← hz x]; exact List.drop_left]
    | zero =>
      cases b with
      | zero => simp
      | succ b =>
        have := ih 0 b
        simp only [Nat.zero_mul,List.drop_zero] at this ⊢
        rw [List.take_succ_cons,List.flatMap_cons,List.flatMap_cons,← this,Nat.succ_mul,show b * z + z = (f x).length + b * z by rw [hz]; omega,List.take_append,List.take_of_length_le (by omega)]; simp
end
theorem Rd.cut {α : Type} {f : α → List Value} {k n c : Nat} {p : Option Addr} {l : List α} (hz : ∀ x,(f x).length = k) (h : Rd V H k (.slice p n c) n (l.flatMap f)) (a b : Nat) (ha : a ≤ b) (hb : b ≤ n) :
    Rd V H k (.slice (if c = a then p else p.map (·.add (a * k))) (b - a) (c - a)) (b - a) (((l.drop a).take (b - a)).flatMap f) := by
  rw [← flat_cut hz]; exact h.slice a b ha hb
theorem all_one_flat {α : Type} {f : α → List Value} {k : Nat} (h : Enc f k) : ∀ l : List α,(l.flatMap f).all one = true
  | [] => rfl
  | x :: l => by rw [List.flatMap_cons,List.all_append,h.one,all_one_flat h l]; rfl
theorem Ow.app {α : Type} {f : α → List Value} {l m : List α} {e : TypeId} {k n : Nat} {v : Value} {s : Sg} (h : Ow e k v n (l.flatMap f ++ m.flatMap f) s) : Ow e k v n ((l ++ m).flatMap f) s := by rw [List.flatMap_append]; exact h
theorem Ow.app1 {α : Type} {f : α → List Value} {l : List α} {x : α} {e : TypeId} {k n : Nat} {v : Value} {s : Sg} (h : Ow e k v n (l.flatMap f ++ f x) s) : Ow e k v n ((l ++ [x]).flatMap f) s := by rw [flat_snoc]; exact h
theorem Ow.cap {e : TypeId} {k n c : Nat} {p : Option Addr} {xs : List Value} {s : Sg} (h : Ow e k (.slice p n c) n xs s) : n ≤ c := by
  obtain ⟨_,⟨h1,_⟩ | ⟨b,cap,cur,h1,_,h2,_⟩⟩ := h
  · cases h1; exact Nat.le_refl _
  · cases h1; exact h2
theorem set_cells {cur : Array Value} {xs : List Value} {n j : Nat} {v : Value} (h : ∀ i,i < n → cur[i]? = xs[i]?) (hj : j < n) (hl : xs.length = n) : ∀ i,i < n → (cur.setIfInBounds j v)[i]? = (xs.set j v)[i]? := fun i hi => by
  rw [Array.getElem?_setIfInBounds,List.getElem?_set]
  by_cases e : j = i
  · subst e
    have : j < cur.size := by
      have := h j hj
      rcases Nat.lt_or_ge j cur.size with g | g
      · exact g
      · rw [Array.getElem?_eq_none g,List.getElem?_eq_getElem (by omega)] at this; cases this
    simp [this,hl,hj]
  · simp [e,h i hi]
theorem Run.stO {x y : Operand} {t e k n c j i : Nat} {p : Option Addr} {xs : List Value} {v : Value} {s : Sg} (hx : ev L x = some (elp p j)) (hy : ev L y = some v) (ht : sizeT C.P t = some 1) (ho : Ow e k (.slice p n c) n xs s) (hi : H[i]? = some s) (hj : j < n * k) (hv : v.cells.toList = [v]) (h1 : one v = true)
    (kk : ∀ s',Ow e k (.slice p n c) n (xs.set j v) s' → Run C ops V (H.set i s') L os Q) : Run C ops V H L (⟨none,.store t x y,ty,pos,aft,none⟩ :: os) Q := by
  obtain ⟨h1',⟨_,h2,_⟩ | ⟨b,cap,cur,h2,h3,h4,h5,h6,h7⟩⟩ := ho
  · subst h2; omega
  · cases h2; subst h3
    refine Run.store (s := [(b,.cells (setL cur.toList (0 + j) v.cells.toList).toArray e (0,0))]) (c := cur.toList) (by rw [elp_some] at hx; exact hx) hy ht (by rw [hi]) (by rw [← Array.length_toList,hv]; rfl) (by
      have : n * k ≤ c * k := Nat.mul_le_mul_right _ h4
      rw [Array.length_toList,h6]; omega) (by rw [hv]; simp [h1]) rfl (kk _ ?_)
    refine ⟨by simpa using h1',.inr ⟨b,c,_,rfl,rfl,h4,h5,?_,?_⟩⟩
    · rw [hv,Nat.zero_add]; simp [setL,h6]
    · rw [hv,Nat.zero_add]; simp only [setL]
      intro i' hi'
      have := set_cells h7 hj h1' (v := v) i' hi'
      rw [← this]; simp; rw [← Array.toList_setIfInBounds,Array.getElem?_toList]
end
end Go.K
namespace Go.K
open Go.MapKept
def MapIs (kk : IntKind) (l : List (Int × Value)) (es : Array MapEntry) (clock : Nat) : Prop := es.toList.map (fun e => (e.key,e.val)) = l.map (fun p => (Value.int kk p.1,p.2)) ∧ Stamped es clock
def Om (kk : IntKind) (v : Value) (l : List (Int × Value)) (s : Sg) : Prop := ∃ b es clock,v = .map (some b) ∧ s = [(b,.map es clock)] ∧ MapIs kk l es clock
def mget (l : List (Int × Value)) (k : Int) : Option Value := l.lookup k
def mset : List (Int × Value) → Int → Value → List (Int × Value)
  | [],k,v => [(k,v)]
  | (k',v') :: l,k,v => if k' = k then (k,v) :: l else (k',v') :: mset l k v
def mapT (P : Program) (t : TypeId) : Option (IntKind × TypeId × TypeId) := match P.underlying t with
  | some (.map a b) => match P.underlying a with
    | some (.int k) => some (k,a,b)
    | _ => none
  | _ => none
theorem mapT_spec {P : Program} {t a b : TypeId} {k : IntKind} (h : mapT P t = some (k,a,b)) : P.underlying t = some (.map a b) ∧ P.underlying a = some (.int k) := by
  unfold mapT at h
  split at h
  · rename_i h1
    split at h
    · rename_i h2; cases h; exact ⟨h1,h2⟩
    · cases h
  · cases h
theorem find_is {kk : IntKind} (k : Int) : ∀ (l : List (Int × Value)) (es : List MapEntry) (i : Nat),es.map (fun e => (e.key,e.val)) = l.map (fun p => (Value.int kk p.1,p.2)) →
    (mget l k = none ∧ Instr.findNow (.int kk) (.int kk k) es i = some none ∧ ∀ x ∈ es,x.key ≠ .int kk k) ∨ ∃ j e,mget l k = some e.val ∧ Instr.findNow (.int kk) (.int kk k) es i = some (some (i + j,e.val)) ∧ es[j]? = some e ∧ e.key = .int kk k
  | [],[],i,_ => .inl ⟨rfl,rfl,by simp⟩
  | [],e :: es,_,h => by simp at h
  | p :: l,[],_,h => by simp at h
  | p :: l,e :: es,i,h => by
    obtain ⟨k',v'⟩ := p
    simp only [List.map_cons,List.cons.injEq,Prod.mk.injEq] at h
    obtain ⟨⟨h1,h2⟩,h3⟩ := h
    by_cases hk : k = k'
    · subst hk
      exact .inr ⟨0,e,by simp [mget,List.lookup,h2],by simp [Instr.findNow,Instr.sameNow,h1],rfl,h1⟩
    · have hb : (k == k') = false := by simp [hk]
      rcases find_is k l es (i + 1) h3 with ⟨g1,g2,g3⟩ | ⟨j,e',g1,g2,g3,g4⟩
      · refine .inl ⟨by simp only [mget,List.lookup,hb]; exact g1,by simp [Instr.findNow,Instr.sameNow,h1,hb,g2],fun x hx => ?_⟩
        rcases List.mem_cons.1 hx with rfl | hx
        · rw [h1]; simp; exact fun q => hk q.symm
        · exact g3 x hx
      · exact .inr ⟨j + 1,e',by simp only [mget,List.lookup,hb]; exact g1,by simp [Instr.findNow,Instr.sameNow,h1,hb,g2]; omega,by simpa using g3,g4⟩
theorem mset_none {l : List (Int × Value)} {k : Int} {v : Value} (h : mget l k = none) : mset l k v = l ++ [(k,v)] := by
  induction l with
  | nil => rfl
  | cons p l ih =>
    obtain ⟨k',v'⟩ := p
    by_cases e : k = k'
    · subst e; simp [mget,List.lookup] at h
    · have hb : (k == k') = false := by simp [e]
      simp only [mget,List.lookup,hb] at h
      simp only [mset,if_neg (fun q => e q.symm : ¬ k' = k),ih h,List.cons_append]
theorem mset_some {kk : IntKind} {k : Int} {v : Value} : ∀ {l : List (Int × Value)} {es : List MapEntry} {j : Nat} {e : MapEntry},es.map (fun e => (e.key,e.val)) = l.map (fun p => (Value.int kk p.1,p.2)) → (es.map (·.key)).Nodup → es[j]? = some e → e.key = .int kk k →
    (es.modify j fun x => { x with key := .int kk k,val := v }).map (fun e => (e.key,e.val)) = (mset l k v).map (fun p => (Value.int kk p.1,p.2))
  | [],[],j,e,_,_,hj,_ => by simp at hj
  | [],_ :: _,_,_,h,_,_,_ => by simp at h
  | _ :: _,[],_,_,h,_,_,_ => by simp at h
  | (k',v') :: l,x :: es,j,e,h,hn,hj,he => by
    simp only [List.map_cons,List.cons.injEq,Prod.mk.injEq] at h
    obtain ⟨⟨h1,h2⟩,h3⟩ := h
    cases j with
    | zero =>
      simp only [List.getElem?_cons_zero,Option.some.injEq] at hj
      subst hj
      have : k' = k := by rw [h1] at he; cases he; rfl
      subst this
      simp [mset,h3]
    | succ j =>
      simp only [List.getElem?_cons_succ] at hj
      simp only [List.map_cons,List.nodup_cons] at hn
      have : k' ≠ k := fun q => hn.1 (by rw [h1,q,← he]; exact List.mem_map_of_mem (List.mem_of_getElem? hj))
      simp only [mset,if_neg this,List.modify_succ_cons,List.map_cons,h1,h2,mset_some h3 hn.2 hj he]
theorem MapIs.find {kk : IntKind} {l : List (Int × Value)} {es : Array MapEntry} {clock : Nat} (h : MapIs kk l es clock) (k : Int) :
    (mget l k = none ∧ Instr.findNow (.int kk) (.int kk k) es.toList 0 = some none ∧ ∀ x ∈ es.toList,x.key ≠ .int kk k) ∨ ∃ j e,mget l k = some e.val ∧ Instr.findNow (.int kk) (.int kk k) es.toList 0 = some (some (j,e.val)) ∧ es.toList[j]? = some e ∧ e.key = .int kk k := by
  have := find_is (kk := kk) k l es.toList 0 h.1
  simpa only [Nat.zero_add] using this
theorem MapIs.empty (kk : IntKind) (c : Nat) : MapIs kk [] #[] c := ⟨rfl,stamped_empty c⟩
theorem MapIs.push {kk : IntKind} {l : List (Int × Value)} {es : Array MapEntry} {clock : Nat} (h : MapIs kk l es clock) {k : Int} {v : Value} (hk : mget l k = none) (hx : ∀ x ∈ es.toList,x.key ≠ .int kk k) : MapIs kk (mset l k v) (es.push ⟨.int kk k,v,clock⟩) (clock + 1) :=
  ⟨by rw [mset_none hk]; simp [h.1],stamped_push h.2 hx⟩
theorem MapIs.modify {kk : IntKind} {l : List (Int × Value)} {es : Array MapEntry} {clock : Nat} (h : MapIs kk l es clock) {k : Int} {v : Value} {j : Nat} {e : MapEntry} (hj : es.toList[j]? = some e) (he : e.key = .int kk k) : MapIs kk (mset l k v) (es.modify j fun x => { x with key := .int kk k,val := v }) clock :=
  ⟨by rw [Array.toList_modify]; exact mset_some h.1 h.2.2.2 hj he,stamped_modify h.2 j _ (fun _ _ => rfl) (fun x _ hx => by rw [Array.getElem?_toList] at hj; rw [hj] at hx; cases hx; exact he.symm)⟩
section
variable {C : Cx} {V : Vw} {H : Hp} {L : Sl} {Q : Exit → Act → World → Prop} {ops : Array Oper} {os : List Oper}
variable {ty : TypeId} {pos : String} {aft : Array Edge} {d : Nat}
theorem Run.makeMap {t : TypeId} (kk : IntKind) (hd : d < C.n) (k : ∀ v s,Om kk v [] s → Run C ops V (s :: H) ((d,v) :: L) os Q) :
    Run C ops V H L (⟨some d,.makeMap t none,ty,pos,aft,none⟩ :: os) Q :=
  Run.step (p := fun v V' H' => ∃ s,Om kk v [] s ∧ V' = V ∧ H' = s :: H) hd
    (fun a w i => ⟨.map (some w.heap.size),{ w with heap := w.heap.push (.map #[] 0) },V,_,by simp only [execOp,Instr.makeMap,Option.map_none,Sem.run_bind,Sem.run_pure,Result.andThen_ok]; rfl,⟨_,⟨w.heap.size,#[],0,rfl,rfl,MapIs.empty kk 0⟩,rfl,rfl⟩,i.2.alloc _⟩)
    (fun v V' H' ⟨s,h1,h2,h3⟩ => by subst h2 h3; exact k v s h1)
theorem Y.lookup {x y : Operand} {t a b : TypeId} {kk : IntKind} {v z : Value} {k : Int} {l : List (Int × Value)} {s : Sg} {j : Nat} {c : Bool} {r : Value} (hx : ev L x = some v) (hy : ev L y = some (.int kk k)) (ht : mapT C.P t = some (kk,a,b)) (hz : zeroOf C.P b = some z) (hm : Om kk v l s) (hj : H[j]? = some s)
    (hr : (if c then Value.tuple #[(mget l k).getD z,.bool (mget l k).isSome] else (mget l k).getD z) = r) : Yl C V H L (.lookup t x y c) ty r := (fun V2 ac w hle i o ho hty => by
  subst hr
  obtain ⟨bb,es,clock,rfl,rfl,hm⟩ := hm
  obtain ⟨h1,h2⟩ := mapT_spec ht
  have hb := i.2.own bb _ (mem_of_at hj (List.mem_cons_self ..))
  have hk : IsKey (.int kk) (.int kk k) := rfl
  rcases hm.find k with ⟨g1,g2,_⟩ | ⟨q,e,g1,g2,g3,g4⟩
  · simp [execOp,ho,i.1.ev hx,i.1.ev hy,Instr.lookup,run_underlying h1,MapKept.run_getObj_map hb,run_checkKey h2 hk,run_findKey h2 g2,g1,run_zeroValue hz,Result.andThen]
  · simp [execOp,ho,i.1.ev hx,i.1.ev hy,Instr.lookup,run_underlying h1,MapKept.run_getObj_map hb,run_checkKey h2 hk,run_findKey h2 g2,g1,Result.andThen])
theorem St.turnMap {B : World} {S : List Nat} {U : Vw} {w : World} {j bb : Nat} {o o' : Obj} (h : St B S U V H w) (hj : H[j]? = some [(bb,o)]) : St B S U V (H.set j [(bb,o')]) { w with heap := w.heap.setIfInBounds bb o' } := by
  have hb := h.own bb _ (mem_of_at hj (List.mem_cons_self ..))
  obtain ⟨e1,e2⟩ := heap_set (o' := o') hb
  refine h.turn hj rfl (fun b' hb' => e2 b' (by simpa using hb')) (fun b' ob hob => ?_) rfl rfl rfl (by simp)
  rw [List.mem_singleton] at hob; cases hob; exact e1
theorem Run.mapUpdate {x y z : Operand} {t a b : TypeId} {kk : IntKind} {v u : Value} {k : Int} {l : List (Int × Value)} {s : Sg} (j : Nat) (hx : ev L x = some v) (hy : ev L y = some (.int kk k)) (hz : ev L z = some u) (ht : mapT C.P t = some (kk,a,b)) (hm : Om kk v l s) (hj : H[j]? = some s)
    (kc : ∀ s',Om kk v (mset l k u) s' → Run C ops V (H.set j s') L os Q) : Run C ops V H L (⟨none,.mapUpdate t x y z,ty,pos,aft,none⟩ :: os) Q := by
  obtain ⟨bb,es,clock,rfl,rfl,hm⟩ := hm
  obtain ⟨h1,h2⟩ := mapT_spec ht
  have hk : IsKey (.int kk) (.int kk k) := rfl
  rcases hm.find k with ⟨g1,g2,g3⟩ | ⟨q,e,g1,g2,g3,g4⟩
  · refine Run.act (V' := V) (H' := H.set j [(bb,.map (es.push ⟨.int kk k,u,clock⟩) (clock + 1))]) (fun ac w i => ⟨_,?_,i.2.turnMap hj⟩) (kc _ ⟨bb,_,_,rfl,rfl,hm.push g1 g3⟩)
    have hb := i.2.own bb _ (mem_of_at hj (List.mem_cons_self ..))
    simp [execOp,i.1.ev hx,i.1.ev hy,i.1.ev hz,Instr.mapUpdate,run_underlying h1,MapKept.run_getObj_map hb,run_checkKey h2 hk,run_findKey h2 g2,run_setObj_map _ hb,Result.andThen]
  · refine Run.act (V' := V) (H' := H.set j [(bb,.map (es.modify q fun x => { x with key := .int kk k,val := u }) clock)]) (fun ac w i => ⟨_,?_,i.2.turnMap hj⟩) (kc _ ⟨bb,_,_,rfl,rfl,hm.modify g3 g4⟩)
    have hb := i.2.own bb _ (mem_of_at hj (List.mem_cons_self ..))
    have hq : es[q]? = some e := by simpa using g3
    simp [execOp,i.1.ev hx,i.1.ev hy,i.1.ev hz,Instr.mapUpdate,run_underlying h1,MapKept.run_getObj_map hb,run_checkKey h2 hk,run_findKey h2 g2,run_keyThatStays hk,run_setObj_map _ hb,Result.andThen,hq,g4]
end
end Go.K
namespace Go.K
def FR (r : Option Nat) : Fence := { Fence.wide with round := r }
class NoOut (Q : Exit → Act → World → Prop) : Prop where
  no : ¬ LetsOut Q
instance {K : Act → World → Prop} {Q : Exit → Act → World → Prop} [h : NoOut Q] : NoOut (Exit.then K Q) := ⟨fun ⟨a,w,q⟩ => h.no ⟨a,w,q⟩⟩
instance {id : Nat} {Q : Exit → Act → World → Prop} [h : NoOut Q] : NoOut (Exit.inBlock id Q) := ⟨fun ⟨a,w,q⟩ => h.no ⟨a,w,q⟩⟩
instance {P : Program} {l : Nat} {R : Ending → World → Prop} : NoOut (roundPost P l R) := ⟨fun ⟨_,_,q⟩ => q⟩
instance : NoOut (fun _ _ _ => False) := ⟨fun ⟨_,_,q⟩ => q⟩
instance {P : Program} {fn : Func} {R : Value → World → Prop} : NoOut (bodyPost P fn fun e w' => ∃ v,∃ (V' : Vw) (H' : Hp),e = .returned v ∧ R v w') := ⟨fun ⟨_,_,_,_,_,q,_⟩ => by cases q⟩
instance {P : Program} {fn : Func} {R : Value → Vw → Hp → Prop} {S : Vw → Hp → World → Prop} : NoOut (bodyPost P fn fun e w' => ∃ v V' H',e = .returned v ∧ R v V' H' ∧ S V' H' w') := ⟨fun ⟨_,_,_,_,_,q,_⟩ => by cases q⟩
instance {P : Program} {fn : Func} {n : Nat} {R : Value → Vw → Hp → Prop} {S : Vw → Hp → World → Prop} : NoOut (bodyPostM Fence.wide n P fn fun e w' => ∃ v V' H',e = .returned v ∧ R v V' H' ∧ S V' H' w') := ⟨fun ⟨_,_,_,_,_,q,_⟩ => by cases q⟩
def noDefer (o : Oper) : Bool := match o.op with
  | .defer _ => false
  | _ => true
theorem noDefer_spec {o : Oper} (h : noDefer o = true) : ∀ c,o.op ≠ .defer c := fun c e => by unfold noDefer at h; rw [e] at h; cases h
section
variable {P : Program} {Q : Exit → Act → World → Prop} {r : Option Nat} {ops : Array Oper} {md : Region.Mode}
theorem callsFR {n : Nat} {f : FuncId} {args : Array Value} {w : World} {R : Ending → World → Prop} (h : Calls P f args w R) : CallsIn (FR r) n P f args w R := by
  have := callsIn_wide (n := n).2 h
  exact this
theorem rowsFR {n : Nat} {row : String} {args : Array Value} {w : World} {R : Value → World → Prop} (h : Rows P row args w R) : RowsIn (FR r) n P row args w R := fun c cs _ => by
  obtain ⟨v,w',h1,h2⟩ := h c cs
  exact ⟨v,w',h1,(stepsIn_wide.2 h2 : StepsIn (Machine.fenced P Fence.wide) P _ _)⟩
theorem wpIn_op {n : Nat} {o : Oper} {a : Act} {w : World} {K K' : Act → World → Prop} {Q' : Exit → Act → World → Prop} (hd : ∀ c,o.op ≠ .defer c) (hK : ∀ a w,K a w → K' a w) (hq : ∀ e,e ≠ .normal → ∀ a w,Q e a w → Q' e a w) (h : o.wp P a w K Q) : o.wpIn (FR r) n P a w K' Q' := by
  unfold Oper.wp at h
  unfold Oper.wpIn
  refine ⟨fun _ _ => trivial,?_⟩
  rw [Oper.semAt_eq _ _ _ hd]
  generalize (execOp a.eval o).run P w = x at *
  cases x with
  | ok x w' =>
    cases x <;> simp only [Oper.upon,Oper.uponIn] at h ⊢ <;>
      first
        | exact hK _ _ h
        | exact ⟨fun h => by simp [FR,Fence.wide] at h,callsFR (Calls.mono h fun e w'' he => by cases e <;> first | exact hK _ _ he | exact hq _ (by simp) _ _ he | exact he.elim fun a ⟨w,h⟩ => ⟨a,w,hq _ (by simp) _ _ h⟩)⟩
        | exact ⟨fun h => by simp [FR,Fence.wide] at h,rowsFR (Rows.mono h fun _ _ he => hK _ _ he)⟩
  | halt x w' => cases x <;> simp only [Oper.upon,Oper.uponIn] at h ⊢ <;> exact hq _ (by simp) _ _ h
theorem wpListIn_of [hQ : NoOut Q] : ∀ os : List Oper,os.all noDefer = true → ∀ a w,wpList P ops Q os a w → wpListIn (FR r) 0 P ops Q os a w
  | [],_,_,_,h => h
  | o :: os,hd,a,w,h => by
    simp only [List.all_cons,Bool.and_eq_true] at hd
    unfold wpList at h
    unfold wpListIn
    split
    · rename_i hw
      rw [if_pos hw] at h
      rcases h with h | ⟨_,h⟩
      · exact wpIn_op (noDefer_spec hd.1) (fun a w h => wpListIn_of os hd.2 a w h) (fun _ _ _ _ h => h) h
      · exact absurd h hQ.no
    · rename_i hw
      rw [if_neg hw] at h
      exact ⟨fun _ _ => trivial,wpListIn_of os hd.2 _ _ h⟩
end
section
variable {C : Cx} {V : Vw} {H : Hp} {L : Sl} {Q : Exit → Act → World → Prop} {ops : Array Oper} {os : List Oper} {l : Nat}
variable {ty : TypeId} {pos : String} {aft : Array Edge} {d : Nat}
def TrR (l : Nat) (C : Cx) (V : Vw) (H : Hp) (L : Sl) (c : Code) (Q : Exit → Act → World → Prop) : Prop := ∀ a w,Is C V H L a w → c.wpIn (FR (some l)) 0 C.P Q a w
theorem TrR.seq {x y : Code} (h : TrR l C V H L x (Exit.then (y.wpIn (FR (some l)) 0 C.P Q) Q)) : TrR l C V H L (.seq x y) Q := fun a w i => wpIn_seq (h a w i)
theorem TrR.block {id : Nat} {c : Code} (h : TrR l C V H L c (Exit.inBlock id Q)) : TrR l C V H L (.block id c) Q := fun a w i => wpIn_block (h a w i)
theorem TrR.to_end (h : Ex C V H L Q .normal) : TrR l C V H L .skip Q := fun a w i => wpIn_skip (h a w i)
theorem TrR.to_ret (h : Ex C V H L Q .ret) : TrR l C V H L .ret Q := fun a w i => wpIn_ret (h a w i)
theorem TrR.cond_t {c : Operand} {x y : Code} {t : Bool} (hc : ev L c = some (.bool t)) (e : t = true) (ht : TrR l C V H L x Q) : TrR l C V H L (.cond c x y) Q :=
  fun a w i => wpIn_cond_true (by rw [i.1.ev hc,e]) (ht a w i)
theorem TrR.cond_f {c : Operand} {x y : Code} {t : Bool} (hc : ev L c = some (.bool t)) (e : t = false) (hf : TrR l C V H L y Q) : TrR l C V H L (.cond c x y) Q :=
  fun a w i => wpIn_cond_false (by rw [i.1.ev hc,e]) (hf a w i)
theorem TrR.region {id : Nat} {os : List Oper} [NoOut Q] (hd : os.all noDefer = true) (h : Run C os.toArray V H L os Q) : TrR l C V H L (.region id os.toArray false) Q :=
  fun a w i => wpIn_region_lit (wpListIn_of os hd a w (h a w i))
theorem Ex.goR {y : Code} (h : TrR l C V H L y Q) : Ex C V H L (Exit.then (y.wpIn (FR (some l)) 0 C.P Q) Q) .normal := h
def YDoes (P : Program) (l : Nat) (args : List Value) (V : Vw) (H : Hp) (R : Value → Vw → Hp → Prop) : Prop :=
  ∀ B,St B (keys H) V V H B → YieldAt Fence.wide 0 P l args.toArray B fun e w' => ∃ v V' H',e = .returned v ∧ R v V' H' ∧ St B (keys H) V V' H' w'
theorem YDoes.mono {P : Program} {args : List Value} {R R' : Value → Vw → Hp → Prop} (h : YDoes P l args V H R) (k : ∀ v V' H',R v V' H' → R' v V' H') : YDoes P l args V H R' := fun B hB => by
  obtain ⟨fn,tmps,asg,body,h1,h2⟩ := h B hB
  exact ⟨fn,tmps,asg,body,h1,h2.mono fun e w' ⟨v,V',H',q1,q2,q3⟩ => ⟨v,V',H',q1,k _ _ _ q2,q3⟩⟩
def RunI (C : Cx) (ops : Array Oper) (V : Vw) (H : Hp) (L : Sl) (os : List Oper) (Q : Exit → Act → World → Prop) : Prop := ∀ a w,Is C V H L a w → wpListIn Fence.wide 0 C.P ops Q os a w
theorem Tr.regionI {id : Nat} {os : List Oper} (h : RunI C os.toArray V H L os Q) : Tr C V H L (.region id os.toArray false) Q :=
  fun a w i => wpIn_wide.1 (wpIn_region_lit (h a w i))
theorem RunI.nil (h : Ex C V H L Q .normal) : RunI C ops V H L [] Q := h
theorem RunI.op {o : Oper} [hQ : NoOut Q] (hd : noDefer o = true) (h : Run C ops V H L [o] (Exit.then (wpListIn Fence.wide 0 C.P ops Q os) Q)) : RunI C ops V H L (o :: os) Q := fun a w i => by
  have h2 := h a w i
  unfold wpList at h2
  unfold wpListIn
  split
  · rename_i hw
    rw [if_pos hw] at h2
    rcases h2 with h2 | ⟨_,h2⟩
    · exact wpIn_op (r := none) (noDefer_spec hd) (fun a w h => h) (fun e he a w h => by cases e <;> first | exact absurd rfl he | exact h) h2
    · exact absurd h2 (by infer_instance : NoOut (Exit.then (wpListIn Fence.wide 0 C.P ops Q os) Q)).no
  · rename_i hw
    rw [if_neg hw] at h2
    exact ⟨fun _ _ => trivial,h2⟩
end
end Go.K
namespace Go.K
section
variable {C : Cx} {V : Vw} {H : Hp} {L : Sl} {Q : Exit → Act → World → Prop} {ops : Array Oper} {os : List Oper} {l : Nat}
variable {ty : TypeId} {pos : String} {aft : Array Edge} {d : Nat}
theorem Ex.goI (h : RunI C ops V H L os Q) : Ex C V H L (Exit.then (wpListIn Fence.wide 0 C.P ops Q os) Q) .normal := h
theorem St.handed {B : World} {S : List Nat} {U : Vw} {Hf Hc H' : Hp} {V' : Vw} {w w' : World} (h : St B S U V (Hf ++ Hc) w) (k : St w (keys Hc) V V' H' w') : St B S U V' (Hf ++ H') w' := h.take k
theorem RunI.callY {x : Operand} {args : List Operand} {at_ : Array TypeId} {vs : List Value} {R : Value → Vw → Hp → Prop} (Hf Hc : Hp) (hH : H = Hf ++ Hc) (hx : ev L x = some (.func (.yield l) #[] #[])) (hl : evs L args = some vs) (hd : d < C.n) (hc : YDoes C.P l vs V Hc R)
    (k : ∀ v V' H',V.le V' → R v V' H' → RunI C ops V' (Hf ++ H') ((d,v) :: L) os Q) :
    RunI C ops V H L (⟨some d,.call { callee := .value x,args := args.toArray,argTypes := at_ },ty,pos,aft,none⟩ :: os) Q := fun a w i => by
  subst hH
  unfold wpListIn
  rw [if_pos (by simp [Region.wanted])]
  unfold Oper.wpIn
  refine ⟨fun _ _ => trivial,?_⟩
  obtain ⟨fn,tmps,asg,body,h1,h2⟩ := hc w i.2.give
  have e1 := i.1.ev hx
  have e2 := i.1.evs hl
  have hr : ((⟨some d,.call { callee := .value x,args := args.toArray,argTypes := at_ },ty,pos,aft,none⟩ : Oper).semAt Fence.wide.round a.eval).run C.P w = .ok (.round l fn tmps asg body) w := by
    rw [Oper.semAt_eq _ _ _ (fun c h => by cases h)]
    have e3 : (#[] : Array Value) ++ (args.map a.eval).toArray ++ #[] = vs.toArray := by rw [e2]; simp
    simp only [execOp,resolve,e1,Deferred.ofValue,Sem.run_bind,Sem.run_pure,Result.andThen_ok,invoke,List.map_toArray]
    simp only [e2,Array.empty_append,Array.append_empty] at *
    exact h1
  rw [hr]
  refine ⟨fun h => by simp [Fence.wide] at h,?_⟩
  exact RoundIn.mono h2 fun e w' ⟨v,V',H',he,hR,hs⟩ => by
    subst he
    exact k v V' H' hs.le hR _ _ ⟨i.1.put hd v,i.2.take hs⟩
structure LoopIs (n : Nat) (L : Sl) (ps : Array Tmp) (asg body : Code) (r : Loop) : Prop where
  ps : r.params = ps
  asg : r.assign = asg
  body : r.body = body
  env : Env n L { tmps := r.tmps,defers := [] }
theorem LoopIs.with {n : Nat} {ps : Array Tmp} {asg body : Code} {r : Loop} (h : LoopIs n L ps asg body r) (s : LoopState) (p : Option Code) : LoopIs n L ps asg body { r with state := s,pending := p } := ⟨h.ps,h.asg,h.body,h.env⟩
def rec_ (l : Nat) (r : Loop) : Sg := [(l,.loop r)]
def begun (C : Cx) (l : Nat) (body : Code) (Q : Exit → Act → World → Prop) : Act → World → Prop := fun a w => ∃ w2,(Instr.beginRound l).run C.P w = .ok () w2 ∧ body.wpIn (FR (some l)) 0 C.P Q a w2
def rp (P : Program) (l : Nat) (B : World) (S : List Nat) (U : Vw) (R : Value → Vw → Hp → Prop) : Exit → Act → World → Prop := roundPost P l fun e w' => ∃ v V' H',e = .returned v ∧ R v V' H' ∧ St B S U V' H' w'
instance {P : Program} {B : World} {S : List Nat} {U : Vw} {R : Value → Vw → Hp → Prop} : NoOut (rp P l B S U R) := ⟨fun ⟨_,_,q⟩ => q⟩
theorem putObj_turn {B : World} {S : List Nat} {U : Vw} {w : World} {j bb : Nat} {o o' : Obj} (h : St B S U V H w) (hj : H[j]? = some [(bb,o)]) : St B S U V (H.set j [(bb,o')]) (w.putObj bb o') := h.turnMap hj
theorem YDoes.intro {P : Program} {r : Loop} {n : Nat} {ps : Array Tmp} {asg body : Code} {args : List Value} {L' : Sl} {R : Value → Vw → Hp → Prop} (hr : LoopIs n L ps asg body r) (ha : args.length = ps.size)
    (hE : ∀ a : Act,Env n L a → Env n L' { tmps := (ps.zip args.toArray).foldl (fun tmps (t,a) => tmps.setIfInBounds t a) a.tmps,defers := [] })
    (h : ∀ B,TrR l ⟨P,n,B,keys (rec_ l r :: H),V,[]⟩ V (rec_ l r :: H) L' asg (Exit.then (begun ⟨P,n,B,keys (rec_ l r :: H),V,[]⟩ l body (rp P l B (keys (rec_ l r :: H)) V R)) (fun _ _ _ => False))) :
    YDoes P l args V (rec_ l r :: H) R := fun B hB => by
  have hb := hB.own l _ (mem_of_at (i := 0) rfl (List.mem_cons_self ..))
  refine ⟨_,_,_,_,run_yield hb (by rw [hr.ps]; simpa using ha),?_⟩
  rw [hr.asg,hr.body,hr.ps]
  exact roundIn_of_wpIn (F := Fence.wide) trivial (h B _ _ ⟨hE _ hr.env,hB⟩)
theorem env_par1 {n p : Nat} {x : Value} (hp : p < n) : ∀ a : Act,Env n L a → Env n ((p,x) :: L) { tmps := ((#[p] : Array Tmp).zip [x].toArray).foldl (fun tmps (t,a) => tmps.setIfInBounds t a) a.tmps,defers := [] } := fun a h => by
  have e : ((#[p] : Array Tmp).zip [x].toArray).foldl (fun (tmps : Array Value) (z : Tmp × Value) => match z with | (t,a) => tmps.setIfInBounds t a) a.tmps = a.tmps.setIfInBounds p x := by simp
  rw [e]
  have := h.put hp x
  exact ⟨this.size,this.lk,rfl⟩
theorem env_par2 {n p q : Nat} {x y : Value} (hp : p < n) (hq : q < n) : ∀ a : Act,Env n L a → Env n ((q,y) :: (p,x) :: L) { tmps := ((#[p,q] : Array Tmp).zip [x,y].toArray).foldl (fun tmps (t,a) => tmps.setIfInBounds t a) a.tmps,defers := [] } := fun a h => by
  have e : ((#[p,q] : Array Tmp).zip [x,y].toArray).foldl (fun (tmps : Array Value) (z : Tmp × Value) => match z with | (t,a) => tmps.setIfInBounds t a) a.tmps = (a.tmps.setIfInBounds p x).setIfInBounds q y := by simp
  rw [e]
  have := (h.put hp x).put hq y
  exact ⟨this.size,this.lk,rfl⟩
theorem Ex.begin {body : Code} {r : Loop} {Q' : Exit → Act → World → Prop} (hs : r.state = .ready) (h : TrR l C V (rec_ l { r with state := .busy } :: H) L body Q) : Ex C V (rec_ l r :: H) L (Exit.then (begun C l body Q) Q') .normal := fun a w i => by
  have hb := i.2.own l _ (mem_of_at (i := 0) rfl (List.mem_cons_self ..))
  exact ⟨_,run_beginRound hb hs,h a _ ⟨i.1,putObj_turn (j := 0) i.2 rfl⟩⟩
section
variable {P : Program} {n : Nat} {B : World} {S : List Nat} {U : Vw} {R : Value → Vw → Hp → Prop} {r : Loop}
theorem Ex.next (hR : R (.bool true) V (rec_ l { r with state := .ready,pending := none } :: H)) : Ex ⟨P,n,B,S,U,[]⟩ V (rec_ l r :: H) L (rp P l B S U R) .normal := fun a w i => by
  have hb := i.2.own l _ (mem_of_at (i := 0) rfl (List.mem_cons_self ..))
  exact ⟨_,_,run_endRound none hb,_,V,_,rfl,hR,putObj_turn (j := 0) i.2 rfl⟩
theorem Ex.stopRet (hR : R (.bool false) V (rec_ l { r with state := .done,pending := some .ret } :: H)) : Ex ⟨P,n,B,S,U,[]⟩ V (rec_ l r :: H) L (rp P l B S U R) .ret := fun a w i => by
  have hb := i.2.own l _ (mem_of_at (i := 0) rfl (List.mem_cons_self ..))
  exact ⟨_,_,run_endRound (some .ret) hb,_,V,_,rfl,hR,putObj_turn (j := 0) i.2 rfl⟩
end
def mark (D : Nat) : Deferred := { target := .collected D,args := #[] }
def defd (D : Nat) : Sg := [(D,.deferred (some []))]
def After (C : Cx) (V : Vw) (H : Hp) (L : Sl) (Q : Exit → Act → World → Prop) : Option Code → Prop
  | none => Ex C V H L Q .normal
  | some .ret => Ex C V H L Q .ret
  | some (.exit id) => Ex C V H L Q (.exit id)
  | _ => False
theorem Tr.rangeFunc {g : Operand} {ps : Array Tmp} {asg body : Code} {gf : FuncId} {caps : Array Value} {Rr : Nat → Loop → Value → Vw → Hp → Prop} (Hk Hg : Hp) (hp : H.Perm (Hk ++ Hg)) (hg : ev L g = some (.func (.func gf) #[] caps))
    (hit : ∀ l r,LoopIs C.n L ps asg body r → r.state = .ready → r.pending = none → Does C.P gf (.func (.yield l) #[] #[] :: caps.toList) V (rec_ l r :: Hg) (Rr l r))
    (k : ∀ l r D v V' H',V.le V' → Rr l r v V' H' → ∃ r' H'',H'.Perm (rec_ l r' :: H'') ∧ r'.state ≠ .busy ∧ After { C with D := mark D :: C.D } V' (defd D :: (Hk ++ H'')) L Q r'.pending) :
    Tr C V H L (.rangeFunc g ps asg body) Q := fun a w i => by
  refine wpIn_wide (n := 0).1 (wpIn_rangeFunc fun fn _ => ?_)
  let r : Loop := { state := .ready,pending := none,fn,tmps := a.tmps,params := ps,assign := asg,body := body,defers := w.heap.size }
  have hLI : LoopIs C.n L ps asg body r := ⟨rfl,rfl,rfl,i.1.size,i.1.lk,rfl⟩
  have hD := hit (w.heap.size + 1) r hLI rfl rfl
  let W1 := (w.alloc (.deferred (some []))).alloc (.loop r)
  have s0 : St C.B C.S C.U V (Hk ++ Hg) w := i.2.perm hp.symm
  have s1 : St C.B C.S C.U V ([(w.heap.size + 1,.loop r)] :: [(w.heap.size,.deferred (some []))] :: (Hk ++ Hg)) W1 := by
    have := (s0.alloc (.deferred (some []))).alloc (.loop r)
    have e : ({ w with heap := w.heap.push (.deferred (some [])) } : World).heap.size = w.heap.size + 1 := by simp
    rw [e] at this; exact this
  have s2 : St C.B C.S C.U V ((defd w.heap.size :: Hk) ++ (rec_ (w.heap.size + 1) r :: Hg)) W1 := s1.perm (by
    simp only [List.cons_append]
    refine List.Perm.trans (List.Perm.cons _ List.perm_middle) ?_
    exact List.Perm.swap _ _ _)
  have hev := i.1.ev hg
  refine ⟨w.heap.size + 1,[mark w.heap.size],W1,{ target := .fn (.func gf) caps,args := #[.func (.yield (w.heap.size + 1)) #[] #[]] },W1,gf,(.func (.yield (w.heap.size + 1)) #[] #[] :: caps.toList).toArray,W1,run_enterLoop_outer fn a.tmps ps asg body,?_,fun _ _ => trivial,?_,fun h => by simp [Fence.wide] at h,?_⟩
  · simp only [resolve,hev]
    simp [Deferred.ofValue,Act.eval]
  · have : #[(Value.func (.yield (w.heap.size + 1)) #[] #[])] ++ caps = (Value.func (.yield (w.heap.size + 1)) #[] #[] :: caps.toList).toArray := by simp
    simp only [invoke,this]
    exact run_callFunc hD.1
  · refine callsIn_wide.2 ((hD.2 W1 s2.give).mono fun e w' ⟨v,V',H',he,hR,hs⟩ => ?_)
    subst he
    obtain ⟨r',H'',hp2,hb,hA⟩ := k (w.heap.size + 1) r w.heap.size v V' H' hs.le hR
    have s3 := (s2.take hs).perm (List.Perm.append_left (defd w.heap.size :: Hk) hp2.symm)
    have hl := s3.own (w.heap.size + 1) (.loop r') (by simp [rec_])
    have hj : ((defd w.heap.size :: Hk) ++ (rec_ (w.heap.size + 1) r' :: H''))[(defd w.heap.size :: Hk).length]? = some [(w.heap.size + 1,.loop r')] := by simp [rec_]
    have s4 := putObj_turn (o' := .loop { r' with state := .exhausted }) s3 hj
    have s5 : St C.B C.S C.U V' (defd w.heap.size :: (Hk ++ H'')) (w'.putObj (w.heap.size + 1) (.loop { r' with state := .exhausted })) := by
      have e : ((defd w.heap.size :: Hk) ++ (rec_ (w.heap.size + 1) r' :: H'')).set (defd w.heap.size :: Hk).length [(w.heap.size + 1,.loop { r' with state := .exhausted })] = (defd w.heap.size :: Hk) ++ ([(w.heap.size + 1,.loop { r' with state := .exhausted })] :: H'') := by
        rw [List.set_append_right _ _ (Nat.le_refl _)]; simp
      rw [e] at s4
      exact St.drop (H' := [[(w.heap.size + 1,.loop { r' with state := .exhausted })]]) (s4.perm (by
        simp only [List.cons_append,List.nil_append]
        exact (List.Perm.swap _ _ _).trans (List.Perm.cons _ List.perm_middle.symm)))
    refine ⟨r'.pending,_,run_endLoop hl hb,?_⟩
    have i2 : Is { C with D := mark w.heap.size :: C.D } V' (defd w.heap.size :: (Hk ++ H'')) L { a with defers := [mark w.heap.size] ++ a.defers } (w'.putObj (w.heap.size + 1) (.loop { r' with state := .exhausted })) := ⟨⟨i.1.size,i.1.lk,by show mark w.heap.size :: a.defers = _; rw [i.1.df]⟩,s5⟩
    generalize w'.putObj (w.heap.size + 1) (.loop { r' with state := .exhausted }) = W9 at i2
    generalize r'.pending = jump at hA
    cases jump with
    | none => exact hA _ _ i2
    | some c =>
      cases c <;> first | exact hA.elim | exact wpIn_ret (hA _ _ i2) | exact wpIn_exit (hA _ _ i2)
theorem Does.introM {P : Program} {f : FuncId} {fn : Func} {c : Code} {args : List Value} {R : Value → Vw → Hp → Prop} (hf : P.funcs[f]? = some fn) (hb : fn.body = some c) (hnm : (fn.name == "runtime.NumGoroutine") = false) (hn : args.length ≤ fn.ntmps)
    (h : ∀ B,Tr ⟨P,fn.ntmps,B,keys H,V,[]⟩ V H ((List.range args.length).zip args) c (bodyPostM Fence.wide 0 P fn fun e w' => ∃ v V' H',e = .returned v ∧ R v V' H' ∧ St B (keys H) V V' H' w')) :
    Does P f args V H R := ⟨⟨fn,hf,hnm,by rw [hb]; rfl⟩,fun B hB => callsIn_wide (n := 0).1 (callsIn_of_wp_marks hf hb trivial (wpIn_wide.2 (h B _ _ ⟨Env.start args fn.ntmps hn,hB⟩)))⟩
section
variable {fn : Func} {P : Program} {n : Nat} {B : World} {S : List Nat} {U : Vw} {R : Value → Vw → Hp → Prop} {e : Exit}
theorem Ex.unmark {D : Nat} {Ds : List Deferred} (he : e = .ret ∨ e = .normal) (h : Ex ⟨P,n,B,S,U,Ds⟩ V H L (bodyPostM Fence.wide 0 P fn fun e w' => ∃ v V' H',e = .returned v ∧ R v V' H' ∧ St B S U V' H' w') e) :
    Ex ⟨P,n,B,S,U,mark D :: Ds⟩ V (defd D :: H) L (bodyPostM Fence.wide 0 P fn fun e w' => ∃ v V' H',e = .returned v ∧ R v V' H' ∧ St B S U V' H' w') e := fun a w i => by
  have hb := i.2.own D _ (mem_of_at (i := 0) rfl (List.mem_cons_self ..))
  have s := putObj_turn (o' := .deferred none) (j := 0) i.2 rfl
  have h2 := h { a with defers := Ds } (w.putObj D (.deferred none)) ⟨⟨i.1.size,i.1.lk,rfl⟩,St.drop (H' := [[(D,.deferred none)]]) s⟩
  have hdf := i.1.df
  rcases he with rfl | rfl <;> (show LeavesInM _ _ _ _ _ _ a.defers _ _; rw [hdf]; exact ⟨by simp,.inl ⟨D,_,rfl,run_takeDeferred hb,h2⟩⟩)
theorem Ex.bodyM (he : e = .ret ∨ e = .normal) (h : Ex ⟨P,n,B,S,U,[]⟩ V H L (bodyPost P fn fun e w' => ∃ v V' H',e = .returned v ∧ R v V' H' ∧ St B S U V' H' w') e) :
    Ex ⟨P,n,B,S,U,[]⟩ V H L (bodyPostM Fence.wide 0 P fn fun e w' => ∃ v V' H',e = .returned v ∧ R v V' H' ∧ St B S U V' H' w') e := fun a w i => by
  have hdf := i.1.df
  have h2 := h a w i
  rcases he with rfl | rfl <;> (show LeavesInM _ _ _ _ _ _ a.defers _ _; rw [hdf]; exact h2.2)
end
end
end Go.K
namespace Go.K
open Go.MapKept
def It (b : Nat) (es : Array MapEntry) (clock : Nat) (l done : List (Int × Value)) (v : Value) (s : Sg) : Prop :=
  ∃ r c0,∃ js : List Nat,v = .pointer (some ⟨r,0,none⟩) ∧ s = [(r,.mapIter (some b) clock (js.map fun j => ((es[j]?).map (·.born)).getD 0).toArray c0)] ∧ clock ≤ c0 ∧ js.Nodup ∧ (∀ j,j ∈ js → j < l.length) ∧ done = js.map (fun j => l.getD j (0,undef))
def ItAt (kk : IntKind) (b : Nat) (es : Array MapEntry) (clock : Nat) (k : Int) (u v : Value) (s : Sg) : Prop :=
  ∃ r since,∃ (seen : Array Nat) (e : MapEntry),v = .pointer (some ⟨r,0,none⟩) ∧ s = [(r,.mapIter (some b) since (seen.push e.born) clock)] ∧ e ∈ es.toList ∧ e.key = .int kk k ∧ e.val = u
theorem It.few {b : Nat} {es : Array MapEntry} {clock : Nat} {l done : List (Int × Value)} {v : Value} {s : Sg} (h : It b es clock l done v s) : done.length ≤ l.length := by
  obtain ⟨r,c0,js,_,_,_,h1,h2,rfl⟩ := h
  rw [List.length_map]
  have := h1.length_le_of_subset (l₂ := List.range l.length) (fun j hj => List.mem_range.2 (h2 j hj))
  simpa using this
theorem range_getD {α : Type} (l : List α) (d : α) : (List.range l.length).map (fun j => l.getD j d) = l := by
  apply List.ext_getElem?
  intro i
  rw [List.getElem?_map]
  by_cases h : i < l.length
  · rw [List.getElem?_range h,List.getElem?_eq_getElem h]; simp [List.getD_eq_getElem?_getD,List.getElem?_eq_getElem h]
  · rw [List.getElem?_eq_none (by simpa using h),List.getElem?_eq_none (by omega)]; rfl
section
variable {C : Cx} {V : Vw} {H : Hp} {L : Sl} {Q : Exit → Act → World → Prop} {ops : Array Oper} {os : List Oper}
variable {ty : TypeId} {pos : String} {aft : Array Edge} {d : Nat}
theorem Run.rangeMap {x : Operand} {t a c : TypeId} {kk : IntKind} {b : Nat} {l : List (Int × Value)} {es : Array MapEntry} {clock j : Nat} (hx : ev L x = some (.map (some b))) (ht : mapT C.P t = some (kk,a,c)) (hj : H[j]? = some [(b,.map es clock)]) (hd : d < C.n)
    (k : ∀ v s,It b es clock l [] v s → Run C ops V (s :: H) ((d,v) :: L) os Q) : Run C ops V H L (⟨some d,.range t x,ty,pos,aft,none⟩ :: os) Q :=
  Run.step (p := fun v V' H' => ∃ s,It b es clock l [] v s ∧ V' = V ∧ H' = s :: H) hd
    (fun ac w i => by
      have hb := i.2.own b _ (mem_of_at hj (List.mem_cons_self ..))
      refine ⟨.pointer (some ⟨w.heap.size,0,none⟩),{ w with heap := w.heap.push (.mapIter (some b) clock #[] clock) },V,[(w.heap.size,.mapIter (some b) clock #[] clock)] :: H,?_,⟨_,⟨w.heap.size,clock,[],rfl,rfl,Nat.le_refl _,List.nodup_nil,(fun _ h => nomatch h),rfl⟩,rfl,rfl⟩,i.2.alloc _⟩
      simp [execOp,i.1.ev hx,Instr.range,run_underlying (mapT_spec ht).1,MapKept.run_getObj_map hb,Result.andThen])
    (fun v V' H' ⟨s,h1,h2,h3⟩ => by subst h2 h3; exact k v s h1)
theorem Run.nextMap {x : Operand} {kk : IntKind} {b j j2 : Nat} {l done : List (Int × Value)} {es : Array MapEntry} {clock : Nat} {v : Value} {s : Sg} (hx : ev L x = some v) (hm : MapIs kk l es clock) (hj : H[j]? = some [(b,.map es clock)]) (hi : It b es clock l done v s) (hs : H[j2]? = some s) (hd : d < C.n)
    (k0 : done.Perm l → Run C ops V H ((d,.tuple #[.bool false]) :: L) os Q)
    (k1 : ∀ k u s',(k,u) ∈ l → done.length < l.length → It b es clock l (done ++ [(k,u)]) v s' → ItAt kk b es clock k u v s' → Run C ops V (H.set j2 s') ((d,.tuple #[.bool true,.int kk k,u]) :: L) os Q) :
    Run C ops V H L (⟨some d,.next x false,ty,pos,aft,none⟩ :: os) Q := fun ac w i => by
  obtain ⟨r,c0,js,rfl,rfl,hc,hn,hlt,rfl⟩ := hi
  have hb := i.2.own b _ (mem_of_at hj (List.mem_cons_self ..))
  have hr := i.2.own r _ (mem_of_at hs (List.mem_cons_self ..))
  have hlen : es.size = l.length := by have := congrArg List.length hm.1; simpa using this
  have hborn : ∀ i,i < l.length → ∃ e,es[i]? = some e ∧ e.key = .int kk (l.getD i (0,undef)).1 ∧ e.val = (l.getD i (0,undef)).2 := fun i hi => by
    have h1 := congrArg (·[i]?) hm.1
    simp only [List.getElem?_map,Array.getElem?_toList,List.getElem?_eq_getElem hi,Option.map_some] at h1
    rw [Array.getElem?_eq_getElem (by omega)] at h1 ⊢
    simp only [Option.map_some,Option.some.injEq,Prod.mk.injEq] at h1
    refine ⟨_,rfl,?_,?_⟩ <;> simp [List.getD_eq_getElem?_getD,List.getElem?_eq_getElem hi,h1.1,h1.2]
  have hnb : ∀ (i i' : Nat) (e e' : MapEntry),es[i]? = some e → es[i']? = some e' → e.born = e'.born → i = i' := fun i i' e e' h1 h2 h3 => by
    have hnd := hm.2.2.1
    have l1 : i < (es.toList.map (·.born)).length := by simpa using (Array.getElem?_eq_some_iff.1 h1).1
    have l2 : i' < (es.toList.map (·.born)).length := by simpa using (Array.getElem?_eq_some_iff.1 h2).1
    refine (List.getElem_inj (h₀ := l1) (h₁ := l2) hnd).1 ?_
    have a1 := (Array.getElem?_eq_some_iff.1 h1).2
    have a2 := (Array.getElem?_eq_some_iff.1 h2).2
    simp only [List.getElem_map,Array.getElem_toList,a1,a2,h3]
  unfold wpList
  rw [if_pos (by simp [Region.wanted])]
  refine .inl ?_
  unfold Oper.wp
  rcases run_next_at (P := C.P) w ty r b clock c0 _ es clock hr hb hm.2.1 hc with ⟨h0,h1⟩ | ⟨e,he,w1,hw1,h1⟩
  · have hperm : (js.map fun j => l.getD j (0,undef)).Perm l := by
      have hp : js.Perm (List.range l.length) := (List.perm_ext_iff_of_nodup hn List.nodup_range).2 fun i => by
        rw [List.mem_range]
        refine ⟨hlt i,fun hi => ?_⟩
        obtain ⟨e,he,_⟩ := hborn i hi
        have hnot : ¬ (e ∈ leftOf es (js.map fun j => ((es[j]?).map (·.born)).getD 0).toArray) := fun hc => by
          rw [Array.eq_empty_of_size_eq_zero h0] at hc; simp at hc
        unfold leftOf at hnot
        rw [Array.mem_filter] at hnot
        have hin : (js.map fun j => ((es[j]?).map (·.born)).getD 0).toArray.contains e.born = true := by
          by_cases hq : (js.map fun j => ((es[j]?).map (·.born)).getD 0).toArray.contains e.born = true
          · exact hq
          · exact absurd ⟨Array.mem_of_getElem? he,by simpa using hq⟩ hnot
        simp only [List.contains_toArray,List.contains_iff_mem] at hin
        obtain ⟨j',hj',hb'⟩ := List.mem_map.1 hin
        obtain ⟨e',he',_⟩ := hborn j' (hlt j' hj')
        rw [he'] at hb'
        rw [hnb i j' e e' he he' (by simpa using hb'.symm)]; exact hj'
      have := hp.map (fun j => l.getD j (0,undef))
      rw [range_getD] at this; exact this
    have hrun : (execOp ac.eval ⟨some d,.next x false,ty,pos,aft,none⟩).run C.P w = .ok (.value (.tuple #[.bool false])) w := by
      simp only [execOp,i.1.ev hx,Sem.run_bind,h1,Result.andThen_ok,Sem.run_pure]
    rw [hrun]
    exact k0 hperm _ _ ⟨i.1.put hd _,i.2⟩
  · unfold leftOf at he
    rw [Array.mem_toList_iff,Array.mem_filter] at he
    obtain ⟨he1,he2⟩ := he
    obtain ⟨q,hq⟩ := Array.mem_iff_getElem?.1 he1
    have hql : q < l.length := by rw [← hlen]; exact (Array.getElem?_eq_some_iff.1 hq).1
    obtain ⟨e',hq',hk,hu⟩ := hborn q hql
    rw [hq] at hq'; cases hq'
    have hqn : ¬ q ∈ js := fun hc => by
      have : (js.map fun j => ((es[j]?).map (·.born)).getD 0).toArray.contains e.born = true := by
        simp only [List.contains_toArray,List.contains_iff_mem]
        exact List.mem_map.2 ⟨q,hc,by rw [hq]; rfl⟩
      rw [this] at he2; cases he2
    have hrun : (execOp ac.eval ⟨some d,.next x false,ty,pos,aft,none⟩).run C.P w = .ok (.value (.tuple #[.bool true,.int kk (l.getD q (0,undef)).1,(l.getD q (0,undef)).2])) (ChangeMaps.setBlock w1 r (.mapIter (some b) clock ((js.map fun j => ((es[j]?).map (·.born)).getD 0).toArray.push e.born) clock)) := by
      simp only [execOp,i.1.ev hx,Sem.run_bind,h1,Result.andThen_ok,Sem.run_pure,hk,hu]
    rw [hrun]
    have s1 : St C.B C.S C.U V H w1 := by rcases hw1 with rfl | rfl; exact i.2; exact i.2.drew
    have s2 := s1.turnMap (o' := .mapIter (some b) clock ((js.map fun j => ((es[j]?).map (·.born)).getD 0).toArray.push e.born) clock) hs
    have hfew : js.length < l.length := by
      have := (List.nodup_cons.2 ⟨hqn,hn⟩ : (q :: js).Nodup).length_le_of_subset (l₂ := List.range l.length) (fun j hj => List.mem_range.2 (by rcases List.mem_cons.1 hj with rfl | hj; exact hql; exact hlt j hj))
      simp at this; omega
    refine k1 _ _ _ ?_ (by simpa using hfew) ⟨r,clock,js ++ [q],rfl,?_,Nat.le_refl _,?_,?_,?_⟩ ⟨r,clock,_,e,rfl,rfl,by simpa using he1,hk,hu⟩ _ _ ⟨i.1.put hd _,s2⟩
    · have e9 : l.getD q (0,undef) = l[q] := by rw [List.getD_eq_getElem?_getD,List.getElem?_eq_getElem hql]; rfl
      rw [e9]; exact List.getElem_mem hql
    · simp [hq]
    · refine List.nodup_append.2 ⟨hn,by simp,fun a ha b hb => ?_⟩
      rw [List.mem_singleton] at hb; subst hb; intro e; subst e; exact hqn ha
    · intro j hj
      rcases List.mem_append.1 hj with hj | hj
      · exact hlt j hj
      · rw [List.mem_singleton] at hj; subst hj; exact hql
    · simp
theorem Y.entry {x : Operand} {kk : IntKind} {b j j2 : Nat} {l : List (Int × Value)} {es : Array MapEntry} {clock : Nat} {k : Int} {u v : Value} {s : Sg} (hx : ev L x = some v) (hm : MapIs kk l es clock) (hj : H[j]? = some [(b,.map es clock)]) (hi : ItAt kk b es clock k u v s) (hs : H[j2]? = some s) :
    Yl C V H L (.entry x) ty (.tuple #[.int kk k,u]) := (fun V2 ac w hle i o ho hty => by
  obtain ⟨r,since,seen,e,rfl,rfl,he,hk,hu⟩ := hi
  have hb := i.2.own b _ (mem_of_at hj (List.mem_cons_self ..))
  have hr := i.2.own r _ (mem_of_at hs (List.mem_cons_self ..))
  simp only [execOp,ho,i.1.ev hx,Sem.run_bind,run_entry_at (P := C.P) w r b since seen es clock e hr hb he hm.2.2.1,Result.andThen_ok,Sem.run_pure,hk,hu])
end
end Go.K
namespace Go.K
theorem St.memS {B : World} {S S' : List Nat} {U V : Vw} {H : Hp} {w : World} (h : St B S U V H w) (e : ∀ b,b ∈ S ↔ b ∈ S') : St B S' U V H w :=
  ⟨h.os,h.tape,h.output,h.size,fun b hb hs => h.fr b hb (fun hc => hs ((e b).1 hc)),h.own,h.nd,fun b hb => (h.dom b hb).imp (e b).1 id,h.le,h.vh,h.vd,fun b o hb => (h.vn b o hb).imp id (fun h => h.imp (e b).1 id)⟩
theorem keys_perm {H H' : Hp} (p : H'.Perm H) : ∀ b,b ∈ keys H' ↔ b ∈ keys H := fun b => ((flatten_perm p).map (·.1)).mem_iff
theorem Does.perm {P : Program} {f : FuncId} {args : List Value} {V : Vw} {H H' : Hp} {R : Value → Vw → Hp → Prop} (h : Does P f args V H R) (p : H'.Perm H) : Does P f args V H' R :=
  ⟨h.1,fun B hB => (h.2 B ((hB.perm p.symm).memS (keys_perm p))).mono fun e w' ⟨v,V',H2,q1,q2,q3⟩ => ⟨v,V',H2,q1,q2,q3.memS (fun b => (keys_perm p b).symm)⟩⟩
def yv (l : Nat) : Value := .func (.yield l) #[] #[]
def Iterates (P : Program) (gf : FuncId) (caps : List Value) (V : Vw) (Hs : Hp) {α : Type} (enc : α → List Value) (S Sp : List α → Prop) (N : Nat) : Prop :=
  ∀ (l : Nat) (J Jx : List α → Hp → Prop),(∀ xs x H,J xs H → xs.length < N → YDoes P l (enc x) V H (fun u V' H' => V' = V ∧ (u = .bool true ∧ J (xs ++ [x]) H' ∨ u = .bool false ∧ Jx (xs ++ [x]) H'))) →
    ∀ Hy,J [] Hy → Does P gf (.func (.yield l) #[] #[] :: caps) V (Hs ++ Hy) (fun _ V' H' => V' = V ∧ ∃ xs Hy',H' = Hs ++ Hy' ∧ (S xs ∧ J xs Hy' ∨ Sp xs ∧ Jx xs Hy'))
theorem Iterates.mono {P : Program} {gf : FuncId} {caps : List Value} {V : Vw} {Hs : Hp} {α : Type} {enc : α → List Value} {S Sp S' Sp' : List α → Prop} {N : Nat} (h : Iterates P gf caps V Hs enc S Sp N) (k : ∀ xs,S xs → S' xs) (k' : ∀ xs,Sp xs → Sp' xs) : Iterates P gf caps V Hs enc S' Sp' N :=
  fun l J Jx hy Hy h0 => (h l J Jx hy Hy h0).mono fun v V' H' ⟨e,xs,Hy',e2,q⟩ => ⟨e,xs,Hy',e2,q.imp (fun q => ⟨k xs q.1,q.2⟩) (fun q => ⟨k' xs q.1,q.2⟩)⟩
def fresh (r : Loop) : Prop := r.state = .ready ∧ r.pending = none
section
variable {C : Cx} {V : Vw} {H : Hp} {L : Sl} {Q : Exit → Act → World → Prop}
def Rd1 {α : Type} (n : Nat) (L : Sl) (ps : Array Tmp) (asg body : Code) (V : Vw) (l : Nat) (J : List α → Hp → Prop) (Jx : Code → List α → Hp → Prop) (xs : List α) : Value → Vw → Hp → Prop := fun u V' H' =>
  V' = V ∧ (u = .bool true ∧ (∃ r' H2,LoopIs n L ps asg body r' ∧ fresh r' ∧ H' = rec_ l r' :: H2 ∧ J xs H2) ∨ u = .bool false ∧ ∃ r' c H2,r'.state = .done ∧ r'.pending = some c ∧ H' = rec_ l r' :: H2 ∧ Jx c xs H2)
theorem Tr.range1 {g : Operand} {ps : Array Tmp} {asg body : Code} {gf : FuncId} {caps : List Value} {α : Type} {enc : α → List Value} {S Sp : List α → Prop} {N : Nat} (Hk Hs Hy : Hp) (hH : H.Perm (Hk ++ (Hs ++ Hy)))
    (hg : ev L g = some (.func (.func gf) #[] caps.toArray)) (hit : Iterates C.P gf caps V Hs enc S Sp N) (J : List α → Hp → Prop) (Jx : Code → List α → Hp → Prop) (h0 : J [] Hy)
    (hb : ∀ l r xs x H,LoopIs C.n L ps asg body r → fresh r → J xs H → xs.length < N → YDoes C.P l (enc x) V (rec_ l r :: H) (Rd1 C.n L ps asg body V l J Jx (xs ++ [x])))
    (k1 : ∀ D xs H',S xs → J xs H' → Ex { C with D := mark D :: C.D } V (defd D :: (Hk ++ (Hs ++ H'))) L Q .normal)
    (k2 : ∀ D c xs H',Sp xs → Jx c xs H' → After { C with D := mark D :: C.D } V (defd D :: (Hk ++ (Hs ++ H'))) L Q (some c)) :
    Tr C V H L (.rangeFunc g ps asg body) Q := by
  refine Tr.rangeFunc Hk (Hs ++ Hy) hH hg (Rr := fun l r _ V' H' => V' = V ∧ ∃ xs r' H2,H' = Hs ++ (rec_ l r' :: H2) ∧ (S xs ∧ J xs H2 ∧ fresh r' ∨ Sp xs ∧ ∃ c,r'.state = .done ∧ r'.pending = some c ∧ Jx c xs H2)) ?_ ?_
  · intro l r hLI hs hp
    have := hit l (fun xs H => ∃ r' H2,H = rec_ l r' :: H2 ∧ LoopIs C.n L ps asg body r' ∧ fresh r' ∧ J xs H2) (fun xs H => ∃ r' c H2,H = rec_ l r' :: H2 ∧ r'.state = .done ∧ r'.pending = some c ∧ Jx c xs H2)
      (fun xs x H ⟨r',H2,e,h1,h2,h3⟩ hN => by
        subst e
        exact (hb l r' xs x H2 h1 h2 h3 hN).mono fun u V' H' ⟨q1,q2⟩ => ⟨q1,q2.imp (fun ⟨a,r2,H3,b,c,d,e⟩ => ⟨a,r2,H3,d,b,c,e⟩) (fun ⟨a,r2,c,H3,b,d,e,f⟩ => ⟨a,r2,c,H3,e,b,d,f⟩)⟩)
      (rec_ l r :: Hy) ⟨r,Hy,rfl,hLI,⟨hs,hp⟩,h0⟩
    refine (this.perm List.perm_middle.symm).mono ?_
    rintro v V' H' ⟨rfl,xs,Hy',rfl,⟨h1,r',H2,rfl,h2,h3,h4⟩ | ⟨h1,r',c,H2,rfl,h2,h3,h4⟩⟩
    · exact ⟨rfl,xs,r',H2,rfl,.inl ⟨h1,h4,h3⟩⟩
    · exact ⟨rfl,xs,r',H2,rfl,.inr ⟨h1,c,h2,h3,h4⟩⟩
  · rintro l r D v V' H' _ ⟨rfl,xs,r',H2,rfl,⟨h1,h2,h3⟩ | ⟨h1,c,h2,h3,h4⟩⟩
    · refine ⟨r',Hs ++ H2,List.perm_middle,by rw [h3.1]; simp,?_⟩
      rw [h3.2]; exact k1 D xs H2 h1 h2
    · refine ⟨r',Hs ++ H2,List.perm_middle,by rw [h2]; simp,?_⟩
      rw [h3]; exact k2 D c xs H2 h1 h4
end
end Go.K
namespace Go.K
section
variable {C : Cx} {V : Vw} {H : Hp} {L : Sl} {ty : TypeId}
end
def ixf {α : Type} (b : α → Bool) (l : List α) : Int := match l.findIdx? b with
  | some i => (i : Int)
  | none => -1
theorem ixf_none {α : Type} {b : α → Bool} {l : List α} {d : α} (h : ∀ j,j < l.length → b (l.getD j d) = false) : ixf b l = -1 := by
  unfold ixf
  rw [List.findIdx?_eq_none_iff.2 fun x hx => by
    obtain ⟨j,hj,rfl⟩ := List.mem_iff_getElem.1 hx
    have := h j hj
    rw [List.getD_eq_getElem?_getD,List.getElem?_eq_getElem hj] at this; exact this]
theorem ixf_at {α : Type} {b : α → Bool} {l : List α} {d : α} {i : Nat} (h : ∀ j,j < i → b (l.getD j d) = false) (hi : i < l.length) (hb : b (l.getD i d) = true) : ixf b l = (i : Int) := by
  unfold ixf
  have : l.findIdx? b = some i := by
    rw [List.findIdx?_eq_some_iff_getElem]
    refine ⟨hi,?_,fun j hj => ?_⟩
    · rw [List.getD_eq_getElem?_getD,List.getElem?_eq_getElem hi] at hb; exact hb
    · have := h j hj
      rw [List.getD_eq_getElem?_getD,List.getElem?_eq_getElem (by omega)] at this; simpa using this
  rw [this]
theorem ixf_cases {α : Type} (b : α → Bool) (l : List α) (d : α) : (ixf b l = -1 ∧ ∀ j,j < l.length → b (l.getD j d) = false) ∨ ∃ i : Nat,ixf b l = (i : Int) ∧ i < l.length ∧ b (l.getD i d) = true ∧ ∀ j,j < i → b (l.getD j d) = false := by
  by_cases h : ∃ i,i < l.length ∧ b (l.getD i d) = true
  · have : ∃ i,(i < l.length ∧ b (l.getD i d) = true) ∧ ∀ j,j < i → ¬ (j < l.length ∧ b (l.getD j d) = true) := by
      obtain ⟨i,hi⟩ := h
      induction i using Nat.strongRecOn with
      | _ i ih =>
        by_cases hj : ∃ j,j < i ∧ j < l.length ∧ b (l.getD j d) = true
        · obtain ⟨j,hj1,hj2⟩ := hj; exact ih j hj1 hj2
        · exact ⟨i,hi,fun j hji hc => hj ⟨j,hji,hc⟩⟩
    obtain ⟨i,⟨h1,h2⟩,h3⟩ := this
    have h4 : ∀ j,j < i → b (l.getD j d) = false := fun j hj => by
      cases hq : b (l.getD j d) with
      | false => rfl
      | true => exact absurd ⟨by omega,hq⟩ (h3 j hj)
    exact .inr ⟨i,ixf_at h4 h1 h2,h1,h2,h4⟩
  · have h4 : ∀ j,j < l.length → b (l.getD j d) = false := fun j hj => by
      cases hq : b (l.getD j d) with
      | false => rfl
      | true => exact absurd ⟨j,hj,hq⟩ h
    exact .inl ⟨ixf_none h4,h4⟩
end Go.K
