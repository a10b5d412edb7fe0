/- The rules of the walks on elements of slices: their addresses, loads and stores, without a word of where the slice lies.
Conditions: none; nothing here speaks of a program. -/
import Derived.Test.YtfgblingojgafaaGreatFA
import Derived.MapKept
import Derived.RangeFuncIn
import Derived.RangeFuncLeaves
import Derived.RangeFuncRecord
import Derived.RangeFuncSeq
import Derived.OrdersIn
import Derived.Maps.RangeRun
import Derived.Test.YtfgblingojgafaaGreatKA
set_option linter.unusedSimpArgs false
set_option linter.unusedVariables false
set_option linter.unusedSectionVars false
namespace Go.K
def elp (p : Option Addr) (j : Nat) : Value := .pointer (p.map fun a => ⟨a.block,a.off + j,none⟩)
theorem elp_some (b off j : Nat) : elp (some ⟨b,off,none⟩) j = .pointer (some ⟨b,off + j,none⟩) := rfl
section
variable {C : Cx} {V : Vw} {H : Hp} {L : Sl} {Q : Exit -> Act -> World -> Prop} {ops : Array Oper} {os : List Oper}
variable {ty : TypeId} {pos : String} {aft : Array Edge} {d : Nat}
theorem Rd.at {k n c : Nat} {p : Option Addr} {xs : List Value} (h : Rd V H k (.slice p n c) n xs) (hn : 0 < n) :
    ∃ b off cs e fz,p = some ⟨b,off,none⟩ /\ Kn V H b (.cells cs e fz) /\ ∀ j,j < n * k -> cs[off + j]? = xs[j]? := by
  obtain ⟨_,p',c',h2,_,h4 | h4⟩ := h
  · omega
  · cases h2; exact h4
theorem Y.idxR {x y : Operand} {t e z n c : Nat} {p : Option Addr} {kk : IntKind} {m : Int} {xs : List Value} (i : Nat) (hx : ev L x = some (.slice p n c)) (hy : ev L y = some (.int kk m)) (ht : elemS C.P t = some (e,z)) (hr : Rd V H z (.slice p n c) n xs)
    (hm : m = (i : Int)) (hi : i < n) : Yl C V H L (.indexAddr t x y) ty (elp p (i * z)) := by
  obtain ⟨b,off,cs,e',fz,rfl,_,_⟩ := hr.at (by omega)
  subst hm
  exact Y.idxAddr hx hy ht (by omega) (by simpa using hi)
theorem Y.fieldR {x : Operand} {s f o j k n c : Nat} {p : Option Addr} {xs : List Value} (hx : ev L x = some (elp p j)) (hf : fieldOff C.P s f = some o) (hr : Rd V H k (.slice p n c) n xs) (hn : 0 < n) : Yl C V H L (.fieldAddr s x f) ty (elp p (j + o)) := by
  obtain ⟨b,off,cs,e',fz,rfl,_,_⟩ := hr.at hn
  have := Y.fieldAddr (C := C) (V := V) (H := H) (ty := ty) hx hf
  rw [Nat.add_assoc] at this; exact this
theorem Y.ldR {x : Operand} {t j k n c : Nat} {p : Option Addr} {xs : List Value} {v : Value} (hx : ev L x = some (elp p j)) (ht : scal C.P t = true) (hr : Rd V H k (.slice p n c) n xs) (hv : xs[j]? = some v) : Yl C V H L (.load t x) ty v := by
  have hj : j < n * k := by
    have := hr.1
    rcases Nat.lt_or_ge j xs.length with h | h
    · omega
    · rw [List.getElem?_eq_none h] at hv; cases hv
  have hn : 0 < n := by rcases Nat.eq_zero_or_pos n with h | h; (subst h; omega); exact h
  obtain ⟨b,off,cs,e',fz,rfl,hk,hcs⟩ := hr.at hn
  exact Y.load hx ht hk ((hcs j hj).trans hv)
theorem Y.ldRA {x : Operand} {t j k n c z : Nat} {p : Option Addr} {xs vs : List Value} (hx : ev L x = some (elp p j)) (ht : aggsz C.P t = some z) (hr : Rd V H k (.slice p n c) n xs) (hz : vs.length = z) (hz0 : 0 < z) (hv : ∀ o,o < z -> xs[j + o]? = vs[o]?) : Yl C V H L (.load t x) ty (.agg vs.toArray) := by
  have hlast : j + (z - 1) < n * k := by
    have h1 := hv (z - 1) (by omega)
    have := hr.1
    rcases Nat.lt_or_ge (j + (z - 1)) xs.length with h | h
    · omega
    · rw [List.getElem?_eq_none h,List.getElem?_eq_getElem (by omega)] at h1; cases h1
  have hn : 0 < n := by rcases Nat.eq_zero_or_pos n with h | h; (subst h; omega); exact h
  obtain ⟨b,off,cs,e',fz,rfl,hk,hcs⟩ := hr.at hn
  subst hz
  exact Y.loadAgg hx ht hk (cellsAt_of vs (off + j) fun o ho => by rw [Nat.add_assoc,hcs _ (by omega)]; exact hv o ho)
section
variable {α : Type} {f : α -> List Value} {z : Nat} {l : List α}
theorem rows_atA (hz : ∀ x,(f x).length = z) {i : Nat} (hi : i < l.length) (d : α) {o : Nat} (ho : o < z) : (l.map f).flatten[i * z + o]? = (f (l.getD i d))[o]? := by
  rw [flatten_at (z := z) _ i o (fun r hr => by obtain ⟨x,_,rfl⟩ := List.mem_map.1 hr; exact hz x) ho,List.getElem?_map,List.getElem?_eq_getElem hi]
  simp [List.getD_eq_getElem?_getD,List.getElem?_eq_getElem hi]
theorem rows_at (hz : ∀ x,(f x).length = z) {i : Nat} (hi : i < l.length) (d : α) {o : Nat} {v : Value} (ho : o < z) (hv : (f (l.getD i d))[o]? = some v) : (l.map f).flatten[i * z + o]? = some v := by rw [rows_atA hz hi d ho,hv]
theorem flatm_at (hz : ∀ x,(f x).length = z) {i : Nat} (hi : i < l.length) (d : α) {o : Nat} {v : Value} (ho : o < z) (hv : (f (l.getD i d))[o]? = some v) : (l.flatMap f)[i * z + o]? = some v := by rw [List.flatMap_def]; exact rows_at hz hi d ho hv
theorem flatm_at0 (hz : ∀ x,(f x).length = z) {i : Nat} (hi : i < l.length) (d : α) {v : Value} (ho : 0 < z) (hv : (f (l.getD i d))[0]? = some v) : (l.flatMap f)[i * z]? = some v := flatm_at hz hi d ho hv
theorem flatm_atA (hz : ∀ x,(f x).length = z) {i : Nat} (hi : i < l.length) (d : α) : ∀ o,o < z -> (l.flatMap f)[i * z + o]? = (f (l.getD i d))[o]? := fun o ho => by rw [List.flatMap_def]; exact rows_atA hz hi d ho
theorem flat_snoc (x : α) : (l ++ [x]).flatMap f = l.flatMap f ++ f x := by simp
theorem flat_cut (hz : ∀ x,(f x).length = z) (a b : Nat) : ((l.flatMap f).drop (a * z)).take (b * z) = ((l.drop a).take b).flatMap f := by
  induction l generalizing a b with
  | nil => simp
  | cons x l ih =>
    cases a with
    | succ a =>
      rw [List.flatMap_cons,List.drop_succ_cons,<- ih a b,Nat.succ_mul,show a * z + z = z + a * z by omega,<- List.drop_drop,show (f x ++ l.flatMap f).drop z = l.flatMap f from by rw [<- hz x]; exact List.drop_left]
    | zero =>
      cases b with
      | zero => simp
      | succ b =>
        have := ih 0 b
        simp only [Nat.zero_mul,List.drop_zero] at this ⊢
        rw [List.take_succ_cons,List.flatMap_cons,List.flatMap_cons,<- this,Nat.succ_mul,show b * z + z = (f x).length + b * z by rw [hz]; omega,List.take_append,List.take_of_length_le (by omega)]; simp
end
theorem Rd.cut {α : Type} {f : α -> List Value} {k n c : Nat} {p : Option Addr} {l : List α} (hz : ∀ x,(f x).length = k) (h : Rd V H k (.slice p n c) n (l.flatMap f)) (a b : Nat) (ha : a <= b) (hb : b <= n) :
    Rd V H k (.slice (if c = a then p else p.map (·.add (a * k))) (b - a) (c - a)) (b - a) (((l.drop a).take (b - a)).flatMap f) := by
  rw [<- flat_cut hz]; exact h.slice a b ha hb
theorem Ow.app {α : Type} {f : α -> List Value} {l m : List α} {e : TypeId} {k n : Nat} {v : Value} {s : Sg} (h : Ow e k v n (l.flatMap f ++ m.flatMap f) s) : Ow e k v n ((l ++ m).flatMap f) s := by rw [List.flatMap_append]; exact h
theorem Ow.app1 {α : Type} {f : α -> List Value} {l : List α} {x : α} {e : TypeId} {k n : Nat} {v : Value} {s : Sg} (h : Ow e k v n (l.flatMap f ++ f x) s) : Ow e k v n ((l ++ [x]).flatMap f) s := by rw [flat_snoc]; exact h
theorem Ow.cap {e : TypeId} {k n c : Nat} {p : Option Addr} {xs : List Value} {s : Sg} (h : Ow e k (.slice p n c) n xs s) : n <= c := by
  obtain ⟨_,⟨h1,_⟩ | ⟨b,cap,cur,h1,_,h2,_⟩⟩ := h
  · cases h1; exact Nat.le_refl _
  · cases h1; exact h2
theorem set_cells {cur : Array Value} {xs : List Value} {n j : Nat} {v : Value} (h : ∀ i,i < n -> cur[i]? = xs[i]?) (hj : j < n) (hl : xs.length = n) : ∀ i,i < n -> (cur.setIfInBounds j v)[i]? = (xs.set j v)[i]? := fun i hi => by
  rw [Array.getElem?_setIfInBounds,List.getElem?_set]
  by_cases e : j = i
  · subst e
    have : j < cur.size := by
      have := h j hj
      rcases Nat.lt_or_ge j cur.size with g | g
      · exact g
      · rw [Array.getElem?_eq_none g,List.getElem?_eq_getElem (by omega)] at this; cases this
    simp [this,hl,hj]
  · simp [e,h i hi]
theorem Run.stO {x y : Operand} {t e k n c j i : Nat} {p : Option Addr} {xs : List Value} {v : Value} {s : Sg} (hx : ev L x = some (elp p j)) (hy : ev L y = some v) (ht : sizeT C.P t = some 1) (ho : Ow e k (.slice p n c) n xs s) (hi : H[i]? = some s) (hj : j < n * k) (hv : v.cells.toList = [v]) (h1 : one v = true)
    (kk : ∀ s',Ow e k (.slice p n c) n (xs.set j v) s' -> Run C ops V (H.set i s') L os Q) : Run C ops V H L (⟨none,.store t x y,ty,pos,aft,none⟩ :: os) Q := by
  obtain ⟨h1',⟨_,h2,_⟩ | ⟨b,cap,cur,h2,h3,h4,h5,h6,h7⟩⟩ := ho
  · subst h2; omega
  · cases h2; subst h3
    refine Run.store (s := [(b,.cells (setL cur.toList (0 + j) v.cells.toList).toArray e (0,0))]) (c := cur.toList) (by rw [elp_some] at hx; exact hx) hy ht (by rw [hi]) (by rw [<- Array.length_toList,hv]; rfl) (by
      have : n * k <= c * k := Nat.mul_le_mul_right _ h4
      rw [Array.length_toList,h6]; omega) (by rw [hv]; simp [h1]) rfl (kk _ ?_)
    refine ⟨by simpa using h1',.inr ⟨b,c,_,rfl,rfl,h4,h5,?_,?_⟩⟩
    · rw [hv,Nat.zero_add]; simp [setL,h6]
    · rw [hv,Nat.zero_add]; simp only [setL]
      intro i' hi'
      have := set_cells h7 hj h1' (v := v) i' hi'
      rw [<- this]; simp; rw [<- Array.toList_setIfInBounds,Array.getElem?_toList]
end
end Go.K
namespace Go.K
open Go.MapKept
def MapIs (kk : IntKind) (l : List (Int × Value)) (es : Array MapEntry) (clock : Nat) : Prop := es.toList.map (fun e => (e.key,e.val)) = l.map (fun p => (Value.int kk p.1,p.2)) /\ Stamped es clock
def Om (kk : IntKind) (v : Value) (l : List (Int × Value)) (s : Sg) : Prop := ∃ b es clock,v = .map (some b) /\ s = [(b,.map es clock)] /\ MapIs kk l es clock
def mget (l : List (Int × Value)) (k : Int) : Option Value := l.lookup k
def mset : List (Int × Value) -> Int -> Value -> List (Int × Value)
  | [],k,v => [(k,v)]
  | (k',v') :: l,k,v => if k' = k then (k,v) :: l else (k',v') :: mset l k v
def mapT (P : Program) (t : TypeId) : Option (IntKind × TypeId × TypeId) := match P.underlying t with
  | some (.map a b) => match P.underlying a with
    | some (.int k) => some (k,a,b)
    | _ => none
  | _ => none
theorem mapT_spec {P : Program} {t a b : TypeId} {k : IntKind} (h : mapT P t = some (k,a,b)) : P.underlying t = some (.map a b) /\ P.underlying a = some (.int k) := by
  unfold mapT at h
  split at h
  · rename_i h1
    split at h
    · rename_i h2; cases h; exact ⟨h1,h2⟩
    · cases h
  · cases h
theorem find_is {kk : IntKind} (k : Int) : ∀ (l : List (Int × Value)) (es : List MapEntry) (i : Nat),es.map (fun e => (e.key,e.val)) = l.map (fun p => (Value.int kk p.1,p.2)) ->
    (mget l k = none /\ Instr.findNow (.int kk) (.int kk k) es i = some none /\ ∀ x ∈ es,x.key ≠ .int kk k) \/ ∃ j e,mget l k = some e.val /\ Instr.findNow (.int kk) (.int kk k) es i = some (some (i + j,e.val)) /\ es[j]? = some e /\ e.key = .int kk k
  | [],[],i,_ => .inl ⟨rfl,rfl,by simp⟩
  | [],e :: es,_,h => by simp at h
  | p :: l,[],_,h => by simp at h
  | p :: l,e :: es,i,h => by
    obtain ⟨k',v'⟩ := p
    simp only [List.map_cons,List.cons.injEq,Prod.mk.injEq] at h
    obtain ⟨⟨h1,h2⟩,h3⟩ := h
    by_cases hk : k = k'
    · subst hk
      exact .inr ⟨0,e,by simp [mget,List.lookup,h2],by simp [Instr.findNow,Instr.sameNow,h1],rfl,h1⟩
    · have hb : (k == k') = false := by simp [hk]
      rcases find_is k l es (i + 1) h3 with ⟨g1,g2,g3⟩ | ⟨j,e',g1,g2,g3,g4⟩
      · refine .inl ⟨by simp only [mget,List.lookup,hb]; exact g1,by simp [Instr.findNow,Instr.sameNow,h1,hb,g2],fun x hx => ?_⟩
        rcases List.mem_cons.1 hx with rfl | hx
        · rw [h1]; simp; exact fun q => hk q.symm
        · exact g3 x hx
      · exact .inr ⟨j + 1,e',by simp only [mget,List.lookup,hb]; exact g1,by simp [Instr.findNow,Instr.sameNow,h1,hb,g2]; omega,by simpa using g3,g4⟩
theorem mset_none {l : List (Int × Value)} {k : Int} {v : Value} (h : mget l k = none) : mset l k v = l ++ [(k,v)] := by
  induction l with
  | nil => rfl
  | cons p l ih =>
    obtain ⟨k',v'⟩ := p
    by_cases e : k = k'
    · subst e; simp [mget,List.lookup] at h
    · have hb : (k == k') = false := by simp [e]
      simp only [mget,List.lookup,hb] at h
      simp only [mset,if_neg (fun q => e q.symm : ¬ k' = k),ih h,List.cons_append]
theorem mset_some {kk : IntKind} {k : Int} {v : Value} : ∀ {l : List (Int × Value)} {es : List MapEntry} {j : Nat} {e : MapEntry},es.map (fun e => (e.key,e.val)) = l.map (fun p => (Value.int kk p.1,p.2)) -> (es.map (·.key)).Nodup -> es[j]? = some e -> e.key = .int kk k ->
    (es.modify j fun x => { x with key := .int kk k,val := v }).map (fun e => (e.key,e.val)) = (mset l k v).map (fun p => (Value.int kk p.1,p.2))
  | [],[],j,e,_,_,hj,_ => by simp at hj
  | [],_ :: _,_,_,h,_,_,_ => by simp at h
  | _ :: _,[],_,_,h,_,_,_ => by simp at h
  | (k',v') :: l,x :: es,j,e,h,hn,hj,he => by
    simp only [List.map_cons,List.cons.injEq,Prod.mk.injEq] at h
    obtain ⟨⟨h1,h2⟩,h3⟩ := h
    cases j with
    | zero =>
      simp only [List.getElem?_cons_zero,Option.some.injEq] at hj
      subst hj
      have : k' = k := by rw [h1] at he; cases he; rfl
      subst this
      simp [mset,h3]
    | succ j =>
      simp only [List.getElem?_cons_succ] at hj
      simp only [List.map_cons,List.nodup_cons] at hn
      have : k' ≠ k := fun q => hn.1 (by rw [h1,q,<- he]; exact List.mem_map_of_mem (List.mem_of_getElem? hj))
      simp only [mset,if_neg this,List.modify_succ_cons,List.map_cons,h1,h2,mset_some h3 hn.2 hj he]
theorem MapIs.find {kk : IntKind} {l : List (Int × Value)} {es : Array MapEntry} {clock : Nat} (h : MapIs kk l es clock) (k : Int) :
    (mget l k = none /\ Instr.findNow (.int kk) (.int kk k) es.toList 0 = some none /\ ∀ x ∈ es.toList,x.key ≠ .int kk k) \/ ∃ j e,mget l k = some e.val /\ Instr.findNow (.int kk) (.int kk k) es.toList 0 = some (some (j,e.val)) /\ es.toList[j]? = some e /\ e.key = .int kk k := by
  have := find_is (kk := kk) k l es.toList 0 h.1
  simpa only [Nat.zero_add] using this
theorem MapIs.empty (kk : IntKind) (c : Nat) : MapIs kk [] #[] c := ⟨rfl,stamped_empty c⟩
theorem MapIs.push {kk : IntKind} {l : List (Int × Value)} {es : Array MapEntry} {clock : Nat} (h : MapIs kk l es clock) {k : Int} {v : Value} (hk : mget l k = none) (hx : ∀ x ∈ es.toList,x.key ≠ .int kk k) : MapIs kk (mset l k v) (es.push ⟨.int kk k,v,clock⟩) (clock + 1) :=
  ⟨by rw [mset_none hk]; simp [h.1],stamped_push h.2 hx⟩
theorem MapIs.modify {kk : IntKind} {l : List (Int × Value)} {es : Array MapEntry} {clock : Nat} (h : MapIs kk l es clock) {k : Int} {v : Value} {j : Nat} {e : MapEntry} (hj : es.toList[j]? = some e) (he : e.key = .int kk k) : MapIs kk (mset l k v) (es.modify j fun x => { x with key := .int kk k,val := v }) clock :=
  ⟨by rw [Array.toList_modify]; exact mset_some h.1 h.2.2.2 hj he,stamped_modify h.2 j _ (fun _ _ => rfl) (fun x _ hx => by rw [Array.getElem?_toList] at hj; rw [hj] at hx; cases hx; exact he.symm)⟩
section
variable {C : Cx} {V : Vw} {H : Hp} {L : Sl} {Q : Exit -> Act -> World -> Prop} {ops : Array Oper} {os : List Oper}
variable {ty : TypeId} {pos : String} {aft : Array Edge} {d : Nat}
theorem Run.makeMap {t : TypeId} (kk : IntKind) (hd : d < C.n) (k : ∀ v s,Om kk v [] s -> Run C ops V (s :: H) ((d,v) :: L) os Q) :
    Run C ops V H L (⟨some d,.makeMap t none,ty,pos,aft,none⟩ :: os) Q :=
  Run.step (p := fun v V' H' => ∃ s,Om kk v [] s /\ V' = V /\ H' = s :: H) hd
    (fun a w i => ⟨.map (some w.heap.size),{ w with heap := w.heap.push (.map #[] 0) },V,_,by simp only [execOp,Instr.makeMap,Option.map_none,Sem.run_bind,Sem.run_pure,Result.andThen_ok]; rfl,⟨_,⟨w.heap.size,#[],0,rfl,rfl,MapIs.empty kk 0⟩,rfl,rfl⟩,i.2.alloc _⟩)
    (fun v V' H' ⟨s,h1,h2,h3⟩ => by subst h2 h3; exact k v s h1)
theorem Y.lookup {x y : Operand} {t a b : TypeId} {kk : IntKind} {v z : Value} {k : Int} {l : List (Int × Value)} {s : Sg} {j : Nat} {c : Bool} {r : Value} (hx : ev L x = some v) (hy : ev L y = some (.int kk k)) (ht : mapT C.P t = some (kk,a,b)) (hz : zeroOf C.P b = some z) (hm : Om kk v l s) (hj : H[j]? = some s)
    (hr : (if c then Value.tuple #[(mget l k).getD z,.bool (mget l k).isSome] else (mget l k).getD z) = r) : Yl C V H L (.lookup t x y c) ty r := (fun V2 ac w hle i o ho hty => by
  subst hr
  obtain ⟨bb,es,clock,rfl,rfl,hm⟩ := hm
  obtain ⟨h1,h2⟩ := mapT_spec ht
  have hb := i.2.own bb _ (mem_of_at hj (List.mem_cons_self ..))
  have hk : IsKey (.int kk) (.int kk k) := rfl
  rcases hm.find k with ⟨g1,g2,_⟩ | ⟨q,e,g1,g2,g3,g4⟩
  · simp [execOp,ho,i.1.ev hx,i.1.ev hy,Instr.lookup,run_underlying h1,MapKept.run_getObj_map hb,run_checkKey h2 hk,run_findKey h2 g2,g1,run_zeroValue hz,Result.andThen]
  · simp [execOp,ho,i.1.ev hx,i.1.ev hy,Instr.lookup,run_underlying h1,MapKept.run_getObj_map hb,run_checkKey h2 hk,run_findKey h2 g2,g1,Result.andThen])
theorem St.turnMap {B : World} {S : List Nat} {U : Vw} {w : World} {j bb : Nat} {o o' : Obj} (h : St B S U V H w) (hj : H[j]? = some [(bb,o)]) : St B S U V (H.set j [(bb,o')]) { w with heap := w.heap.setIfInBounds bb o' } := by
  have hb := h.own bb _ (mem_of_at hj (List.mem_cons_self ..))
  obtain ⟨e1,e2⟩ := heap_set (o' := o') hb
  refine h.turn hj rfl (fun b' hb' => e2 b' (by simpa using hb')) (fun b' ob hob => ?_) rfl rfl rfl (by simp)
  rw [List.mem_singleton] at hob; cases hob; exact e1
theorem Run.mapUpdate {x y z : Operand} {t a b : TypeId} {kk : IntKind} {v u : Value} {k : Int} {l : List (Int × Value)} {s : Sg} (j : Nat) (hx : ev L x = some v) (hy : ev L y = some (.int kk k)) (hz : ev L z = some u) (ht : mapT C.P t = some (kk,a,b)) (hm : Om kk v l s) (hj : H[j]? = some s)
    (kc : ∀ s',Om kk v (mset l k u) s' -> Run C ops V (H.set j s') L os Q) : Run C ops V H L (⟨none,.mapUpdate t x y z,ty,pos,aft,none⟩ :: os) Q := by
  obtain ⟨bb,es,clock,rfl,rfl,hm⟩ := hm
  obtain ⟨h1,h2⟩ := mapT_spec ht
  have hk : IsKey (.int kk) (.int kk k) := rfl
  rcases hm.find k with ⟨g1,g2,g3⟩ | ⟨q,e,g1,g2,g3,g4⟩
  · refine Run.act (V' := V) (H' := H.set j [(bb,.map (es.push ⟨.int kk k,u,clock⟩) (clock + 1))]) (fun ac w i => ⟨_,?_,i.2.turnMap hj⟩) (kc _ ⟨bb,_,_,rfl,rfl,hm.push g1 g3⟩)
    have hb := i.2.own bb _ (mem_of_at hj (List.mem_cons_self ..))
    simp [execOp,i.1.ev hx,i.1.ev hy,i.1.ev hz,Instr.mapUpdate,run_underlying h1,MapKept.run_getObj_map hb,run_checkKey h2 hk,run_findKey h2 g2,run_setObj_map _ hb,Result.andThen]
  · refine Run.act (V' := V) (H' := H.set j [(bb,.map (es.modify q fun x => { x with key := .int kk k,val := u }) clock)]) (fun ac w i => ⟨_,?_,i.2.turnMap hj⟩) (kc _ ⟨bb,_,_,rfl,rfl,hm.modify g3 g4⟩)
    have hb := i.2.own bb _ (mem_of_at hj (List.mem_cons_self ..))
    have hq : es[q]? = some e := by simpa using g3
    simp [execOp,i.1.ev hx,i.1.ev hy,i.1.ev hz,Instr.mapUpdate,run_underlying h1,MapKept.run_getObj_map hb,run_checkKey h2 hk,run_findKey h2 g2,run_keyThatStays hk,run_setObj_map _ hb,Result.andThen,hq,g4]
end
end Go.K
namespace Go.K
def FR (r : Option Nat) : Fence := { Fence.wide with round := r }
class NoOut (Q : Exit -> Act -> World -> Prop) : Prop where
  no : ¬ LetsOut Q
instance {K : Act -> World -> Prop} {Q : Exit -> Act -> World -> Prop} [h : NoOut Q] : NoOut (Exit.then K Q) := ⟨fun ⟨a,w,q⟩ => h.no ⟨a,w,q⟩⟩
instance {id : Nat} {Q : Exit -> Act -> World -> Prop} [h : NoOut Q] : NoOut (Exit.inBlock id Q) := ⟨fun ⟨a,w,q⟩ => h.no ⟨a,w,q⟩⟩
instance {P : Program} {l : Nat} {R : Ending -> World -> Prop} : NoOut (roundPost P l R) := ⟨fun ⟨_,_,q⟩ => q⟩
instance : NoOut (fun _ _ _ => False) := ⟨fun ⟨_,_,q⟩ => q⟩
instance {P : Program} {fn : Func} {R : Value -> World -> Prop} : NoOut (bodyPost P fn fun e w' => ∃ v,∃ (V' : Vw) (H' : Hp),e = .returned v /\ R v w') := ⟨fun ⟨_,_,_,_,_,q,_⟩ => by cases q⟩
instance {P : Program} {fn : Func} {R : Value -> Vw -> Hp -> Prop} {S : Vw -> Hp -> World -> Prop} : NoOut (bodyPost P fn fun e w' => ∃ v V' H',e = .returned v /\ R v V' H' /\ S V' H' w') := ⟨fun ⟨_,_,_,_,_,q,_⟩ => by cases q⟩
instance {P : Program} {fn : Func} {n : Nat} {R : Value -> Vw -> Hp -> Prop} {S : Vw -> Hp -> World -> Prop} : NoOut (bodyPostM Fence.wide n P fn fun e w' => ∃ v V' H',e = .returned v /\ R v V' H' /\ S V' H' w') := ⟨fun ⟨_,_,_,_,_,q,_⟩ => by cases q⟩
def noDefer (o : Oper) : Bool := match o.op with
  | .defer _ => false
  | _ => true
theorem noDefer_spec {o : Oper} (h : noDefer o = true) : ∀ c,o.op ≠ .defer c := fun c e => by unfold noDefer at h; rw [e] at h; cases h
section
variable {P : Program} {Q : Exit -> Act -> World -> Prop} {r : Option Nat} {ops : Array Oper} {md : Region.Mode}
theorem callsFR {n : Nat} {f : FuncId} {args : Array Value} {w : World} {R : Ending -> World -> Prop} (h : Calls P f args w R) : CallsIn (FR r) n P f args w R := by
  have := callsIn_wide (n := n).2 h
  exact this
theorem rowsFR {n : Nat} {row : String} {args : Array Value} {w : World} {R : Value -> World -> Prop} (h : Rows P row args w R) : RowsIn (FR r) n P row args w R := fun c cs _ => by
  obtain ⟨v,w',h1,h2⟩ := h c cs
  exact ⟨v,w',h1,(stepsIn_wide.2 h2 : StepsIn (Machine.fenced P Fence.wide) P _ _)⟩
theorem wpIn_op {n : Nat} {o : Oper} {a : Act} {w : World} {K K' : Act -> World -> Prop} {Q' : Exit -> Act -> World -> Prop} (hd : ∀ c,o.op ≠ .defer c) (hK : ∀ a w,K a w -> K' a w) (hq : ∀ e,e ≠ .normal -> ∀ a w,Q e a w -> Q' e a w) (h : o.wp P a w K Q) : o.wpIn (FR r) n P a w K' Q' := by
  unfold Oper.wp at h
  unfold Oper.wpIn
  refine ⟨fun _ _ => trivial,?_⟩
  rw [Oper.semAt_eq _ _ _ hd]
  generalize (execOp a.eval o).run P w = x at *
  cases x with
  | ok x w' =>
    cases x <;> simp only [Oper.upon,Oper.uponIn] at h ⊢ <;>
      first
        | exact hK _ _ h
        | exact ⟨fun h => by simp [FR,Fence.wide] at h,callsFR (Calls.mono h fun e w'' he => by cases e <;> first | exact hK _ _ he | exact hq _ (by simp) _ _ he | exact he.elim fun a ⟨w,h⟩ => ⟨a,w,hq _ (by simp) _ _ h⟩)⟩
        | exact ⟨fun h => by simp [FR,Fence.wide] at h,rowsFR (Rows.mono h fun _ _ he => hK _ _ he)⟩
  | halt x w' => cases x <;> simp only [Oper.upon,Oper.uponIn] at h ⊢ <;> exact hq _ (by simp) _ _ h
theorem wpListIn_of [hQ : NoOut Q] : ∀ os : List Oper,os.all noDefer = true -> ∀ a w,wpList P ops Q os a w -> wpListIn (FR r) 0 P ops Q os a w
  | [],_,_,_,h => h
  | o :: os,hd,a,w,h => by
    simp only [List.all_cons,Bool.and_eq_true] at hd
    unfold wpList at h
    unfold wpListIn
    split
    · rename_i hw
      rw [if_pos hw] at h
      rcases h with h | ⟨_,h⟩
      · exact wpIn_op (noDefer_spec hd.1) (fun a w h => wpListIn_of os hd.2 a w h) (fun _ _ _ _ h => h) h
      · exact absurd h hQ.no
    · rename_i hw
      rw [if_neg hw] at h
      exact ⟨fun _ _ => trivial,wpListIn_of os hd.2 _ _ h⟩
end
section
variable {C : Cx} {V : Vw} {H : Hp} {L : Sl} {Q : Exit -> Act -> World -> Prop} {ops : Array Oper} {os : List Oper} {l : Nat}
variable {ty : TypeId} {pos : String} {aft : Array Edge} {d : Nat}
def TrR (l : Nat) (C : Cx) (V : Vw) (H : Hp) (L : Sl) (c : Code) (Q : Exit -> Act -> World -> Prop) : Prop := ∀ a w,Is C V H L a w -> c.wpIn (FR (some l)) 0 C.P Q a w
theorem TrR.seq {x y : Code} (h : TrR l C V H L x (Exit.then (y.wpIn (FR (some l)) 0 C.P Q) Q)) : TrR l C V H L (.seq x y) Q := fun a w i => wpIn_seq (h a w i)
theorem TrR.block {id : Nat} {c : Code} (h : TrR l C V H L c (Exit.inBlock id Q)) : TrR l C V H L (.block id c) Q := fun a w i => wpIn_block (h a w i)
theorem TrR.to_end (h : Ex C V H L Q .normal) : TrR l C V H L .skip Q := fun a w i => wpIn_skip (h a w i)
theorem TrR.to_ret (h : Ex C V H L Q .ret) : TrR l C V H L .ret Q := fun a w i => wpIn_ret (h a w i)
theorem TrR.cond_t {c : Operand} {x y : Code} {t : Bool} (hc : ev L c = some (.bool t)) (e : t = true) (ht : TrR l C V H L x Q) : TrR l C V H L (.cond c x y) Q :=
  fun a w i => wpIn_cond_true (by rw [i.1.ev hc,e]) (ht a w i)
theorem TrR.cond_f {c : Operand} {x y : Code} {t : Bool} (hc : ev L c = some (.bool t)) (e : t = false) (hf : TrR l C V H L y Q) : TrR l C V H L (.cond c x y) Q :=
  fun a w i => wpIn_cond_false (by rw [i.1.ev hc,e]) (hf a w i)
theorem TrR.region {id : Nat} {os : List Oper} [NoOut Q] (hd : os.all noDefer = true) (h : Run C os.toArray V H L os Q) : TrR l C V H L (.region id os.toArray false) Q :=
  fun a w i => wpIn_region_lit (wpListIn_of os hd a w (h a w i))
theorem Ex.goR {y : Code} (h : TrR l C V H L y Q) : Ex C V H L (Exit.then (y.wpIn (FR (some l)) 0 C.P Q) Q) .normal := h
def YDoes (P : Program) (l : Nat) (args : List Value) (V : Vw) (H : Hp) (R : Value -> Vw -> Hp -> Prop) : Prop :=
  ∀ B,St B (keys H) V V H B -> YieldAt Fence.wide 0 P l args.toArray B fun e w' => ∃ v V' H',e = .returned v /\ R v V' H' /\ St B (keys H) V V' H' w'
theorem YDoes.mono {P : Program} {args : List Value} {R R' : Value -> Vw -> Hp -> Prop} (h : YDoes P l args V H R) (k : ∀ v V' H',R v V' H' -> R' v V' H') : YDoes P l args V H R' := fun B hB => by
  obtain ⟨fn,tmps,asg,body,h1,h2⟩ := h B hB
  exact ⟨fn,tmps,asg,body,h1,h2.mono fun e w' ⟨v,V',H',q1,q2,q3⟩ => ⟨v,V',H',q1,k _ _ _ q2,q3⟩⟩
def RunI (C : Cx) (ops : Array Oper) (V : Vw) (H : Hp) (L : Sl) (os : List Oper) (Q : Exit -> Act -> World -> Prop) : Prop := ∀ a w,Is C V H L a w -> wpListIn Fence.wide 0 C.P ops Q os a w
theorem Tr.regionI {id : Nat} {os : List Oper} (h : RunI C os.toArray V H L os Q) : Tr C V H L (.region id os.toArray false) Q :=
  fun a w i => wpIn_wide.1 (wpIn_region_lit (h a w i))
theorem RunI.nil (h : Ex C V H L Q .normal) : RunI C ops V H L [] Q := h
theorem RunI.op {o : Oper} [hQ : NoOut Q] (hd : noDefer o = true) (h : Run C ops V H L [o] (Exit.then (wpListIn Fence.wide 0 C.P ops Q os) Q)) : RunI C ops V H L (o :: os) Q := fun a w i => by
  have h2 := h a w i
  unfold wpList at h2
  unfold wpListIn
  split
  · rename_i hw
    rw [if_pos hw] at h2
    rcases h2 with h2 | ⟨_,h2⟩
    · exact wpIn_op (r := none) (noDefer_spec hd) (fun a w h => h) (fun e he a w h => by cases e <;> first | exact absurd rfl he | exact h) h2
    · exact absurd h2 (by infer_instance : NoOut (Exit.then (wpListIn Fence.wide 0 C.P ops Q os) Q)).no
  · rename_i hw
    rw [if_neg hw] at h2
    exact ⟨fun _ _ => trivial,h2⟩
end
end Go.K
namespace Go.K
section
variable {C : Cx} {V : Vw} {H : Hp} {L : Sl} {Q : Exit -> Act -> World -> Prop} {ops : Array Oper} {os : List Oper} {l : Nat}
variable {ty : TypeId} {pos : String} {aft : Array Edge} {d : Nat}
theorem Ex.goI (h : RunI C ops V H L os Q) : Ex C V H L (Exit.then (wpListIn Fence.wide 0 C.P ops Q os) Q) .normal := h
theorem St.handed {B : World} {S : List Nat} {U : Vw} {Hf Hc H' : Hp} {V' : Vw} {w w' : World} (h : St B S U V (Hf ++ Hc) w) (k : St w (keys Hc) V V' H' w') : St B S U V' (Hf ++ H') w' := h.take k
theorem RunI.callY {x : Operand} {args : List Operand} {at_ : Array TypeId} {vs : List Value} {R : Value -> Vw -> Hp -> Prop} (Hf Hc : Hp) (hH : H = Hf ++ Hc) (hx : ev L x = some (.func (.yield l) #[] #[])) (hl : evs L args = some vs) (hd : d < C.n) (hc : YDoes C.P l vs V Hc R)
    (k : ∀ v V' H',V.le V' -> R v V' H' -> RunI C ops V' (Hf ++ H') ((d,v) :: L) os Q) :
    RunI C ops V H L (⟨some d,.call { callee := .value x,args := args.toArray,argTypes := at_ },ty,pos,aft,none⟩ :: os) Q := fun a w i => by
  subst hH
  unfold wpListIn
  rw [if_pos (by simp [Region.wanted])]
  unfold Oper.wpIn
  refine ⟨fun _ _ => trivial,?_⟩
  obtain ⟨fn,tmps,asg,body,h1,h2⟩ := hc w i.2.give
  have e1 := i.1.ev hx
  have e2 := i.1.evs hl
  have hr : ((⟨some d,.call { callee := .value x,args := args.toArray,argTypes := at_ },ty,pos,aft,none⟩ : Oper).semAt Fence.wide.round a.eval).run C.P w = .ok (.round l fn tmps asg body) w := by
    rw [Oper.semAt_eq _ _ _ (fun c h => by cases h)]
    have e3 : (#[] : Array Value) ++ (args.map a.eval).toArray ++ #[] = vs.toArray := by rw [e2]; simp
    simp only [execOp,resolve,e1,Deferred.ofValue,Sem.run_bind,Sem.run_pure,Result.andThen_ok,invoke,List.map_toArray]
    simp only [e2,Array.empty_append,Array.append_empty] at *
    exact h1
  rw [hr]
  refine ⟨fun h => by simp [Fence.wide] at h,?_⟩
  exact RoundIn.mono h2 fun e w' ⟨v,V',H',he,hR,hs⟩ => by
    subst he
    exact k v V' H' hs.le hR _ _ ⟨i.1.put hd v,i.2.take hs⟩
structure LoopIs (n : Nat) (L : Sl) (ps : Array Tmp) (asg body : Code) (r : Loop) : Prop where
  ps : r.params = ps
  asg : r.assign = asg
  body : r.body = body
  env : Env n L { tmps := r.tmps,defers := [] }
theorem LoopIs.with {n : Nat} {ps : Array Tmp} {asg body : Code} {r : Loop} (h : LoopIs n L ps asg body r) (s : LoopState) (p : Option Code) : LoopIs n L ps asg body { r with state := s,pending := p } := ⟨h.ps,h.asg,h.body,h.env⟩
def rec_ (l : Nat) (r : Loop) : Sg := [(l,.loop r)]
def begun (C : Cx) (l : Nat) (body : Code) (Q : Exit -> Act -> World -> Prop) : Act -> World -> Prop := fun a w => ∃ w2,(Instr.beginRound l).run C.P w = .ok () w2 /\ body.wpIn (FR (some l)) 0 C.P Q a w2
def rp (P : Program) (l : Nat) (B : World) (S : List Nat) (U : Vw) (R : Value -> Vw -> Hp -> Prop) : Exit -> Act -> World -> Prop := roundPost P l fun e w' => ∃ v V' H',e = .returned v /\ R v V' H' /\ St B S U V' H' w'
instance {P : Program} {B : World} {S : List Nat} {U : Vw} {R : Value -> Vw -> Hp -> Prop} : NoOut (rp P l B S U R) := ⟨fun ⟨_,_,q⟩ => q⟩
theorem putObj_turn {B : World} {S : List Nat} {U : Vw} {w : World} {j bb : Nat} {o o' : Obj} (h : St B S U V H w) (hj : H[j]? = some [(bb,o)]) : St B S U V (H.set j [(bb,o')]) (w.putObj bb o') := h.turnMap hj
theorem YDoes.intro {P : Program} {r : Loop} {n : Nat} {ps : Array Tmp} {asg body : Code} {args : List Value} {L' : Sl} {R : Value -> Vw -> Hp -> Prop} (hr : LoopIs n L ps asg body r) (ha : args.length = ps.size)
    (hE : ∀ a : Act,Env n L a -> Env n L' { tmps := (ps.zip args.toArray).foldl (fun tmps (t,a) => tmps.setIfInBounds t a) a.tmps,defers := [] })
    (h : ∀ B,TrR l ⟨P,n,B,keys (rec_ l r :: H),V,[]⟩ V (rec_ l r :: H) L' asg (Exit.then (begun ⟨P,n,B,keys (rec_ l r :: H),V,[]⟩ l body (rp P l B (keys (rec_ l r :: H)) V R)) (fun _ _ _ => False))) :
    YDoes P l args V (rec_ l r :: H) R := fun B hB => by
  have hb := hB.own l _ (mem_of_at (i := 0) rfl (List.mem_cons_self ..))
  refine ⟨_,_,_,_,run_yield hb (by rw [hr.ps]; simpa using ha),?_⟩
  rw [hr.asg,hr.body,hr.ps]
  exact roundIn_of_wpIn (F := Fence.wide) trivial (h B _ _ ⟨hE _ hr.env,hB⟩)
theorem env_par1 {n p : Nat} {x : Value} (hp : p < n) : ∀ a : Act,Env n L a -> Env n ((p,x) :: L) { tmps := ((#[p] : Array Tmp).zip [x].toArray).foldl (fun tmps (t,a) => tmps.setIfInBounds t a) a.tmps,defers := [] } := fun a h => by
  have e : ((#[p] : Array Tmp).zip [x].toArray).foldl (fun (tmps : Array Value) (z : Tmp × Value) => match z with | (t,a) => tmps.setIfInBounds t a) a.tmps = a.tmps.setIfInBounds p x := by simp
  rw [e]
  have := h.put hp x
  exact ⟨this.size,this.lk,rfl⟩
theorem env_par2 {n p q : Nat} {x y : Value} (hp : p < n) (hq : q < n) : ∀ a : Act,Env n L a -> Env n ((q,y) :: (p,x) :: L) { tmps := ((#[p,q] : Array Tmp).zip [x,y].toArray).foldl (fun tmps (t,a) => tmps.setIfInBounds t a) a.tmps,defers := [] } := fun a h => by
  have e : ((#[p,q] : Array Tmp).zip [x,y].toArray).foldl (fun (tmps : Array Value) (z : Tmp × Value) => match z with | (t,a) => tmps.setIfInBounds t a) a.tmps = (a.tmps.setIfInBounds p x).setIfInBounds q y := by simp
  rw [e]
  have := (h.put hp x).put hq y
  exact ⟨this.size,this.lk,rfl⟩
theorem Ex.begin {body : Code} {r : Loop} {Q' : Exit -> Act -> World -> Prop} (hs : r.state = .ready) (h : TrR l C V (rec_ l { r with state := .busy } :: H) L body Q) : Ex C V (rec_ l r :: H) L (Exit.then (begun C l body Q) Q') .normal := fun a w i => by
  have hb := i.2.own l _ (mem_of_at (i := 0) rfl (List.mem_cons_self ..))
  exact ⟨_,run_beginRound hb hs,h a _ ⟨i.1,putObj_turn (j := 0) i.2 rfl⟩⟩
section
variable {P : Program} {n : Nat} {B : World} {S : List Nat} {U : Vw} {R : Value -> Vw -> Hp -> Prop} {r : Loop}
theorem Ex.next (hR : R (.bool true) V (rec_ l { r with state := .ready,pending := none } :: H)) : Ex ⟨P,n,B,S,U,[]⟩ V (rec_ l r :: H) L (rp P l B S U R) .normal := fun a w i => by
  have hb := i.2.own l _ (mem_of_at (i := 0) rfl (List.mem_cons_self ..))
  exact ⟨_,_,run_endRound none hb,_,V,_,rfl,hR,putObj_turn (j := 0) i.2 rfl⟩
theorem Ex.stopRet (hR : R (.bool false) V (rec_ l { r with state := .done,pending := some .ret } :: H)) : Ex ⟨P,n,B,S,U,[]⟩ V (rec_ l r :: H) L (rp P l B S U R) .ret := fun a w i => by
  have hb := i.2.own l _ (mem_of_at (i := 0) rfl (List.mem_cons_self ..))
  exact ⟨_,_,run_endRound (some .ret) hb,_,V,_,rfl,hR,putObj_turn (j := 0) i.2 rfl⟩
end
def mark (D : Nat) : Deferred := { target := .collected D,args := #[] }
def defd (D : Nat) : Sg := [(D,.deferred (some []))]
def After (C : Cx) (V : Vw) (H : Hp) (L : Sl) (Q : Exit -> Act -> World -> Prop) : Option Code -> Prop
  | none => Ex C V H L Q .normal
  | some .ret => Ex C V H L Q .ret
  | some (.exit id) => Ex C V H L Q (.exit id)
  | _ => False
theorem Tr.rangeFunc {g : Operand} {ps : Array Tmp} {asg body : Code} {gf : FuncId} {caps : Array Value} {Rr : Nat -> Loop -> Value -> Vw -> Hp -> Prop} (Hk Hg : Hp) (hp : H.Perm (Hk ++ Hg)) (hg : ev L g = some (.func (.func gf) #[] caps))
    (hit : ∀ l r,LoopIs C.n L ps asg body r -> r.state = .ready -> r.pending = none -> Does C.P gf (.func (.yield l) #[] #[] :: caps.toList) V (rec_ l r :: Hg) (Rr l r))
    (k : ∀ l r D v V' H',V.le V' -> Rr l r v V' H' -> ∃ r' H'',H'.Perm (rec_ l r' :: H'') /\ r'.state ≠ .busy /\ After { C with D := mark D :: C.D } V' (defd D :: (Hk ++ H'')) L Q r'.pending) :
    Tr C V H L (.rangeFunc g ps asg body) Q := fun a w i => by
  refine wpIn_wide (n := 0).1 (wpIn_rangeFunc fun fn _ => ?_)
  let r : Loop := { state := .ready,pending := none,fn,tmps := a.tmps,params := ps,assign := asg,body := body,defers := w.heap.size }
  have hLI : LoopIs C.n L ps asg body r := ⟨rfl,rfl,rfl,i.1.size,i.1.lk,rfl⟩
  have hD := hit (w.heap.size + 1) r hLI rfl rfl
  let W1 := (w.alloc (.deferred (some []))).alloc (.loop r)
  have s0 : St C.B C.S C.U V (Hk ++ Hg) w := i.2.perm hp.symm
  have s1 : St C.B C.S C.U V ([(w.heap.size + 1,.loop r)] :: [(w.heap.size,.deferred (some []))] :: (Hk ++ Hg)) W1 := by
    have := (s0.alloc (.deferred (some []))).alloc (.loop r)
    have e : ({ w with heap := w.heap.push (.deferred (some [])) } : World).heap.size = w.heap.size + 1 := by simp
    rw [e] at this; exact this
  have s2 : St C.B C.S C.U V ((defd w.heap.size :: Hk) ++ (rec_ (w.heap.size + 1) r :: Hg)) W1 := s1.perm (by
    simp only [List.cons_append]
    refine List.Perm.trans (List.Perm.cons _ List.perm_middle) ?_
    exact List.Perm.swap _ _ _)
  have hev := i.1.ev hg
  refine ⟨w.heap.size + 1,[mark w.heap.size],W1,{ target := .fn (.func gf) caps,args := #[.func (.yield (w.heap.size + 1)) #[] #[]] },W1,gf,(.func (.yield (w.heap.size + 1)) #[] #[] :: caps.toList).toArray,W1,run_enterLoop_outer fn a.tmps ps asg body,?_,fun _ _ => trivial,?_,fun h => by simp [Fence.wide] at h,?_⟩
  · simp only [resolve,hev]
    simp [Deferred.ofValue,Act.eval]
  · have : #[(Value.func (.yield (w.heap.size + 1)) #[] #[])] ++ caps = (Value.func (.yield (w.heap.size + 1)) #[] #[] :: caps.toList).toArray := by simp
    simp only [invoke,this]
    exact run_callFunc hD.1
  · refine callsIn_wide.2 ((hD.2 W1 s2.give).mono fun e w' ⟨v,V',H',he,hR,hs⟩ => ?_)
    subst he
    obtain ⟨r',H'',hp2,hb,hA⟩ := k (w.heap.size + 1) r w.heap.size v V' H' hs.le hR
    have s3 := (s2.take hs).perm (List.Perm.append_left (defd w.heap.size :: Hk) hp2.symm)
    have hl := s3.own (w.heap.size + 1) (.loop r') (by simp [rec_])
    have hj : ((defd w.heap.size :: Hk) ++ (rec_ (w.heap.size + 1) r' :: H''))[(defd w.heap.size :: Hk).length]? = some [(w.heap.size + 1,.loop r')] := by simp [rec_]
    have s4 := putObj_turn (o' := .loop { r' with state := .exhausted }) s3 hj
    have s5 : St C.B C.S C.U V' (defd w.heap.size :: (Hk ++ H'')) (w'.putObj (w.heap.size + 1) (.loop { r' with state := .exhausted })) := by
      have e : ((defd w.heap.size :: Hk) ++ (rec_ (w.heap.size + 1) r' :: H'')).set (defd w.heap.size :: Hk).length [(w.heap.size + 1,.loop { r' with state := .exhausted })] = (defd w.heap.size :: Hk) ++ ([(w.heap.size + 1,.loop { r' with state := .exhausted })] :: H'') := by
        rw [List.set_append_right _ _ (Nat.le_refl _)]; simp
      rw [e] at s4
      exact St.drop (H' := [[(w.heap.size + 1,.loop { r' with state := .exhausted })]]) (s4.perm (by
        simp only [List.cons_append,List.nil_append]
        exact (List.Perm.swap _ _ _).trans (List.Perm.cons _ List.perm_middle.symm)))
    refine ⟨r'.pending,_,run_endLoop hl hb,?_⟩
    have i2 : Is { C with D := mark w.heap.size :: C.D } V' (defd w.heap.size :: (Hk ++ H'')) L { a with defers := [mark w.heap.size] ++ a.defers } (w'.putObj (w.heap.size + 1) (.loop { r' with state := .exhausted })) := ⟨⟨i.1.size,i.1.lk,by show mark w.heap.size :: a.defers = _; rw [i.1.df]⟩,s5⟩
    generalize w'.putObj (w.heap.size + 1) (.loop { r' with state := .exhausted }) = W9 at i2
    generalize r'.pending = jump at hA
    cases jump with
    | none => exact hA _ _ i2
    | some c =>
      cases c <;> first | exact hA.elim | exact wpIn_ret (hA _ _ i2) | exact wpIn_exit (hA _ _ i2)
theorem Does.introM {P : Program} {f : FuncId} {fn : Func} {c : Code} {args : List Value} {R : Value -> Vw -> Hp -> Prop} (hf : P.funcs[f]? = some fn) (hb : fn.body = some c) (hnm : (fn.name == "runtime.NumGoroutine") = false) (hn : args.length <= fn.ntmps)
    (h : ∀ B,Tr ⟨P,fn.ntmps,B,keys H,V,[]⟩ V H ((List.range args.length).zip args) c (bodyPostM Fence.wide 0 P fn fun e w' => ∃ v V' H',e = .returned v /\ R v V' H' /\ St B (keys H) V V' H' w')) :
    Does P f args V H R := ⟨⟨fn,hf,hnm,by rw [hb]; rfl⟩,fun B hB => callsIn_wide (n := 0).1 (callsIn_of_wp_marks hf hb trivial (wpIn_wide.2 (h B _ _ ⟨Env.start args fn.ntmps hn,hB⟩)))⟩
section
variable {fn : Func} {P : Program} {n : Nat} {B : World} {S : List Nat} {U : Vw} {R : Value -> Vw -> Hp -> Prop} {e : Exit}
theorem Ex.unmark {D : Nat} {Ds : List Deferred} (he : e = .ret \/ e = .normal) (h : Ex ⟨P,n,B,S,U,Ds⟩ V H L (bodyPostM Fence.wide 0 P fn fun e w' => ∃ v V' H',e = .returned v /\ R v V' H' /\ St B S U V' H' w') e) :
    Ex ⟨P,n,B,S,U,mark D :: Ds⟩ V (defd D :: H) L (bodyPostM Fence.wide 0 P fn fun e w' => ∃ v V' H',e = .returned v /\ R v V' H' /\ St B S U V' H' w') e := fun a w i => by
  have hb := i.2.own D _ (mem_of_at (i := 0) rfl (List.mem_cons_self ..))
  have s := putObj_turn (o' := .deferred none) (j := 0) i.2 rfl
  have h2 := h { a with defers := Ds } (w.putObj D (.deferred none)) ⟨⟨i.1.size,i.1.lk,rfl⟩,St.drop (H' := [[(D,.deferred none)]]) s⟩
  have hdf := i.1.df
  rcases he with rfl | rfl <;> (show LeavesInM _ _ _ _ _ _ a.defers _ _; rw [hdf]; exact ⟨by simp,.inl ⟨D,_,rfl,run_takeDeferred hb,h2⟩⟩)
theorem Ex.bodyM (he : e = .ret \/ e = .normal) (h : Ex ⟨P,n,B,S,U,[]⟩ V H L (bodyPost P fn fun e w' => ∃ v V' H',e = .returned v /\ R v V' H' /\ St B S U V' H' w') e) :
    Ex ⟨P,n,B,S,U,[]⟩ V H L (bodyPostM Fence.wide 0 P fn fun e w' => ∃ v V' H',e = .returned v /\ R v V' H' /\ St B S U V' H' w') e := fun a w i => by
  have hdf := i.1.df
  have h2 := h a w i
  rcases he with rfl | rfl <;> (show LeavesInM _ _ _ _ _ _ a.defers _ _; rw [hdf]; exact h2.2)
end
end
end Go.K
namespace Go.K
open Go.MapKept
def It (b : Nat) (es : Array MapEntry) (clock : Nat) (l done : List (Int × Value)) (v : Value) (s : Sg) : Prop :=
  ∃ r c0,∃ js : List Nat,v = .pointer (some ⟨r,0,none⟩) /\ s = [(r,.mapIter (some b) clock (js.map fun j => ((es[j]?).map (·.born)).getD 0).toArray c0)] /\ clock <= c0 /\ js.Nodup /\ (∀ j,j ∈ js -> j < l.length) /\ done = js.map (fun j => l.getD j (0,undef))
def ItAt (kk : IntKind) (b : Nat) (es : Array MapEntry) (clock : Nat) (k : Int) (u v : Value) (s : Sg) : Prop :=
  ∃ r since,∃ (seen : Array Nat) (e : MapEntry),v = .pointer (some ⟨r,0,none⟩) /\ s = [(r,.mapIter (some b) since (seen.push e.born) clock)] /\ e ∈ es.toList /\ e.key = .int kk k /\ e.val = u
theorem It.few {b : Nat} {es : Array MapEntry} {clock : Nat} {l done : List (Int × Value)} {v : Value} {s : Sg} (h : It b es clock l done v s) : done.length <= l.length := by
  obtain ⟨r,c0,js,_,_,_,h1,h2,rfl⟩ := h
  rw [List.length_map]
  have := h1.length_le_of_subset (l₂ := List.range l.length) (fun j hj => List.mem_range.2 (h2 j hj))
  simpa using this
theorem range_getD {α : Type} (l : List α) (d : α) : (List.range l.length).map (fun j => l.getD j d) = l := by
  apply List.ext_getElem?
  intro i
  rw [List.getElem?_map]
  by_cases h : i < l.length
  · rw [List.getElem?_range h,List.getElem?_eq_getElem h]; simp [List.getD_eq_getElem?_getD,List.getElem?_eq_getElem h]
  · rw [List.getElem?_eq_none (by simpa using h),List.getElem?_eq_none (by omega)]; rfl
section
variable {C : Cx} {V : Vw} {H : Hp} {L : Sl} {Q : Exit -> Act -> World -> Prop} {ops : Array Oper} {os : List Oper}
variable {ty : TypeId} {pos : String} {aft : Array Edge} {d : Nat}
theorem Run.rangeMap {x : Operand} {t a c : TypeId} {kk : IntKind} {b : Nat} {l : List (Int × Value)} {es : Array MapEntry} {clock j : Nat} (hx : ev L x = some (.map (some b))) (ht : mapT C.P t = some (kk,a,c)) (hj : H[j]? = some [(b,.map es clock)]) (hd : d < C.n)
    (k : ∀ v s,It b es clock l [] v s -> Run C ops V (s :: H) ((d,v) :: L) os Q) : Run C ops V H L (⟨some d,.range t x,ty,pos,aft,none⟩ :: os) Q :=
  Run.step (p := fun v V' H' => ∃ s,It b es clock l [] v s /\ V' = V /\ H' = s :: H) hd
    (fun ac w i => by
      have hb := i.2.own b _ (mem_of_at hj (List.mem_cons_self ..))
      refine ⟨.pointer (some ⟨w.heap.size,0,none⟩),{ w with heap := w.heap.push (.mapIter (some b) clock #[] clock) },V,[(w.heap.size,.mapIter (some b) clock #[] clock)] :: H,?_,⟨_,⟨w.heap.size,clock,[],rfl,rfl,Nat.le_refl _,List.nodup_nil,(fun _ h => nomatch h),rfl⟩,rfl,rfl⟩,i.2.alloc _⟩
      simp [execOp,i.1.ev hx,Instr.range,run_underlying (mapT_spec ht).1,MapKept.run_getObj_map hb,Result.andThen])
    (fun v V' H' ⟨s,h1,h2,h3⟩ => by subst h2 h3; exact k v s h1)
theorem Run.nextMap {x : Operand} {kk : IntKind} {b j j2 : Nat} {l done : List (Int × Value)} {es : Array MapEntry} {clock : Nat} {v : Value} {s : Sg} (hx : ev L x = some v) (hm : MapIs kk l es clock) (hj : H[j]? = some [(b,.map es clock)]) (hi : It b es clock l done v s) (hs : H[j2]? = some s) (hd : d < C.n)
    (k0 : done.Perm l -> Run C ops V H ((d,.tuple #[.bool false]) :: L) os Q)
    (k1 : ∀ k u s',(k,u) ∈ l -> done.length < l.length -> It b es clock l (done ++ [(k,u)]) v s' -> ItAt kk b es clock k u v s' -> Run C ops V (H.set j2 s') ((d,.tuple #[.bool true,.int kk k,u]) :: L) os Q) :
    Run C ops V H L (⟨some d,.next x false,ty,pos,aft,none⟩ :: os) Q := fun ac w i => by
  obtain ⟨r,c0,js,rfl,rfl,hc,hn,hlt,rfl⟩ := hi
  have hb := i.2.own b _ (mem_of_at hj (List.mem_cons_self ..))
  have hr := i.2.own r _ (mem_of_at hs (List.mem_cons_self ..))
  have hlen : es.size = l.length := by have := congrArg List.length hm.1; simpa using this
  have hborn : ∀ i,i < l.length -> ∃ e,es[i]? = some e /\ e.key = .int kk (l.getD i (0,undef)).1 /\ e.val = (l.getD i (0,undef)).2 := fun i hi => by
    have h1 := congrArg (·[i]?) hm.1
    simp only [List.getElem?_map,Array.getElem?_toList,List.getElem?_eq_getElem hi,Option.map_some] at h1
    rw [Array.getElem?_eq_getElem (by omega)] at h1 ⊢
    simp only [Option.map_some,Option.some.injEq,Prod.mk.injEq] at h1
    refine ⟨_,rfl,?_,?_⟩ <;> simp [List.getD_eq_getElem?_getD,List.getElem?_eq_getElem hi,h1.1,h1.2]
  have hnb : ∀ (i i' : Nat) (e e' : MapEntry),es[i]? = some e -> es[i']? = some e' -> e.born = e'.born -> i = i' := fun i i' e e' h1 h2 h3 => by
    have hnd := hm.2.2.1
    have l1 : i < (es.toList.map (·.born)).length := by simpa using (Array.getElem?_eq_some_iff.1 h1).1
    have l2 : i' < (es.toList.map (·.born)).length := by simpa using (Array.getElem?_eq_some_iff.1 h2).1
    refine (List.getElem_inj (h₀ := l1) (h₁ := l2) hnd).1 ?_
    have a1 := (Array.getElem?_eq_some_iff.1 h1).2
    have a2 := (Array.getElem?_eq_some_iff.1 h2).2
    simp only [List.getElem_map,Array.getElem_toList,a1,a2,h3]
  unfold wpList
  rw [if_pos (by simp [Region.wanted])]
  refine .inl ?_
  unfold Oper.wp
  rcases run_next_at (P := C.P) w ty r b clock c0 _ es clock hr hb hm.2.1 hc with ⟨h0,h1⟩ | ⟨e,he,w1,hw1,h1⟩
  · have hperm : (js.map fun j => l.getD j (0,undef)).Perm l := by
      have hp : js.Perm (List.range l.length) := (List.perm_ext_iff_of_nodup hn List.nodup_range).2 fun i => by
        rw [List.mem_range]
        refine ⟨hlt i,fun hi => ?_⟩
        obtain ⟨e,he,_⟩ := hborn i hi
        have hnot : ¬ (e ∈ leftOf es (js.map fun j => ((es[j]?).map (·.born)).getD 0).toArray) := fun hc => by
          rw [Array.eq_empty_of_size_eq_zero h0] at hc; simp at hc
        unfold leftOf at hnot
        rw [Array.mem_filter] at hnot
        have hin : (js.map fun j => ((es[j]?).map (·.born)).getD 0).toArray.contains e.born = true := by
          by_cases hq : (js.map fun j => ((es[j]?).map (·.born)).getD 0).toArray.contains e.born = true
          · exact hq
          · exact absurd ⟨Array.mem_of_getElem? he,by simpa using hq⟩ hnot
        simp only [List.contains_toArray,List.contains_iff_mem] at hin
        obtain ⟨j',hj',hb'⟩ := List.mem_map.1 hin
        obtain ⟨e',he',_⟩ := hborn j' (hlt j' hj')
        rw [he'] at hb'
        rw [hnb i j' e e' he he' (by simpa using hb'.symm)]; exact hj'
      have := hp.map (fun j => l.getD j (0,undef))
      rw [range_getD] at this; exact this
    have hrun : (execOp ac.eval ⟨some d,.next x false,ty,pos,aft,none⟩).run C.P w = .ok (.value (.tuple #[.bool false])) w := by
      simp only [execOp,i.1.ev hx,Sem.run_bind,h1,Result.andThen_ok,Sem.run_pure]
    rw [hrun]
    exact k0 hperm _ _ ⟨i.1.put hd _,i.2⟩
  · unfold leftOf at he
    rw [Array.mem_toList_iff,Array.mem_filter] at he
    obtain ⟨he1,he2⟩ := he
    obtain ⟨q,hq⟩ := Array.mem_iff_getElem?.1 he1
    have hql : q < l.length := by rw [<- hlen]; exact (Array.getElem?_eq_some_iff.1 hq).1
    obtain ⟨e',hq',hk,hu⟩ := hborn q hql
    rw [hq] at hq'; cases hq'
    have hqn : ¬ q ∈ js := fun hc => by
      have : (js.map fun j => ((es[j]?).map (·.born)).getD 0).toArray.contains e.born = true := by
        simp only [List.contains_toArray,List.contains_iff_mem]
        exact List.mem_map.2 ⟨q,hc,by rw [hq]; rfl⟩
      rw [this] at he2; cases he2
    have hrun : (execOp ac.eval ⟨some d,.next x false,ty,pos,aft,none⟩).run C.P w = .ok (.value (.tuple #[.bool true,.int kk (l.getD q (0,undef)).1,(l.getD q (0,undef)).2])) (ChangeMaps.setBlock w1 r (.mapIter (some b) clock ((js.map fun j => ((es[j]?).map (·.born)).getD 0).toArray.push e.born) clock)) := by
      simp only [execOp,i.1.ev hx,Sem.run_bind,h1,Result.andThen_ok,Sem.run_pure,hk,hu]
    rw [hrun]
    have s1 : St C.B C.S C.U V H w1 := by rcases hw1 with rfl | rfl; exact i.2; exact i.2.drew
    have s2 := s1.turnMap (o' := .mapIter (some b) clock ((js.map fun j => ((es[j]?).map (·.born)).getD 0).toArray.push e.born) clock) hs
    have hfew : js.length < l.length := by
      have := (List.nodup_cons.2 ⟨hqn,hn⟩ : (q :: js).Nodup).length_le_of_subset (l₂ := List.range l.length) (fun j hj => List.mem_range.2 (by rcases List.mem_cons.1 hj with rfl | hj; exact hql; exact hlt j hj))
      simp at this; omega
    refine k1 _ _ _ ?_ (by simpa using hfew) ⟨r,clock,js ++ [q],rfl,?_,Nat.le_refl _,?_,?_,?_⟩ ⟨r,clock,_,e,rfl,rfl,by simpa using he1,hk,hu⟩ _ _ ⟨i.1.put hd _,s2⟩
    · have e9 : l.getD q (0,undef) = l[q] := by rw [List.getD_eq_getElem?_getD,List.getElem?_eq_getElem hql]; rfl
      rw [e9]; exact List.getElem_mem hql
    · simp [hq]
    · refine List.nodup_append.2 ⟨hn,by simp,fun a ha b hb => ?_⟩
      rw [List.mem_singleton] at hb; subst hb; intro e; subst e; exact hqn ha
    · intro j hj
      rcases List.mem_append.1 hj with hj | hj
      · exact hlt j hj
      · rw [List.mem_singleton] at hj; subst hj; exact hql
    · simp
theorem Y.entry {x : Operand} {kk : IntKind} {b j j2 : Nat} {l : List (Int × Value)} {es : Array MapEntry} {clock : Nat} {k : Int} {u v : Value} {s : Sg} (hx : ev L x = some v) (hm : MapIs kk l es clock) (hj : H[j]? = some [(b,.map es clock)]) (hi : ItAt kk b es clock k u v s) (hs : H[j2]? = some s) :
    Yl C V H L (.entry x) ty (.tuple #[.int kk k,u]) := (fun V2 ac w hle i o ho hty => by
  obtain ⟨r,since,seen,e,rfl,rfl,he,hk,hu⟩ := hi
  have hb := i.2.own b _ (mem_of_at hj (List.mem_cons_self ..))
  have hr := i.2.own r _ (mem_of_at hs (List.mem_cons_self ..))
  simp only [execOp,ho,i.1.ev hx,Sem.run_bind,run_entry_at (P := C.P) w r b since seen es clock e hr hb he hm.2.2.1,Result.andThen_ok,Sem.run_pure,hk,hu])
end
end Go.K
namespace Go.K
theorem St.memS {B : World} {S S' : List Nat} {U V : Vw} {H : Hp} {w : World} (h : St B S U V H w) (e : ∀ b,b ∈ S ↔ b ∈ S') : St B S' U V H w :=
  ⟨h.os,h.tape,h.output,h.size,fun b hb hs => h.fr b hb (fun hc => hs ((e b).1 hc)),h.own,h.nd,fun b hb => (h.dom b hb).imp (e b).1 id,h.le,h.vh,h.vd,fun b o hb => (h.vn b o hb).imp id (fun h => h.imp (e b).1 id)⟩
theorem keys_perm {H H' : Hp} (p : H'.Perm H) : ∀ b,b ∈ keys H' ↔ b ∈ keys H := fun b => ((flatten_perm p).map (·.1)).mem_iff
theorem Does.perm {P : Program} {f : FuncId} {args : List Value} {V : Vw} {H H' : Hp} {R : Value -> Vw -> Hp -> Prop} (h : Does P f args V H R) (p : H'.Perm H) : Does P f args V H' R :=
  ⟨h.1,fun B hB => (h.2 B ((hB.perm p.symm).memS (keys_perm p))).mono fun e w' ⟨v,V',H2,q1,q2,q3⟩ => ⟨v,V',H2,q1,q2,q3.memS (fun b => (keys_perm p b).symm)⟩⟩
def yv (l : Nat) : Value := .func (.yield l) #[] #[]
def Iterates (P : Program) (gf : FuncId) (caps : List Value) (V : Vw) (Hs : Hp) {α : Type} (enc : α -> List Value) (S Sp : List α -> Prop) (N : Nat) : Prop :=
  ∀ (l : Nat) (J Jx : List α -> Hp -> Prop),(∀ xs x H,J xs H -> xs.length < N -> YDoes P l (enc x) V H (fun u V' H' => V' = V /\ (u = .bool true /\ J (xs ++ [x]) H' \/ u = .bool false /\ Jx (xs ++ [x]) H'))) ->
    ∀ Hy,J [] Hy -> Does P gf (.func (.yield l) #[] #[] :: caps) V (Hs ++ Hy) (fun _ V' H' => V' = V /\ ∃ xs Hy',H' = Hs ++ Hy' /\ (S xs /\ J xs Hy' \/ Sp xs /\ Jx xs Hy'))
theorem Iterates.mono {P : Program} {gf : FuncId} {caps : List Value} {V : Vw} {Hs : Hp} {α : Type} {enc : α -> List Value} {S Sp S' Sp' : List α -> Prop} {N : Nat} (h : Iterates P gf caps V Hs enc S Sp N) (k : ∀ xs,S xs -> S' xs) (k' : ∀ xs,Sp xs -> Sp' xs) : Iterates P gf caps V Hs enc S' Sp' N :=
  fun l J Jx hy Hy h0 => (h l J Jx hy Hy h0).mono fun v V' H' ⟨e,xs,Hy',e2,q⟩ => ⟨e,xs,Hy',e2,q.imp (fun q => ⟨k xs q.1,q.2⟩) (fun q => ⟨k' xs q.1,q.2⟩)⟩
def fresh (r : Loop) : Prop := r.state = .ready /\ r.pending = none
section
variable {C : Cx} {V : Vw} {H : Hp} {L : Sl} {Q : Exit -> Act -> World -> Prop}
def Rd1 {α : Type} (n : Nat) (L : Sl) (ps : Array Tmp) (asg body : Code) (V : Vw) (l : Nat) (J : List α -> Hp -> Prop) (Jx : Code -> List α -> Hp -> Prop) (xs : List α) : Value -> Vw -> Hp -> Prop := fun u V' H' =>
  V' = V /\ (u = .bool true /\ (∃ r' H2,LoopIs n L ps asg body r' /\ fresh r' /\ H' = rec_ l r' :: H2 /\ J xs H2) \/ u = .bool false /\ ∃ r' c H2,r'.state = .done /\ r'.pending = some c /\ H' = rec_ l r' :: H2 /\ Jx c xs H2)
theorem Tr.range1 {g : Operand} {ps : Array Tmp} {asg body : Code} {gf : FuncId} {caps : List Value} {α : Type} {enc : α -> List Value} {S Sp : List α -> Prop} {N : Nat} (Hk Hs Hy : Hp) (hH : H.Perm (Hk ++ (Hs ++ Hy)))
    (hg : ev L g = some (.func (.func gf) #[] caps.toArray)) (hit : Iterates C.P gf caps V Hs enc S Sp N) (J : List α -> Hp -> Prop) (Jx : Code -> List α -> Hp -> Prop) (h0 : J [] Hy)
    (hb : ∀ l r xs x H,LoopIs C.n L ps asg body r -> fresh r -> J xs H -> xs.length < N -> YDoes C.P l (enc x) V (rec_ l r :: H) (Rd1 C.n L ps asg body V l J Jx (xs ++ [x])))
    (k1 : ∀ D xs H',S xs -> J xs H' -> Ex { C with D := mark D :: C.D } V (defd D :: (Hk ++ (Hs ++ H'))) L Q .normal)
    (k2 : ∀ D c xs H',Sp xs -> Jx c xs H' -> After { C with D := mark D :: C.D } V (defd D :: (Hk ++ (Hs ++ H'))) L Q (some c)) :
    Tr C V H L (.rangeFunc g ps asg body) Q := by
  refine Tr.rangeFunc Hk (Hs ++ Hy) hH hg (Rr := fun l r _ V' H' => V' = V /\ ∃ xs r' H2,H' = Hs ++ (rec_ l r' :: H2) /\ (S xs /\ J xs H2 /\ fresh r' \/ Sp xs /\ ∃ c,r'.state = .done /\ r'.pending = some c /\ Jx c xs H2)) ?_ ?_
  · intro l r hLI hs hp
    have := hit l (fun xs H => ∃ r' H2,H = rec_ l r' :: H2 /\ LoopIs C.n L ps asg body r' /\ fresh r' /\ J xs H2) (fun xs H => ∃ r' c H2,H = rec_ l r' :: H2 /\ r'.state = .done /\ r'.pending = some c /\ Jx c xs H2)
      (fun xs x H ⟨r',H2,e,h1,h2,h3⟩ hN => by
        subst e
        exact (hb l r' xs x H2 h1 h2 h3 hN).mono fun u V' H' ⟨q1,q2⟩ => ⟨q1,q2.imp (fun ⟨a,r2,H3,b,c,d,e⟩ => ⟨a,r2,H3,d,b,c,e⟩) (fun ⟨a,r2,c,H3,b,d,e,f⟩ => ⟨a,r2,c,H3,e,b,d,f⟩)⟩)
      (rec_ l r :: Hy) ⟨r,Hy,rfl,hLI,⟨hs,hp⟩,h0⟩
    refine (this.perm List.perm_middle.symm).mono ?_
    rintro v V' H' ⟨rfl,xs,Hy',rfl,⟨h1,r',H2,rfl,h2,h3,h4⟩ | ⟨h1,r',c,H2,rfl,h2,h3,h4⟩⟩
    · exact ⟨rfl,xs,r',H2,rfl,.inl ⟨h1,h4,h3⟩⟩
    · exact ⟨rfl,xs,r',H2,rfl,.inr ⟨h1,c,h2,h3,h4⟩⟩
  · rintro l r D v V' H' _ ⟨rfl,xs,r',H2,rfl,⟨h1,h2,h3⟩ | ⟨h1,c,h2,h3,h4⟩⟩
    · refine ⟨r',Hs ++ H2,List.perm_middle,by rw [h3.1]; simp,?_⟩
      rw [h3.2]; exact k1 D xs H2 h1 h2
    · refine ⟨r',Hs ++ H2,List.perm_middle,by rw [h2]; simp,?_⟩
      rw [h3]; exact k2 D c xs H2 h1 h4
end
end Go.K
namespace Go.K
section
variable {C : Cx} {V : Vw} {H : Hp} {L : Sl} {ty : TypeId}
end
def ixf {α : Type} (b : α -> Bool) (l : List α) : Int := match l.findIdx? b with
  | some i => (i : Int)
  | none => -1
theorem ixf_none {α : Type} {b : α -> Bool} {l : List α} {d : α} (h : ∀ j,j < l.length -> b (l.getD j d) = false) : ixf b l = -1 := by
  unfold ixf
  rw [List.findIdx?_eq_none_iff.2 fun x hx => by
    obtain ⟨j,hj,rfl⟩ := List.mem_iff_getElem.1 hx
    have := h j hj
    rw [List.getD_eq_getElem?_getD,List.getElem?_eq_getElem hj] at this; exact this]
theorem ixf_at {α : Type} {b : α -> Bool} {l : List α} {d : α} {i : Nat} (h : ∀ j,j < i -> b (l.getD j d) = false) (hi : i < l.length) (hb : b (l.getD i d) = true) : ixf b l = (i : Int) := by
  unfold ixf
  have : l.findIdx? b = some i := by
    rw [List.findIdx?_eq_some_iff_getElem]
    refine ⟨hi,?_,fun j hj => ?_⟩
    · rw [List.getD_eq_getElem?_getD,List.getElem?_eq_getElem hi] at hb; exact hb
    · have := h j hj
      rw [List.getD_eq_getElem?_getD,List.getElem?_eq_getElem (by omega)] at this; simpa using this
  rw [this]
theorem ixf_cases {α : Type} (b : α -> Bool) (l : List α) (d : α) : (ixf b l = -1 /\ ∀ j,j < l.length -> b (l.getD j d) = false) \/ ∃ i : Nat,ixf b l = (i : Int) /\ i < l.length /\ b (l.getD i d) = true /\ ∀ j,j < i -> b (l.getD j d) = false := by
  by_cases h : ∃ i,i < l.length /\ b (l.getD i d) = true
  · have : ∃ i,(i < l.length /\ b (l.getD i d) = true) /\ ∀ j,j < i -> ¬ (j < l.length /\ b (l.getD j d) = true) := by
      obtain ⟨i,hi⟩ := h
      induction i using Nat.strongRecOn with
      | _ i ih =>
        by_cases hj : ∃ j,j < i /\ j < l.length /\ b (l.getD j d) = true
        · obtain ⟨j,hj1,hj2⟩ := hj; exact ih j hj1 hj2
        · exact ⟨i,hi,fun j hji hc => hj ⟨j,hji,hc⟩⟩
    obtain ⟨i,⟨h1,h2⟩,h3⟩ := this
    have h4 : ∀ j,j < i -> b (l.getD j d) = false := fun j hj => by
      cases hq : b (l.getD j d) with
      | false => rfl
      | true => exact absurd ⟨by omega,hq⟩ (h3 j hj)
    exact .inr ⟨i,ixf_at h4 h1 h2,h1,h2,h4⟩
  · have h4 : ∀ j,j < l.length -> b (l.getD j d) = false := fun j hj => by
      cases hq : b (l.getD j d) with
      | false => rfl
      | true => exact absurd ⟨j,hj,hq⟩ h
    exact .inl ⟨ixf_none h4,h4⟩
end Go.K
namespace Go.K
open Go.Sort
structure Le where
  addr : Int
  bind : Int
  client : ByteArray
  till : Int
  acked : Int
  told : Int
  at_ : Int
  ver : Int
namespace Le
def cells (s : Le) : List Value := [.int .u32 s.addr,.int .i64 s.bind,.string s.client,.int .i64 s.till,.int .i64 s.acked,.int .i64 s.told,.int .i64 s.at_,.int .i64 s.ver]
def dflt : Le := ⟨0,0,⟨#[]⟩,0,0,0,0,0⟩
theorem len (s : Le) : s.cells.length = 8 := rfl
def tags : List (Nat × IntKind) := [(0,.u32),(0,.i64),(2,.i64),(0,.i64),(0,.i64),(0,.i64),(0,.i64),(0,.i64)]
structure Ok (s : Le) : Prop where
  addr : 0 <= s.addr /\ s.addr <= 4294967295
  bind : -9223372036854775808 <= s.bind /\ s.bind <= 9223372036854775807
  client : s.client.size <= 9223372036854775807
  till : -9223372036854775808 <= s.till /\ s.till <= 9223372036854775807
  acked : -9223372036854775808 <= s.acked /\ s.acked <= 9223372036854775807
  told : -9223372036854775808 <= s.told /\ s.told <= 9223372036854775807
  at_ : -9223372036854775808 <= s.at_ /\ s.at_ <= 9223372036854775807
  ver : -9223372036854775808 <= s.ver /\ s.ver <= 9223372036854775807
def sel (b : Int) (l : List Le) : List Int := (l.filter fun s => s.bind == b).map (·.addr)
end Le
def ins (x : Int) : List Int -> List Int
  | [] => [x]
  | y :: l => if y < x then y :: ins x l else x :: y :: l
end Go.K
namespace Go.K
open Go.Sort
end Go.K
namespace Go.K.Le
open Go.Fl
end Go.K.Le
namespace Go.K
theorem Le.enc : Enc Le.cells 8 := ⟨fun _ => rfl,fun _ => rfl⟩
theorem upto_succ {p : Nat -> Prop} {i : Nat} (h : ∀ j,j < i -> p j) (hi : p i) : ∀ j,j < i + 1 -> p j := fun j hj => by
  by_cases e : j = i
  · subst e; exact hi
  · exact h j (by omega)
namespace Le
end Le
namespace Le
open Go.Fl
variable {id : Int} {l : List Le} {y s : Nat}
end Le
namespace Le
open Go.Fl
end Le
end Go.K
namespace Go.K
def yes (l : List Int) : List (Int × Value) := l.map fun x => (x,.bool true)
namespace Le
def cnt (b : Int) (g : List Int) (l : List Le) : Nat := ((sel b l).filter fun x => g.contains x).length
section
variable {b : Int} {l : List Le} {y s : Nat}
end
end Le
end Go.K
namespace Go.K
open Go.Sort
@[reducible] def ltc {α : Type} (cm : α -> α -> Int) (x y : α) : Bool := decide (cm x y < 0)
structure Rg where
  low : Int
  high : Int
deriving DecidableEq
instance : Inhabited Rg := ⟨⟨0,0⟩⟩
namespace Rg
def cells (s : Rg) : List Value := [.int .u32 s.low,.int .u32 s.high]
def dflt : Rg := ⟨0,0⟩
theorem len (s : Rg) : s.cells.length = 2 := rfl
theorem enc : Enc cells 2 := ⟨fun _ => rfl,fun _ => rfl⟩
def tags : List (Nat × IntKind) := [(0,.u32),(0,.u32)]
structure Ok (s : Rg) : Prop where
  l0 : 0 <= s.low
  l1 : s.low <= 4294967295
  h0 : 0 <= s.high
  h1 : s.high <= 4294967295
def cmp3 (a b : Int) : Int := if a < b then -1 else if a > b then 1 else 0
def cmp (x y : Rg) : Int := cmp3 x.low y.low
theorem cmp3_neg {a b : Int} : decide (cmp3 a b < 0) = decide (a < b) := by
  unfold cmp3; split
  · rename_i h; simp [h]
  · rename_i h; split <;> simp [h]
theorem swo_cmp : SWO (ltc cmp) := by
  have e : ∀ x y : Rg,ltc cmp x y = decide (x.low < y.low) := fun x y => cmp3_neg
  constructor
  all_goals simp only [e]
  all_goals (try intros); (try simp at *); (try omega)
end Rg
end Go.K
namespace Go.K
namespace Rg
def In (l : List Rg) (a : Int) : Prop := ∃ r,r ∈ l /\ r.low <= a /\ a <= r.high
def Can (l : List Rg) : Prop := (∀ r,r ∈ l -> r.low <= r.high) /\ l.Pairwise fun r s => r.high + 1 < s.low
theorem can_ge {r : Rg} {l : List Rg} (h : Can (r :: l)) {a : Int} (ha : In (r :: l) a) : r.low <= a := by
  obtain ⟨s,hs,h1,h2⟩ := ha
  rcases List.mem_cons.1 hs with rfl | hs
  · exact h1
  · have := (List.pairwise_cons.1 h.2).1 s hs
    have := h.1 r (List.mem_cons_self ..)
    omega
theorem can_one : ∀ {l m : List Rg},Can l -> Can m -> (∀ a,In l a ↔ In m a) -> l = m
  | [],[],_,_,_ => rfl
  | [],s :: m,_,k,e => by
    have := (e s.low).2 ⟨s,List.mem_cons_self ..,by omega,k.1 s (List.mem_cons_self ..)⟩
    obtain ⟨_,h,_⟩ := this; cases h
  | r :: l,[],h,_,e => by
    have := (e r.low).1 ⟨r,List.mem_cons_self ..,by omega,h.1 r (List.mem_cons_self ..)⟩
    obtain ⟨_,h,_⟩ := this; cases h
  | r :: l,s :: m,h,k,e => by
    have hr := h.1 r (List.mem_cons_self ..)
    have ks := k.1 s (List.mem_cons_self ..)
    have e1 : r.low = s.low := by
      have a1 := can_ge k ((e r.low).1 ⟨r,List.mem_cons_self ..,by omega,hr⟩)
      have a2 := can_ge h ((e s.low).2 ⟨s,List.mem_cons_self ..,by omega,ks⟩)
      omega
    have top : ∀ {r : Rg} {l : List Rg},Can (r :: l) -> ¬ In (r :: l) (r.high + 1) := fun {r l} h hc => by
      obtain ⟨q,hq,q1,q2⟩ := hc
      rcases List.mem_cons.1 hq with rfl | hq
      · omega
      · have := (List.pairwise_cons.1 h.2).1 q hq; omega
    have e2 : r.high = s.high := by
      rcases Int.lt_trichotomy r.high s.high with hl | he | hg
      · exact absurd ((e (r.high + 1)).2 ⟨s,List.mem_cons_self ..,by omega,by omega⟩) (top h)
      · exact he
      · exact absurd ((e (s.high + 1)).1 ⟨r,List.mem_cons_self ..,by omega,by omega⟩) (top k)
    have e3 : r = s := by cases r; cases s; simp at e1 e2; rw [e1,e2]
    subst e3
    have e4 : ∀ {r : Rg} {l m : List Rg},Can (r :: l) -> Can (r :: m) -> (∀ a,In (r :: l) a ↔ In (r :: m) a) -> ∀ a,In l a -> In m a := fun {r l m} h k e a ⟨q,hq,q1,q2⟩ => by
      have := (List.pairwise_cons.1 h.2).1 q hq
      have hrr := h.1 r (List.mem_cons_self ..)
      obtain ⟨q',hq',q1',q2'⟩ := (e a).1 ⟨q,List.mem_cons_of_mem _ hq,q1,q2⟩
      rcases List.mem_cons.1 hq' with rfl | hq'
      · omega
      · exact ⟨q',hq',q1',q2'⟩
    rw [can_one ⟨fun q hq => h.1 q (List.mem_cons_of_mem _ hq),(List.pairwise_cons.1 h.2).2⟩ ⟨fun q hq => k.1 q (List.mem_cons_of_mem _ hq),(List.pairwise_cons.1 k.2).2⟩ (fun a => ⟨e4 h k e a,e4 k h (fun a => (e a).symm) a⟩)]
def jn (o : List Rg) (r : Rg) : List Rg := match o with
  | [] => [r]
  | q :: o => if r.low <= q.high + 1 then ⟨q.low,max q.high r.high⟩ :: o else r :: q :: o
def joinR (l : List Rg) : List Rg := l.foldl jn []
def join (l : List Rg) : List Rg := (joinR l).reverse
theorem joinR_snoc (l : List Rg) (r : Rg) : joinR (l ++ [r]) = jn (joinR l) r := by unfold joinR; rw [List.foldl_append]; rfl
theorem jn_len (o : List Rg) (r : Rg) : (jn o r).length <= o.length + 1 := by unfold jn; split; simp; split; simp; simp
theorem joinR_len (l : List Rg) : (joinR l).length <= l.length := by
  have : ∀ (l o : List Rg),(l.foldl jn o).length <= o.length + l.length := fun l => by
    induction l with
    | nil => intro o; simp
    | cons r l ih => intro o; rw [List.foldl_cons]; have := ih (jn o r); have := jn_len o r; simp; omega
  have := this l []; simpa [joinR] using this
theorem join_len (l : List Rg) : (join l).length <= l.length := by unfold join; rw [List.length_reverse]; exact joinR_len l
theorem join_new {l : List Rg} {r : Rg} (h : join l = [] \/ ∃ o q,join l = o ++ [q] /\ ¬ r.low <= q.high + 1) : join (l ++ [r]) = join l ++ [r] := by
  unfold join at *
  rw [joinR_snoc]
  rcases h with h | ⟨o,q,h,hq⟩
  · have := List.reverse_eq_nil_iff.1 h; rw [this]; rfl
  · have : joinR l = q :: o.reverse := by rw [<- List.reverse_reverse (joinR l),h]; simp
    rw [this,show jn (q :: o.reverse) r = r :: q :: o.reverse from if_neg hq]; simp
theorem join_up {l : List Rg} {r q : Rg} {o : List Rg} (h : join l = o ++ [q]) (hq : r.low <= q.high + 1) : join (l ++ [r]) = o ++ [⟨q.low,max q.high r.high⟩] := by
  unfold join at *
  rw [joinR_snoc]
  have : joinR l = q :: o.reverse := by rw [<- List.reverse_reverse (joinR l),h]; simp
  rw [this,show jn (q :: o.reverse) r = ⟨q.low,max q.high r.high⟩ :: o.reverse from if_pos hq]; simp
def Lows (l : List Rg) : Prop := l.Pairwise fun r s => r.low <= s.low
theorem joinR_can : ∀ (l o : List Rg),(∀ r,r ∈ l -> r.low <= r.high) -> Lows l -> (∀ q,q ∈ o -> q.low <= q.high) -> (o.Pairwise fun s r => r.high + 1 < s.low) -> (∀ q,q ∈ o -> ∀ r,r ∈ l -> q.low <= r.low) ->
    (∀ q,q ∈ l.foldl jn o -> q.low <= q.high) /\ ((l.foldl jn o).Pairwise fun s r => r.high + 1 < s.low) /\ ∀ a,In (l.foldl jn o) a ↔ In o a \/ In l a
  | [],o,_,_,h1,h2,_ => ⟨h1,h2,fun a => by simp [In]⟩
  | r :: l,o,hl,hs,h1,h2,h3 => by
    have hr := hl r (List.mem_cons_self ..)
    have hs1 := List.pairwise_cons.1 hs
    rw [List.foldl_cons]
    have key : (∀ q,q ∈ jn o r -> q.low <= q.high) /\ ((jn o r).Pairwise fun s r => r.high + 1 < s.low) /\ (∀ q,q ∈ jn o r -> ∀ s,s ∈ l -> q.low <= s.low) /\ ∀ a,In (jn o r) a ↔ In o a \/ (r.low <= a /\ a <= r.high) := by
      cases o with
      | nil => exact ⟨fun q hq => by simp [jn] at hq; subst hq; exact hr,by simp [jn],fun q hq s hs' => by simp [jn] at hq; subst hq; exact hs1.1 s hs',fun a => by simp [In,jn]⟩
      | cons q o =>
        have hq := h1 q (List.mem_cons_self ..)
        have hqr := h3 q (List.mem_cons_self ..) r (List.mem_cons_self ..)
        have h2' := List.pairwise_cons.1 h2
        rw [show jn (q :: o) r = if r.low <= q.high + 1 then ⟨q.low,max q.high r.high⟩ :: o else r :: q :: o from rfl]
        split
        · rename_i hc
          refine ⟨fun z hz => ?_,?_,fun z hz s hs' => ?_,fun a => ?_⟩
          · rcases List.mem_cons.1 hz with rfl | hz
            · simp only; omega
            · exact h1 z (List.mem_cons_of_mem _ hz)
          · exact List.pairwise_cons.2 ⟨fun z hz => h2'.1 z hz,h2'.2⟩
          · rcases List.mem_cons.1 hz with rfl | hz
            · exact h3 q (List.mem_cons_self ..) s (List.mem_cons_of_mem _ hs')
            · exact h3 z (List.mem_cons_of_mem _ hz) s (List.mem_cons_of_mem _ hs')
          · simp only [In,List.mem_cons]
            constructor
            · rintro ⟨z,rfl | hz,a1,a2⟩
              · simp only at a1 a2
                by_cases hh : a <= q.high
                · exact .inl ⟨q,.inl rfl,a1,hh⟩
                · exact .inr ⟨by omega,by omega⟩
              · exact .inl ⟨z,.inr hz,a1,a2⟩
            · rintro (⟨z,rfl | hz,a1,a2⟩ | ⟨a1,a2⟩)
              · exact ⟨_,.inl rfl,a1,by simp only; omega⟩
              · exact ⟨z,.inr hz,a1,a2⟩
              · exact ⟨_,.inl rfl,by simp only; omega,by simp only; omega⟩
        · rename_i hc
          refine ⟨fun z hz => ?_,?_,fun z hz s hs' => ?_,fun a => ?_⟩
          · rcases List.mem_cons.1 hz with rfl | hz
            · exact hr
            · exact h1 z hz
          · refine List.pairwise_cons.2 ⟨fun z hz => ?_,h2⟩
            rcases List.mem_cons.1 hz with rfl | hz
            · omega
            · have := h2'.1 z hz; omega
          · rcases List.mem_cons.1 hz with rfl | hz
            · exact hs1.1 s hs'
            · exact h3 z hz s (List.mem_cons_of_mem _ hs')
          · simp only [In,List.mem_cons]
            constructor
            · rintro ⟨z,rfl | hz,a1,a2⟩
              · exact .inr ⟨a1,a2⟩
              · exact .inl ⟨z,hz,a1,a2⟩
            · rintro (⟨z,hz,a1,a2⟩ | ⟨a1,a2⟩)
              · exact ⟨z,.inr hz,a1,a2⟩
              · exact ⟨r,.inl rfl,a1,a2⟩
    obtain ⟨k1,k2,k3,k4⟩ := key
    obtain ⟨c1,c2,c3⟩ := joinR_can l (jn o r) (fun s hs => hl s (List.mem_cons_of_mem _ hs)) hs1.2 k1 k2 k3
    refine ⟨c1,c2,fun a => ?_⟩
    rw [c3,k4]
    simp only [In,List.mem_cons]
    constructor
    · rintro ((h | h) | ⟨s,hs,h⟩)
      · exact .inl h
      · exact .inr ⟨r,.inl rfl,h⟩
      · exact .inr ⟨s,.inr hs,h⟩
    · rintro (h | ⟨s,rfl | hs,h⟩)
      · exact .inl (.inl h)
      · exact .inl (.inr h)
      · exact .inr ⟨s,hs,h⟩
theorem join_can {l : List Rg} (hl : ∀ r,r ∈ l -> r.low <= r.high) (hs : Lows l) : Can (join l) /\ ∀ a,In (join l) a ↔ In l a := by
  obtain ⟨h1,h2,h3⟩ := joinR_can l [] hl hs (fun _ h => by cases h) List.Pairwise.nil (fun _ h => by cases h)
  refine ⟨⟨fun r hr => h1 r (by unfold join joinR at hr; simpa using hr),?_⟩,fun a => ?_⟩
  · unfold join joinR; rw [List.pairwise_reverse]; exact h2
  · have : In (join l) a ↔ In (joinR l) a := by unfold join In; simp
    rw [this]; unfold joinR; rw [h3]; simp [In]
def put (x : Rg) : List Rg -> List Rg
  | [] => [x]
  | y :: l => if y.low < x.low then y :: put x l else x :: y :: l
def srt : List Rg -> List Rg
  | [] => []
  | x :: l => put x (srt l)
theorem put_perm (x : Rg) : ∀ l,(put x l).Perm (x :: l)
  | [] => List.Perm.refl _
  | y :: l => by unfold put; split; exact ((put_perm x l).cons y).trans (List.Perm.swap x y l); exact List.Perm.refl _
theorem srt_perm : ∀ l,(srt l).Perm l
  | [] => List.Perm.refl _
  | x :: l => (put_perm x _).trans ((srt_perm l).cons x)
theorem put_lows {x : Rg} : ∀ {l : List Rg},Lows l -> Lows (put x l)
  | [],_ => by simp [put,Lows]
  | y :: l,h => by
    unfold put
    have h1 := List.pairwise_cons.1 h
    split
    · refine List.pairwise_cons.2 ⟨fun z hz => ?_,put_lows h1.2⟩
      rcases List.mem_cons.1 ((put_perm x l).mem_iff.1 hz) with rfl | hz
      · omega
      · exact h1.1 z hz
    · refine List.pairwise_cons.2 ⟨fun z hz => ?_,h⟩
      rcases List.mem_cons.1 hz with rfl | hz
      · omega
      · have := h1.1 z hz; omega
theorem srt_lows : ∀ l,Lows (srt l)
  | [] => List.Pairwise.nil
  | x :: l => put_lows (srt_lows l)
def odd (r : Rg) : Bool := decide (r.high < r.low)
def can (l : List Rg) : List Rg := join (srt l)
theorem in_perm {l m : List Rg} (p : l.Perm m) (a : Int) : In l a ↔ In m a := ⟨fun ⟨r,h,k⟩ => ⟨r,p.mem_iff.1 h,k⟩,fun ⟨r,h,k⟩ => ⟨r,p.mem_iff.2 h,k⟩⟩
theorem can_spec {l : List Rg} (h : ∀ r,r ∈ l -> odd r = false) : Can (can l) /\ ∀ a,In (can l) a ↔ In l a := by
  have := join_can (l := srt l) (fun r hr => by have := h r ((srt_perm l).mem_iff.1 hr); unfold odd at this; have := of_decide_eq_false this; omega) (srt_lows l)
  exact ⟨this.1,fun a => (this.2 a).trans (in_perm (srt_perm l) a)⟩
theorem join_any {l m : List Rg} (h : ∀ r,r ∈ l -> odd r = false) (p : m.Perm l) (hs : Lows m) : join m = can l := by
  have h1 := join_can (l := m) (fun r hr => by have := h r (p.mem_iff.1 hr); unfold odd at this; have := of_decide_eq_false this; omega) hs
  have h2 := can_spec h
  exact can_one h1.1 h2.1 (fun a => (h1.2 a).trans ((in_perm p a).trans (h2.2 a).symm))
def size (r : Rg) : Int := r.high - r.low + 1
def cnt (l : List Rg) : Int := (l.map size).sum
theorem cnt_snoc (l : List Rg) (r : Rg) : cnt (l ++ [r]) = cnt l + size r := by unfold cnt; simp
theorem cnt_take {l : List Rg} {i : Nat} (h : i < l.length) : cnt (l.take (i + 1)) = cnt (l.take i) + size (l.getD i dflt) := by rw [take_succ_getD l i dflt h,cnt_snoc]
def pool (l : List Rg) : List Rg × Int := if l.any odd = true then ([],1) else if cnt (can l) > 256 then ([],3) else (can l,0)
end Rg
end Go.K
namespace Go.K
theorem ixf_any {α : Type} (b : α -> Bool) (l : List α) (d : α) : decide (ixf b l >= 0) = l.any b := by
  rcases ixf_cases b l d with ⟨h,hn⟩ | ⟨i,h,hi,hb,_⟩
  · rw [h]
    refine Eq.symm (Bool.eq_false_iff.2 fun hc => ?_)
    obtain ⟨x,hx,hb⟩ := List.any_eq_true.1 hc
    obtain ⟨j,hj,rfl⟩ := List.mem_iff_getElem.1 hx
    have := hn j hj
    rw [List.getD_eq_getElem?_getD,List.getElem?_eq_getElem hj] at this
    simp only [Option.getD_some] at this; rw [this] at hb; cases hb
  · rw [h,List.any_eq_true.2 ⟨l.getD i d,by rw [List.getD_eq_getElem?_getD,List.getElem?_eq_getElem hi]; exact List.getElem_mem hi,hb⟩]
    exact decide_eq_true (by omega)
theorem getD_mem' {α : Type} {l : List α} {i : Nat} (h : i < l.length) (d : α) : l.getD i d ∈ l := by
  rw [List.getD_eq_getElem?_getD,List.getElem?_eq_getElem h]; exact List.getElem_mem h
theorem flat_set1 {α : Type} {f : α -> List Value} {k : Nat} (hz : ∀ x,(f x).length = k) : ∀ {l : List α} {i o : Nat} {x d : α} {v : Value},i < l.length -> o < k -> (f (l.getD i d)).set o v = f x -> (l.flatMap f).set (i * k + o) v = (l.set i x).flatMap f
  | [],i,o,x,d,v,h,_,_ => by simp at h
  | a :: l,0,o,x,d,v,h,ho,e => by
    simp only [Nat.zero_mul,Nat.zero_add,List.flatMap_cons,List.set_cons_zero]
    rw [List.set_append_left _ _ (by rw [hz]; exact ho)]
    have : (f a).set o v = f x := by simpa using e
    rw [this]
  | a :: l,i + 1,o,x,d,v,h,ho,e => by
    simp only [List.flatMap_cons,List.set_cons_succ]
    rw [List.set_append_right _ _ (by rw [hz,Nat.add_mul]; omega),hz,show (i + 1) * k + o - k = i * k + o by rw [Nat.add_mul]; omega]
    rw [flat_set1 hz (d := d) (by simpa using h) ho (by simpa using e)]
theorem Ow.upd {α : Type} {f : α -> List Value} {k : Nat} (hz : ∀ x,(f x).length = k) {e n i o : Nat} {s : Value} {l : List α} {x d : α} {v : Value} {sg : Sg} (h : Ow e k s n ((l.flatMap f).set (i * k + o) v) sg) (hi : i < l.length) (ho : o < k) (hx : (f (l.getD i d)).set o v = f x) : Ow e k s n ((l.set i x).flatMap f) sg := by
  rw [flat_set1 hz hi ho hx] at h; exact h
namespace Rg
def yv (s : Rg) : List Value := [.agg (cells s).toArray]
theorem Ok.all {s : Rg} (h : s.Ok) : 0 <= s.low /\ s.low <= 4294967295 /\ 0 <= s.high /\ s.high <= 4294967295 := ⟨h.l0,h.l1,h.h0,h.h1⟩
def Oks (l : List Rg) : Prop := ∀ r,r ∈ l -> r.Ok
theorem dflt_ok : dflt.Ok := ⟨by decide,by decide,by decide,by decide⟩
theorem Oks.at {l : List Rg} (h : Oks l) (i : Nat) : (l.getD i dflt).Ok := by
  by_cases hi : i < l.length
  · exact h _ (getD_mem' hi _)
  · rw [List.getD_eq_getElem?_getD,List.getElem?_eq_none (by omega)]; exact dflt_ok
theorem Oks.bd {l : List Rg} (h : Oks l) (i : Nat) : 0 <= (l.getD i dflt).low /\ (l.getD i dflt).low <= 4294967295 /\ 0 <= (l.getD i dflt).high /\ (l.getD i dflt).high <= 4294967295 := (h.at i).all
theorem Oks.perm {l m : List Rg} (h : Oks l) (p : m.Perm l) : Oks m := fun r hr => h r (p.mem_iff.1 hr)
theorem Oks.take {l : List Rg} (h : Oks l) (i : Nat) : Oks (l.take i) := fun r hr => h r (List.mem_of_mem_take hr)
theorem jn_ok {o : List Rg} {r : Rg} (h : Oks o) (hr : r.Ok) : Oks (jn o r) := by
  cases o with
  | nil => intro q hq; simp [jn] at hq; subst hq; exact hr
  | cons q o =>
    have hq := h q (List.mem_cons_self ..)
    rw [show jn (q :: o) r = if r.low <= q.high + 1 then ⟨q.low,max q.high r.high⟩ :: o else r :: q :: o from rfl]
    split
    · intro z hz
      rcases List.mem_cons.1 hz with rfl | hz
      · have a := hq.all; have b := hr.all
        exact ⟨a.1,a.2.1,by show 0 <= max q.high r.high; omega,by show max q.high r.high <= _; omega⟩
      · exact h z (List.mem_cons_of_mem _ hz)
    · intro z hz
      rcases List.mem_cons.1 hz with rfl | hz
      · exact hr
      · exact h z hz
theorem join_ok {l : List Rg} (h : Oks l) : Oks (join l) := by
  have : ∀ (l o : List Rg),Oks l -> Oks o -> Oks (l.foldl jn o) := fun l => by
    induction l with
    | nil => intro o _ h; exact h
    | cons r l ih => intro o h1 h2; exact ih (jn o r) (fun q hq => h1 q (List.mem_cons_of_mem _ hq)) (jn_ok h2 (h1 r (List.mem_cons_self ..)))
  intro r hr
  exact this l [] h (fun _ h => by cases h) r (by unfold join joinR at hr; simpa using hr)
theorem can_ok {l : List Rg} (h : Oks l) : Oks (can l) := join_ok (h.perm (srt_perm l))
theorem can_len (l : List Rg) : (can l).length <= l.length := by
  have := join_len (srt l); rw [(srt_perm l).length_eq] at this; exact this
theorem last_split {l : List Rg} (h : 0 < l.length) : ∃ o,l = o ++ [l.getD (l.length - 1) dflt] /\ o.length = l.length - 1 := by
  refine ⟨l.take (l.length - 1),?_,by rw [List.length_take]; omega⟩
  rw [<- take_succ_getD l (l.length - 1) dflt (by omega),List.take_of_length_le (by omega)]
theorem join_set {m : List Rg} {i n : Nat} (h : i < m.length) (e : n = (join (m.take i)).length) (hn : 0 < n) (hq : (m.getD i dflt).low <= ((join (m.take i)).getD (n - 1) dflt).high + 1) :
    join (m.take (i + 1)) = (join (m.take i)).set (n - 1) ⟨((join (m.take i)).getD (n - 1) dflt).low,max ((join (m.take i)).getD (n - 1) dflt).high (m.getD i dflt).high⟩ := by
  subst e
  obtain ⟨o,ho,hl⟩ := last_split hn
  rw [take_succ_getD m i dflt h,join_up (o := o) (q := (join (m.take i)).getD ((join (m.take i)).length - 1) dflt) ho hq]
  generalize (join (m.take i)).getD ((join (m.take i)).length - 1) dflt = q at *
  rw [<- hl]
  conv => rhs; rw [ho]
  simp
theorem join_add {m : List Rg} {i n : Nat} (h : i < m.length) (e : n = (join (m.take i)).length) (hq : n = 0 \/ ¬ (m.getD i dflt).low <= ((join (m.take i)).getD (n - 1) dflt).high + 1) : join (m.take (i + 1)) = join (m.take i) ++ [m.getD i dflt] := by
  subst e
  rw [take_succ_getD m i dflt h]
  refine join_new ?_
  rcases hq with hq | hq
  · exact .inl (List.eq_nil_of_length_eq_zero hq)
  · by_cases h0 : (join (m.take i)).length = 0
    · exact .inl (List.eq_nil_of_length_eq_zero h0)
    · obtain ⟨o,ho,_⟩ := last_split (l := join (m.take i)) (by omega)
      exact .inr ⟨o,_,ho,hq⟩
theorem cnt_bd : ∀ {l : List Rg},Oks l -> -(4294967296 * (l.length : Int)) <= cnt l /\ cnt l <= 4294967296 * (l.length : Int)
  | [],_ => by simp [cnt]
  | r :: l,h => by
    have ih := cnt_bd (l := l) fun q hq => h q (List.mem_cons_of_mem _ hq)
    have hr := (h r (List.mem_cons_self ..)).all
    have e : cnt (r :: l) = size r + cnt l := by simp [cnt]
    rw [e]; unfold size
    simp only [List.length_cons]
    omega
theorem lows_of {l : List Rg} (h : Srt (ltc cmp) l) : Lows l := by
  refine h.imp ?_
  intro a b hh
  rw [show ltc cmp b a = decide (b.low < a.low) from cmp3_neg] at hh
  simpa using hh
theorem odd_all {l : List Rg} (h : l.any odd = false) : ∀ r,r ∈ l -> odd r = false := fun r hr => by
  cases hh : odd r with
  | false => rfl
  | true => rw [List.any_eq_true.2 ⟨r,hr,hh⟩] at h; cases h
theorem pool_odd {l : List Rg} (h : l.any odd = true) : pool l = ([],1) := if_pos h
theorem pool_full {l : List Rg} (h : l.any odd = false) (k : cnt (can l) > 256) : pool l = ([],3) := by unfold pool; rw [if_neg (by simp [h]),if_pos k]
theorem pool_ok {l : List Rg} (h : l.any odd = false) (k : ¬ cnt (can l) > 256) : pool l = (can l,0) := by unfold pool; rw [if_neg (by simp [h]),if_neg k]
theorem pool_len (l : List Rg) : (pool l).1.length <= l.length := by
  unfold pool; split
  · simp
  · split
    · simp
    · exact can_len l
theorem pool_oks {l : List Rg} (h : Oks l) : Oks (pool l).1 := by
  unfold pool; split
  · intro r hr; cases hr
  · split
    · intro r hr; cases hr
    · exact can_ok h
end Rg
end Go.K
namespace Go.K
namespace Rg
def run (r : Rg) : List Int := (List.range (size r).toNat).map fun (i : Nat) => r.low + (i : Int)
def adr (l : List Rg) : List Int := l.flatMap run
theorem run_len (r : Rg) : (run r).length = (size r).toNat := by unfold run; simp
theorem adr_take {l : List Rg} {i : Nat} (h : i < l.length) : adr (l.take (i + 1)) = adr (l.take i) ++ run (l.getD i dflt) := by unfold adr; rw [take_succ_getD l i dflt h]; simp
theorem adr_len_take {l : List Rg} {i : Nat} (h : i < l.length) : (adr (l.take (i + 1))).length = (adr (l.take i)).length + (size (l.getD i dflt)).toNat := by rw [adr_take h,List.length_append,run_len]
theorem adr_cut (l : List Rg) (i : Nat) : adr l = adr (l.take i) ++ adr (l.drop i) := by unfold adr; rw [<- List.flatMap_append,List.take_append_drop]
theorem adr_at {l : List Rg} {i j : Nat} (h : i < l.length) (hj : (j : Int) < size (l.getD i dflt)) : (adr (l.take i)).length + j < (adr l).length /\ (adr l).getD ((adr (l.take i)).length + j) 0 = (l.getD i dflt).low + (j : Int) := by
  have hr : j < (run (l.getD i dflt)).length := by rw [run_len]; omega
  rw [adr_cut l (i + 1),adr_take h]
  refine ⟨by rw [List.length_append,List.length_append]; omega,?_⟩
  rw [List.getD_eq_getElem?_getD,List.getElem?_append_left (by rw [List.length_append]; omega),List.getElem?_append_right (by omega),show (adr (l.take i)).length + j - (adr (l.take i)).length = j by omega]
  unfold run
  rw [List.getElem?_map,List.getElem?_range (by omega)]; rfl
theorem adr_len_le : ∀ {l : List Rg},Oks l -> (adr l).length <= 4294967296 * l.length
  | [],_ => by simp [adr]
  | r :: l,h => by
    have ih := adr_len_le (l := l) fun q hq => h q (List.mem_cons_of_mem _ hq)
    have hr := (h r (List.mem_cons_self ..)).all
    have e : adr (r :: l) = run r ++ adr l := by simp [adr]
    rw [e,List.length_append,run_len,List.length_cons]; unfold size; omega
def ix (as_ : List Int) : List (Int × Int) := (List.range as_.length).map fun (i : Nat) => ((i : Int),as_.getD i 0)
def iv (p : Int × Int) : List Value := [.int .i64 p.1,.int .u32 p.2]
theorem ix_len (as_ : List Int) : (ix as_).length = as_.length := by unfold ix; simp
theorem ix_at {as_ : List Int} {k : Nat} (h : k < as_.length) : (ix as_)[k]? = some ((k : Int),as_.getD k 0) := by
  unfold ix; rw [List.getElem?_map,List.getElem?_range h]; rfl
theorem ix_take {as_ : List Int} {k : Nat} (h : k < as_.length) : (ix as_).take (k + 1) = (ix as_).take k ++ [((k : Int),as_.getD k 0)] := by
  rw [List.take_add_one,ix_at h]; rfl
theorem ix_mem {as_ : List Int} {k : Nat} (h : k < as_.length) : ((k : Int),as_.getD k 0) ∈ ix as_ := List.mem_of_getElem? (ix_at h)
theorem ix_full (as_ : List Int) : (ix as_).take as_.length = ix as_ := List.take_of_length_le (by rw [ix_len]; exact Nat.le_refl _)
theorem snoc_all {p : Int × Int -> Prop} {xs : List (Int × Int)} {x : Int × Int} (h : ∀ q,q ∈ xs -> p q) (hx : p x) : ∀ q,q ∈ xs ++ [x] -> p q := fun q hq => by
  rcases List.mem_append.1 hq with hq | hq
  · exact h q hq
  · rw [List.mem_singleton] at hq; subst hq; exact hx
def at_ (as_ : List Int) (n : Int) : Int × Int := if 0 <= n /\ n < as_.length then (as_.getD n.toNat 0,0) else (0,4)
theorem at_none {as_ : List Int} {n : Int} (h : ∀ p,p ∈ ix as_ -> p.1 ≠ n) : at_ as_ n = (0,4) := by
  unfold at_
  by_cases hc : 0 <= n /\ n < as_.length
  · exfalso
    have := h _ (ix_mem (as_ := as_) (k := n.toNat) (by omega))
    simp only at this; omega
  · rw [if_neg hc]
theorem snoc_inj {ys zs : List (Int × Int)} {p q : Int × Int} (h : ys ++ [p] = zs ++ [q]) : ys = zs /\ p = q := by
  have := List.append_inj' h rfl
  exact ⟨this.1,by simpa using this.2⟩
theorem at_some {as_ : List Int} {n : Int} {xs ys : List (Int × Int)} {p : Int × Int} (hS : ∃ k,k < as_.length /\ xs = (ix as_).take (k + 1)) (hx : xs = ys ++ [p]) (hp : p.1 = n) : at_ as_ n = (p.2,0) := by
  obtain ⟨k,hk,e⟩ := hS
  rw [ix_take hk,hx] at e
  obtain ⟨_,rfl⟩ := snoc_inj e
  simp only at hp; subst hp
  unfold at_; rw [if_pos ⟨by omega,by omega⟩]; rfl
end Rg
end Go.K
namespace Go.K
theorem and_low2 (n c d : Int) (j : Nat) (hj : j <= 62) (hc : c = ((2 ^ j - 1 : Nat) : Int)) (hd : d = ((2 ^ j : Nat) : Int)) : IntKind.i64.wrap ((BitVec.ofInt IntKind.i64.bits n &&& BitVec.ofInt IntKind.i64.bits c).toNat : Int) = n % d := by
  have hb : IntKind.i64.bits = 64 := rfl
  have hp : (2 : Nat) ^ j <= 2 ^ 62 := Nat.pow_le_pow_right (by decide) hj
  have hp0 : 0 < (2 : Nat) ^ j := Nat.two_pow_pos j
  rw [hb,BitVec.toNat_and,BitVec.toNat_ofInt,BitVec.toNat_ofInt,hc,hd]
  have e2 : (((2 ^ j - 1 : Nat) : Int) % ((2 ^ 64 : Nat) : Int)).toNat = 2 ^ j - 1 := by
    have : ((2 ^ 64 : Nat) : Int) = 18446744073709551616 := rfl
    rw [this]; omega
  rw [e2,Nat.and_two_pow_sub_one_eq_mod]
  have hm : (n % ((2 ^ 64 : Nat) : Int)).toNat % 2 ^ j < 2 ^ j := Nat.mod_lt _ hp0
  rw [wrap_i64 (by omega)]
  have hnn : 0 <= n % ((2 ^ 64 : Nat) : Int) := Int.emod_nonneg _ (by decide)
  rw [Int.natCast_emod,Int.toNat_of_nonneg hnn]
  refine Int.emod_emod_of_dvd n ?_
  exact Int.natCast_dvd_natCast.2 (Nat.pow_dvd_pow 2 (by omega))
section
variable {C : Cx} {V : Vw} {H : Hp} {L : Sl} {ty : TypeId}
end
namespace Rg
def fg (n : Nat) : List UInt8 := if n < 10 then [UInt8.ofNat (48 + n)] else fg (n / 10) ++ fg (n % 10)
termination_by n
decreasing_by all_goals omega
def fgS (n : Nat) : ByteArray := ⟨(fg n).toArray⟩
def prt (m i : Nat) : Nat := m / 2 ^ (24 - 8 * i) % 256
def dot : ByteArray := ⟨#[46]⟩
def txtU (m : Nat) : Nat -> ByteArray
  | 0 => ⟨#[]⟩
  | i + 1 => (if i > 0 then txtU m i ++ dot else txtU m i) ++ fgS (prt m i)
def txt (m : Nat) : ByteArray := txtU m 4
theorem nil_size : (⟨#[]⟩ : ByteArray).size = 0 := rfl
end Rg
end Go.K
namespace Go.K
namespace Rg
def l0 : List Rg := [⟨5,7⟩,⟨1,4⟩]
def l1 : List Rg := [⟨1,7⟩]
theorem mem_run {r : Rg} {a : Int} : a ∈ run r ↔ r.low <= a /\ a <= r.high := by
  unfold run size
  simp only [List.mem_map,List.mem_range]
  constructor
  · rintro ⟨i,hi,rfl⟩; omega
  · intro h; exact ⟨(a - r.low).toNat,by omega,by omega⟩
theorem mem_adr {l : List Rg} {a : Int} : a ∈ adr l ↔ In l a := by
  unfold adr In
  simp only [List.mem_flatMap,mem_run]
theorem adr_up : ∀ {l : List Rg},Can l -> (adr l).Pairwise (· < ·)
  | [],_ => List.Pairwise.nil
  | r :: l,h => by
    have h2 := List.pairwise_cons.1 h.2
    have e : adr (r :: l) = run r ++ adr l := by simp [adr]
    rw [e,List.pairwise_append]
    refine ⟨?_,adr_up ⟨fun q hq => h.1 q (List.mem_cons_of_mem _ hq),h2.2⟩,fun a ha b hb => ?_⟩
    · unfold run
      rw [List.pairwise_map]
      exact List.pairwise_lt_range.imp fun hh => by omega
    · obtain ⟨q,hq,q1,q2⟩ := mem_adr.1 hb
      have := h2.1 q hq
      have := mem_run.1 ha
      omega
theorem cnt_adr : ∀ {l : List Rg},(∀ r,r ∈ l -> r.low <= r.high) -> cnt l = ((adr l).length : Int)
  | [],_ => rfl
  | r :: l,h => by
    have ih := cnt_adr (l := l) fun q hq => h q (List.mem_cons_of_mem _ hq)
    have hr := h r (List.mem_cons_self ..)
    have e : adr (r :: l) = run r ++ adr l := by simp [adr]
    have e2 : cnt (r :: l) = size r + cnt l := by simp [cnt]
    rw [e,e2,ih,List.length_append,run_len]; unfold size; omega
end Rg
end Go.K
namespace Go.K
section
variable {P : Program} {ops : Array Oper} {md : Region.Mode} {D : World -> Prop} {Q : Exit -> Act -> World -> Prop}
end
section
variable {C : Cx} {V : Vw} {H : Hp} {L : Sl} {Q : Exit -> Act -> World -> Prop} {ops : Array Oper} {os : List Oper}
theorem RunI.on {o : Oper} {j : Nat} {t : Bool} {d : Nat} {b : Bool} (hg : o.guard = some (j,t)) (hj : ((ops[j]?).bind (·.dst)) = some d) (hb : L.lookup d = some (.bool b)) (e : b = t)
    (k : RunI C ops V H L (⟨o.dst,o.op,o.type,o.pos,o.after,none⟩ :: os) Q) : RunI C ops V H L (o :: os) Q := fun a w i => by
  have h := k a w i
  have hw : Region.wanted o (yielded ops a.tmps) = true := by
    simp only [Region.wanted,hg,yielded,hj,Option.bind_some,i.1.lk d _ hb,e,beq_self_eq_true]
  unfold wpListIn at h ⊢
  rw [if_pos hw]
  rw [if_pos (by simp [Region.wanted])] at h
  exact h
theorem RunI.off {o : Oper} {j : Nat} {t : Bool} {d dd : Nat} {b : Bool} (hg : o.guard = some (j,t)) (hj : ((ops[j]?).bind (·.dst)) = some d) (hb : L.lookup d = some (.bool b)) (e : b = !t) (hd : o.dst = some dd) (hn : dd < C.n)
    (k : RunI C ops V H ((dd,undef) :: L) os Q) : RunI C ops V H L (o :: os) Q := fun a w i => by
  have hw : Region.wanted o (yielded ops a.tmps) = false := by
    simp only [Region.wanted,hg,yielded,hj,Option.bind_some,i.1.lk d _ hb,e]; cases t <;> rfl
  unfold wpListIn
  rw [if_neg (by rw [hw]; decide)]
  refine ⟨fun _ _ => trivial,?_⟩
  rw [hd]
  exact k _ w ⟨i.1.put hn undef,i.2⟩
end
end Go.K
namespace Go.K
open Go.MapKept
section
variable {C : Cx} {V : Vw} {H : Hp} {L : Sl} {Q : Exit -> Act -> World -> Prop} {ops : Array Oper} {os : List Oper}
variable {ty : TypeId} {pos : String} {aft : Array Edge} {d : Nat}
theorem Ex.recut {e : Exit} {H' : Hp} (p : H'.flatten.Perm H.flatten) (k : Ex C V H' L Q e) : Ex C V H L Q e := fun a w i => k a w ⟨i.1,i.2.recut p⟩
theorem Does.recut {P : Program} {f : FuncId} {args : List Value} {H' : Hp} {R : Value -> Vw -> Hp -> Prop} (h : Does P f args V H R) (p : H'.flatten.Perm H.flatten) : Does P f args V H' R :=
  ⟨h.1,fun B hB => (h.2 B ((hB.recut p.symm).memS (fun b => (p.map (·.1)).mem_iff))).mono fun e w' ⟨v,V',H2,q1,q2,q3⟩ => ⟨v,V',H2,q1,q2,q3.memS (fun b => ((p.map (·.1)).mem_iff).symm)⟩⟩
end
end Go.K
namespace Go.K
section
variable {C : Cx} {V : Vw} {H : Hp} {L : Sl} {Q : Exit -> Act -> World -> Prop}
end
end Go.K
namespace Go.K
section
variable {C : Cx} {V : Vw} {H : Hp} {L : Sl} {Q : Exit -> Act -> World -> Prop} {ops : Array Oper} {os : List Oper}
variable {ty : TypeId} {pos : String} {aft : Array Edge} {d : Nat}
end
end Go.K
namespace Go.K
section
variable {C : Cx} {V : Vw} {H : Hp} {L : Sl} {Q : Exit -> Act -> World -> Prop} {l : Nat}
end
end Go.K
namespace Go.K
theorem Does.outcut {P : Program} {f : FuncId} {args : List Value} {V : Vw} {H : Hp} {R R' : Value -> Vw -> Hp -> Prop} (h : Does P f args V H R) (k : ∀ v V' H',R v V' H' -> ∃ H2,H2.flatten.Perm H'.flatten /\ R' v V' H2) : Does P f args V H R' :=
  ⟨h.1,fun B hB => (h.2 B hB).mono fun e w' ⟨v,V',H',q1,q2,q3⟩ => let ⟨H2,p,r⟩ := k v V' H' q2; ⟨v,V',H2,q1,r,q3.recut p⟩⟩
theorem one_piece (H : Hp) : ([H.flatten] : Hp).flatten.Perm H.flatten := List.Perm.of_eq (by simp)
theorem Does.one {P : Program} {f : FuncId} {args : List Value} {V : Vw} {H : Hp} {R : Value -> Vw -> Hp -> Prop} (h : Does P f args V H R) : Does P f args V [H.flatten] R := h.recut (one_piece H)
theorem two_piece (s : Sg) (H : Hp) : ([s,H.flatten] : Hp).flatten.Perm (s :: H).flatten := List.Perm.of_eq (by simp)
end Go.K
namespace Go.K
theorem Om.form {kk : IntKind} {v : Value} {l : List (Int × Value)} {s : Sg} (h : Om kk v l s) : ∃ b,v = .map (some b) := by
  obtain ⟨b,_,_,e,_⟩ := h; exact ⟨b,e⟩
theorem Does.frameP {P : Program} {f : FuncId} {args : List Value} {v0 : Value} {V : Vw} {H Hf Hc : Hp} (h : Does P f args V Hc (Pv v0 V Hc)) (p : (Hf ++ Hc).Perm H) : Does P f args V H (Pv v0 V H) :=
  ⟨h.1,fun B hB => (h.2 B (hB.perm p).give).mono fun e w' ⟨v,V',H',he,hR,s⟩ => by
    obtain ⟨h1,h2,h3⟩ := hR
    subst h1 h2 h3
    exact ⟨v,V',H,he,⟨rfl,rfl,rfl⟩,((hB.perm p).take s).perm p.symm⟩⟩
theorem erase_perm {α : Type} : ∀ {l : List α} {j : Nat} {x : α},l[j]? = some x -> (l.eraseIdx j ++ [x]).Perm l
  | [],_,_,h => by cases h
  | y :: l,0,x,h => by
    simp only [List.getElem?_cons_zero,Option.some.injEq] at h; subst h
    exact List.perm_append_comm (l₂ := [y])
  | y :: l,j + 1,x,h => by
    simp only [List.getElem?_cons_succ] at h
    exact (erase_perm h).cons y
theorem Does.frame1 {P : Program} {f : FuncId} {args : List Value} {v0 : Value} {V : Vw} {H : Hp} {s : Sg} (j : Nat) (hj : H[j]? = some s) (h : Does P f args V [s] (Pv v0 V [s])) : Does P f args V H (Pv v0 V H) := h.frameP (erase_perm hj)
section
variable {C : Cx} {V : Vw} {H : Hp} {L : Sl} {Q : Exit -> Act -> World -> Prop} {ops : Array Oper} {os : List Oper}
variable {ty : TypeId} {pos : String} {aft : Array Edge} {d : Nat}
variable {α : Type} {f : α -> Value}
def pm (f : α -> Value) (l : List (Int × α)) : List (Int × Value) := l.map fun x => (x.1,f x.2)
end
end Go.K
namespace Go.K
open Go.Sort
namespace Le
instance : Inhabited Le := ⟨Le.dflt⟩
theorem enc1 : Enc Le.cells 8 := ⟨fun _ => rfl,fun _ => rfl⟩
def agg (x : Le) : Value := .agg x.cells.toArray
def mt (l : List Le) : List (Int × Value) := l.map fun x => (x.addr,agg x)
def Ris (l : List Le) : Prop := l.Pairwise fun x y => x.addr < y.addr
def get (l : List Le) (a : Int) : Option Le := l.find? fun x => x.addr == a
theorem mt_get (l : List Le) (a : Int) : mget (mt l) a = (get l a).map agg := by
  unfold mget mt get
  induction l with
  | nil => rfl
  | cons x l ih =>
    simp only [List.map_cons,List.lookup_cons,List.find?_cons,ih]
    by_cases h : x.addr = a
    · subst h; simp
    · have h1 : (a == x.addr) = false := by simp; exact fun e => h e.symm
      have h2 : (x.addr == a) = false := by simp [h]
      rw [h1,h2]
def put (l : List Le) (x : Le) : List Le := l.map fun y => if y.addr = x.addr then x else y
theorem put_len (l : List Le) (x : Le) : (put l x).length = l.length := by unfold put; simp
theorem put_ris {l : List Le} (h : Ris l) (x : Le) : Ris (put l x) := by
  unfold put Ris
  rw [List.pairwise_map]
  refine h.imp fun {a b} hab => ?_
  split <;> split <;> omega
theorem put_same {l : List Le} {x : Le} (h : ∀ y,y ∈ l -> y.addr ≠ x.addr) : put l x = l := by
  unfold put
  conv => rhs; rw [<- List.map_id l]
  exact List.map_congr_left fun y hy => if_neg (h y hy)
theorem mt_put {l : List Le} (hr : Ris l) {x : Le} (h : get l x.addr ≠ none) : mset (mt l) x.addr (agg x) = mt (put l x) := by
  induction l with
  | nil => exact absurd rfl h
  | cons y l ih =>
    obtain ⟨h1,h2⟩ := List.pairwise_cons.1 hr
    show (if y.addr = x.addr then _ else _) = _
    by_cases e : y.addr = x.addr
    · rw [if_pos e]
      have : put (y :: l) x = x :: l := by
        show (if y.addr = x.addr then x else y) :: put l x = _
        rw [if_pos e,put_same fun z hz => by have := h1 z hz; omega]
      rw [this]; rfl
    · rw [if_neg e]
      have hg : get l x.addr ≠ none := by
        unfold get at h ⊢
        rw [List.find?_cons_of_neg (by simp [e])] at h; exact h
      rw [show List.map (fun x : Le => (x.addr,agg x)) l = mt l from rfl,ih h2 hg]
      show _ = mt ((if y.addr = x.addr then x else y) :: put l x)
      rw [if_neg e]; rfl
def tm (n : Int) : Bool := decide (n >= 0) && decide (n <= 1099511627776)
def held (b : Int) : Bool := decide (b >= 2) && decide (b <= 4)
def right (x : Le) : Bool := tm x.till && tm x.acked && tm x.told && tm x.at_ && tm x.ver && (decide (x.bind >= 0) && decide (x.bind <= 5)) &&
  (if held x.bind then decide (x.client.size >= 1) && decide (x.client.size <= 32) else decide (x.client.size = 0) && decide (x.till = 0) && decide (x.acked = 0) && decide (x.told = 0) && decide (x.at_ = 0))
def bare (a b v : Int) : Le := ⟨a,b,⟨#[]⟩,0,0,0,0,v⟩
def setE (l : List Le) (x : Le) : Int × List Le := if right x = false then (1,l) else match get l x.addr with
  | none => (4,l)
  | some _ => (0,put l x)
theorem setE_wrong {l : List Le} {x : Le} (h : right x = false) : setE l x = (1,l) := if_pos h
theorem setE_none {l : List Le} {x : Le} (h : right x = true) (k : get l x.addr = none) : setE l x = (4,l) := by unfold setE; rw [if_neg (by rw [h]; simp),k]
theorem setE_ok {l : List Le} {x y : Le} (h : right x = true) (k : get l x.addr = some y) : setE l x = (0,put l x) := by unfold setE; rw [if_neg (by rw [h]; simp),k]
theorem setE_ris {l : List Le} (h : Ris l) (x : Le) : Ris (setE l x).2 := by
  unfold setE; split
  · exact h
  · split
    · exact h
    · exact put_ris h x
theorem setE_len (l : List Le) (x : Le) : (setE l x).2.length = l.length := by
  unfold setE; split
  · rfl
  · split
    · rfl
    · exact put_len l x
def getE (l : List Le) (a : Int) : Le × Int := match get l a with
  | none => (dflt,4)
  | some x => (x,0)
def bnd (l : List Le) (b : Int) : List Le := l.filter fun x => x.bind == b
def cmpBy (k : Le -> Int) (x y : Le) : Int := if Rg.cmp3 (k x) (k y) ≠ 0 then Rg.cmp3 (k x) (k y) else Rg.cmp3 x.addr y.addr
def ltBy (k : Le -> Int) (x y : Le) : Prop := k x < k y \/ (k x = k y /\ x.addr < y.addr)
theorem cmpBy_neg (k : Le -> Int) (x y : Le) : ltc (cmpBy k) x y = true ↔ ltBy k x y := by
  unfold ltc cmpBy ltBy Rg.cmp3
  rw [decide_eq_true_eq]
  repeat' split
  all_goals omega
theorem srtBy {k : Le -> Int} {l : List Le} (h : Srt (ltc (cmpBy k)) l) : l.Pairwise fun x y => ¬ ltBy k y x := h.imp fun {x y} e => fun hc => by
  rw [(cmpBy_neg k y x).2 hc] at e; cases e
theorem ris_inj {l : List Le} (h : Ris l) {x y : Le} (hx : x ∈ l) (hy : y ∈ l) (e : x.addr = y.addr) : x = y := by
  induction l with
  | nil => cases hx
  | cons z l ih =>
    obtain ⟨h1,h2⟩ := List.pairwise_cons.1 h
    rcases List.mem_cons.1 hx with hx' | hx' <;> rcases List.mem_cons.1 hy with hy' | hy'
    · rw [hx',hy']
    · subst hx'; have := h1 y hy'; omega
    · subst hy'; have := h1 x hx'; omega
    · exact ih h2 hx' hy'
theorem uniq_by {k : Le -> Int} : ∀ {l m : List Le},(∀ x y,x ∈ l -> y ∈ l -> x.addr = y.addr -> x = y) -> l.Pairwise (fun x y => ¬ ltBy k y x) -> m.Pairwise (fun x y => ¬ ltBy k y x) -> l.Perm m -> l = m
  | [],m,_,_,_,p => (List.Perm.eq_nil p.symm).symm
  | x :: l,[],_,_,_,p => absurd p.length_eq (by simp)
  | x :: l,y :: m,hi,h1,h2,p => by
    obtain ⟨a1,a2⟩ := List.pairwise_cons.1 h1
    obtain ⟨b1,b2⟩ := List.pairwise_cons.1 h2
    have hy : y ∈ x :: l := p.mem_iff.2 (List.mem_cons_self ..)
    have hx : x ∈ y :: m := p.mem_iff.1 (List.mem_cons_self ..)
    have e : x = y := by
      rcases List.mem_cons.1 hy with e | hy'
      · exact e.symm
      · rcases List.mem_cons.1 hx with e | hx'
        · exact e
        · have c1 := a1 y hy'
          have c2 := b1 x hx'
          refine hi x y (List.mem_cons_self ..) hy ?_
          unfold ltBy at c1 c2; omega
    subst e
    rw [uniq_by (fun u v hu hv => hi u v (List.mem_cons_of_mem _ hu) (List.mem_cons_of_mem _ hv)) a2 b2 (p.cons_inv)]
theorem uniq_of {k : Le -> Int} {l m t : List Le} (hr : Ris t) (ht : ∀ x,x ∈ l -> x ∈ t) (h1 : l.Pairwise fun x y => ¬ ltBy k y x) (h2 : m.Pairwise fun x y => ¬ ltBy k y x) (p : l.Perm m) : l = m :=
  uniq_by (fun x y hx hy e => ris_inj hr (ht x hx) (ht y hy) e) h1 h2 p
theorem ris_alike {l : List Le} (h : Ris l) : l.Pairwise fun x y => ¬ ltBy (fun _ => 0) y x := h.imp fun {x y} e => by unfold ltBy; dsimp only; omega
end Le
end Go.K
namespace Go.K
open Go.Sort
namespace Le
def yv (s : Le) : List Value := [agg s]
theorem tm_iff {n : Int} : tm n = true ↔ 0 <= n /\ n <= 1099511627776 := by unfold tm; simp
theorem held_iff {b : Int} : held b = true ↔ 2 <= b /\ b <= 4 := by unfold held; simp
theorem held_t {b : Int} (h : held b = true) : 2 <= b /\ b <= 4 := held_iff.1 h
theorem held_f {b : Int} (h : held b = false) : ¬ (2 <= b /\ b <= 4) := fun hc => by rw [held_iff.2 hc] at h; cases h
def tms (x : Le) (i : Nat) : Int := [x.till,x.acked,x.told,x.at_,x.ver].getD i 0
theorem right_iff {x : Le} : right x = true ↔ (0 <= x.till /\ x.till <= 1099511627776) /\ (0 <= x.acked /\ x.acked <= 1099511627776) /\ (0 <= x.told /\ x.told <= 1099511627776) /\ (0 <= x.at_ /\ x.at_ <= 1099511627776) /\ (0 <= x.ver /\ x.ver <= 1099511627776) /\ (0 <= x.bind /\ x.bind <= 5) /\
    ((2 <= x.bind /\ x.bind <= 4) /\ (1 <= x.client.size /\ x.client.size <= 32) \/ ¬ (2 <= x.bind /\ x.bind <= 4) /\ x.client.size = 0 /\ x.till = 0 /\ x.acked = 0 /\ x.told = 0 /\ x.at_ = 0) := by
  unfold right
  by_cases h : held x.bind = true
  · have hb := held_iff.1 h
    rw [if_pos h]
    simp only [Bool.and_eq_true,tm_iff,decide_eq_true_eq]
    constructor
    · rintro ⟨⟨⟨⟨⟨⟨h1,h2⟩,h3⟩,h4⟩,h5⟩,h6⟩,h7⟩
      exact ⟨h1,h2,h3,h4,h5,by omega,.inl ⟨hb,by omega⟩⟩
    · rintro ⟨h1,h2,h3,h4,h5,h6,h7⟩
      refine ⟨⟨⟨⟨⟨⟨h1,h2⟩,h3⟩,h4⟩,h5⟩,by omega⟩,by omega⟩
  · have hb : ¬ (2 <= x.bind /\ x.bind <= 4) := fun hc => h (held_iff.2 hc)
    rw [if_neg h]
    simp only [Bool.and_eq_true,tm_iff,decide_eq_true_eq]
    constructor
    · rintro ⟨⟨⟨⟨⟨⟨h1,h2⟩,h3⟩,h4⟩,h5⟩,h6⟩,⟨⟨⟨h7,h8⟩,h9⟩,h10⟩,h11⟩
      exact ⟨h1,h2,h3,h4,h5,by omega,.inr ⟨hb,h7,h8,h9,h10,h11⟩⟩
    · rintro ⟨h1,h2,h3,h4,h5,h6,h7⟩
      refine ⟨⟨⟨⟨⟨⟨h1,h2⟩,h3⟩,h4⟩,h5⟩,by omega⟩,⟨⟨⟨?_,?_⟩,?_⟩,?_⟩,?_⟩ <;> omega
theorem right_t {x : Le} (h : (0 <= x.till /\ x.till <= 1099511627776) /\ (0 <= x.acked /\ x.acked <= 1099511627776) /\ (0 <= x.told /\ x.told <= 1099511627776) /\ (0 <= x.at_ /\ x.at_ <= 1099511627776) /\ (0 <= x.ver /\ x.ver <= 1099511627776) /\ (0 <= x.bind /\ x.bind <= 5) /\
    ((2 <= x.bind /\ x.bind <= 4) /\ (1 <= x.client.size /\ x.client.size <= 32) \/ ¬ (2 <= x.bind /\ x.bind <= 4) /\ x.client.size = 0 /\ x.till = 0 /\ x.acked = 0 /\ x.told = 0 /\ x.at_ = 0)) : true = right x := (right_iff.2 h).symm
theorem right_f {x : Le} (h : ¬ ((0 <= x.till /\ x.till <= 1099511627776) /\ (0 <= x.acked /\ x.acked <= 1099511627776) /\ (0 <= x.told /\ x.told <= 1099511627776) /\ (0 <= x.at_ /\ x.at_ <= 1099511627776) /\ (0 <= x.ver /\ x.ver <= 1099511627776) /\ (0 <= x.bind /\ x.bind <= 5) /\
    ((2 <= x.bind /\ x.bind <= 4) /\ (1 <= x.client.size /\ x.client.size <= 32) \/ ¬ (2 <= x.bind /\ x.bind <= 4) /\ x.client.size = 0 /\ x.till = 0 /\ x.acked = 0 /\ x.told = 0 /\ x.at_ = 0))) : false = right x := by
  cases hr : right x with
  | false => rfl
  | true => exact absurd (right_iff.1 hr) h
theorem right_d {x : Le} {p : Prop} [Decidable p] (h : p ↔ ((0 <= x.till /\ x.till <= 1099511627776) /\ (0 <= x.acked /\ x.acked <= 1099511627776) /\ (0 <= x.told /\ x.told <= 1099511627776) /\ (0 <= x.at_ /\ x.at_ <= 1099511627776) /\ (0 <= x.ver /\ x.ver <= 1099511627776) /\ (0 <= x.bind /\ x.bind <= 5) /\
    ((2 <= x.bind /\ x.bind <= 4) /\ (1 <= x.client.size /\ x.client.size <= 32) \/ ¬ (2 <= x.bind /\ x.bind <= 4) /\ x.client.size = 0 /\ x.till = 0 /\ x.acked = 0 /\ x.told = 0 /\ x.at_ = 0))) : decide p = right x := by
  rw [Bool.eq_iff_iff,decide_eq_true_eq,right_iff]; exact h
def same (x y : Le) : Bool := eqVs x.cells y.cells
theorem same_self (x : Le) : same x x = true := by simp [same,cells,eqVs,eqV]
theorem same_eq {x y : Le} : same x y = true ↔ x = y := by
  constructor
  · intro h
    simp only [same,cells,eqVs,eqV,Bool.and_eq_true,beq_iff_eq,Bool.and_true] at h
    obtain ⟨h1,h2,h3,h4,h5,h6,h7,h8⟩ := h
    have h3 : x.client = y.client := by
      apply ByteArray.ext; apply Array.toList_inj.1
      rw [ByteArray.toList_eq,ByteArray.toList_eq] at h3; exact h3
    cases x; cases y; simp_all
  · rintro rfl; exact same_self x
theorem nil_size {s : ByteArray} : s = ⟨#[]⟩ ↔ s.size = 0 := by
  constructor
  · rintro rfl; rfl
  · intro h; apply ByteArray.ext; exact Array.eq_empty_of_size_eq_zero h
theorem str0 (s : ByteArray) : (s.toList == (⟨#[]⟩ : ByteArray).toList) = decide (s.size = 0) := by
  have h1 : s.toList.length = s.size := by rw [ByteArray.toList_eq]; simp
  have h2 : (⟨#[]⟩ : ByteArray).toList = [] := by rw [ByteArray.toList_eq]
  rw [h2]
  cases h : s.toList with
  | nil => rw [h] at h1; simp at h1; simp [<- h1]
  | cons x l => rw [h] at h1; simp at h1; simp [<- h1]
theorem str0_t {s : ByteArray} (h : (s.toList == (⟨#[]⟩ : ByteArray).toList) = true) : s.size = 0 := by rw [str0] at h; exact of_decide_eq_true h
theorem str0_f {s : ByteArray} (h : (s.toList == (⟨#[]⟩ : ByteArray).toList) = false) : 1 <= s.size := by rw [str0] at h; have := of_decide_eq_false h; omega
theorem same_bare {x : Le} : same x ⟨x.addr,x.bind,⟨#[]⟩,0,0,0,0,x.ver⟩ = true ↔ x.client.size = 0 /\ x.till = 0 /\ x.acked = 0 /\ x.told = 0 /\ x.at_ = 0 := by
  rw [same_eq,<- nil_size]
  constructor
  · intro h; rw [h]; exact ⟨rfl,rfl,rfl,rfl,rfl⟩
  · rintro ⟨h1,h2,h3,h4,h5⟩; cases x; simp_all
theorem right_s {x : Le} (h1 : (0 <= x.till /\ x.till <= 1099511627776) /\ (0 <= x.acked /\ x.acked <= 1099511627776) /\ (0 <= x.told /\ x.told <= 1099511627776) /\ (0 <= x.at_ /\ x.at_ <= 1099511627776) /\ (0 <= x.ver /\ x.ver <= 1099511627776)) (h2 : 0 <= x.bind /\ x.bind <= 5) (h3 : ¬ (2 <= x.bind /\ x.bind <= 4)) : same x ⟨x.addr,x.bind,⟨#[]⟩,0,0,0,0,x.ver⟩ = right x := by
  rw [Bool.eq_iff_iff,same_bare,right_iff]
  constructor
  · intro h; exact ⟨h1.1,h1.2.1,h1.2.2.1,h1.2.2.2.1,h1.2.2.2.2,h2,.inr ⟨h3,h⟩⟩
  · rintro ⟨_,_,_,_,_,_,h | h⟩
    · exact absurd h.1 h3
    · exact h.2
theorem tms_all {x : Le} (h : ∀ j,j < 5 -> tm (tms x j) = true) : (0 <= x.till /\ x.till <= 1099511627776) /\ (0 <= x.acked /\ x.acked <= 1099511627776) /\ (0 <= x.told /\ x.told <= 1099511627776) /\ (0 <= x.at_ /\ x.at_ <= 1099511627776) /\ (0 <= x.ver /\ x.ver <= 1099511627776) :=
  ⟨tm_iff.1 (h 0 (by omega)),tm_iff.1 (h 1 (by omega)),tm_iff.1 (h 2 (by omega)),tm_iff.1 (h 3 (by omega)),tm_iff.1 (h 4 (by omega))⟩
theorem tms_not {x : Le} {j : Nat} (hj : j < 5) (h : tms x j < 0 \/ tms x j > 1099511627776) : false = right x := by
  refine right_f fun hc => ?_
  match j,hj with
  | 0,_ => have h : x.till < 0 \/ x.till > 1099511627776 := h; omega
  | 1,_ => have h : x.acked < 0 \/ x.acked > 1099511627776 := h; omega
  | 2,_ => have h : x.told < 0 \/ x.told > 1099511627776 := h; omega
  | 3,_ => have h : x.at_ < 0 \/ x.at_ > 1099511627776 := h; omega
  | 4,_ => have h : x.ver < 0 \/ x.ver > 1099511627776 := h; omega
def ofv : Value -> Le
  | .agg c => match c.toList with
    | [.int _ a,.int _ b,.string s,.int _ t,.int _ k,.int _ d,.int _ e,.int _ v] => ⟨a,b,s,t,k,d,e,v⟩
    | _ => dflt
  | _ => dflt
theorem mt_perm {l m : List Le} (h : (mt l).Perm (mt m)) : l.Perm m := by
  have h1 := h.map fun p => ofv p.2
  have e : ∀ l : List Le,(mt l).map (fun p => ofv p.2) = l := fun l => by
    unfold mt; rw [List.map_map]
    conv => rhs; rw [<- List.map_id l]
    rfl
  rw [e,e] at h1; exact h1
theorem mt_snoc (l : List Le) (x : Le) : mt (l ++ [x]) = mt l ++ [(x.addr,agg x)] := by unfold mt; simp
theorem mt_len (l : List Le) : (mt l).length = l.length := by unfold mt; simp
theorem mt_mem {l : List Le} {k : Int} {u : Value} (h : (k,u) ∈ mt l) : ∃ x,x ∈ l /\ k = x.addr /\ u = agg x := by
  obtain ⟨x,hx,he⟩ := List.mem_map.1 h
  simp only [Prod.mk.injEq] at he
  exact ⟨x,hx,he.1.symm,he.2.symm⟩
theorem fil_yes {f : Le -> Bool} {l : List Le} {x : Le} (h : f x = true) : (l ++ [x]).filter f = l.filter f ++ [x] := by rw [List.filter_append]; simp [h]
theorem fil_no {f : Le -> Bool} {l : List Le} {x : Le} (h : f x = false) : (l ++ [x]).filter f = l.filter f := by rw [List.filter_append]; simp [h]
theorem fil_le (f : Le -> Bool) (l : List Le) : (l.filter f).length <= l.length := List.length_filter_le f l
theorem sorted_eq {k : Le -> Int} {f : Le -> Bool} {l xs ys z : List Le} (hr : Ris l) (h1 : xs.Perm (l.filter f)) (h2 : ys.Perm xs) (h3 : Srt (ltc (cmpBy k)) ys) (hz : z.Perm (l.filter f)) (hs : z.Pairwise fun x y => ¬ ltBy k y x) : ys = z :=
  uniq_of hr (fun x hx => (List.mem_filter.1 ((h2.trans h1).mem_iff.1 hx)).1) (srtBy h3) hs ((h2.trans h1).trans hz.symm)
theorem swoBy (k : Le -> Int) : SWO (ltc (cmpBy k)) := by
  have e : ∀ x y : Le,ltc (cmpBy k) x y = decide (k x < k y \/ (k x = k y /\ x.addr < y.addr)) := fun x y => Bool.eq_iff_iff.2 ((cmpBy_neg k x y).trans (decide_eq_true_iff (p := k x < k y \/ (k x = k y /\ x.addr < y.addr))).symm)
  constructor
  all_goals simp only [e]
  · intro x; rw [decide_eq_false_iff_not]; omega
  · intro x y z h1 h2; rw [decide_eq_true_eq] at *; omega
  · intro x y z h1 h2; rw [decide_eq_false_iff_not] at *; omega
end Le
end Go.K
