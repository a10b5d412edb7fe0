/- The addresses of some ranges, one by one, in plain Lean.
Conditions: none; no program in sight. -/
import Derived.Test.YtfgblingojgafaaGreatRA
import Derived.Test.YtfgblingojgafaaGreatSA
import Derived.Test.YtfgblingojgafaaGreatKA
set_option linter.unusedSimpArgs false
set_option linter.unusedVariables false
set_option linter.unusedSectionVars false
namespace Go.K
namespace Rg
def run (r : Rg) : List Int := (List.range (size r).toNat).map fun (i : Nat) => r.low + (i : Int)
def adr (l : List Rg) : List Int := l.flatMap run
theorem run_len (r : Rg) : (run r).length = (size r).toNat := by unfold run; simp
theorem adr_take {l : List Rg} {i : Nat} (h : i < l.length) : adr (l.take (i + 1)) = adr (l.take i) ++ run (l.getD i dflt) := by unfold adr; rw [take_succ_getD l i dflt h]; simp
theorem adr_len_take {l : List Rg} {i : Nat} (h : i < l.length) : (adr (l.take (i + 1))).length = (adr (l.take i)).length + (size (l.getD i dflt)).toNat := by rw [adr_take h,List.length_append,run_len]
theorem adr_cut (l : List Rg) (i : Nat) : adr l = adr (l.take i) ++ adr (l.drop i) := by unfold adr; rw [<- List.flatMap_append,List.take_append_drop]
theorem adr_at {l : List Rg} {i j : Nat} (h : i < l.length) (hj : (j : Int) < size (l.getD i dflt)) : (adr (l.take i)).length + j < (adr l).length /\ (adr l).getD ((adr (l.take i)).length + j) 0 = (l.getD i dflt).low + (j : Int) := by
  have hr : j < (run (l.getD i dflt)).length := by rw [run_len]; omega
  rw [adr_cut l (i + 1),adr_take h]
  refine ⟨by rw [List.length_append,List.length_append]; omega,?_⟩
  rw [List.getD_eq_getElem?_getD,List.getElem?_append_left (by rw [List.length_append]; omega),List.getElem?_append_right (by omega),show (adr (l.take i)).length + j - (adr (l.take i)).length = j by omega]
  unfold run
  rw [List.getElem?_map,List.getElem?_range (by omega)]; rfl
theorem adr_len_le : ∀ {l : List Rg},Oks l -> (adr l).length <= 4294967296 * l.length
  | [],_ => by simp [adr]
  | r :: l,h => by
    have ih := adr_len_le (l := l) fun q hq => h q (List.mem_cons_of_mem _ hq)
    have hr := (h r (List.mem_cons_self ..)).all
    have e : adr (r :: l) = run r ++ adr l := by simp [adr]
    rw [e,List.length_append,run_len,List.length_cons]; unfold size; omega
def ix (as_ : List Int) : List (Int × Int) := (List.range as_.length).map fun (i : Nat) => ((i : Int),as_.getD i 0)
def iv (p : Int × Int) : List Value := [.int .i64 p.1,.int .u32 p.2]
theorem ix_len (as_ : List Int) : (ix as_).length = as_.length := by unfold ix; simp
theorem ix_at {as_ : List Int} {k : Nat} (h : k < as_.length) : (ix as_)[k]? = some ((k : Int),as_.getD k 0) := by
  unfold ix; rw [List.getElem?_map,List.getElem?_range h]; rfl
theorem ix_take {as_ : List Int} {k : Nat} (h : k < as_.length) : (ix as_).take (k + 1) = (ix as_).take k ++ [((k : Int),as_.getD k 0)] := by
  rw [List.take_add_one,ix_at h]; rfl
theorem ix_mem {as_ : List Int} {k : Nat} (h : k < as_.length) : ((k : Int),as_.getD k 0) ∈ ix as_ := List.mem_of_getElem? (ix_at h)
theorem ix_full (as_ : List Int) : (ix as_).take as_.length = ix as_ := List.take_of_length_le (by rw [ix_len]; exact Nat.le_refl _)
theorem snoc_all {p : Int × Int -> Prop} {xs : List (Int × Int)} {x : Int × Int} (h : ∀ q,q ∈ xs -> p q) (hx : p x) : ∀ q,q ∈ xs ++ [x] -> p q := fun q hq => by
  rcases List.mem_append.1 hq with hq | hq
  · exact h q hq
  · rw [List.mem_singleton] at hq; subst hq; exact hx
def at_ (as_ : List Int) (n : Int) : Int × Int := if 0 <= n /\ n < as_.length then (as_.getD n.toNat 0,0) else (0,4)
theorem at_none {as_ : List Int} {n : Int} (h : ∀ p,p ∈ ix as_ -> p.1 ≠ n) : at_ as_ n = (0,4) := by
  unfold at_
  by_cases hc : 0 <= n /\ n < as_.length
  · exfalso
    have := h _ (ix_mem (as_ := as_) (k := n.toNat) (by omega))
    simp only at this; omega
  · rw [if_neg hc]
theorem snoc_inj {ys zs : List (Int × Int)} {p q : Int × Int} (h : ys ++ [p] = zs ++ [q]) : ys = zs /\ p = q := by
  have := List.append_inj' h rfl
  exact ⟨this.1,by simpa using this.2⟩
theorem at_some {as_ : List Int} {n : Int} {xs ys : List (Int × Int)} {p : Int × Int} (hS : ∃ k,k < as_.length /\ xs = (ix as_).take (k + 1)) (hx : xs = ys ++ [p]) (hp : p.1 = n) : at_ as_ n = (p.2,0) := by
  obtain ⟨k,hk,e⟩ := hS
  rw [ix_take hk,hx] at e
  obtain ⟨_,rfl⟩ := snoc_inj e
  simp only at hp; subst hp
  unfold at_; rw [if_pos ⟨by omega,by omega⟩]; rfl
end Rg
end Go.K
namespace Go.K
theorem and_low2 (n c d : Int) (j : Nat) (hj : j <= 62) (hc : c = ((2 ^ j - 1 : Nat) : Int)) (hd : d = ((2 ^ j : Nat) : Int)) : IntKind.i64.wrap ((BitVec.ofInt IntKind.i64.bits n &&& BitVec.ofInt IntKind.i64.bits c).toNat : Int) = n % d := by
  have hb : IntKind.i64.bits = 64 := rfl
  have hp : (2 : Nat) ^ j <= 2 ^ 62 := Nat.pow_le_pow_right (by decide) hj
  have hp0 : 0 < (2 : Nat) ^ j := Nat.two_pow_pos j
  rw [hb,BitVec.toNat_and,BitVec.toNat_ofInt,BitVec.toNat_ofInt,hc,hd]
  have e2 : (((2 ^ j - 1 : Nat) : Int) % ((2 ^ 64 : Nat) : Int)).toNat = 2 ^ j - 1 := by
    have : ((2 ^ 64 : Nat) : Int) = 18446744073709551616 := rfl
    rw [this]; omega
  rw [e2,Nat.and_two_pow_sub_one_eq_mod]
  have hm : (n % ((2 ^ 64 : Nat) : Int)).toNat % 2 ^ j < 2 ^ j := Nat.mod_lt _ hp0
  rw [wrap_i64 (by omega)]
  have hnn : 0 <= n % ((2 ^ 64 : Nat) : Int) := Int.emod_nonneg _ (by decide)
  rw [Int.natCast_emod,Int.toNat_of_nonneg hnn]
  refine Int.emod_emod_of_dvd n ?_
  exact Int.natCast_dvd_natCast.2 (Nat.pow_dvd_pow 2 (by omega))
section
variable {C : Cx} {V : Vw} {H : Hp} {L : Sl} {ty : TypeId}
end
namespace Rg
def fg (n : Nat) : List UInt8 := if n < 10 then [UInt8.ofNat (48 + n)] else fg (n / 10) ++ fg (n % 10)
termination_by n
decreasing_by all_goals omega
def fgS (n : Nat) : ByteArray := ⟨(fg n).toArray⟩
def prt (m i : Nat) : Nat := m / 2 ^ (24 - 8 * i) % 256
def dot : ByteArray := ⟨#[46]⟩
def txtU (m : Nat) : Nat -> ByteArray
  | 0 => ⟨#[]⟩
  | i + 1 => (if i > 0 then txtU m i ++ dot else txtU m i) ++ fgS (prt m i)
def txt (m : Nat) : ByteArray := txtU m 4
theorem nil_size : (⟨#[]⟩ : ByteArray).size = 0 := rfl
end Rg
end Go.K
namespace Go.K
namespace Rg
def l0 : List Rg := [⟨5,7⟩,⟨1,4⟩]
def l1 : List Rg := [⟨1,7⟩]
theorem mem_run {r : Rg} {a : Int} : a ∈ run r ↔ r.low <= a /\ a <= r.high := by
  unfold run size
  simp only [List.mem_map,List.mem_range]
  constructor
  · rintro ⟨i,hi,rfl⟩; omega
  · intro h; exact ⟨(a - r.low).toNat,by omega,by omega⟩
theorem mem_adr {l : List Rg} {a : Int} : a ∈ adr l ↔ In l a := by
  unfold adr In
  simp only [List.mem_flatMap,mem_run]
theorem adr_up : ∀ {l : List Rg},Can l -> (adr l).Pairwise (· < ·)
  | [],_ => List.Pairwise.nil
  | r :: l,h => by
    have h2 := List.pairwise_cons.1 h.2
    have e : adr (r :: l) = run r ++ adr l := by simp [adr]
    rw [e,List.pairwise_append]
    refine ⟨?_,adr_up ⟨fun q hq => h.1 q (List.mem_cons_of_mem _ hq),h2.2⟩,fun a ha b hb => ?_⟩
    · unfold run
      rw [List.pairwise_map]
      exact List.pairwise_lt_range.imp fun hh => by omega
    · obtain ⟨q,hq,q1,q2⟩ := mem_adr.1 hb
      have := h2.1 q hq
      have := mem_run.1 ha
      omega
theorem cnt_adr : ∀ {l : List Rg},(∀ r,r ∈ l -> r.low <= r.high) -> cnt l = ((adr l).length : Int)
  | [],_ => rfl
  | r :: l,h => by
    have ih := cnt_adr (l := l) fun q hq => h q (List.mem_cons_of_mem _ hq)
    have hr := h r (List.mem_cons_self ..)
    have e : adr (r :: l) = run r ++ adr l := by simp [adr]
    have e2 : cnt (r :: l) = size r + cnt l := by simp [cnt]
    rw [e,e2,ih,List.length_append,run_len]; unfold size; omega
theorem at_at {as_ : List Int} {i : Nat} (hi : i < as_.length) : at_ as_ (i : Int) = (as_.getD i 0,0) := by
  unfold at_; rw [if_pos ⟨by omega,by omega⟩]; rfl
theorem at_out {as_ : List Int} {n : Int} (h : n < 0 \/ (as_.length : Int) <= n) : at_ as_ n = (0,4) := by
  unfold at_; rw [if_neg (by omega)]
end Rg
end Go.K
namespace Go.K
section
variable {P : Program} {ops : Array Oper} {md : Region.Mode} {D : World -> Prop} {Q : Exit -> Act -> World -> Prop}
end
section
variable {C : Cx} {V : Vw} {H : Hp} {L : Sl} {Q : Exit -> Act -> World -> Prop} {ops : Array Oper} {os : List Oper}
theorem RunI.on {o : Oper} {j : Nat} {t : Bool} {d : Nat} {b : Bool} (hg : o.guard = some (j,t)) (hj : ((ops[j]?).bind (·.dst)) = some d) (hb : L.lookup d = some (.bool b)) (e : b = t)
    (k : RunI C ops V H L (⟨o.dst,o.op,o.type,o.pos,o.after,none⟩ :: os) Q) : RunI C ops V H L (o :: os) Q := fun a w i => by
  have h := k a w i
  have hw : Region.wanted o (yielded ops a.tmps) = true := by
    simp only [Region.wanted,hg,yielded,hj,Option.bind_some,i.1.lk d _ hb,e,beq_self_eq_true]
  unfold wpListIn at h ⊢
  rw [if_pos hw]
  rw [if_pos (by simp [Region.wanted])] at h
  exact h
theorem RunI.off {o : Oper} {j : Nat} {t : Bool} {d dd : Nat} {b : Bool} (hg : o.guard = some (j,t)) (hj : ((ops[j]?).bind (·.dst)) = some d) (hb : L.lookup d = some (.bool b)) (e : b = !t) (hd : o.dst = some dd) (hn : dd < C.n)
    (k : RunI C ops V H ((dd,undef) :: L) os Q) : RunI C ops V H L (o :: os) Q := fun a w i => by
  have hw : Region.wanted o (yielded ops a.tmps) = false := by
    simp only [Region.wanted,hg,yielded,hj,Option.bind_some,i.1.lk d _ hb,e]; cases t <;> rfl
  unfold wpListIn
  rw [if_neg (by rw [hw]; decide)]
  refine ⟨fun _ _ => trivial,?_⟩
  rw [hd]
  exact k _ w ⟨i.1.put hn undef,i.2⟩
end
end Go.K
namespace Go.K
open Go.MapKept
section
variable {C : Cx} {V : Vw} {H : Hp} {L : Sl} {Q : Exit -> Act -> World -> Prop} {ops : Array Oper} {os : List Oper}
variable {ty : TypeId} {pos : String} {aft : Array Edge} {d : Nat}
theorem Ex.recut {e : Exit} {H' : Hp} (p : H'.flatten.Perm H.flatten) (k : Ex C V H' L Q e) : Ex C V H L Q e := fun a w i => k a w ⟨i.1,i.2.recut p⟩
theorem Does.recut {P : Program} {f : FuncId} {args : List Value} {H' : Hp} {R : Value -> Vw -> Hp -> Prop} (h : Does P f args V H R) (p : H'.flatten.Perm H.flatten) : Does P f args V H' R :=
  ⟨h.1,fun B hB => (h.2 B ((hB.recut p.symm).memS (fun b => (p.map (·.1)).mem_iff))).mono fun e w' ⟨v,V',H2,q1,q2,q3⟩ => ⟨v,V',H2,q1,q2,q3.memS (fun b => ((p.map (·.1)).mem_iff).symm)⟩⟩
end
end Go.K
namespace Go.K
section
variable {C : Cx} {V : Vw} {H : Hp} {L : Sl} {Q : Exit -> Act -> World -> Prop}
end
end Go.K
namespace Go.K
theorem setL_size : ∀ (vs l : List Value) (off : Nat),(setL l off vs).length = l.length
  | [],_,_ => rfl
  | v :: vs,l,off => by show (setL (l.set off v) (off + 1) vs).length = _; rw [setL_size vs]; simp
theorem setL_same {N : Nat} : ∀ (vs c xs : List Value) (off : Nat),(∀ m,m < N -> c[m]? = xs[m]?) -> off + vs.length <= N -> N <= c.length -> N <= xs.length -> ∀ m,m < N -> (setL c off vs)[m]? = (setL xs off vs)[m]?
  | [],_,_,_,h,_,_,_ => h
  | v :: vs,c,xs,off,h,h1,h2,h3 => by
    simp only [List.length_cons] at h1
    refine setL_same vs (c.set off v) (xs.set off v) (off + 1) (fun m hm => ?_) (by omega) (by simpa using h2) (by simpa using h3)
    rw [List.getElem?_set,List.getElem?_set]
    by_cases e : off = m
    · rw [if_pos e,if_pos e,if_pos (by omega),if_pos (by omega)]
    · rw [if_neg e,if_neg e]; exact h m hm
theorem flat_setL {α : Type} {f : α -> List Value} {k : Nat} (h : Enc f k) {l : List α} {i : Nat} {x : α} (hi : i < l.length) : setL (l.flatMap f) (i * k) (f x) = (l.set i x).flatMap f := by
  have := flat_set h [] x l i hi
  simpa using this
section
variable {C : Cx} {V : Vw} {H : Hp} {L : Sl} {Q : Exit -> Act -> World -> Prop} {ops : Array Oper} {os : List Oper}
variable {ty : TypeId} {pos : String} {aft : Array Edge} {d : Nat}
theorem Run.stOA {α : Type} {f : α -> List Value} {x y : Operand} {t e k n c j i : Nat} {p : Option Addr} {l : List α} {u : α} {s : Sg} (hz : Enc f k) (hk0 : 0 < k) (hx : ev L x = some (elp p (i * k))) (hy : ev L y = some (.agg (f u).toArray)) (ht : sizeT C.P t = some k) (ho : Ow e k (.slice p n c) n (l.flatMap f) s) (hi : H[j]? = some s) (hil : i < l.length) (h1 : (f u).all one = true)
    (kk : ∀ s',Ow e k (.slice p n c) n ((l.set i u).flatMap f) s' -> Run C ops V (H.set j s') L os Q) : Run C ops V H L (⟨none,.store t x y,ty,pos,aft,none⟩ :: os) Q := by
  obtain ⟨h1',⟨_,h2,_⟩ | ⟨b,cap,cur,h2,h3,h4,h5,h6,h7⟩⟩ := ho
  · exfalso
    subst h2; rw [flat_len hz] at h1'
    have := Nat.mul_pos (show 0 < l.length by omega) hk0
    omega
  · cases h2; subst h3
    rw [flat_len hz] at h1'
    have hik : i * k + k <= n * k := by rw [<- h1',<- Nat.succ_mul]; exact Nat.mul_le_mul_right _ hil
    have hnc : n * k <= c * k := Nat.mul_le_mul_right _ h4
    refine Run.store (s := [(b,.cells (setL cur.toList (i * k) (f u)).toArray e (0,0))]) (c := cur.toList) (by rw [elp_some,Nat.zero_add] at hx; exact hx) hy ht (by rw [hi]) (by show (f u).toArray.size = k; simp [hz.len]) (by rw [Array.length_toList,h6]; omega) (by show (f u).toArray.toList.all one = true; simpa using h1) rfl (kk _ ?_)
    refine ⟨by rw [flat_len hz,List.length_set]; exact h1',.inr ⟨b,c,_,rfl,rfl,h4,h5,by rw [List.size_toArray,setL_size,Array.length_toList]; exact h6,fun m hm => ?_⟩⟩
    rw [<- flat_setL hz hil,List.getElem?_toArray]
    exact setL_same (N := n * k) (f u) cur.toList (l.flatMap f) (i * k) (fun m hm => by rw [Array.getElem?_toList]; exact h7 m hm) (by rw [hz.len]; exact hik) (by rw [Array.length_toList,h6]; exact hnc) (by rw [flat_len hz]; omega) m hm
end
end Go.K
namespace Go.K
section
variable {C : Cx} {V : Vw} {H : Hp} {L : Sl} {Q : Exit -> Act -> World -> Prop} {l : Nat}
end
end Go.K
namespace Go.K
theorem Does.outcut {P : Program} {f : FuncId} {args : List Value} {V : Vw} {H : Hp} {R R' : Value -> Vw -> Hp -> Prop} (h : Does P f args V H R) (k : ∀ v V' H',R v V' H' -> ∃ H2,H2.flatten.Perm H'.flatten /\ R' v V' H2) : Does P f args V H R' :=
  ⟨h.1,fun B hB => (h.2 B hB).mono fun e w' ⟨v,V',H',q1,q2,q3⟩ => let ⟨H2,p,r⟩ := k v V' H' q2; ⟨v,V',H2,q1,r,q3.recut p⟩⟩
theorem one_piece (H : Hp) : ([H.flatten] : Hp).flatten.Perm H.flatten := List.Perm.of_eq (by simp)
theorem Does.one {P : Program} {f : FuncId} {args : List Value} {V : Vw} {H : Hp} {R : Value -> Vw -> Hp -> Prop} (h : Does P f args V H R) : Does P f args V [H.flatten] R := h.recut (one_piece H)
theorem two_piece (s : Sg) (H : Hp) : ([s,H.flatten] : Hp).flatten.Perm (s :: H).flatten := List.Perm.of_eq (by simp)
end Go.K
namespace Go.K
theorem Om.form {kk : IntKind} {v : Value} {l : List (Int × Value)} {s : Sg} (h : Om kk v l s) : ∃ b,v = .map (some b) := by
  obtain ⟨b,_,_,e,_⟩ := h; exact ⟨b,e⟩
theorem Does.frameP {P : Program} {f : FuncId} {args : List Value} {v0 : Value} {V : Vw} {H Hf Hc : Hp} (h : Does P f args V Hc (Pv v0 V Hc)) (p : (Hf ++ Hc).Perm H) : Does P f args V H (Pv v0 V H) :=
  ⟨h.1,fun B hB => (h.2 B (hB.perm p).give).mono fun e w' ⟨v,V',H',he,hR,s⟩ => by
    obtain ⟨h1,h2,h3⟩ := hR
    subst h1 h2 h3
    exact ⟨v,V',H,he,⟨rfl,rfl,rfl⟩,((hB.perm p).take s).perm p.symm⟩⟩
theorem erase_perm {α : Type} : ∀ {l : List α} {j : Nat} {x : α},l[j]? = some x -> (l.eraseIdx j ++ [x]).Perm l
  | [],_,_,h => by cases h
  | y :: l,0,x,h => by
    simp only [List.getElem?_cons_zero,Option.some.injEq] at h; subst h
    exact List.perm_append_comm (l₂ := [y])
  | y :: l,j + 1,x,h => by
    simp only [List.getElem?_cons_succ] at h
    exact (erase_perm h).cons y
theorem Does.frame1 {P : Program} {f : FuncId} {args : List Value} {v0 : Value} {V : Vw} {H : Hp} {s : Sg} (j : Nat) (hj : H[j]? = some s) (h : Does P f args V [s] (Pv v0 V [s])) : Does P f args V H (Pv v0 V H) := h.frameP (erase_perm hj)
section
variable {C : Cx} {V : Vw} {H : Hp} {L : Sl} {Q : Exit -> Act -> World -> Prop} {ops : Array Oper} {os : List Oper}
variable {ty : TypeId} {pos : String} {aft : Array Edge} {d : Nat}
variable {α : Type} {f : α -> Value}
def pm (f : α -> Value) (l : List (Int × α)) : List (Int × Value) := l.map fun x => (x.1,f x.2)
end
end Go.K
namespace Go.K
open Go.Sort
namespace Le
instance : Inhabited Le := ⟨Le.dflt⟩
theorem enc1 : Enc Le.cells 8 := ⟨fun _ => rfl,fun _ => rfl⟩
def agg (x : Le) : Value := .agg x.cells.toArray
def mt (l : List Le) : List (Int × Value) := l.map fun x => (x.addr,agg x)
def Ris (l : List Le) : Prop := l.Pairwise fun x y => x.addr < y.addr
def get (l : List Le) (a : Int) : Option Le := l.find? fun x => x.addr == a
theorem mt_get (l : List Le) (a : Int) : mget (mt l) a = (get l a).map agg := by
  unfold mget mt get
  induction l with
  | nil => rfl
  | cons x l ih =>
    simp only [List.map_cons,List.lookup_cons,List.find?_cons,ih]
    by_cases h : x.addr = a
    · subst h; simp
    · have h1 : (a == x.addr) = false := by simp; exact fun e => h e.symm
      have h2 : (x.addr == a) = false := by simp [h]
      rw [h1,h2]
def put (l : List Le) (x : Le) : List Le := l.map fun y => if y.addr = x.addr then x else y
theorem put_len (l : List Le) (x : Le) : (put l x).length = l.length := by unfold put; simp
theorem put_ris {l : List Le} (h : Ris l) (x : Le) : Ris (put l x) := by
  unfold put Ris
  rw [List.pairwise_map]
  refine h.imp fun {a b} hab => ?_
  split <;> split <;> omega
theorem put_same {l : List Le} {x : Le} (h : ∀ y,y ∈ l -> y.addr ≠ x.addr) : put l x = l := by
  unfold put
  conv => rhs; rw [<- List.map_id l]
  exact List.map_congr_left fun y hy => if_neg (h y hy)
theorem mt_put {l : List Le} (hr : Ris l) {x : Le} (h : get l x.addr ≠ none) : mset (mt l) x.addr (agg x) = mt (put l x) := by
  induction l with
  | nil => exact absurd rfl h
  | cons y l ih =>
    obtain ⟨h1,h2⟩ := List.pairwise_cons.1 hr
    show (if y.addr = x.addr then _ else _) = _
    by_cases e : y.addr = x.addr
    · rw [if_pos e]
      have : put (y :: l) x = x :: l := by
        show (if y.addr = x.addr then x else y) :: put l x = _
        rw [if_pos e,put_same fun z hz => by have := h1 z hz; omega]
      rw [this]; rfl
    · rw [if_neg e]
      have hg : get l x.addr ≠ none := by
        unfold get at h ⊢
        rw [List.find?_cons_of_neg (by simp [e])] at h; exact h
      rw [show List.map (fun x : Le => (x.addr,agg x)) l = mt l from rfl,ih h2 hg]
      show _ = mt ((if y.addr = x.addr then x else y) :: put l x)
      rw [if_neg e]; rfl
theorem get_at {l : List Le} {a : Int} {i : Nat} (h : ∀ j,j < i -> (l.getD j dflt).addr ≠ a) (hi : i < l.length) (he : (l.getD i dflt).addr = a) : get l a = some (l.getD i dflt) := by
  unfold get
  induction l generalizing i with
  | nil => simp at hi
  | cons x l ih =>
    cases i with
    | zero => rw [List.find?_cons_of_pos (by simpa using he)]; rfl
    | succ i =>
      have h0 := h 0 (by omega)
      rw [List.find?_cons_of_neg (by simpa using h0)]
      exact ih (i := i) (fun j hj => by have := h (j + 1) (by omega); simpa using this) (by simpa using hi) (by simpa using he)
theorem get_no {l : List Le} {a : Int} (h : ∀ j,j < l.length -> (l.getD j dflt).addr ≠ a) : get l a = none := by
  unfold get
  rw [List.find?_eq_none]
  intro x hx
  obtain ⟨i,hi,rfl⟩ := List.getElem_of_mem hx
  have := h i hi
  rw [List.getD_eq_getElem?_getD,List.getElem?_eq_getElem hi] at this
  simpa using this
theorem put_at {l : List Le} (hr : Ris l) {x : Le} {i : Nat} (hi : i < l.length) (he : (l.getD i dflt).addr = x.addr) : l.set i x = put l x := by
  induction l generalizing i with
  | nil => simp at hi
  | cons y l ih =>
    obtain ⟨h1,h2⟩ := List.pairwise_cons.1 hr
    cases i with
    | zero =>
      have he : y.addr = x.addr := he
      show x :: l = (if y.addr = x.addr then x else y) :: put l x
      rw [if_pos he,put_same fun z hz => by have := h1 z hz; omega]
    | succ i =>
      have hi' : i < l.length := by simpa using hi
      have he' : (l.getD i dflt).addr = x.addr := by simpa using he
      have hm : l.getD i dflt ∈ l := by rw [List.getD_eq_getElem?_getD,List.getElem?_eq_getElem hi']; exact List.getElem_mem hi'
      show y :: l.set i x = (if y.addr = x.addr then x else y) :: put l x
      rw [if_neg (by have := h1 _ hm; omega),ih h2 hi' he']
def tm (n : Int) : Bool := decide (n >= 0) && decide (n <= 1099511627776)
def held (b : Int) : Bool := decide (b >= 2) && decide (b <= 4)
def right (x : Le) : Bool := tm x.till && tm x.acked && tm x.told && tm x.at_ && tm x.ver && (decide (x.bind >= 0) && decide (x.bind <= 5)) &&
  (if held x.bind then decide (x.client.size >= 1) && decide (x.client.size <= 32) else decide (x.client.size = 0) && decide (x.till = 0) && decide (x.acked = 0) && decide (x.told = 0) && decide (x.at_ = 0))
def bare (a b v : Int) : Le := ⟨a,b,⟨#[]⟩,0,0,0,0,v⟩
def setE (l : List Le) (x : Le) : Int × List Le := if right x = false then (1,l) else match get l x.addr with
  | none => (4,l)
  | some _ => (0,put l x)
theorem setE_wrong {l : List Le} {x : Le} (h : right x = false) : setE l x = (1,l) := if_pos h
theorem setE_none {l : List Le} {x : Le} (h : right x = true) (k : get l x.addr = none) : setE l x = (4,l) := by unfold setE; rw [if_neg (by rw [h]; simp),k]
theorem setE_ok {l : List Le} {x y : Le} (h : right x = true) (k : get l x.addr = some y) : setE l x = (0,put l x) := by unfold setE; rw [if_neg (by rw [h]; simp),k]
theorem setE_ris {l : List Le} (h : Ris l) (x : Le) : Ris (setE l x).2 := by
  unfold setE; split
  · exact h
  · split
    · exact h
    · exact put_ris h x
theorem setE_len (l : List Le) (x : Le) : (setE l x).2.length = l.length := by
  unfold setE; split
  · rfl
  · split
    · rfl
    · exact put_len l x
def getE (l : List Le) (a : Int) : Le × Int := match get l a with
  | none => (dflt,4)
  | some x => (x,0)
def bnd (l : List Le) (b : Int) : List Le := l.filter fun x => x.bind == b
def cmpBy (k : Le -> Int) (x y : Le) : Int := if Rg.cmp3 (k x) (k y) ≠ 0 then Rg.cmp3 (k x) (k y) else Rg.cmp3 x.addr y.addr
def ltBy (k : Le -> Int) (x y : Le) : Prop := k x < k y \/ (k x = k y /\ x.addr < y.addr)
theorem cmpBy_neg (k : Le -> Int) (x y : Le) : ltc (cmpBy k) x y = true ↔ ltBy k x y := by
  unfold ltc cmpBy ltBy Rg.cmp3
  rw [decide_eq_true_eq]
  repeat' split
  all_goals omega
theorem srtBy {k : Le -> Int} {l : List Le} (h : Srt (ltc (cmpBy k)) l) : l.Pairwise fun x y => ¬ ltBy k y x := h.imp fun {x y} e => fun hc => by
  rw [(cmpBy_neg k y x).2 hc] at e; cases e
theorem ris_inj {l : List Le} (h : Ris l) {x y : Le} (hx : x ∈ l) (hy : y ∈ l) (e : x.addr = y.addr) : x = y := by
  induction l with
  | nil => cases hx
  | cons z l ih =>
    obtain ⟨h1,h2⟩ := List.pairwise_cons.1 h
    rcases List.mem_cons.1 hx with hx' | hx' <;> rcases List.mem_cons.1 hy with hy' | hy'
    · rw [hx',hy']
    · subst hx'; have := h1 y hy'; omega
    · subst hy'; have := h1 x hx'; omega
    · exact ih h2 hx' hy'
theorem uniq_by {k : Le -> Int} : ∀ {l m : List Le},(∀ x y,x ∈ l -> y ∈ l -> x.addr = y.addr -> x = y) -> l.Pairwise (fun x y => ¬ ltBy k y x) -> m.Pairwise (fun x y => ¬ ltBy k y x) -> l.Perm m -> l = m
  | [],m,_,_,_,p => (List.Perm.eq_nil p.symm).symm
  | x :: l,[],_,_,_,p => absurd p.length_eq (by simp)
  | x :: l,y :: m,hi,h1,h2,p => by
    obtain ⟨a1,a2⟩ := List.pairwise_cons.1 h1
    obtain ⟨b1,b2⟩ := List.pairwise_cons.1 h2
    have hy : y ∈ x :: l := p.mem_iff.2 (List.mem_cons_self ..)
    have hx : x ∈ y :: m := p.mem_iff.1 (List.mem_cons_self ..)
    have e : x = y := by
      rcases List.mem_cons.1 hy with e | hy'
      · exact e.symm
      · rcases List.mem_cons.1 hx with e | hx'
        · exact e
        · have c1 := a1 y hy'
          have c2 := b1 x hx'
          refine hi x y (List.mem_cons_self ..) hy ?_
          unfold ltBy at c1 c2; omega
    subst e
    rw [uniq_by (fun u v hu hv => hi u v (List.mem_cons_of_mem _ hu) (List.mem_cons_of_mem _ hv)) a2 b2 (p.cons_inv)]
theorem uniq_of {k : Le -> Int} {l m t : List Le} (hr : Ris t) (ht : ∀ x,x ∈ l -> x ∈ t) (h1 : l.Pairwise fun x y => ¬ ltBy k y x) (h2 : m.Pairwise fun x y => ¬ ltBy k y x) (p : l.Perm m) : l = m :=
  uniq_by (fun x y hx hy e => ris_inj hr (ht x hx) (ht y hy) e) h1 h2 p
theorem ris_alike {l : List Le} (h : Ris l) : l.Pairwise fun x y => ¬ ltBy (fun _ => 0) y x := h.imp fun {x y} e => by unfold ltBy; dsimp only; omega
end Le
end Go.K
namespace Go.K
open Go.Sort
namespace Le
def yv (s : Le) : List Value := [agg s]
theorem tm_iff {n : Int} : tm n = true ↔ 0 <= n /\ n <= 1099511627776 := by unfold tm; simp
theorem tm_t {n : Int} (h : tm n = true) : 0 <= n /\ n <= 1099511627776 := tm_iff.1 h
theorem tm_f {n : Int} (h : tm n = false) : ¬ (0 <= n /\ n <= 1099511627776) := fun hc => by rw [tm_iff.2 hc] at h; cases h
theorem held_iff {b : Int} : held b = true ↔ 2 <= b /\ b <= 4 := by unfold held; simp
theorem held_t {b : Int} (h : held b = true) : 2 <= b /\ b <= 4 := held_iff.1 h
theorem held_f {b : Int} (h : held b = false) : ¬ (2 <= b /\ b <= 4) := fun hc => by rw [held_iff.2 hc] at h; cases h
def tms (x : Le) (i : Nat) : Int := [x.till,x.acked,x.told,x.at_,x.ver].getD i 0
theorem right_iff {x : Le} : right x = true ↔ (0 <= x.till /\ x.till <= 1099511627776) /\ (0 <= x.acked /\ x.acked <= 1099511627776) /\ (0 <= x.told /\ x.told <= 1099511627776) /\ (0 <= x.at_ /\ x.at_ <= 1099511627776) /\ (0 <= x.ver /\ x.ver <= 1099511627776) /\ (0 <= x.bind /\ x.bind <= 5) /\
    ((2 <= x.bind /\ x.bind <= 4) /\ (1 <= x.client.size /\ x.client.size <= 32) \/ ¬ (2 <= x.bind /\ x.bind <= 4) /\ x.client.size = 0 /\ x.till = 0 /\ x.acked = 0 /\ x.told = 0 /\ x.at_ = 0) := by
  unfold right
  by_cases h : held x.bind = true
  · have hb := held_iff.1 h
    rw [if_pos h]
    simp only [Bool.and_eq_true,tm_iff,decide_eq_true_eq]
    constructor
    · rintro ⟨⟨⟨⟨⟨⟨h1,h2⟩,h3⟩,h4⟩,h5⟩,h6⟩,h7⟩
      exact ⟨h1,h2,h3,h4,h5,by omega,.inl ⟨hb,by omega⟩⟩
    · rintro ⟨h1,h2,h3,h4,h5,h6,h7⟩
      refine ⟨⟨⟨⟨⟨⟨h1,h2⟩,h3⟩,h4⟩,h5⟩,by omega⟩,by omega⟩
  · have hb : ¬ (2 <= x.bind /\ x.bind <= 4) := fun hc => h (held_iff.2 hc)
    rw [if_neg h]
    simp only [Bool.and_eq_true,tm_iff,decide_eq_true_eq]
    constructor
    · rintro ⟨⟨⟨⟨⟨⟨h1,h2⟩,h3⟩,h4⟩,h5⟩,h6⟩,⟨⟨⟨h7,h8⟩,h9⟩,h10⟩,h11⟩
      exact ⟨h1,h2,h3,h4,h5,by omega,.inr ⟨hb,h7,h8,h9,h10,h11⟩⟩
    · rintro ⟨h1,h2,h3,h4,h5,h6,h7⟩
      refine ⟨⟨⟨⟨⟨⟨h1,h2⟩,h3⟩,h4⟩,h5⟩,by omega⟩,⟨⟨⟨?_,?_⟩,?_⟩,?_⟩,?_⟩ <;> omega
theorem right_t {x : Le} (h : (0 <= x.till /\ x.till <= 1099511627776) /\ (0 <= x.acked /\ x.acked <= 1099511627776) /\ (0 <= x.told /\ x.told <= 1099511627776) /\ (0 <= x.at_ /\ x.at_ <= 1099511627776) /\ (0 <= x.ver /\ x.ver <= 1099511627776) /\ (0 <= x.bind /\ x.bind <= 5) /\
    ((2 <= x.bind /\ x.bind <= 4) /\ (1 <= x.client.size /\ x.client.size <= 32) \/ ¬ (2 <= x.bind /\ x.bind <= 4) /\ x.client.size = 0 /\ x.till = 0 /\ x.acked = 0 /\ x.told = 0 /\ x.at_ = 0)) : true = right x := (right_iff.2 h).symm
theorem right_f {x : Le} (h : ¬ ((0 <= x.till /\ x.till <= 1099511627776) /\ (0 <= x.acked /\ x.acked <= 1099511627776) /\ (0 <= x.told /\ x.told <= 1099511627776) /\ (0 <= x.at_ /\ x.at_ <= 1099511627776) /\ (0 <= x.ver /\ x.ver <= 1099511627776) /\ (0 <= x.bind /\ x.bind <= 5) /\
    ((2 <= x.bind /\ x.bind <= 4) /\ (1 <= x.client.size /\ x.client.size <= 32) \/ ¬ (2 <= x.bind /\ x.bind <= 4) /\ x.client.size = 0 /\ x.till = 0 /\ x.acked = 0 /\ x.told = 0 /\ x.at_ = 0))) : false = right x := by
  cases hr : right x with
  | false => rfl
  | true => exact absurd (right_iff.1 hr) h
theorem right_d {x : Le} {p : Prop} [Decidable p] (h : p ↔ ((0 <= x.till /\ x.till <= 1099511627776) /\ (0 <= x.acked /\ x.acked <= 1099511627776) /\ (0 <= x.told /\ x.told <= 1099511627776) /\ (0 <= x.at_ /\ x.at_ <= 1099511627776) /\ (0 <= x.ver /\ x.ver <= 1099511627776) /\ (0 <= x.bind /\ x.bind <= 5) /\
    ((2 <= x.bind /\ x.bind <= 4) /\ (1 <= x.client.size /\ x.client.size <= 32) \/ ¬ (2 <= x.bind /\ x.bind <= 4) /\ x.client.size = 0 /\ x.till = 0 /\ x.acked = 0 /\ x.told = 0 /\ x.at_ = 0))) : decide p = right x := by
  rw [Bool.eq_iff_iff,decide_eq_true_eq,right_iff]; exact h
def same (x y : Le) : Bool := eqVs x.cells y.cells
theorem same_self (x : Le) : same x x = true := by simp [same,cells,eqVs,eqV]
theorem same_eq {x y : Le} : same x y = true ↔ x = y := by
  constructor
  · intro h
    simp only [same,cells,eqVs,eqV,Bool.and_eq_true,beq_iff_eq,Bool.and_true] at h
    obtain ⟨h1,h2,h3,h4,h5,h6,h7,h8⟩ := h
    have h3 : x.client = y.client := by
      apply ByteArray.ext; apply Array.toList_inj.1
      rw [ByteArray.toList_eq,ByteArray.toList_eq] at h3; exact h3
    cases x; cases y; simp_all
  · rintro rfl; exact same_self x
theorem nil_size {s : ByteArray} : s = ⟨#[]⟩ ↔ s.size = 0 := by
  constructor
  · rintro rfl; rfl
  · intro h; apply ByteArray.ext; exact Array.eq_empty_of_size_eq_zero h
theorem str0 (s : ByteArray) : (s.toList == (⟨#[]⟩ : ByteArray).toList) = decide (s.size = 0) := by
  have h1 : s.toList.length = s.size := by rw [ByteArray.toList_eq]; simp
  have h2 : (⟨#[]⟩ : ByteArray).toList = [] := by rw [ByteArray.toList_eq]
  rw [h2]
  cases h : s.toList with
  | nil => rw [h] at h1; simp at h1; simp [<- h1]
  | cons x l => rw [h] at h1; simp at h1; simp [<- h1]
theorem str0_t {s : ByteArray} (h : (s.toList == (⟨#[]⟩ : ByteArray).toList) = true) : s.size = 0 := by rw [str0] at h; exact of_decide_eq_true h
theorem str0_f {s : ByteArray} (h : (s.toList == (⟨#[]⟩ : ByteArray).toList) = false) : 1 <= s.size := by rw [str0] at h; have := of_decide_eq_false h; omega
theorem same_bare {x : Le} : same x ⟨x.addr,x.bind,⟨#[]⟩,0,0,0,0,x.ver⟩ = true ↔ x.client.size = 0 /\ x.till = 0 /\ x.acked = 0 /\ x.told = 0 /\ x.at_ = 0 := by
  rw [same_eq,<- nil_size]
  constructor
  · intro h; rw [h]; exact ⟨rfl,rfl,rfl,rfl,rfl⟩
  · rintro ⟨h1,h2,h3,h4,h5⟩; cases x; simp_all
theorem right_s {x : Le} (h1 : (0 <= x.till /\ x.till <= 1099511627776) /\ (0 <= x.acked /\ x.acked <= 1099511627776) /\ (0 <= x.told /\ x.told <= 1099511627776) /\ (0 <= x.at_ /\ x.at_ <= 1099511627776) /\ (0 <= x.ver /\ x.ver <= 1099511627776)) (h2 : 0 <= x.bind /\ x.bind <= 5) (h3 : ¬ (2 <= x.bind /\ x.bind <= 4)) : same x ⟨x.addr,x.bind,⟨#[]⟩,0,0,0,0,x.ver⟩ = right x := by
  rw [Bool.eq_iff_iff,same_bare,right_iff]
  constructor
  · intro h; exact ⟨h1.1,h1.2.1,h1.2.2.1,h1.2.2.2.1,h1.2.2.2.2,h2,.inr ⟨h3,h⟩⟩
  · rintro ⟨_,_,_,_,_,_,h | h⟩
    · exact absurd h.1 h3
    · exact h.2
theorem tms_all {x : Le} (h : ∀ j,j < 5 -> tm (tms x j) = true) : (0 <= x.till /\ x.till <= 1099511627776) /\ (0 <= x.acked /\ x.acked <= 1099511627776) /\ (0 <= x.told /\ x.told <= 1099511627776) /\ (0 <= x.at_ /\ x.at_ <= 1099511627776) /\ (0 <= x.ver /\ x.ver <= 1099511627776) :=
  ⟨tm_iff.1 (h 0 (by omega)),tm_iff.1 (h 1 (by omega)),tm_iff.1 (h 2 (by omega)),tm_iff.1 (h 3 (by omega)),tm_iff.1 (h 4 (by omega))⟩
theorem tms_not {x : Le} {j : Nat} (hj : j < 5) (h : tms x j < 0 \/ tms x j > 1099511627776) : false = right x := by
  refine right_f fun hc => ?_
  match j,hj with
  | 0,_ => have h : x.till < 0 \/ x.till > 1099511627776 := h; omega
  | 1,_ => have h : x.acked < 0 \/ x.acked > 1099511627776 := h; omega
  | 2,_ => have h : x.told < 0 \/ x.told > 1099511627776 := h; omega
  | 3,_ => have h : x.at_ < 0 \/ x.at_ > 1099511627776 := h; omega
  | 4,_ => have h : x.ver < 0 \/ x.ver > 1099511627776 := h; omega
def ofv : Value -> Le
  | .agg c => match c.toList with
    | [.int _ a,.int _ b,.string s,.int _ t,.int _ k,.int _ d,.int _ e,.int _ v] => ⟨a,b,s,t,k,d,e,v⟩
    | _ => dflt
  | _ => dflt
theorem mt_perm {l m : List Le} (h : (mt l).Perm (mt m)) : l.Perm m := by
  have h1 := h.map fun p => ofv p.2
  have e : ∀ l : List Le,(mt l).map (fun p => ofv p.2) = l := fun l => by
    unfold mt; rw [List.map_map]
    conv => rhs; rw [<- List.map_id l]
    rfl
  rw [e,e] at h1; exact h1
theorem mt_snoc (l : List Le) (x : Le) : mt (l ++ [x]) = mt l ++ [(x.addr,agg x)] := by unfold mt; simp
theorem mt_len (l : List Le) : (mt l).length = l.length := by unfold mt; simp
theorem mt_mem {l : List Le} {k : Int} {u : Value} (h : (k,u) ∈ mt l) : ∃ x,x ∈ l /\ k = x.addr /\ u = agg x := by
  obtain ⟨x,hx,he⟩ := List.mem_map.1 h
  simp only [Prod.mk.injEq] at he
  exact ⟨x,hx,he.1.symm,he.2.symm⟩
theorem fil_yes {f : Le -> Bool} {l : List Le} {x : Le} (h : f x = true) : (l ++ [x]).filter f = l.filter f ++ [x] := by rw [List.filter_append]; simp [h]
theorem fil_no {f : Le -> Bool} {l : List Le} {x : Le} (h : f x = false) : (l ++ [x]).filter f = l.filter f := by rw [List.filter_append]; simp [h]
theorem fil_le (f : Le -> Bool) (l : List Le) : (l.filter f).length <= l.length := List.length_filter_le f l
theorem sorted_eq {k : Le -> Int} {f : Le -> Bool} {l xs ys z : List Le} (hr : Ris l) (h1 : xs.Perm (l.filter f)) (h2 : ys.Perm xs) (h3 : Srt (ltc (cmpBy k)) ys) (hz : z.Perm (l.filter f)) (hs : z.Pairwise fun x y => ¬ ltBy k y x) : ys = z :=
  uniq_of hr (fun x hx => (List.mem_filter.1 ((h2.trans h1).mem_iff.1 hx)).1) (srtBy h3) hs ((h2.trans h1).trans hz.symm)
theorem swoBy (k : Le -> Int) : SWO (ltc (cmpBy k)) := by
  have e : ∀ x y : Le,ltc (cmpBy k) x y = decide (k x < k y \/ (k x = k y /\ x.addr < y.addr)) := fun x y => Bool.eq_iff_iff.2 ((cmpBy_neg k x y).trans (decide_eq_true_iff (p := k x < k y \/ (k x = k y /\ x.addr < y.addr))).symm)
  constructor
  all_goals simp only [e]
  · intro x; rw [decide_eq_false_iff_not]; omega
  · intro x y z h1 h2; rw [decide_eq_true_eq] at *; omega
  · intro x y z h1 h2; rw [decide_eq_false_iff_not] at *; omega
end Le
end Go.K
namespace Go.K
namespace Ck
def bnd (x lo hi : Int) : Int := min (max x lo) hi
def mo (n : Int) : Int := bnd n 0 1099511627776
def add (t d : Int) : Int := mo (mo t + bnd d (-1099511627776) 1099511627776)
def left (now until_ : Int) : Int := mo (mo until_ - mo now)
def past (now until_ guard : Int) : Bool := decide (mo now > mo until_ + mo guard)
theorem mo_bd (n : Int) : 0 <= mo n /\ mo n <= 1099511627776 := by unfold mo bnd; omega
theorem bnd_bd (n : Int) {lo hi : Int} (h : lo <= hi) : lo <= bnd n lo hi /\ bnd n lo hi <= hi := by unfold bnd; omega
theorem bnd_low {x lo hi : Int} (h : lo <= hi) (k : x < lo) : bnd x lo hi = lo := by unfold bnd; omega
theorem bnd_high {x lo hi : Int} (h : lo <= hi) (k : x > hi) : bnd x lo hi = hi := by unfold bnd; omega
theorem bnd_in {x lo hi : Int} (k : ¬ x < lo) (m : ¬ x > hi) : bnd x lo hi = x := by unfold bnd; omega
theorem add_bd (t d : Int) : 0 <= add t d /\ add t d <= 1099511627776 := mo_bd _
end Ck
structure Rul where
  id : Int
  lead : Int
  guard : Int
namespace Rul
def latest (l : List Int) : Int := l.foldl (fun o t => max o (Ck.add t 0)) 0
theorem latest_take {l : List Int} {i : Nat} (h : i < l.length) : latest (l.take (i + 1)) = max (latest (l.take i)) (Ck.add (l.getD i 0) 0) := by
  unfold latest; rw [take_succ_getD l i 0 h,List.foldl_append]; rfl
def own (r : Rul) : Int := if r.id = 0 then 0 else 1
def serves (n : Int) : Bool := decide (n = 1) || decide (n = 2) || decide (n = 3)
def sh14 (n : Int) : Int := (14 : Int).fdiv (2 ^ min n.toNat IntKind.i64.bits)
theorem serves_in {n : Int} (h : 0 <= n /\ n < 9) : (sh14 n % 2 == 1) = serves n := by
  rcases (show n = 0 \/ n = 1 \/ n = 2 \/ n = 3 \/ n = 4 \/ n = 5 \/ n = 6 \/ n = 7 \/ n = 8 by omega) with rfl | rfl | rfl | rfl | rfl | rfl | rfl | rfl | rfl <;> rfl
theorem serves_out {n : Int} (h : ¬ (0 <= n /\ n < 9)) : false = serves n := by unfold serves; simp; omega
def may (r : Rul) (l : Le) (state now entry : Int) : Bool :=
  if serves state = false then false else if l.bind = r.own then true else if state ≠ 3 \/ l.bind = 5 then false
  else Ck.past now (latest [entry,max l.till l.told]) (Ck.add (max r.lead 0) (max r.guard 0))
theorem may_no {r : Rul} {l : Le} {state now entry : Int} (h : serves state = false) : r.may l state now entry = false := by unfold may; rw [if_pos h]
theorem may_own {r : Rul} {l : Le} {state now entry : Int} (h : serves state = true) (k : l.bind = r.own) : r.may l state now entry = true := by unfold may; rw [if_neg (by rw [h]; decide),if_pos k]
theorem may_nor {r : Rul} {l : Le} {state now entry : Int} (h : serves state = true) (k : l.bind ≠ r.own) (m : state ≠ 3 \/ l.bind = 5) : r.may l state now entry = false := by unfold may; rw [if_neg (by rw [h]; decide),if_neg k,if_pos m]
theorem may_past {r : Rul} {l : Le} {state now entry : Int} (h : serves state = true) (k : l.bind ≠ r.own) (m : ¬ (state ≠ 3 \/ l.bind = 5)) : r.may l state now entry = Ck.past now (latest [entry,max l.till l.told]) (Ck.add (max r.lead 0) (max r.guard 0)) := by unfold may; rw [if_neg (by rw [h]; decide),if_neg k,if_neg m]
def until_ (r : Rul) (now want acked : Int) : Int := min (Ck.add now (max want 0)) (Ck.add (latest [now,acked]) (max r.lead 0))
def lease (r : Rul) (l : Le) (client : ByteArray) (now want : Int) : Le :=
  let m : Le := if l.bind ≠ 2 \/ (l.client.toList == client.toList) = false then ⟨l.addr,2,client,0,0,0,0,if l.bind ≠ r.own then Ck.add l.ver 1 else l.ver⟩ else l
  { m with till := max m.till (r.until_ now want m.acked),at_ := latest [now] }
theorem lease_new {r : Rul} {l : Le} {client : ByteArray} {now want : Int} (h : l.bind ≠ 2 \/ (l.client.toList == client.toList) = false) : r.lease l client now want = ⟨l.addr,2,client,max 0 (r.until_ now want 0),0,0,latest [now],if l.bind ≠ r.own then Ck.add l.ver 1 else l.ver⟩ := by unfold lease; rw [if_pos h]
theorem lease_same {r : Rul} {l : Le} {client : ByteArray} {now want : Int} (h : l.bind = 2) (k : (l.client.toList == client.toList) = true) : r.lease l client now want = ⟨l.addr,l.bind,l.client,max l.till (r.until_ now want l.acked),l.acked,l.told,latest [now],l.ver⟩ := by unfold lease; rw [if_neg (by rw [k]; simp [h])]
def potential (l : Le) (now want : Int) : Int := max l.till (Ck.add now (max want 0))
theorem latest1 (n : Int) : latest [n] = Ck.add n 0 := by
  have := Ck.add_bd n 0
  show max 0 (Ck.add n 0) = _; omega
theorem latest2 (a b : Int) : latest [a,b] = max (Ck.add a 0) (Ck.add b 0) := by
  have := Ck.add_bd a 0
  show max (max 0 (Ck.add a 0)) (Ck.add b 0) = _; omega
theorem until_eq (r : Rul) (now want acked : Int) : min (Ck.add now (max want 0)) (Ck.add (max (Ck.add now 0) (Ck.add acked 0)) (max r.lead 0)) = r.until_ now want acked := by unfold until_; rw [latest2]
theorem until_nn (r : Rul) (now want acked : Int) : 0 <= r.until_ now want acked := by
  have h1 := Ck.add_bd now (max want 0)
  have h2 := Ck.add_bd (latest [now,acked]) (max r.lead 0)
  unfold until_; omega
theorem past_max (now e o g : Int) : Ck.past now (max e o) g = Ck.past now (latest [e,o]) g := by
  rw [latest2]
  have : Ck.mo (max e o) = Ck.mo (max (Ck.add e 0) (Ck.add o 0)) := by unfold Ck.add Ck.mo Ck.bnd; omega
  unfold Ck.past; rw [this]
theorem serves_a {n : Int} (h : n = 1 \/ n = 2) : true = serves n := by rcases h with rfl | rfl <;> rfl
theorem serves_b {n : Int} (h : n ≠ 1) (k : n ≠ 2) : (n == 3) = serves n := by unfold serves; rw [decide_eq_false h,decide_eq_false k]; rfl
theorem lease_new2 {r : Rul} {l : Le} {client : ByteArray} {now want : Int} (h : l.bind ≠ 2 \/ (l.client.toList == client.toList) = false) : r.lease l client now want = ⟨l.addr,2,client,r.until_ now want 0,0,0,Ck.add now 0,if l.bind ≠ r.own then Ck.add l.ver 1 else l.ver⟩ := by
  rw [lease_new h,latest1]
  have : max 0 (r.until_ now want 0) = r.until_ now want 0 := by have := until_nn r now want 0; omega
  rw [this]
theorem lease_same2 {r : Rul} {l : Le} {client : ByteArray} {now want : Int} (h : l.bind = 2) (k : (l.client.toList == client.toList) = true) : r.lease l client now want = ⟨l.addr,l.bind,l.client,max l.till (r.until_ now want l.acked),l.acked,l.told,Ck.add now 0,l.ver⟩ := by rw [lease_same h k,latest1]
theorem may_past2 {r : Rul} {l : Le} {state now entry : Int} (h : serves state = true) (k : l.bind ≠ r.own) (m : ¬ (state ≠ 3 \/ l.bind = 5)) : r.may l state now entry = Ck.past now (max entry (max l.till l.told)) (Ck.add (max r.lead 0) (max r.guard 0)) := by rw [may_past h k m,past_max]
end Rul
end Go.K
namespace Go.K
theorem xor_lt {a b : Nat} (ha : a < 256) (hb : b < 256) : a ^^^ b < 256 := Nat.xor_lt_two_pow (n := 8) ha hb
theorem xor_u8 {a b : Nat} (ha : a < 256) (hb : b < 256) : IntKind.u8.wrap ((BitVec.ofInt IntKind.u8.bits (a : Int) ^^^ BitVec.ofInt IntKind.u8.bits (b : Int)).toNat : Int) = ((a ^^^ b : Nat) : Int) := by
  have hx := xor_lt ha hb
  rw [show IntKind.u8.bits = 8 from rfl,BitVec.toNat_xor,BitVec.toNat_ofInt,BitVec.toNat_ofInt]
  rw [show ((a : Int) % ((2 ^ 8 : Nat) : Int)).toNat = a by omega,show ((b : Int) % ((2 ^ 8 : Nat) : Int)).toNat = b by omega]
  exact wrap_u8 (by omega)
theorem xor_i64 {a b : Nat} (ha : a < 256) (hb : b < 256) : IntKind.i64.wrap ((BitVec.ofInt IntKind.i64.bits (a : Int) ^^^ BitVec.ofInt IntKind.i64.bits (b : Int)).toNat : Int) = ((a ^^^ b : Nat) : Int) := by
  have hx := xor_lt ha hb
  rw [show IntKind.i64.bits = 64 from rfl,BitVec.toNat_xor,BitVec.toNat_ofInt,BitVec.toNat_ofInt]
  have e64 : ((2 ^ 64 : Nat) : Int) = 18446744073709551616 := rfl
  rw [e64,show ((a : Int) % 18446744073709551616).toNat = a by omega,show ((b : Int) % 18446744073709551616).toNat = b by omega]
  exact wrap_i64 (by omega)
namespace Bk
def tab (n : Nat) : Nat := (167 * n + 13) % 256
def bucket (l : List UInt8) : Nat := l.foldr (fun c n => tab (n ^^^ c.toNat)) (l.length % 256)
def down (l : List UInt8) (i : Nat) : Nat := (l.drop i).foldr (fun c n => tab (n ^^^ c.toNat)) (l.length % 256)
theorem down_all (l : List UInt8) : down l l.length = l.length % 256 := by unfold down; rw [List.drop_length]; rfl
theorem down_step {l : List UInt8} {i : Nat} (h : i < l.length) : down l i = tab (down l (i + 1) ^^^ (l.getD i 0).toNat) := by
  unfold down
  rw [List.drop_eq_getElem_cons h,List.foldr_cons,List.getD_eq_getElem?_getD,List.getElem?_eq_getElem h]; rfl
theorem down_lt (l : List UInt8) (i : Nat) : down l i < 256 := by
  unfold down
  cases l.drop i with
  | nil => exact Nat.mod_lt _ (by decide)
  | cons c r => exact Nat.mod_lt _ (by decide)
end Bk
end Go.K
namespace Go.K
structure Msg where
  kind : Int
  life : Int
  seen : Int
  xid : Int
  state : Int
  addr : Int
  bind : Int
  client : ByteArray
  pot : Int
  at_ : Int
  ok : Bool
namespace Msg
def cells (m : Msg) : Array Value := #[.int .i64 m.kind,.int .i64 m.life,.int .i64 m.seen,.int .i64 m.xid,.int .i64 m.state,.int .u32 m.addr,.int .i64 m.bind,.string m.client,.int .i64 m.pot,.int .i64 m.at_,.bool m.ok]
def zero : Msg := ⟨0,0,0,0,0,0,0,⟨#[]⟩,0,0,false⟩
structure Wf (m : Msg) : Prop where
  kind : -9223372036854775808 <= m.kind /\ m.kind <= 9223372036854775807
  life : -9223372036854775808 <= m.life /\ m.life <= 9223372036854775807
  seen : -9223372036854775808 <= m.seen /\ m.seen <= 9223372036854775807
  xid : -9223372036854775808 <= m.xid /\ m.xid <= 9223372036854775807
  state : -9223372036854775808 <= m.state /\ m.state <= 9223372036854775807
  addr : 0 <= m.addr /\ m.addr <= 4294967295
  bind : -9223372036854775808 <= m.bind /\ m.bind <= 9223372036854775807
  client : m.client.size <= 140737488351232
  pot : -9223372036854775808 <= m.pot /\ m.pot <= 9223372036854775807
  at_ : -9223372036854775808 <= m.at_ /\ m.at_ <= 9223372036854775807
def num (m : Msg) : Nat -> Int
  | 0 => m.kind | 1 => m.life | 2 => m.seen | 3 => m.xid | 4 => m.state | 6 => m.bind | 8 => m.pot | 9 => m.at_ | _ => 0
def setNum (m : Msg) (j : Nat) (n : Int) : Msg :=
  match j with
  | 1 => { m with life := n } | 2 => { m with seen := n } | 3 => { m with xid := n } | 4 => { m with state := n } | 6 => { m with bind := n } | 8 => { m with pot := n } | 9 => { m with at_ := n } | _ => m
def go2 {G : Type} (f : Nat -> Int -> Int -> Int -> G -> G) (g : G) : G := f 2 4 0 536870912 (f 1 4 1 536870912 g)
def go3 {G : Type} (kind : Int) (f : Nat -> Int -> Int -> Int -> G -> G) (g : G) : G := if [1,3,2].contains kind then f 3 4 1 1073741824 (go2 f g) else go2 f g
def go4 {G : Type} (kind : Int) (f : Nat -> Int -> Int -> Int -> G -> G) (g : G) : G := if [1].contains kind then f 4 1 0 8 (go3 kind f g) else go3 kind f g
def go5 {G : Type} (kind : Int) (f : Nat -> Int -> Int -> Int -> G -> G) (o : G -> G) (g : G) : G := if [3,2].contains kind then o (go4 kind f g) else go4 kind f g
def go {G : Type} (kind : Int) (f : Nat -> Int -> Int -> Int -> G -> G) (o : G -> G) (g : G) : G :=
  if [2].contains kind then f 9 6 0 1099511627776 (f 8 6 0 1099511627776 (f 6 1 0 5 (go5 kind f o g))) else go5 kind f o g
def within (n lo hi : Int) : Bool := decide (lo <= n) && decide (n <= hi)
def bare (m : Msg) : Msg :=
  let b := go m.kind (fun j _ _ _ b => b.setNum j 0) (fun b => { b with ok := b.ok && decide (b.kind ≠ 3) }) m
  if m.kind = 2 then { b with addr := 0,client := ⟨#[]⟩ } else b
def same (m n : Msg) : Bool := eqVs m.cells.toList n.cells.toList
def right (m : Msg) : Bool :=
  (go m.kind (fun j _ lo hi b => b && within (m.num j) lo hi) id ([1,2,3,4,5].contains m.kind && decide ((m.client.size : Int) <= 32))) && same (bare m) { zero with kind := m.kind }
def be : Nat -> Int -> List UInt8
  | 0,_ => []
  | k + 1,n => UInt8.ofNat (n / 256 ^ k % 256).toNat :: be k n
theorem be_length : ∀ (k : Nat) (n : Int),(be k n).length = k
  | 0,_ => rfl
  | k + 1,n => by rw [be,List.length_cons,be_length k n]
theorem be_get : ∀ (k j : Nat) (n : Int),j < k -> (be k n)[j]? = some (UInt8.ofNat (n / 256 ^ (k - 1 - j) % 256).toNat)
  | 0,j,n,h => by omega
  | k + 1,0,n,h => by simp [be]
  | k + 1,j + 1,n,h => by
    rw [be,List.getElem?_cons_succ,be_get k j n (by omega)]
    congr 4
    congr 2
    omega
theorem be_step {k j : Nat} {n : Int} (h : j < k) : (be k n).take (j + 1) = (be k n).take j ++ [UInt8.ofNat (n / 256 ^ (k - 1 - j) % 256).toNat] := by
  have hl : j < (be k n).length := by rw [be_length]; exact h
  rw [List.take_succ_eq_append_getElem hl]
  have := be_get k j n h
  rw [List.getElem?_eq_getElem hl] at this
  rw [Option.some.inj this]
theorem shr_be {n i : Int} {q : Nat} (hq : i = q) (h7 : q <= 7) : n.fdiv (2 ^ min (8 * i).toNat IntKind.i64.bits) = n / 256 ^ q := by
  subst hq
  have e : min (8 * (q : Int)).toNat IntKind.i64.bits = 8 * q := by
    have : IntKind.i64.bits = 64 := rfl
    omega
  rw [e]
  have h2 : (2 : Int) ^ (8 * q) = 256 ^ q := by rw [Int.pow_mul]; rfl
  rw [h2,Int.fdiv_eq_ediv_of_nonneg]
  exact Int.pow_nonneg (by decide)
def encF (m : Msg) (j : Nat) (k _ _ : Int) (b : List UInt8) : List UInt8 := b ++ be k.toNat (m.num j)
def encO (m : Msg) (b : List UInt8) : List UInt8 := if m.kind = 2 then b ++ be 4 m.addr else b ++ [if m.ok then 1 else 0]
def enc0 (m : Msg) : List UInt8 := go m.kind (encF m) (encO m) [UInt8.ofNat (m.kind % 256).toNat]
def enc (m : Msg) : List UInt8 := enc0 m ++ (if m.kind = 2 then UInt8.ofNat m.client.size :: m.client.toList else [])
theorem kinds_of {k : Int} (h : [1,2,3,4,5].contains k = true) : k = 1 \/ k = 2 \/ k = 3 \/ k = 4 \/ k = 5 := by
  simp only [List.contains_iff_mem,List.mem_cons,List.mem_nil_iff,or_false] at h; exact h
theorem beq_toList_iff (a b : ByteArray) : (a.toList == b.toList) = true ↔ a = b := by
  rw [beq_iff_eq,ByteArray.toList_eq,ByteArray.toList_eq]
  constructor
  · intro h; cases a; cases b; simp only [ByteArray.mk.injEq]; exact Array.toList_inj.1 h
  · rintro rfl; rfl
theorem same_iff (m n : Msg) : same m n = true ↔ m = n := by
  obtain ⟨a1,a2,a3,a4,a5,a6,a7,a8,a9,a10,a11⟩ := m
  obtain ⟨b1,b2,b3,b4,b5,b6,b7,b8,b9,b10,b11⟩ := n
  have h8 : (a8.toList == b8.toList) = true ↔ a8 = b8 := beq_toList_iff a8 b8
  simp only [same,cells,eqVs,eqV,Bool.and_eq_true,beq_iff_eq,h8,and_true,Msg.mk.injEq]
theorem within_iff (n lo hi : Int) : within n lo hi = true ↔ lo <= n /\ n <= hi := by simp [within]
theorem right_iff (m : Msg) : right m = true ↔ (1 <= m.life /\ m.life <= 536870912) /\ (0 <= m.seen /\ m.seen <= 536870912) /\
    ((m.kind = 1 /\ (1 <= m.xid /\ m.xid <= 1073741824) /\ (0 <= m.state /\ m.state <= 8) /\ m.addr = 0 /\ m.bind = 0 /\ m.client = ⟨#[]⟩ /\ m.pot = 0 /\ m.at_ = 0 /\ m.ok = false) \/
     (m.kind = 2 /\ (1 <= m.xid /\ m.xid <= 1073741824) /\ m.state = 0 /\ (0 <= m.bind /\ m.bind <= 5) /\ m.client.size <= 32 /\ (0 <= m.pot /\ m.pot <= 1099511627776) /\ (0 <= m.at_ /\ m.at_ <= 1099511627776) /\ m.ok = false) \/
     (m.kind = 3 /\ (1 <= m.xid /\ m.xid <= 1073741824) /\ m.state = 0 /\ m.addr = 0 /\ m.bind = 0 /\ m.client = ⟨#[]⟩ /\ m.pot = 0 /\ m.at_ = 0) \/
     ((m.kind = 4 \/ m.kind = 5) /\ m.xid = 0 /\ m.state = 0 /\ m.addr = 0 /\ m.bind = 0 /\ m.client = ⟨#[]⟩ /\ m.pot = 0 /\ m.at_ = 0 /\ m.ok = false)) := by
  obtain ⟨kind,life,seen,xid,state,addr,bind,client,pot,at_,ok⟩ := m
  by_cases hk : [1,2,3,4,5].contains kind = true
  · have e0 : (⟨#[]⟩ : ByteArray).size = 0 := rfl
    rcases kinds_of hk with rfl | rfl | rfl | rfl | rfl
    · simp [right,same_iff,bare,go,go2,go3,go4,go5,setNum,zero,num,within_iff]
      constructor <;> (intro h; simp_all)
    · simp [right,same_iff,bare,go,go2,go3,go4,go5,setNum,zero,num,within_iff]
      constructor <;> (intro h; simp_all; try omega)
    · simp [right,same_iff,bare,go,go2,go3,go4,go5,setNum,zero,num,within_iff]
      constructor <;> (intro h; simp_all)
    · simp [right,same_iff,bare,go,go2,go3,go4,go5,setNum,zero,num,within_iff]
      constructor <;> (intro h; simp_all)
    · simp [right,same_iff,bare,go,go2,go3,go4,go5,setNum,zero,num,within_iff]
      constructor <;> (intro h; simp_all)
  · have hk' : [1,2,3,4,5].contains kind = false := by simpa using hk
    have hgo : ∀ (k : Int) (f : Nat -> Int -> Int -> Int -> Bool -> Bool),(∀ j a b c,f j a b c false = false) -> go k f id false = false := fun k f hf => by
      have h2 : go2 f false = false := by simp only [go2,hf]
      have h3 : go3 k f false = false := by unfold go3; split <;> simp only [hf,h2]
      have h4 : go4 k f false = false := by unfold go4; split <;> simp only [hf,h3]
      have h5 : go5 k f id false = false := by unfold go5; split <;> simp only [id,h4]
      unfold go; split <;> simp only [hf,h5]
    have hr : right ⟨kind,life,seen,xid,state,addr,bind,client,pot,at_,ok⟩ = false := by
      unfold right
      simp only [hk',Bool.false_and]
      rw [hgo _ _ (fun _ _ _ _ => by simp)]
      rfl
    rw [hr]
    simp only [Bool.false_eq_true,false_iff]
    simp only [List.contains_iff_mem,List.mem_cons,List.mem_nil_iff,or_false,not_or] at hk
    intro h; obtain ⟨_,_,h⟩ := h; omega
theorem _root_.Go.K.Ow.bytes {e : TypeId} {v : Value} {n : Nat} {xs : List Value} {s : Sg} {bs : List UInt8} (h : Ow e 1 v n xs s) (hx : xs = bs.map byteV) : Ow e 1 v bs.length (bs.map byteV) s := by
  have h1 := h.1
  rw [hx,List.length_map,Nat.mul_one] at h1
  rw [<- hx,h1]; exact h
def row (k j : Nat) (n : Int) : List Value := List.replicate (k - j) (.int .u8 0) ++ (be j n).map byteV
theorem row_length {k j : Nat} {n : Int} (h : j <= k) : (row k j n).length = k := by simp [row,be_length]; omega
theorem rep_one (v : Value) : ∀ k,rep [v] k = List.replicate k v
  | 0 => rfl
  | k + 1 => by rw [rep,rep_one v k]; rfl
theorem row_zero (k : Nat) (n : Int) : rep (Value.int .u8 0).cells.toList k = row k 0 n := by
  show rep [Value.int .u8 0] k = _
  rw [rep_one]; simp [row,be]
theorem row_step {k x : Nat} {n : Int} (h : x < k) (hn : 0 <= n / 256 ^ x % 256 /\ n / 256 ^ x % 256 <= 255) : row k (x + 1) n = (row k x n).set (0 + (((k : Int) - 1 - (x : Int)).toNat * 1)) (.int .u8 (n / 256 ^ x % 256)) := by
  have e : 0 + (((k : Int) - 1 - (x : Int)).toNat * 1) = k - (x + 1) := by omega
  rw [e]
  unfold row
  have e2 : k - x = (k - (x + 1)) + 1 := by omega
  rw [e2,List.replicate_succ',List.append_assoc,List.set_append_right _ _ (by simp)]
  simp only [List.length_replicate,Nat.sub_self,List.singleton_append,List.set_cons_zero,be,List.map_cons,byteV_of hn]
theorem row_ow (k : Nat) (n : Int) (b : Nat) (e : TypeId) (h : k <= 100) : Ow e 1 (.slice (some ⟨b,0,none⟩) k k) k ((be k n).map byteV) [(b,.cells (row k k n).toArray e (0,0))] := by
  have h1 : row k k n = (be k n).map byteV := by simp [row]
  rw [h1]
  exact Ow.lit (cur := ((be k n).map byteV).toArray) (by simp [be_length]) (by unfold maxLen; omega)
theorem tmod_256 {n : Int} (hn : 0 <= n) (x : Nat) : (n / 256 ^ x).tmod 256 = n / 256 ^ x % 256 := by
  have h : 0 <= n / 256 ^ x := Int.ediv_nonneg hn (Int.pow_nonneg (by decide))
  rw [Int.tmod_eq_emod_of_nonneg h]
theorem tdiv_256 {n : Int} (hn : 0 <= n /\ n <= 9223372036854775807) (x : Nat) : IntKind.i64.wrap ((n / 256 ^ x).tdiv 256) = n / 256 ^ (x + 1) := by
  have h : 0 <= n / 256 ^ x := Int.ediv_nonneg hn.1 (Int.pow_nonneg (by decide))
  have h2 : n / 256 ^ x <= n := Int.ediv_le_self _ hn.1
  rw [Int.tdiv_eq_ediv_of_nonneg h,wrap_i64 (by omega),Int.ediv_ediv_of_nonneg (Int.pow_nonneg (by decide)),Int.pow_succ]
end Msg
end Go.K
namespace Go.K
namespace Msg
end Msg
end Go.K
namespace Go.K
namespace Msg
def tags11 : List (Nat × IntKind) := [(0,.i64),(0,.i64),(0,.i64),(0,.i64),(0,.i64),(0,.u32),(0,.i64),(2,.i64),(0,.i64),(0,.i64),(1,.i64)]
theorem of_wf {cs : List Value} (h : wfVs tags11 cs) : ∃ m : Msg,cs.toArray = m.cells /\ (0 <= m.addr /\ m.addr <= 4294967295) /\ m.client.size <= 9223372036854775807 := by
  obtain ⟨v0,c0,rfl,h0,h⟩ := wfVs_cons h
  obtain ⟨v1,c1,rfl,h1,h⟩ := wfVs_cons h
  obtain ⟨v2,c2,rfl,h2,h⟩ := wfVs_cons h
  obtain ⟨v3,c3,rfl,h3,h⟩ := wfVs_cons h
  obtain ⟨v4,c4,rfl,h4,h⟩ := wfVs_cons h
  obtain ⟨v5,c5,rfl,h5,h⟩ := wfVs_cons h
  obtain ⟨v6,c6,rfl,h6,h⟩ := wfVs_cons h
  obtain ⟨v7,c7,rfl,h7,h⟩ := wfVs_cons h
  obtain ⟨v8,c8,rfl,h8,h⟩ := wfVs_cons h
  obtain ⟨v9,c9,rfl,h9,h⟩ := wfVs_cons h
  obtain ⟨v10,c10,rfl,h10,h⟩ := wfVs_cons h
  obtain rfl := wfVs_nil h
  obtain ⟨n0,rfl,w0⟩ := wfV_int h0
  obtain ⟨n1,rfl,w1⟩ := wfV_int h1
  obtain ⟨n2,rfl,w2⟩ := wfV_int h2
  obtain ⟨n3,rfl,w3⟩ := wfV_int h3
  obtain ⟨n4,rfl,w4⟩ := wfV_int h4
  obtain ⟨n5,rfl,w5⟩ := wfV_int h5
  obtain ⟨n6,rfl,w6⟩ := wfV_int h6
  obtain ⟨s7,rfl,w7⟩ := wfV_str h7
  obtain ⟨n8,rfl,w8⟩ := wfV_int h8
  obtain ⟨n9,rfl,w9⟩ := wfV_int h9
  obtain ⟨b10,rfl⟩ := wfV_bool h10
  exact ⟨⟨n0,n1,n2,n3,n4,n5,n6,s7,n8,n9,b10⟩,rfl,Go.bounds_u32 w5,w7⟩
end Msg
end Go.K
namespace Go.K
def val (l : List UInt8) : Int := l.foldl (fun a c => a * 256 + (c.toNat : Int)) 0
theorem foldl_val (l : List UInt8) : ∀ a : Int,l.foldl (fun a c => a * 256 + (c.toNat : Int)) a = a * 256 ^ l.length + val l := by
  unfold val
  induction l with
  | nil => intro a; simp
  | cons c l ih =>
    intro a
    simp only [List.foldl_cons,List.length_cons]
    rw [ih (a * 256 + (c.toNat : Int)),ih (0 * 256 + (c.toNat : Int)),Int.pow_succ]
    generalize (256 : Int) ^ l.length = p
    rw [Int.add_mul,Int.add_mul,Int.mul_assoc,Int.mul_comm 256 p]
    omega
theorem val_nil : val [] = 0 := rfl
theorem val_cons (c : UInt8) (l : List UInt8) : val (c :: l) = (c.toNat : Int) * 256 ^ l.length + val l := by
  show (c :: l).foldl _ 0 = _
  rw [List.foldl_cons,foldl_val]; simp
theorem val_snoc (l : List UInt8) (c : UInt8) : val (l ++ [c]) = val l * 256 + (c.toNat : Int) := by simp [val,List.foldl_append]
theorem val_one (c : UInt8) : val [c] = c.toNat := by simp [val]
theorem u8_lt (c : UInt8) : (c.toNat : Int) < 256 := by have := c.toNat_lt; omega
theorem pow_pos256 (k : Nat) : (0 : Int) < 256 ^ k := Int.pow_pos (by decide)
theorem val_bounds : ∀ l : List UInt8,0 <= val l /\ val l < 256 ^ l.length
  | [] => by simp [val_nil]
  | c :: l => by
    obtain ⟨h1,h2⟩ := val_bounds l
    have h3 := u8_lt c
    have hp := pow_pos256 l.length
    rw [val_cons,List.length_cons,Int.pow_succ]
    have h4 : (c.toNat : Int) * 256 ^ l.length <= 255 * 256 ^ l.length := Int.mul_le_mul_of_nonneg_right (by omega) (by omega)
    have h5 : 0 <= (c.toNat : Int) * 256 ^ l.length := Int.mul_nonneg (by omega) (by omega)
    constructor <;> omega
namespace Msg
theorem val_be_mod : ∀ (k : Nat) (n : Int),val (be k n) = n % 256 ^ k
  | 0,n => by simp [be,val_nil,Int.emod_one]
  | k + 1,n => by
    have hp := pow_pos256 k
    rw [be,val_cons,be_length,val_be_mod k n]
    have h1 : (UInt8.ofNat (n / 256 ^ k % 256).toNat).toNat = (n / 256 ^ k % 256).toNat := by
      rw [UInt8.toNat_ofNat']; omega
    rw [h1]
    have hq := Int.emod_add_mul_ediv (n / 256 ^ k) 256
    have hr := Int.emod_add_mul_ediv n (256 ^ k)
    have hb := Int.emod_lt_of_pos n hp
    have hb0 := Int.emod_nonneg n (Int.ne_of_gt hp)
    have h2 : ((n / 256 ^ k % 256).toNat : Int) = n / 256 ^ k % 256 := by omega
    rw [h2]
    generalize hQ : n / 256 ^ k = Q at *
    generalize hR : n % 256 ^ k = R at *
    have e : n = (Q % 256 * 256 ^ k + R) + 256 ^ (k + 1) * (Q / 256) := by
      rw [Int.pow_succ]
      conv => lhs; rw [<- hr,<- hq]
      rw [Int.mul_add,Int.mul_comm (256 ^ k) (Q % 256),Int.mul_assoc]; omega
    have hqq := Int.emod_lt_of_pos Q (show (0 : Int) < 256 by decide)
    have hq0 := Int.emod_nonneg Q (show (256 : Int) ≠ 0 by decide)
    have h4 : Q % 256 * 256 ^ k <= 255 * 256 ^ k := Int.mul_le_mul_of_nonneg_right (by omega) (by omega)
    have h5 : 0 <= Q % 256 * 256 ^ k := Int.mul_nonneg hq0 (by omega)
    conv => rhs; rw [e]
    rw [Int.add_mul_emod_self_left]
    exact (Int.emod_eq_of_lt (by omega) (by rw [Int.pow_succ]; omega)).symm
theorem val_be {k : Nat} {n : Int} (h0 : 0 <= n) (h1 : n < 256 ^ k) : val (be k n) = n := by rw [val_be_mod,Int.emod_eq_of_lt h0 h1]
abbrev Rs := List UInt8 × Bool
def rd (n : Nat) (s : Rs) : List UInt8 × Rs := if s.1.length < n then (List.replicate n 0,([],true)) else (s.1.take n,(s.1.drop n,s.2))
end Msg
end Go.K
namespace Go.K
section
variable {V : Vw} {H : Hp}
theorem Rd.zeros {b : Nat} {e : TypeId} {n : Nat} (i : Nat) (hi : H[i]? = some [(b,.cells (rep (Value.int .u8 0).cells.toList n).toArray e (0,0))]) : Rd V H 1 (.slice (some ⟨b,0,none⟩) n n) n ((List.replicate n 0).map byteV) := by
  have e1 : rep (Value.int .u8 0).cells.toList n = (List.replicate n (0 : UInt8)).map byteV := by
    show rep [Value.int .u8 0] n = _
    rw [Msg.rep_one,List.map_replicate]; rfl
  have h := Rd.one (V := V) (H := H) (k := 1) (n := n) (Kn.at i hi) (by simp [length_rep,Value.cells])
  simp only [List.toList_toArray] at h
  rwa [e1] at h
theorem Rd.congr {k : Nat} {v : Value} {n : Nat} {xs ys : List Value} (h : Rd V H k v n xs) (e : xs = ys) : Rd V H k v n ys := e ▸ h
theorem Rd.cap {k : Nat} {p : Option Addr} {n c : Nat} {xs : List Value} (h : Rd V H k (.slice p n c) n xs) : n <= c := by
  obtain ⟨_,_,_,e,h,_⟩ := h; cases e; exact h
theorem pow_le256 {a b : Nat} (h : a <= b) : (256 : Int) ^ a <= 256 ^ b := by
  have := Nat.pow_le_pow_right (n := 256) (by decide) h
  have e : ∀ k : Nat,(256 : Int) ^ k = ((256 ^ k : Nat) : Int) := fun k => by rw [Int.natCast_pow]; rfl
  rw [e,e]; exact Int.ofNat_le.2 this
theorem val_small {l : List UInt8} (h : l.length <= 6) : 0 <= val l /\ val l <= 281474976710655 := by
  obtain ⟨h1,h2⟩ := val_bounds l
  have h3 : (256 : Int) ^ l.length <= 256 ^ 6 := pow_le256 h
  have h4 : (256 : Int) ^ 6 = 281474976710656 := rfl
  omega
theorem or_byte {a c : Int} (h0 : 0 <= a) (h1 : a <= 281474976710655) (c0 : 0 <= c) (c1 : c <= 255) :
    IntKind.i64.wrap ((BitVec.ofInt IntKind.i64.bits (a * 256) ||| BitVec.ofInt IntKind.i64.bits c).toNat : Int) = a * 256 + c := by
  obtain ⟨n,rfl⟩ := Int.eq_ofNat_of_zero_le h0
  obtain ⟨d,rfl⟩ := Int.eq_ofNat_of_zero_le c0
  have hb : IntKind.i64.bits = 64 := rfl
  rw [hb,BitVec.toNat_or,BitVec.toNat_ofInt,BitVec.toNat_ofInt]
  have e1 : (((n : Int) * 256) % ((2 ^ 64 : Nat) : Int)).toNat = 2 ^ 8 * n := by
    have : ((2 ^ 64 : Nat) : Int) = 18446744073709551616 := rfl
    rw [this]; omega
  have e2 : ((d : Int) % ((2 ^ 64 : Nat) : Int)).toNat = d := by
    have : ((2 ^ 64 : Nat) : Int) = 18446744073709551616 := rfl
    rw [this]; omega
  rw [e1,e2,<- Nat.two_pow_add_eq_or_of_lt (by omega)]
  rw [wrap_i64 (by omega)]; omega
theorem shl_byte {a : Int} (h0 : 0 <= a) (h1 : a <= 281474976710655) : IntKind.i64.wrap (a * 2 ^ min (8 : Int).toNat IntKind.i64.bits) = a * 256 := by
  have e : (2 : Int) ^ min (8 : Int).toNat IntKind.i64.bits = 256 := rfl
  rw [e,wrap_i64 (by omega)]
theorem val_take {l : List UInt8} {i : Nat} (h : i < l.length) : val (l.take (i + 1)) = val (l.take i) * 256 + ((l.getD i 0).toNat : Int) := by
  rw [take_succ_getD l i 0 h,val_snoc]
end
namespace Msg
def sl (l : List UInt8) (a b : Nat) : List UInt8 := (l.drop a).take (b - a)
end Msg
end Go.K
namespace Go.K
section
variable {C : Cx} {V : Vw} {H : Hp} {L : Sl} {ty : TypeId}
end
namespace Msg
end Msg
end Go.K
namespace Go.K
section
variable {V : Vw} {H : Hp}
namespace Msg
theorem sl_length (bs : List UInt8) (l m : Nat) (hm : m <= bs.length) : (sl bs l m).length = m - l := by unfold sl; simp; omega
end Msg
end
end Go.K
namespace Go.K
namespace Msg
theorem same_self (m : Msg) : same m m = true := (same_iff _ _).2 rfl
end Msg
end Go.K
namespace Go.K
structure Con where
  mine : Int
  known : Int
  hello : Int
  st : Int
  said : Int
  at_ : Int
  up : Bool
namespace Con
def a (c : Con) : Array Value := #[.int .i64 c.known,.int .i64 c.hello,.int .i64 c.st,.int .i64 c.mine,.int .i64 c.said,.int .i64 c.at_,.bool c.up]
def b (c : Con) : Array Value := #[.int .i64 c.mine,.int .i64 c.known,.int .i64 c.said,.int .i64 c.hello,.int .i64 c.st,.int .i64 c.at_,.bool c.up]
def new (life : Int) : Con := ⟨life,0,0,0,0,0,false⟩
structure Inv (c : Con) : Prop where
  mine : 1 <= c.mine /\ c.mine <= 536870912
  said : 0 <= c.said /\ c.said <= 1073741824
  at_ : 0 <= c.at_ /\ c.at_ <= 1099511627776
def moment (n : Int) : Bool := decide (n >= 0) && decide (n <= 1099511627776)
def fits (c : Con) (m : Msg) : Bool :=
  if m.kind = 1 then decide (m.life > c.known) || ((m.life == c.known) && decide (m.xid > c.hello)) else c.up && ((m.life == c.known) && (m.seen == c.mine))
def mark (c : Con) (m : Msg) : Msg := { m with life := c.mine,seen := c.known }
def takeC (c : Con) (m : Msg) (now : Int) : Con :=
  if moment now && (Msg.right m && fits c m) then
    if m.kind = 1 then { c with at_ := now,known := m.life,hello := m.xid,st := m.state,up := (m.seen == c.mine) || (c.up && !(c.known != m.life)) } else { c with at_ := now }
  else c
def lost (c : Con) (now : Int) : Bool := moment now && (c.up && decide (now - c.at_ >= 6))
def tickC (c : Con) (now : Int) : Con := if lost c now then { c with up := false } else c
def helloE (c : Con) (state : Int) : Int := if state < 0 \/ state > 8 then 1 else if c.said >= 1073741824 then 3 else 0
def helloC (c : Con) (state : Int) : Con := if helloE c state = 0 then { c with said := c.said + 1 } else c
def helloM (c : Con) (state : Int) : Msg := if helloE c state = 0 then mark c ⟨1,0,0,c.said + 1,state,0,0,⟨#[]⟩,0,0,false⟩ else ⟨0,0,0,0,0,0,0,⟨#[]⟩,0,0,false⟩
theorem inv_new {life : Int} (h : 1 <= life /\ life <= 536870912) : Inv (new life) := ⟨h,by simp [new],by simp [new]⟩
theorem moment_iff (n : Int) : moment n = true ↔ 0 <= n /\ n <= 1099511627776 := by simp [moment]
theorem inv_tick {c : Con} (h : Inv c) (now : Int) : Inv (tickC c now) := by
  unfold tickC; split
  · exact ⟨h.mine,h.said,h.at_⟩
  · exact h
theorem helloE_lt {c : Con} {s : Int} (h : helloE c s = 0) : c.said < 1073741824 /\ 0 <= s /\ s <= 8 := by
  unfold helloE at h
  split at h
  · cases h
  · split at h
    · cases h
    · omega
theorem inv_hello {c : Con} (h : Inv c) (s : Int) : Inv (helloC c s) := by
  unfold helloC; split
  · rename_i he
    have := helloE_lt he
    exact ⟨h.mine,⟨by have := h.said; simp only; omega,by simp only; omega⟩,h.at_⟩
  · exact h
theorem helloE_0 {c : Con} {s : Int} (h : ¬ (s < 0 \/ s > 8)) (h2 : ¬ c.said >= 1073741824) : helloE c s = 0 := (if_neg h).trans (if_neg h2)
theorem hello_yes {c : Con} {s : Int} (h : helloE c s = 0) : helloC c s = { c with said := c.said + 1 } /\ helloM c s = mark c ⟨1,0,0,c.said + 1,s,0,0,⟨#[]⟩,0,0,false⟩ := ⟨if_pos h,if_pos h⟩
theorem moment_yes {n : Int} (h : 0 <= n /\ n <= 1099511627776) : moment n = true := (moment_iff n).2 h
structure Stp where
  do_ : Int
  now : Int
  n : Int
  m : Msg
def Stp.cells (s : Stp) : List Value := .int .i64 s.do_ :: .int .i64 s.now :: .int .i64 s.n :: s.m.cells.toList
def step (c : Con) (s : Stp) : Con := if s.do_ = 0 then takeC c s.m s.now else if s.do_ = 1 then tickC c s.now else if s.do_ = 2 then helloC c s.n else c
end Con
end Go.K
namespace Go.K
namespace Con
def stags : List (Nat × IntKind) := (0,.i64) :: (0,.i64) :: (0,.i64) :: Msg.tags11
theorem Stp.len (s : Stp) : s.cells.length = 14 := rfl
def Stp.dflt : Stp := ⟨0,0,0,Msg.zero⟩
theorem Stp.of_wf {q : List Value} (h : wfVs stags q) : ∃ s : Stp,q = s.cells /\ (-9223372036854775808 <= s.n /\ s.n <= 9223372036854775807) := by
  obtain ⟨v0,c0,rfl,h0,k0⟩ := wfVs_cons (show wfVs ((0,IntKind.i64) :: (0,IntKind.i64) :: (0,IntKind.i64) :: Msg.tags11) q from h)
  obtain ⟨v1,c1,rfl,h1,k1⟩ := wfVs_cons k0
  obtain ⟨v2,c2,rfl,h2,k2⟩ := wfVs_cons k1
  obtain ⟨n0,rfl,w0⟩ := wfV_int h0
  obtain ⟨n1,rfl,w1⟩ := wfV_int h1
  obtain ⟨n2,rfl,w2⟩ := wfV_int h2
  obtain ⟨m,hm,_⟩ := Msg.of_wf k2
  exact ⟨⟨n0,n1,n2,m⟩,by show _ = _ :: _ :: _ :: m.cells.toList; rw [<- hm],Go.bounds_i64 w2⟩
theorem tick_mine (c : Con) (now : Int) : (tickC c now).mine = c.mine /\ (tickC c now).said = c.said := by
  unfold tickC; split <;> exact ⟨rfl,rfl⟩
theorem hello_mine (c : Con) (s : Int) : (helloC c s).mine = c.mine /\ (helloC c s).known = c.known := by
  unfold helloC; split <;> exact ⟨rfl,rfl⟩
def meet (l0 l1 now : Int) : Nat -> Con × Con
  | 0 => (new l0,new l1)
  | i + 1 =>
    let p := meet l0 l1 now i
    let a1 := helloC p.1 1
    let b1 := takeC p.2 (helloM p.1 1) now
    (takeC a1 (helloM b1 1) now,helloC b1 1)
section
variable {l0 l1 now : Int} (h0 : 1 <= l0 /\ l0 <= 536870912) (h1 : 1 <= l1 /\ l1 <= 536870912) (hn : 0 <= now /\ now <= 549755813888)
include h0 h1 hn
omit h0 h1 in
omit h0 h1 in
end
end Con
end Go.K
namespace Go.K
theorem getD_mem {α : Type} {l : List α} {j : Nat} (h : j < l.length) (d : α) : l.getD j d ∈ l := by
  rw [List.getD_eq_getElem?_getD,List.getElem?_eq_getElem h]; exact List.getElem_mem h
def Msg.rowc (m : Msg) : List Value := m.cells.toList
namespace Con
structure Ev where
  do_ : Int
  who : Int
  n : Int
def Ev.cells (s : Ev) : List Value := [.int .i64 s.do_,.int .i64 s.who,.int .i64 s.n]
def etags : List (Nat × IntKind) := [(0,.i64),(0,.i64),(0,.i64)]
theorem Ev.len (s : Ev) : s.cells.length = 3 := rfl
def Ev.dflt : Ev := ⟨0,0,0⟩
theorem Ev.of_wf {q : List Value} (h : wfVs etags q) : ∃ s : Ev,q = s.cells := by
  obtain ⟨v0,c0,rfl,h0,k0⟩ := wfVs_cons (show wfVs ((0,IntKind.i64) :: (0,IntKind.i64) :: (0,IntKind.i64) :: []) q from h)
  obtain ⟨v1,c1,rfl,h1,k1⟩ := wfVs_cons k0
  obtain ⟨v2,c2,rfl,h2,k2⟩ := wfVs_cons k1
  obtain ⟨n0,rfl,w0⟩ := wfV_int h0
  obtain ⟨n1,rfl,w1⟩ := wfV_int h1
  obtain ⟨n2,rfl,w2⟩ := wfV_int h2
  have : c2 = [] := List.eq_nil_of_length_eq_zero (by simpa using wfVs_len k2)
  subst this
  exact ⟨⟨n0,n1,n2⟩,rfl⟩
structure Sd where
  b : Nat
  c : Con
  m : Int
  p : Option Addr
  n : Nat
  k : Nat
  q : Sg
  xs : List Value
  l : List Msg
  a : Int
  d : Int
structure Sd.ok (e : TypeId) (s t : Sd) (i : Nat) : Prop where
  inv : s.c.Inv
  mine : s.c.mine = s.m
  own : Ow e 11 (.slice s.p s.n s.k) s.n s.xs s.q
  flat : s.xs = (s.l.map Msg.rowc).flatten
  len : s.n = s.l.length
  ha : s.a = s.c.known
  hd : s.d = s.c.hello
  known : s.c.known <= t.m
  life : ∀ m ∈ s.l,m.life <= s.m
  few : s.m <= i + 1
  one : 1 <= s.m
  said : s.c.said <= i
  many : s.n <= i
variable {e : TypeId} {s t : Sd} {i : Nat}
theorem Sd.first {b : Nat} {t : Sd} (ht : 1 <= t.m) : Sd.ok e ⟨b,new 1,1,none,0,0,[],[],[],0,0⟩ t 0 :=
  ⟨inv_new (by decide),rfl,Ow.nil _ _,rfl,rfl,rfl,rfl,by show (0 : Int) <= t.m; omega,(fun _ h => by cases h),(show (1 : Int) <= ((0 : Nat) : Int) + 1 by decide),(show (1 : Int) <= 1 by decide),(show (0 : Int) <= ((0 : Nat) : Int) by decide),Nat.le_refl 0⟩
theorem Sd.ok.rest (h : Sd.ok e s t i) {t' : Sd} (ht : t.m <= t'.m) : Sd.ok e s t' (i + 1) :=
  ⟨h.inv,h.mine,h.own,h.flat,h.len,h.ha,h.hd,Int.le_trans h.known ht,h.life,by have := h.few; omega,h.one,by have := h.said; omega,by have := h.many; omega⟩
theorem Sd.ok.say (h : Sd.ok e s t i) {c' : Con} {m' : Msg} {p : Option Addr} {n k : Nat} {q : Sg} {xs : List Value} (h1 : c'.Inv) (h2 : c'.mine = s.c.mine) (h3 : c'.known = s.c.known) (h4 : c'.hello = s.c.hello) (h5 : c'.said <= i + 1)
    (hm : m'.life = s.m) (ho : Ow e 11 (.slice p n k) n xs q) (hx : xs = s.xs ++ m'.rowc) (hn : n = s.n + 1) : Sd.ok e ⟨s.b,c',s.m,p,n,k,q,xs,s.l ++ [m'],s.a,s.d⟩ t (i + 1) :=
  ⟨h1,h2.trans h.mine,ho,by rw [hx,h.flat,List.map_append,List.flatten_append]; simp,by simp only [List.length_append,List.length_singleton]; rw [hn,h.len],h.ha.trans h3.symm,h.hd.trans h4.symm,by show c'.known <= t.m; rw [h3]; exact h.known,
    fun m hm' => by
      rcases List.mem_append.1 hm' with hm' | hm'
      · exact h.life m hm'
      · rw [List.mem_singleton] at hm'; subst hm'; exact Int.le_of_eq hm,
    by have := h.few; show s.m <= ((i + 1 : Nat) : Int) + 1; omega,h.one,by show c'.said <= ((i + 1 : Nat) : Int); omega,by have := h.many; show n <= i + 1; omega⟩
theorem hello_know (c : Con) (st : Int) : (helloC c st).hello = c.hello /\ (helloC c st).said <= c.said + 1 := by
  unfold helloC; split
  · exact ⟨rfl,by simp only; omega⟩
  · exact ⟨rfl,by omega⟩
theorem Sd.ok.hello (h : Sd.ok e s t i) {st : Int} (hE : helloE s.c st = 0) {p : Option Addr} {n k : Nat} {q : Sg} {xs : List Value} (ho : Ow e 11 (.slice p n k) n xs q) (hx : xs = s.xs ++ (helloM s.c st).rowc) (hn : n = s.n + 1) :
    Sd.ok e ⟨s.b,helloC s.c st,s.m,p,n,k,q,xs,s.l ++ [helloM s.c st],s.a,s.d⟩ t (i + 1) :=
  h.say (inv_hello h.inv _) (hello_mine _ _).1 (hello_mine _ _).2 (hello_know _ _).1 (by have := (hello_know s.c st).2; have := h.said; omega) (by rw [(hello_yes hE).2]; exact h.mine) ho hx hn
theorem Sd.ok.mark (h : Sd.ok e s t i) (m0 : Msg) {p : Option Addr} {n k : Nat} {q : Sg} {xs : List Value} (ho : Ow e 11 (.slice p n k) n xs q) (hx : xs = s.xs ++ (Con.mark s.c m0).rowc) (hn : n = s.n + 1) :
    Sd.ok e ⟨s.b,s.c,s.m,p,n,k,q,xs,s.l ++ [Con.mark s.c m0],s.a,s.d⟩ t (i + 1) :=
  h.say h.inv rfl rfl rfl (by have := h.said; omega) h.mine ho hx hn
theorem Sd.ok.is (h : Sd.ok e s t i) {c' : Con} {a d : Int} (h1 : c'.Inv) (h2 : c'.mine = s.c.mine) (h3 : c'.known <= t.m) (ha : a = c'.known) (hd : d = c'.hello) (h5 : c'.said = s.c.said) : Sd.ok e ⟨s.b,c',s.m,s.p,s.n,s.k,s.q,s.xs,s.l,a,d⟩ t (i + 1) :=
  ⟨h1,h2.trans h.mine,h.own,h.flat,h.len,ha,hd,h3,h.life,by have := h.few; show s.m <= ((i + 1 : Nat) : Int) + 1; omega,h.one,by have := h.said; show c'.said <= ((i + 1 : Nat) : Int); omega,by have := h.many; show s.n <= i + 1; omega⟩
theorem tick_know (c : Con) (now : Int) : (tickC c now).known = c.known /\ (tickC c now).hello = c.hello := by
  unfold tickC; split <;> exact ⟨rfl,rfl⟩
theorem Sd.ok.tick (h : Sd.ok e s t i) (now : Int) : Sd.ok e ⟨s.b,tickC s.c now,s.m,s.p,s.n,s.k,s.q,s.xs,s.l,s.a,s.d⟩ t (i + 1) :=
  h.is (inv_tick h.inv _) (tick_mine _ _).1 (by rw [(tick_know _ _).1]; exact h.known) (h.ha.trans (tick_know _ _).1.symm) (h.hd.trans (tick_know _ _).2.symm) (tick_mine _ _).2
theorem Sd.ok.anew (h : Sd.ok e s t i) {b : Nat} (hi : i <= 250) (ht : 1 <= t.m) : Sd.ok e ⟨b,new (s.m + 1),s.m + 1,s.p,s.n,s.k,s.q,s.xs,s.l,0,0⟩ t (i + 1) := by
  have h1 := h.few
  have h2 := h.one
  exact ⟨inv_new (by omega),rfl,h.own,h.flat,h.len,rfl,rfl,by show (0 : Int) <= t.m; omega,fun m hm => by have := h.life m hm; show m.life <= s.m + 1; omega,by show s.m + 1 <= ((i + 1 : Nat) : Int) + 1; omega,by show 1 <= s.m + 1; omega,
    by show (0 : Int) <= ((i + 1 : Nat) : Int); omega,by have := h.many; show s.n <= i + 1; omega⟩
theorem Sd.ok.helloE (h : Sd.ok e s t i) (hi : i < 250) {st : Int} (hs : 0 <= st /\ st < 8) : helloE s.c st = 0 := by
  have := h.said
  exact helloE_0 (by omega) (by omega)
end Con
end Go.K
namespace Go.K
theorem upto {P : Nat -> Prop} {i : Nat} (h : ∀ j,j < i -> P j) (hi : P i) : ∀ j,j < i + 1 -> P j := fun j hj => by
  by_cases e : j = i
  · subst e; exact hi
  · exact h j (by omega)
structure Oc where
  code : Int
  d : List UInt8
structure Opn where
  code : Int
  v : Value
  d : List UInt8
def Opn.c (o : Opn) : Oc := ⟨o.code,o.d⟩
def Opn.cells (o : Opn) : List Value := [.int .i64 o.code,o.v]
theorem Opn.len (o : Opn) : o.cells.length = 2 := rfl
def Opn.dflt : Opn := ⟨0,.slice none 0 0,[]⟩
def Opn.Rds (V : Vw) (L : List Opn) : Prop := ∀ o,o ∈ L -> Rd V [] 1 o.v o.d.length (o.d.map byteV)
theorem Opn.Rds.le {V V2 : Vw} {L : List Opn} (h : Opn.Rds V L) (hl : V.le V2) : Opn.Rds V2 L := fun o ho => (h o ho).le hl
namespace Oc
def dflt : Oc := ⟨0,[]⟩
def odd (o : Oc) : Bool := decide (o.code <= 0) || (decide (o.code >= 255) || decide (((o.d.length : Nat) : Int) > 255))
def is (c : Int) (o : Oc) : Bool := o.code == c
def ix (q : Oc -> Bool) : List Oc -> Int
  | [] => -1
  | o :: l => if q o = true then 0 else if ix q l < 0 then -1 else ix q l + 1
def fd (c : Int) : List Oc -> List UInt8
  | [] => []
  | o :: l => if (o.code == c) = true then o.d else fd c l
def has (c : Int) (l : List Oc) : Bool := l.any fun o => o.code == c
def tot : List Oc -> Nat
  | [] => 0
  | o :: l => 2 + o.d.length + tot l
def encE (l : List Oc) : Int := if l.any odd = true then 1 else if tot l + 1 > 1024 then 3 else 0
def few (l : List Oc) : Bool := decide (l.length <= 100) && l.all fun o => decide (o.d.length <= 1000)
theorem ix_ge (q : Oc -> Bool) : ∀ l,-1 <= ix q l /\ ix q l < l.length
  | [] => by simp [ix]
  | o :: l => by
    have := ix_ge q l
    simp only [ix,List.length_cons]
    split
    · omega
    · split <;> omega
theorem ix_at {q : Oc -> Bool} : ∀ {l : List Oc} {i : Nat},(∀ j,j < i -> q (l.getD j dflt) = false) -> i < l.length -> q (l.getD i dflt) = true -> ix q l = i
  | [],_,_,hi,_ => by simp at hi
  | o :: l,0,_,_,hq => by simp only [ix]; rw [if_pos (by simpa using hq)]; rfl
  | o :: l,i + 1,h,hi,hq => by
    have h0 := h 0 (by omega)
    have ih := ix_at (q := q) (l := l) (i := i) (fun j hj => by have := h (j + 1) (by omega); simpa using this) (by simpa using hi) (by simpa using hq)
    simp only [ix]
    rw [if_neg (by have : q o = false := by simpa using h0
                   simp [this]),ih,if_neg (by omega)]
    omega
theorem ix_none {q : Oc -> Bool} : ∀ {l : List Oc},(∀ j,j < l.length -> q (l.getD j dflt) = false) -> ix q l = -1
  | [],_ => rfl
  | o :: l,h => by
    have h0 := h 0 (by simp)
    have ih := ix_none (q := q) (l := l) (fun j hj => by have := h (j + 1) (by simpa using hj); simpa using this)
    simp only [ix]
    rw [if_neg (by have : q o = false := by simpa using h0
                   simp [this]),ih]
    rfl
theorem ix_any' (q : Oc -> Bool) : ∀ l,ix q l >= 0 ↔ l.any q = true
  | [] => by simp [ix]
  | o :: l => by
    have ih := ix_any' q l
    have hg := ix_ge q l
    rw [List.any_cons,Bool.or_eq_true,<- ih]
    by_cases hq : q o = true
    · rw [show ix q (o :: l) = 0 from if_pos hq]; simp [hq]
    · rw [show ix q (o :: l) = if ix q l < 0 then -1 else ix q l + 1 from if_neg hq]
      split
      · exact ⟨fun h => by omega,fun h => h.elim (fun h => absurd h hq) (fun h => by omega)⟩
      · exact ⟨fun h => .inr (by omega),fun _ => by omega⟩
theorem ix_any (q : Oc -> Bool) (l : List Oc) : decide (ix q l >= 0) = l.any q := by
  rw [Bool.eq_iff_iff,decide_eq_true_eq]; exact ix_any' q l
theorem ix_cases (c : Int) : ∀ l,(ix (is c) l = -1 /\ fd c l = [] /\ has c l = false) \/ ∃ i : Nat,ix (is c) l = i /\ i < l.length /\ fd c l = (l.getD i dflt).d /\ has c l = true
  | [] => .inl ⟨rfl,rfl,rfl⟩
  | o :: l => by
    cases hq : is c o
    · have hc : (o.code == c) = false := hq
      rcases ix_cases c l with ⟨h1,h2,h3⟩ | ⟨i,h1,h2,h3,h4⟩
      · refine .inl ⟨by simp only [ix]; rw [if_neg (by simp [hq]),h1]; rfl,by simp only [fd]; rw [if_neg (by simp [hc])]; exact h2,by simp only [has,List.any_cons] at *; rw [hc,h3]; rfl⟩
      · refine .inr ⟨i + 1,by simp only [ix]; rw [if_neg (by simp [hq]),h1,if_neg (by omega)]; omega,by simpa using h2,by simp only [fd]; rw [if_neg (by simp [hc])]; simpa using h3,by simp only [has,List.any_cons] at *; rw [hc,h4]; rfl⟩
    · have hc : (o.code == c) = true := hq
      exact .inr ⟨0,by simp only [ix]; rw [if_pos hq]; rfl,by simp,by simp only [fd]; rw [if_pos hc]; rfl,by simp only [has,List.any_cons]; rw [hc]; rfl⟩
theorem getD_c (L : List Opn) (i : Nat) : (L.map Opn.c).getD i dflt = (L.getD i Opn.dflt).c := by
  rw [List.getD_eq_getElem?_getD,List.getD_eq_getElem?_getD,List.getElem?_map]
  cases L[i]? <;> rfl
theorem ixL_at {q : Oc -> Bool} {L : List Opn} {i : Nat} (h : ∀ j,j < i -> q (L.getD j Opn.dflt).c = false) (hi : i < L.length) (hq : q (L.getD i Opn.dflt).c = true) : ix q (L.map Opn.c) = i :=
  ix_at (fun j hj => by rw [getD_c]; exact h j hj) (by simpa using hi) (by rw [getD_c]; exact hq)
theorem ixL_none {q : Oc -> Bool} {L : List Opn} (h : ∀ j,j < L.length -> q (L.getD j Opn.dflt).c = false) : ix q (L.map Opn.c) = -1 :=
  ix_none (fun j hj => by rw [getD_c]; exact h j (by simpa using hj))
theorem ixL_cases (c : Int) (L : List Opn) : (ix (is c) (L.map Opn.c) = -1 /\ fd c (L.map Opn.c) = [] /\ has c (L.map Opn.c) = false) \/ ∃ i : Nat,ix (is c) (L.map Opn.c) = i /\ i < L.length /\ fd c (L.map Opn.c) = (L.getD i Opn.dflt).d /\ has c (L.map Opn.c) = true := by
  rcases ix_cases c (L.map Opn.c) with h | ⟨i,h1,h2,h3,h4⟩
  · exact .inl h
  · exact .inr ⟨i,h1,by simpa using h2,by rw [h3,getD_c]; rfl,h4⟩
theorem fdL_at {c : Int} {L : List Opn} {i : Nat} (h : ∀ j,j < i -> ((L.getD j Opn.dflt).code == c) = false) (hi : i < L.length) (hq : ((L.getD i Opn.dflt).code == c) = true) : fd c (L.map Opn.c) = (L.getD i Opn.dflt).d /\ has c (L.map Opn.c) = true := by
  have := ixL_at (q := is c) h hi hq
  rcases ixL_cases c L with ⟨h1,_⟩ | ⟨k,h1,h2,h3,h4⟩
  · rw [this] at h1; omega
  · rw [this] at h1
    have : i = k := by omega
    subst this; exact ⟨h3,h4⟩
theorem fdL_none {c : Int} {L : List Opn} (h : ∀ j,j < L.length -> ((L.getD j Opn.dflt).code == c) = false) : fd c (L.map Opn.c) = [] /\ has c (L.map Opn.c) = false := by
  have := ixL_none (q := is c) h
  rcases ixL_cases c L with ⟨_,h2,h3⟩ | ⟨k,h1,_⟩
  · exact ⟨h2,h3⟩
  · rw [this] at h1; omega
theorem tot_append : ∀ a b : List Oc,tot (a ++ b) = tot a + tot b
  | [],b => by simp [tot]
  | o :: a,b => by simp only [List.cons_append,tot]; rw [tot_append a b]; omega
theorem tot_take {L : List Opn} {i : Nat} (h : i < L.length) : tot ((L.map Opn.c).take (i + 1)) = tot ((L.map Opn.c).take i) + (2 + (L.getD i Opn.dflt).d.length) := by
  rw [take_succ_getD (L.map Opn.c) i dflt (by simpa using h),tot_append,getD_c]
  simp [tot,Opn.c]
theorem tot_split (l : List Oc) (i : Nat) : tot l = tot (l.take i) + tot (l.drop i) := by rw [<- tot_append,List.take_append_drop]
theorem tot_few : ∀ {l : List Oc} {k : Nat},(∀ o,o ∈ l -> o.d.length <= k) -> tot l <= l.length * (k + 2)
  | [],_,_ => by simp [tot]
  | o :: l,k,h => by
    have h1 := h o (by simp)
    have h2 := tot_few (l := l) (k := k) (fun x hx => h x (by simp [hx]))
    simp only [tot,List.length_cons]
    rw [Nat.succ_mul]; omega
theorem few_iff {l : List Oc} : few l = true ↔ l.length <= 100 /\ ∀ o,o ∈ l -> o.d.length <= 1000 := by simp [few]
theorem few_tot {l : List Oc} (h : few l = true) (i : Nat) : tot (l.take i) <= 100200 := by
  obtain ⟨h1,h2⟩ := few_iff.1 h
  have := tot_few (l := l.take i) (k := 1000) (fun o ho => h2 o (List.mem_of_mem_take ho))
  have h3 : (l.take i).length <= 100 := by rw [List.length_take]; omega
  have : (l.take i).length * 1002 <= 100 * 1002 := Nat.mul_le_mul_right _ h3
  omega
theorem few_data {L : List Opn} (h : few (L.map Opn.c) = true) {i : Nat} (hi : i < L.length) : (L.getD i Opn.dflt).d.length <= 1000 := by
  have := (few_iff.1 h).2 _ (List.mem_map_of_mem (f := Opn.c) (getD_mem hi Opn.dflt))
  exact this
end Oc
structure Pc where
  op : Int
  xid : Int
  secs : Int
  flags : Int
  ci : Int
  yi : Int
  si : Int
  gi : Int
  hw : List UInt8
  os : List Oc
namespace Pc
def cells (p : Pc) (hv ov : Value) : Array Value := #[.int .i64 p.op,.int .u32 p.xid,.int .i64 p.secs,.int .i64 p.flags,.int .u32 p.ci,.int .u32 p.yi,.int .u32 p.si,.int .u32 p.gi,hv,ov]
def Rs (V : Vw) (ov : Value) (os : List Oc) : Prop := ∃ L : List Opn,L.map Opn.c = os /\ Rd V [] 2 ov L.length (L.map Opn.cells).flatten /\ Opn.Rds V L
structure R (V : Vw) (p : Pc) (hv ov : Value) : Prop where
  hw : Rd V [] 1 hv p.hw.length (p.hw.map byteV)
  os : Rs V ov p.os
  xid : 0 <= p.xid /\ p.xid <= 4294967295
  yi : 0 <= p.yi /\ p.yi <= 4294967295
  si : 0 <= p.si /\ p.si <= 4294967295
theorem Rs.le {V V2 : Vw} {ov : Value} {os : List Oc} (h : Rs V ov os) (hl : V.le V2) : Rs V2 ov os := by
  obtain ⟨L,h1,h2,h3⟩ := h; exact ⟨L,h1,h2.le hl,h3.le hl⟩
theorem R.le {V V2 : Vw} {p : Pc} {hv ov : Value} (h : R V p hv ov) (hl : V.le V2) : R V2 p hv ov := ⟨h.hw.le hl,h.os.le hl,h.xid,h.yi,h.si⟩
def few (p : Pc) : Bool := Oc.few p.os && decide (((p.hw.length : Nat) : Int) < 1000)
def right (p : Pc) : Bool := ((p.op == 1) || (p.op == 2)) && (decide (1 <= p.hw.length) && (decide (p.hw.length <= 16) && (decide (0 <= p.secs) && (decide (p.secs <= 65535) && (decide (0 <= p.flags) && (decide (p.flags <= 65535) && (Oc.encE p.os == 0)))))))
def num (p : Pc) (c other : Int) : Int := if (Oc.fd c p.os).length = 4 then val (Oc.fd c p.os) else other
def kind (p : Pc) : Int := if (Oc.fd 53 p.os).length = 1 then val (Oc.fd 53 p.os) else 0
end Pc
theorem Rd.none {V : Vw} {H : Hp} {k n c : Nat} {xs : List Value} (h : Rd V H k (.slice none n c) n xs) : n = 0 := by
  obtain ⟨_,p,c',h2,_,h4⟩ := h
  rcases h4 with h4 | ⟨b,off,cs,e,fz,a1,_⟩
  · exact h4
  · cases h2; cases a1
section
variable {C : Cx} {V : Vw} {H : Hp} {L : Sl} {ty : TypeId}
def sliceT (P : Program) (t : TypeId) : Bool := match P.underlying t with
  | some (.slice _) => true
  | _ => false
theorem run_equal_nilS {P : Program} {w : World} {t : TypeId} (ht : sliceT P t = true) (p : Option Addr) (n c : Nat) : (Op.equal t (.slice p n c) (.slice none 0 0)).run P w = .ok p.isNone w := by
  have hu : ∃ e,P.underlying t = some (.slice e) := by
    unfold sliceT at ht; split at ht
    · exact ⟨_,‹_›⟩
    · cases ht
  obtain ⟨e,hu⟩ := hu
  unfold Op.equal
  rw [show Op.maxDepth = 9999 + 1 from rfl,Op.equalIn]
  cases p <;> simp [run_underlying hu]
theorem Y.eqNilS {x y : Operand} {t t' : TypeId} {p : Option Addr} {n c : Nat} (hx : ev L x = some (.slice p n c)) (hy : ev L y = some (.slice none 0 0)) (ht : sliceT C.P t = true) : Yl C V H L (.binOp .eql t x y t') ty (.bool p.isNone) := (fun V2 a w hle i o ho hty => by
  have hg : (eqGuard .eql t x y (.slice p n c) (.slice none 0 0)).run C.P w = .ok () w := by cases p <;> rfl
  simp only [execOp,ho,i.1.ev hx,i.1.ev hy,Sem.run_bind,hg,Result.andThen_ok,binOp,run_equal_nilS ht,Sem.run_pure])
end
theorem wrap_u8m (n : Int) : IntKind.u8.wrap n = n % 256 := by
  have e1 : (2 ^ IntKind.u8.bits : Int) = 256 := rfl
  simp only [IntKind.wrap,e1,show IntKind.u8.signed = false from rfl,Bool.false_and,Bool.false_eq_true,if_false]
theorem Rd.move {V : Vw} {H H' : Hp} {k : Nat} {v : Value} {n : Nat} {xs : List Value} (h : Rd V H k v n xs) (hk : ∀ b o,Kn V H b o -> Kn V H' b o) : Rd V H' k v n xs := by
  obtain ⟨h1,p,c,h2,h3,h4⟩ := h
  refine ⟨h1,p,c,h2,h3,?_⟩
  rcases h4 with h4 | ⟨b,off,cs,e,fz,a1,a2,a3⟩
  · exact .inl h4
  · exact .inr ⟨b,off,cs,e,fz,a1,hk _ _ a2,a3⟩
structure Gr where
  p : Option Addr
  n : Nat
  k : Nat
  q : Sg
  xs : List Value
  i : Nat
namespace Oc
theorem few_no {L : List Opn} {i : Nat} (hi : i < L.length) (h : ¬ (L.getD i Opn.dflt).d.length <= 1000) : few (L.map Opn.c) = false := by
  cases hf : few (L.map Opn.c) with
  | false => rfl
  | true => exact absurd (few_data hf hi) h
theorem few_long {L : List Opn} (h : ¬ L.length <= 100) : few (L.map Opn.c) = false := by
  cases hf : few (L.map Opn.c) with
  | false => rfl
  | true => exact absurd (by simpa using (few_iff.1 hf).1) h
theorem few_yes {L : List Opn} (h1 : L.length <= 100) (h : ∀ j,j < L.length -> (L.getD j Opn.dflt).d.length <= 1000) : few (L.map Opn.c) = true := by
  refine few_iff.2 ⟨by simpa using h1,fun o ho => ?_⟩
  obtain ⟨o',ho',rfl⟩ := List.mem_map.1 ho
  obtain ⟨j,hj,hjo⟩ := List.mem_iff_getElem.1 ho'
  have := h j hj
  rw [List.getD_eq_getElem?_getD,List.getElem?_eq_getElem hj,hjo] at this
  exact this
theorem encE_odd {l : List Oc} (h : l.any odd = true) : encE l = 1 := if_pos h
theorem encE_big {l : List Oc} (h : l.any odd = false) (h2 : tot l + 1 > 1024) : encE l = 3 := (if_neg (by rw [h]; decide)).trans (if_pos h2)
theorem encE_ok {l : List Oc} (h : l.any odd = false) (h2 : ¬ tot l + 1 > 1024) : encE l = 0 := (if_neg (by rw [h]; decide)).trans (if_neg h2)
theorem same_at {L M : List Opn} (h : L.map Opn.c = M.map Opn.c) (i : Nat) : (L.getD i Opn.dflt).code = (M.getD i Opn.dflt).code /\ (L.getD i Opn.dflt).d = (M.getD i Opn.dflt).d := by
  have := congrArg (fun l => List.getD l i dflt) h
  simp only [getD_c] at this
  exact ⟨congrArg Oc.code this,congrArg Oc.d this⟩
theorem same_len {L M : List Opn} (h : L.map Opn.c = M.map Opn.c) : L.length = M.length := by simpa using congrArg List.length h
end Oc
theorem val_of1 {l : List UInt8} (h : l.length = 1) : val l = ((l.getD 0 0).toNat : Int) := by
  match l,h with
  | [c],_ => rw [val_one]; rfl
namespace Oc
theorem any_at {L : List Opn} {i : Nat} (hi : i < L.length) (h : odd (L.getD i Opn.dflt).c = true) : (L.map Opn.c).any odd = true :=
  List.any_eq_true.2 ⟨_,List.mem_map_of_mem (f := Opn.c) (getD_mem hi Opn.dflt),h⟩
theorem any_none {L : List Opn} (h : ∀ j,j < L.length -> odd (L.getD j Opn.dflt).c = false) : (L.map Opn.c).any odd = false := by
  rw [List.any_eq_false]
  intro o ho
  obtain ⟨o',ho',rfl⟩ := List.mem_map.1 ho
  obtain ⟨j,hj,hjo⟩ := List.mem_iff_getElem.1 ho'
  have := h j hj
  rw [List.getD_eq_getElem?_getD,List.getElem?_eq_getElem hj,hjo] at this
  simpa using this
theorem odd_no {c : Int} {d : List UInt8} (h1 : 1 <= c) (h2 : c <= 254) (h3 : d.length <= 255) : odd ⟨c,d⟩ = false := by
  unfold odd
  rw [decide_eq_false (show ¬ c <= 0 by omega),decide_eq_false (show ¬ c >= 255 by omega),decide_eq_false (show ¬ ((d.length : Nat) : Int) > 255 by omega)]; rfl
theorem odd_yes {c : Int} {d : List UInt8} (h : c < 1 \/ c > 254 \/ 255 < d.length) : odd ⟨c,d⟩ = true := by
  unfold odd
  simp only [Bool.or_eq_true,decide_eq_true_eq]
  omega
theorem tot_le (l : List Oc) (i : Nat) : tot (l.take i) <= tot l := by rw [tot_split l i]; omega
end Oc
end Go.K
namespace Go.K
section
variable {L : Sl} {V : Vw} {H : Hp}
variable {fn : Func} {B : World} {S : List Nat} {U : Vw} {P : Program} {n : Nat} {R : Value -> Vw -> Hp -> Prop}
theorem Ex.retS2 {t ad b off t' ad' b' off' : Nat} {c c' : Array Value} {e e' : TypeId} {fz fz' : Nat × Nat} {v v' : Value} (is : List Nat) (hr : fn.results = #[.cell ad t,.cell ad' t']) (hv : L.lookup ad = some (.pointer (some ⟨b,off,none⟩))) (hv' : L.lookup ad' = some (.pointer (some ⟨b',off',none⟩)))
    (ht : scal P t = true) (ht' : scal P t' = true) (hk : Kn V H b (.cells c e fz)) (hk' : Kn V H b' (.cells c' e' fz')) (hc : c[off]? = some v) (hc' : c'[off']? = some v')
    (hR : R (.tuple #[v,v']) V (pull is H).2) : Ex ⟨P,n,B,S,U,[]⟩ V H L (bodyPost P fn fun e w' => ∃ v V' H',e = .returned v /\ R v V' H' /\ St B S U V' H' w') .ret := fun a w i => by
  refine ⟨i.1.df,.tuple #[v,v'],?_,_,V,(pull is H).2,rfl,hR,(i.2.perm (pull_perm is H)).drop⟩
  have h2 : a.tmps[ad]?.getD undef = .pointer (some ⟨b,off,none⟩) := by rw [i.1.lk _ _ hv]; rfl
  have h2' : a.tmps[ad']?.getD undef = .pointer (some ⟨b',off',none⟩) := by rw [i.1.lk _ _ hv']; rfl
  have h3 := cell_of (hk.st i.2) hc
  have h3' := cell_of (hk'.st i.2) hc'
  simp [results,hr,Array.getD_eq_getD_getElem?,h2,h2',asAddr,loadVar,run_isAgg_scal ht,run_isAgg_scal ht',h3,h3']
end
end Go.K
namespace Go.K
open Go.ChangeShapes Go.WideShapes Go.ChangeAt Go.RowKit
end Go.K
