/- Masks of buckets, in plain Lean.
Conditions: none; no program in sight. -/
import Derived.Test.YtfgblingojgafaaGreatTC
import Derived.Test.YtfgblingojgafaaGreatFA
import Derived.Test.YtfgblingojgafaaGreatTA
import Derived.Test.YtfgblingojgafaaGreatKA
import Derived.KernelRfl
import Derived.Test.YtfgblingojgafaaGreatProg
import Derived.SizedLaws
import Derived.ChangeKeysEq
import Derived.LoopN
import Derived.Laws.CopyRow
import Derived.Laws.IdiomCopy
set_option linter.unusedSimpArgs false
set_option linter.unusedVariables false
set_option linter.unusedSectionVars false
set_option maxRecDepth 4000
namespace Go.K
namespace Bk
def w2 (a : Bool) (k : Nat) : Nat := if a = true then k else 0
def b8 (a b c d e f g h : Bool) : Nat := w2 a 1 + w2 b 2 + w2 c 4 + w2 d 8 + w2 e 16 + w2 f 32 + w2 g 64 + w2 h 128
def byte (f : Nat -> Bool) (j : Nat) : Nat := b8 (f (j * 8)) (f (j * 8 + 1)) (f (j * 8 + 2)) (f (j * 8 + 3)) (f (j * 8 + 4)) (f (j * 8 + 5)) (f (j * 8 + 6)) (f (j * 8 + 7))
theorem b8_lt : ∀ a b c d e f g h : Bool,b8 a b c d e f g h < 256 := by decide
theorem byte_lt (f : Nat -> Bool) (j : Nat) : byte f j < 256 := b8_lt ..
theorem b8_not : ∀ a b c d e f g h : Bool,b8 (!a) (!b) (!c) (!d) (!e) (!f) (!g) (!h) = 255 - b8 a b c d e f g h := by decide
theorem byte_not (f : Nat -> Bool) (j : Nat) : byte (fun k => !f k) j = 255 - byte f j := b8_not ..
theorem b8_has : ∀ a b c d e f g h : Bool,(b8 a b c d e f g h % 2 == 1) = a /\ (b8 a b c d e f g h / 2 % 2 == 1) = b /\ (b8 a b c d e f g h / 4 % 2 == 1) = c /\ (b8 a b c d e f g h / 8 % 2 == 1) = d /\ (b8 a b c d e f g h / 16 % 2 == 1) = e /\ (b8 a b c d e f g h / 32 % 2 == 1) = f /\ (b8 a b c d e f g h / 64 % 2 == 1) = g /\ (b8 a b c d e f g h / 128 % 2 == 1) = h := by decide
theorem byte_has (f : Nat -> Bool) (n : Nat) : (byte f (n / 8) / 2 ^ (n % 8) % 2 == 1) = f n := by
  obtain ⟨h0,h1,h2,h3,h4,h5,h6,h7⟩ := b8_has (f (n / 8 * 8)) (f (n / 8 * 8 + 1)) (f (n / 8 * 8 + 2)) (f (n / 8 * 8 + 3)) (f (n / 8 * 8 + 4)) (f (n / 8 * 8 + 5)) (f (n / 8 * 8 + 6)) (f (n / 8 * 8 + 7))
  have hn : n = n / 8 * 8 + n % 8 := by omega
  conv => rhs; rw [hn]
  rcases (show n % 8 = 0 \/ n % 8 = 1 \/ n % 8 = 2 \/ n % 8 = 3 \/ n % 8 = 4 \/ n % 8 = 5 \/ n % 8 = 6 \/ n % 8 = 7 by omega) with e | e | e | e | e | e | e | e <;> rw [e]
  · rw [Nat.pow_zero,Nat.div_one]; exact h0
  · exact h1
  · exact h2
  · exact h3
  · exact h4
  · exact h5
  · exact h6
  · exact h7
def upto (f : Nat -> Bool) (n : Nat) : Nat -> Bool := fun k => decide (k < n) && f k
theorem b8_put : ∀ a b c d e f g h : Bool,b8 a false false false false false false false = w2 a 1 /\ b8 a b false false false false false false = b8 a false false false false false false false + w2 b 2 /\ b8 a b c false false false false false = b8 a b false false false false false false + w2 c 4
    /\ b8 a b c d false false false false = b8 a b c false false false false false + w2 d 8 /\ b8 a b c d e false false false = b8 a b c d false false false false + w2 e 16 /\ b8 a b c d e f false false = b8 a b c d e false false false + w2 f 32
    /\ b8 a b c d e f g false = b8 a b c d e f false false + w2 g 64 /\ b8 a b c d e f g h = b8 a b c d e f g false + w2 h 128 := by decide
theorem upv (f : Nat -> Bool) (j r i : Nat) : upto f (j * 8 + r) (j * 8 + i) = (decide (i < r) && f (j * 8 + i)) := by
  unfold upto; rw [decide_eq_decide.2 (show j * 8 + i < j * 8 + r ↔ i < r by omega)]
theorem byte_upto (f : Nat -> Bool) (j r : Nat) : byte (upto f (j * 8 + r)) j = b8 (decide (0 < r) && f (j * 8)) (decide (1 < r) && f (j * 8 + 1)) (decide (2 < r) && f (j * 8 + 2)) (decide (3 < r) && f (j * 8 + 3)) (decide (4 < r) && f (j * 8 + 4)) (decide (5 < r) && f (j * 8 + 5)) (decide (6 < r) && f (j * 8 + 6)) (decide (7 < r) && f (j * 8 + 7)) := by
  unfold byte; rw [upv,upv,upv,upv,upv,upv,upv,show upto f (j * 8 + r) (j * 8) = (decide (0 < r) && f (j * 8)) from upv f j r 0]
theorem byte_put (f : Nat -> Bool) (n : Nat) : byte (upto f (n + 1)) (n / 8) = byte (upto f n) (n / 8) + w2 (f n) (2 ^ (n % 8)) := by
  have hn : n = n / 8 * 8 + n % 8 := by omega
  have hr : n % 8 < 8 := Nat.mod_lt _ (by decide)
  generalize n / 8 = j at hn ⊢
  generalize n % 8 = r at hn hr ⊢
  subst hn
  obtain ⟨h0,h1,h2,h3,h4,h5,h6,h7⟩ := b8_put (f (j * 8)) (f (j * 8 + 1)) (f (j * 8 + 2)) (f (j * 8 + 3)) (f (j * 8 + 4)) (f (j * 8 + 5)) (f (j * 8 + 6)) (f (j * 8 + 7))
  rw [Nat.add_assoc,byte_upto,byte_upto]
  match r,hr with
  | 0,_ => exact h0.trans (Nat.zero_add _).symm
  | 1,_ => exact h1
  | 2,_ => exact h2
  | 3,_ => exact h3
  | 4,_ => exact h4
  | 5,_ => exact h5
  | 6,_ => exact h6
  | 7,_ => exact h7
theorem byte_else (f : Nat -> Bool) {n j : Nat} (h : j ≠ n / 8) : byte (upto f (n + 1)) j = byte (upto f n) j := by
  have key : ∀ i,i < 8 -> upto f (n + 1) (j * 8 + i) = upto f n (j * 8 + i) := fun i hi => by
    unfold upto; rw [decide_eq_decide.2 (show j * 8 + i < n + 1 ↔ j * 8 + i < n by omega)]
  unfold byte
  rw [key 1 (by decide),key 2 (by decide),key 3 (by decide),key 4 (by decide),key 5 (by decide),key 6 (by decide),key 7 (by decide),show upto f (n + 1) (j * 8) = upto f n (j * 8) from key 0 (by decide)]
def mks (f : Nat -> Bool) : List Value := (List.range 32).map fun j => .int .u8 ((byte f j : Nat) : Int)
def ins (f : Nat -> Bool) : List Value := (List.range 256).map fun i => .bool (f i)
theorem mks_len (f : Nat -> Bool) : (mks f).length = 32 := by unfold mks; simp
theorem ins_len (f : Nat -> Bool) : (ins f).length = 256 := by unfold ins; simp
theorem mks_at (f : Nat -> Bool) {j : Nat} (h : j < 32) : (mks f)[j]? = some (.int .u8 ((byte f j : Nat) : Int)) := by
  unfold mks; rw [List.getElem?_map,List.getElem?_range h]; rfl
theorem mks_set (f : Nat -> Bool) {n : Nat} (h : n < 256) : (mks (upto f n)).set (n / 8) (.int .u8 ((byte (upto f n) (n / 8) + w2 (f n) (2 ^ (n % 8)) : Nat) : Int)) = mks (upto f (n + 1)) := by
  rw [<- byte_put]
  refine List.ext_getElem? fun j => ?_
  by_cases hj : j < 32
  · by_cases e : n / 8 = j
    · subst e; rw [List.getElem?_set_self (by rw [mks_len]; omega),mks_at _ (by omega)]
    · rw [List.getElem?_set_ne e,mks_at _ hj,mks_at _ hj,byte_else f (Ne.symm e)]
  · rw [List.getElem?_eq_none (by rw [List.length_set,mks_len]; omega),List.getElem?_eq_none (by rw [mks_len]; omega)]
theorem mks_congr {f g : Nat -> Bool} (h : ∀ i,i < 256 -> f i = g i) : mks f = mks g := by
  unfold mks
  refine List.map_congr_left fun j hj => ?_
  have hj : j < 32 := List.mem_range.1 hj
  unfold byte
  rw [h _ (by omega),h _ (by omega),h _ (by omega),h _ (by omega),h _ (by omega),h _ (by omega),h _ (by omega),h _ (by omega)]
theorem upto_zero (f : Nat -> Bool) : upto f 0 = fun _ => false := by funext k; unfold upto; rw [decide_eq_false (Nat.not_lt_zero k),Bool.false_and]
def nots (f : Nat -> Bool) (n : Nat) : List Value := (List.range 32).map fun j => .int .u8 ((byte (fun k => if j < n then !f k else f k) j : Nat) : Int)
theorem nots_zero (f : Nat -> Bool) : nots f 0 = mks f := by
  unfold nots mks; refine List.map_congr_left fun j _ => ?_
  simp only [Nat.not_lt_zero,if_false]
theorem nots_len (f : Nat -> Bool) (n : Nat) : (nots f n).length = 32 := by unfold nots; simp
theorem nots_at (f : Nat -> Bool) {n j : Nat} (h : j < 32) : (nots f n)[j]? = some (.int .u8 ((byte (fun k => if j < n then !f k else f k) j : Nat) : Int)) := by
  unfold nots; rw [List.getElem?_map,List.getElem?_range h]; rfl
theorem nots_self (f : Nat -> Bool) {n : Nat} (h : n < 32) : (nots f n)[n]? = some (.int .u8 ((byte f n : Nat) : Int)) := by
  rw [nots_at f h]; simp only [Nat.lt_irrefl,if_false]
theorem nots_all (f : Nat -> Bool) : nots f 32 = mks fun k => !f k := by
  unfold nots mks; refine List.map_congr_left fun j hj => ?_
  simp only [if_pos (List.mem_range.1 hj)]
theorem nots_set (f : Nat -> Bool) {n : Nat} (h : n < 32) : (nots f n).set n (.int .u8 ((255 - byte f n : Nat) : Int)) = nots f (n + 1) := by
  refine List.ext_getElem? fun j => ?_
  by_cases hj : j < 32
  · by_cases e : n = j
    · subst e; rw [List.getElem?_set_self (by rw [nots_len]; omega),nots_at _ h]; simp only [if_pos (Nat.lt_succ_self n)]; rw [<- byte_not]
    · rw [List.getElem?_set_ne e,nots_at _ hj,nots_at _ hj]
      by_cases c : j < n
      · simp only [if_pos c,if_pos (show j < n + 1 by omega)]
      · simp only [if_neg c,if_neg (show ¬ j < n + 1 by omega)]
  · rw [List.getElem?_eq_none (by rw [List.length_set,nots_len]; omega),List.getElem?_eq_none (by rw [nots_len]; omega)]
end Bk
end Go.K
namespace Go.K
theorem setL_all : ∀ (vs a : List Value),vs.length = a.length -> setL a 0 vs = vs := by
  have key : ∀ (vs a p : List Value),vs.length = a.length -> setL (p ++ a) p.length vs = p ++ vs := fun vs => by
    induction vs with
    | nil => intro a p h; obtain rfl := List.length_eq_zero_iff.1 h.symm; rfl
    | cons v vs ih =>
      intro a p h
      match a,h with
      | x :: a,h =>
        show setL ((p ++ x :: a).set p.length v) (p.length + 1) vs = _
        rw [List.set_append_right _ _ (Nat.le_refl _),Nat.sub_self,List.set_cons_zero]
        have := ih a (p ++ [v]) (by simpa using h)
        rw [List.append_assoc,List.length_append] at this
        rw [show p ++ v :: vs = p ++ [v] ++ vs by simp]
        exact this
  intro vs a h
  exact key vs a [] h
theorem cells_all {l : List Value} {z : Nat} (h : l.length = z) : cellsAt l.toArray 0 z = some l := by subst h; exact cellsAt_of l 0 fun o ho => by simp
section
variable {C : Cx} {V : Vw} {H : Hp} {L : Sl} {Q : Exit -> Act -> World -> Prop} {ops : Array Oper} {os : List Oper}
variable {ty : TypeId} {pos : String} {aft : Array Edge} {d : Nat}
theorem Y.ldA1 {x : Operand} {b : Nat} {m : Int} {l : List Value} {e t : TypeId} {fz : Nat × Nat} {v : Value} (i' : Nat) (hx : ev L x = some (.pointer (some ⟨b,0 + m.toNat * 1,none⟩))) (hm : m = (i' : Int)) (ht : scal C.P t = true) (hk : Kn V H b (.cells l.toArray e fz)) (hv : l[i']? = some v) : Yl C V H L (.load t x) ty v :=
  Y.load hx ht hk (by subst hm; simpa using hv)
theorem Y.ldAll {x : Operand} {b z : Nat} {l : List Value} {e t : TypeId} {fz : Nat × Nat} (hx : ev L x = some (.pointer (some ⟨b,0,none⟩))) (ht : aggsz C.P t = some z) (hk : Kn V H b (.cells l.toArray e fz)) (hz : l.length = z) : Yl C V H L (.load t x) ty (.agg l.toArray) :=
  Y.loadAgg hx ht hk (by subst hz; exact cellsAt_of l 0 fun o ho => by simp)
theorem Run.stA1 {x y : Operand} {b j : Nat} {m : Int} {l l2 : List Value} {e t : TypeId} {v : Value} (i' : Nat) (hx : ev L x = some (.pointer (some ⟨b,0 + m.toNat * 1,none⟩))) (hm : m = (i' : Int)) (hy : ev L y = some v) (ht : sizeT C.P t = some 1) (hi : H[j]? = some [(b,.cells l.toArray e (0,0))])
    (hv : v.cells = #[v]) (h1 : one v = true) (hl : i' < l.length) (hq : l.set i' v = l2) (k : Run C ops V (H.set j [(b,.cells l2.toArray e (0,0))]) L os Q) :
    Run C ops V H L (⟨none,.store t x y,ty,pos,aft,none⟩ :: os) Q := by
  subst hm
  exact Run.store hx hy ht hi (by rw [hv]; rfl) (by simp; omega) (by rw [hv]; simpa using h1) (by rw [hv]; subst hq; simp [setL]) k
theorem Run.stAll {x y : Operand} {b z j : Nat} {l l2 : List Value} {e t : TypeId} (hx : ev L x = some (.pointer (some ⟨b,0,none⟩))) (hy : ev L y = some (.agg l2.toArray)) (ht : sizeT C.P t = some z) (hi : H[j]? = some [(b,.cells l.toArray e (0,0))])
    (hz : l.length = z) (hz2 : l2.length = z) (h1 : l2.all one = true) (k : Run C ops V (H.set j [(b,.cells l2.toArray e (0,0))]) L os Q) :
    Run C ops V H L (⟨none,.store t x y,ty,pos,aft,none⟩ :: os) Q :=
  Run.store hx hy ht hi (by show l2.toArray.size = z; simpa using hz2) (by omega) (by show l2.toArray.toList.all one = true; simpa using h1) (by
    show [(b,Obj.cells (setL l 0 l2.toArray.toList).toArray e (0,0))] = _
    rw [show l2.toArray.toList = l2 by simp,setL_all l2 l (by omega)]) k
theorem Y.xor8 {x : Operand} {n : Nat} {t : TypeId} (hx : ev L x = some (.int .u8 ((n : Nat) : Int))) (hn : n < 256) : Yl C V H L (.unOp .xor t x) ty (.int .u8 ((255 - n : Nat) : Int)) := (fun V2 a w hle i o ho hty => by
  have key : ∀ n : Fin 256,IntKind.u8.wrap ((BitVec.ofInt IntKind.u8.bits IntKind.u8.max ^^^ BitVec.ofInt IntKind.u8.bits ((n.1 : Nat) : Int)).toNat : Int) = ((255 - n.1 : Nat) : Int) := by decide +kernel
  have := key ⟨n,hn⟩
  simp only at this
  simp only [execOp,ho,i.1.ev hx,Op.unary,Op.intBits]
  simpa [show IntKind.u8.signed = false from rfl] using this)
end
theorem or_u8 {a b : Nat} (ha : a < 256) (hb : b < 256) : IntKind.u8.wrap ((BitVec.ofInt IntKind.u8.bits (a : Int) ||| BitVec.ofInt IntKind.u8.bits (b : Int)).toNat : Int) = ((a ||| b : Nat) : Int) := by
  have hx : a ||| b < 256 := Nat.or_lt_two_pow (n := 8) ha hb
  rw [show IntKind.u8.bits = 8 from rfl,BitVec.toNat_or,BitVec.toNat_ofInt,BitVec.toNat_ofInt]
  rw [show ((a : Int) % ((2 ^ 8 : Nat) : Int)).toNat = a by omega,show ((b : Int) % ((2 ^ 8 : Nat) : Int)).toNat = b by omega]
  exact wrap_u8 (by omega)
theorem and1_u8 {a : Nat} (ha : a < 256) : IntKind.u8.wrap ((BitVec.ofInt IntKind.u8.bits (a : Int) &&& BitVec.ofInt IntKind.u8.bits 1).toNat : Int) = ((a % 2 : Nat) : Int) := by
  have key : ∀ n : Fin 256,IntKind.u8.wrap ((BitVec.ofInt IntKind.u8.bits ((n.1 : Nat) : Int) &&& BitVec.ofInt IntKind.u8.bits 1).toNat : Int) = ((n.1 % 2 : Nat) : Int) := by decide +kernel
  exact key ⟨a,ha⟩
theorem shl1_u8 {r : Nat} (h : r < 8) : IntKind.u8.wrap (1 * 2 ^ min (((r : Nat) : Int)).toNat IntKind.u8.bits) = ((2 ^ r : Nat) : Int) := by
  have key : ∀ r : Fin 8,IntKind.u8.wrap (1 * 2 ^ min (((r.1 : Nat) : Int)).toNat IntKind.u8.bits) = ((2 ^ r.1 : Nat) : Int) := by decide +kernel
  exact key ⟨r,h⟩
theorem shr_pow {r : Nat} (h : r < 8) : (2 : Int) ^ min (((r : Nat) : Int)).toNat IntKind.u8.bits = ((2 ^ r : Nat) : Int) := by
  have key : ∀ r : Fin 8,(2 : Int) ^ min (((r.1 : Nat) : Int)).toNat IntKind.u8.bits = ((2 ^ r.1 : Nat) : Int) := by decide +kernel
  exact key ⟨r,h⟩
theorem tdivN (a q : Nat) {k : Int} (e : k = (q : Int)) (h : a < 9223372036854775808) : IntKind.i64.wrap (((a : Nat) : Int).tdiv k) = ((a / q : Nat) : Int) := by
  subst e
  have h1 := Nat.div_le_self a q
  rw [Int.tdiv_eq_ediv_of_nonneg (Int.natCast_nonneg _),<- Int.natCast_ediv,wrap_i64]
  have h2 := Int.natCast_nonneg (a / q)
  omega
theorem tmodN (a q : Nat) {k : Int} (e : k = (q : Int)) : ((a : Nat) : Int).tmod k = ((a % q : Nat) : Int) := by
  subst e; rw [Int.tmod_eq_emod_of_nonneg (Int.natCast_nonneg _)]; rfl
namespace Bk
theorem low_lt (f : Nat -> Bool) (n : Nat) : byte (upto f n) (n / 8) < 2 ^ (n % 8) := by
  have hn : n = n / 8 * 8 + n % 8 := by omega
  have hr : n % 8 < 8 := Nat.mod_lt _ (by decide)
  generalize n / 8 = j at hn ⊢
  generalize n % 8 = r at hn hr ⊢
  subst hn
  rw [byte_upto]
  have key : ∀ (r : Fin 8) (a b c d e f g h : Bool),b8 (decide (0 < r.1) && a) (decide (1 < r.1) && b) (decide (2 < r.1) && c) (decide (3 < r.1) && d) (decide (4 < r.1) && e) (decide (5 < r.1) && f) (decide (6 < r.1) && g) (decide (7 < r.1) && h) < 2 ^ r.1 := by decide +kernel
  exact key ⟨r,hr⟩ ..
theorem pow_lt (n : Nat) : 2 ^ (n % 8) < 256 := Nat.pow_lt_pow_of_lt (a := 2) (m := 8) (by decide) (Nat.mod_lt _ (by decide))
theorem or_put {f : Nat -> Bool} {n : Nat} (h : f n = true) : byte (upto f n) (n / 8) ||| 2 ^ (n % 8) = byte (upto f n) (n / 8) + w2 (f n) (2 ^ (n % 8)) := by
  rw [h]
  have := Nat.two_pow_add_eq_or_of_lt (low_lt f n) 1
  rw [Nat.mul_one] at this
  rw [Nat.or_comm,<- this]; exact Nat.add_comm _ _
theorem one_mks (f : Nat -> Bool) : (mks f).all one = true := by
  unfold mks; rw [List.all_map,List.all_eq_true]; exact fun _ _ => rfl
theorem has_i (f : Nat -> Bool) (n : Nat) : (((byte f (n / 8) / 2 ^ (n % 8) % 2 : Nat) : Int) == 1) = f n := by
  rw [<- byte_has f n,Bool.eq_iff_iff,beq_iff_eq,beq_iff_eq]; omega
theorem half (a i : Nat) : a / 2 ^ i / 2 = a / 2 ^ (i + 1) := by rw [Nat.div_div_eq_div_mul,Nat.pow_succ]
def fr (n : Int) : Nat -> Bool := fun k => decide ((k : Int) < n)
theorem fr_in {n : Int} {k : Nat} (h : (k : Int) < n) : fr n k = true := decide_eq_true h
theorem fr_all {n : Int} {i : Nat} (h : (i : Int) = min (max n 0) 256) : mks (upto (fr n) i) = mks (fr n) := mks_congr fun k hk => by
  unfold upto fr
  by_cases c : (k : Int) < n
  · rw [decide_eq_true c,decide_eq_true (show k < i by omega)]; rfl
  · rw [decide_eq_false c,Bool.and_false]
end Bk
end Go.K
namespace Go.K
theorem St.forget {B : World} {S : List Nat} {V V' : Vw} {H : Hp} {w : World} (h : St B S V V' H w) : St B S V V H w :=
  ⟨h.os,h.tape,h.output,h.size,h.fr,h.own,h.nd,h.dom,fun _ _ k => k,fun b o k => h.vh b o (h.le b o k),fun b o k => h.vd b o (h.le b o k),fun _ _ k => .inl k⟩
theorem Does.forget {P : Program} {f : FuncId} {args : List Value} {V : Vw} {H : Hp} {R R' : Value -> Vw -> Hp -> Prop} (h : Does P f args V H R) (k : ∀ v V' H',V.le V' -> R v V' H' -> R' v V H') : Does P f args V H R' :=
  ⟨h.1,fun B hB => (h.2 B hB).mono fun e w' ⟨v,V',H',q1,q2,q3⟩ => ⟨v,V,H',q1,k v V' H' q3.le q2,q3.forget⟩⟩
section
variable {C : Cx} {V : Vw} {H : Hp} {L : Sl} {Q : Exit -> Act -> World -> Prop} {ops : Array Oper} {os : List Oper}
variable {ty : TypeId} {pos : String} {aft : Array Edge} {d : Nat}
end
end Go.K
namespace Go.K
structure Si where
  id : Int
  lead : Int
  guard : Int
  server : Int
  want : Int
  most : Int
  first : Int
  part : Nat
  slack : Nat
  renew : Nat
  rebind : Nat
  pool : List Rg
  room : Int
namespace Si
def cells (x : Si) (pv : Value) : Array Value := #[.int .i64 x.id,.int .i64 x.lead,.int .i64 x.guard,.int .u32 x.server,.int .i64 x.want,.int .i64 x.most,.int .i64 x.first,.float .f64 x.part,.float .f64 x.slack,.float .f64 x.renew,.float .f64 x.rebind,pv,.int .i64 x.room]
def wi (n lo hi : Int) : Bool := decide (lo <= n /\ n <= hi)
def rules (x : Si) : Rul := ⟨x.id,x.lead,x.guard⟩
def nums (x : Si) : Prop := (0 <= x.id /\ x.id <= 1) /\ (0 <= x.lead /\ x.lead <= 1073741824) /\ (0 <= x.guard /\ x.guard <= 1073741824) /\ (1 <= x.want /\ x.want <= x.most) /\ x.most <= 1073741824 /\ (0 <= x.first /\ x.first <= 256) /\ (1 <= x.room /\ x.room <= 1048576)
instance (x : Si) : Decidable x.nums := by unfold nums; infer_instance
def right (x : Si) : Bool := decide ((Rg.pool x.pool).2 = 0 /\ x.nums)
theorem right_t {x : Si} : x.right = true ↔ (Rg.pool x.pool).2 = 0 /\ x.nums := by unfold right; rw [decide_eq_true_eq]
theorem right_y {x : Si} (h : (Rg.pool x.pool).2 = 0 /\ x.nums) : x.right = true := right_t.2 h
theorem right_n {x : Si} (h : ¬ ((Rg.pool x.pool).2 = 0 /\ x.nums)) : x.right = false := decide_eq_false h
end Si
structure An where
  send : Bool
  reply : Pc
  change : Bool
  lease : Le
  pot : Int
namespace An
def none : An := ⟨false,Cli.zeroP,false,Le.dflt,0⟩
def cells (a : An) (hv ov : Value) : Array Value := #[.bool a.send,.int .i64 a.reply.op,.int .u32 a.reply.xid,.int .i64 a.reply.secs,.int .i64 a.reply.flags,.int .u32 a.reply.ci,.int .u32 a.reply.yi,.int .u32 a.reply.si,.int .u32 a.reply.gi,hv,ov,.bool a.change,
  .int .u32 a.lease.addr,.int .i64 a.lease.bind,.string a.lease.client,.int .i64 a.lease.till,.int .i64 a.lease.acked,.int .i64 a.lease.told,.int .i64 a.lease.at_,.int .i64 a.lease.ver,.int .i64 a.pot]
end An
namespace Eg
def theirs (c : ByteArray) (l : Le) : Bool := l.bind == 2 && (l.client.toList == c.toList)
def time (x : Si) (c : ByteArray) (now want : Int) (l : Le) : Int := min (Ck.left now (x.rules.until_ now want (if theirs c l = true then l.acked else 0))) 4294967295
def bt (n : Int) : UInt8 := UInt8.ofNat (n % 256).toNat
def rep (x : Si) (p : Pc) (kind : Int) : Pc := ⟨2,p.xid,0,p.flags,if kind = 5 then p.ci else 0,0,x.server,p.gi,p.hw,[⟨53,[bt kind]⟩,⟨54,Msg.be 4 x.server⟩]⟩
def times (x : Si) (t : Int) : List Oc := [⟨51,Msg.be 4 t⟩,⟨58,Msg.be 4 (Fl.part t x.renew)⟩,⟨59,Msg.be 4 (max (Fl.part t x.renew) (Fl.part t x.rebind))⟩]
def prom (x : Si) (p : Pc) (kind a t : Int) : Pc := ⟨2,p.xid,0,p.flags,if kind = 5 then p.ci else 0,a,x.server,p.gi,p.hw,[⟨53,[bt kind]⟩,⟨54,Msg.be 4 x.server⟩] ++ times x t⟩
def mine (x : Si) (c : ByteArray) : Bool := if x.id = 1 then !decide (((Bk.bucket c.toList : Nat) : Int) < x.first) else decide (((Bk.bucket c.toList : Nat) : Int) < x.first)
def fst (q : Le -> Bool) (l : List Le) : Le × Bool := match l.find? q with
  | some y => (y,true)
  | .none => (Le.dflt,false)
def of (q : Le -> Bool) (l : List Le) (a : Int) : Le × Bool := ((Le.getE l a).1,(Le.getE l a).2 == 0 && q (Le.getE l a).1)
structure Qy where
  x : Si
  l : List Le
  state : Int
  now : Int
  entry : Int
  p : Pc
  client : ByteArray
  addr : Int
  want : Int
namespace Qy
def th (q : Qy) (l : Le) : Bool := theirs q.client l
def may (q : Qy) (l : Le) : Bool := q.x.rules.may l q.state q.now q.entry
def tm (q : Qy) (l : Le) : Int := time q.x q.client q.now q.want l
def pick (q : Qy) : Le × Bool := if (fst q.th q.l).2 = true then fst q.th q.l else if (of q.may q.l q.addr).2 = true then of q.may q.l q.addr else fst q.may q.l
def offer (q : Qy) (y : Le) : An := if q.tm y < 1 then An.none else ⟨true,prom q.x q.p 2 y.addr (q.tm y),false,Le.dflt,0⟩
def discover (q : Qy) : An := if q.state = 1 /\ mine q.x q.client = false then An.none else if q.pick.2 = true then q.offer q.pick.1 else An.none
def told (q : Qy) : Bool := (Oc.fd 54 q.p.os).length == 4
def server (q : Qy) : Int := val (Oc.fd 54 q.p.os)
def g (q : Qy) : Le × Int := Le.getE q.l q.addr
def has (q : Qy) : Bool := q.g.2 == 0 && (q.th q.g.1 || q.may q.g.1)
def gives (q : Qy) : Bool := q.has && decide (q.tm q.g.1 > 0)
def idle (q : Qy) : Bool := q.g.2 == 0 && (q.g.1.bind == 0 || q.g.1.bind == 1)
def nl (q : Qy) : Le := q.x.rules.lease q.g.1 q.client q.now q.want
def request (q : Qy) : An := if q.told = true /\ ¬ q.server = q.x.server then An.none else if q.gives = true then ⟨true,prom q.x q.p 5 q.addr (q.tm q.g.1),true,q.nl,Rul.potential q.nl q.now q.want⟩
  else if q.told = false /\ q.idle = true then An.none else ⟨true,rep q.x q.p 6,false,Le.dflt,0⟩
def decline (q : Qy) : An := if (of q.th q.l q.addr).2 = true then ⟨false,Cli.zeroP,true,Le.bare q.g.1.addr 5 q.g.1.ver,0⟩ else An.none
def release (q : Qy) : An := if (of q.th q.l q.p.ci).2 = true then ⟨false,Cli.zeroP,true,{ (Le.getE q.l q.p.ci).1 with bind := 4,at_ := q.now },0⟩ else An.none
def answer (q : Qy) : An := if q.p.kind = 1 then q.discover else if q.p.kind = 3 then q.request else if q.p.kind = 4 then q.decline else if q.p.kind = 7 then q.release else if q.p.kind = 8 then ⟨true,rep q.x q.p 5,false,Le.dflt,0⟩ else An.none
end Qy
def fits (x : Si) (state now : Int) (p : Pc) : Bool := x.right && (Rul.serves state && (Si.wi now 0 1099511627776 && (p.right && (p.op == 1))))
def qy (x : Si) (l : List Le) (state now entry : Int) (p : Pc) : Qy := ⟨x,l,state,now,entry,p,p.client,p.asked,min (if p.asks = 0 then x.want else p.asks) x.most⟩
def ans (x : Si) (l : List Le) (state now entry : Int) (p : Pc) : An := if fits x state now p = true then (qy x l state now entry p).answer else An.none
theorem ans_no {x : Si} {l : List Le} {state now entry : Int} {p : Pc} (h : fits x state now p = false) : ans x l state now entry p = An.none := if_neg (by rw [h]; decide)
theorem ans_yes {x : Si} {l : List Le} {state now entry : Int} {p : Pc} (h : fits x state now p = true) : ans x l state now entry p = (qy x l state now entry p).answer := if_pos h
theorem fst_at {q : Le -> Bool} : ∀ {l : List Le} {i : Nat},(∀ j,j < i -> q (l.getD j Le.dflt) = false) -> i < l.length -> q (l.getD i Le.dflt) = true -> fst q l = (l.getD i Le.dflt,true)
  | [],i,_,hi,_ => absurd hi (Nat.not_lt_zero i)
  | y :: l,0,_,_,hq => by
    have hq : q y = true := hq
    unfold fst; rw [List.find?_cons_of_pos hq]; rfl
  | y :: l,i + 1,h,hi,hq => by
    have h0 : q y = false := h 0 (by omega)
    have ih := fst_at (q := q) (l := l) (i := i) (fun j hj => h (j + 1) (by omega)) (by simpa using hi) hq
    unfold fst at ih ⊢; rw [List.find?_cons_of_neg (by rw [h0]; decide)]; exact ih
theorem fst_no {q : Le -> Bool} : ∀ {l : List Le},(∀ j,j < l.length -> q (l.getD j Le.dflt) = false) -> fst q l = (Le.dflt,false)
  | [],_ => rfl
  | y :: l,h => by
    have h0 : q y = false := h 0 (by simp)
    have ih := fst_no (q := q) (l := l) fun j hj => h (j + 1) (by simpa using hj)
    unfold fst at ih ⊢; rw [List.find?_cons_of_neg (by rw [h0]; decide)]; exact ih
theorem fst_is {q : Le -> Bool} {l : List Le} (h : (fst q l).2 = true) : (fst q l).1 ∈ l /\ q (fst q l).1 = true := by
  unfold fst at h ⊢
  cases hf : l.find? q with
  | none => rw [hf] at h; cases h
  | some y => exact ⟨List.mem_of_find?_eq_some hf,List.find?_some hf⟩
theorem of_is {q : Le -> Bool} {l : List Le} {a : Int} (h : (of q l a).2 = true) : (Le.getE l a).2 = 0 /\ q (Le.getE l a).1 = true := by
  unfold of at h; simpa using h
theorem tm_le (q : Qy) (y : Le) : q.tm y <= 4294967295 := by unfold Qy.tm time; omega
theorem tm_nn (q : Qy) (y : Le) : 0 <= q.tm y := by
  have := Ck.mo_bd (Ck.mo (q.x.rules.until_ q.now q.want (if theirs q.client y = true then y.acked else 0)) - Ck.mo q.now)
  unfold Qy.tm time Ck.left; omega
end Eg
end Go.K
namespace Go.K
theorem Kn.shown {V2 : Vw} {b : Nat} {o : Obj} (h : ∀ b' o',([(b,o)] : Sg).lookup b' = some o' -> V2 b' = some o') : Kn V2 [] b o := .inl (h b o (by simp [List.lookup]))
abbrev le0 : Array Value := (Le.cells Le.dflt).toArray
abbrev an0 : Array Value := An.cells An.none (.slice none 0 0) (.slice none 0 0)
namespace Eg
def Qy.cells (q : Qy) (pv : Value) (tx : Nat) (hv ov : Value) : Array Value := #[.int .i64 q.x.id,.int .i64 q.x.lead,.int .i64 q.x.guard,.int .u32 q.x.server,.int .i64 q.x.want,.int .i64 q.x.most,.int .i64 q.x.first,.float .f64 q.x.part,.float .f64 q.x.slack,.float .f64 q.x.renew,.float .f64 q.x.rebind,pv,.int .i64 q.x.room,
  .int .i64 q.x.id,.int .i64 q.x.lead,.int .i64 q.x.guard,.pointer (some ⟨tx,0,none⟩),.int .i64 q.state,.int .i64 q.now,.int .i64 q.entry,
  .int .i64 q.p.op,.int .u32 q.p.xid,.int .i64 q.p.secs,.int .i64 q.p.flags,.int .u32 q.p.ci,.int .u32 q.p.yi,.int .u32 q.p.si,.int .u32 q.p.gi,hv,ov,.string q.client,.int .u32 q.addr,.int .i64 q.want]
theorem time_is (q : Qy) (l : Le) : q.tm l = min (Ck.left q.now (q.x.rules.until_ q.now q.want (if theirs q.client l = true then l.acked else 0))) 4294967295 := rfl
theorem tm_y {q : Qy} {l : Le} (h : q.th l = true) : min (Ck.left q.now (q.x.rules.until_ q.now q.want l.acked)) 4294967295 = q.tm l := by
  rw [time_is,if_pos (show theirs q.client l = true from h)]
theorem tm_n {q : Qy} {l : Le} (h : q.th l = false) : min (Ck.left q.now (q.x.rules.until_ q.now q.want 0)) 4294967295 = q.tm l := by
  rw [time_is,if_neg (by rw [show theirs q.client l = false from h]; decide)]
theorem mine_y {q : Qy} (h : q.x.id = 1) : (fun k => !Bk.fr q.x.first k) (Bk.bucket q.client.toList) = mine q.x q.client := by unfold mine Bk.fr; rw [if_pos h]
theorem mine_n {q : Qy} (h : ¬ q.x.id = 1) : Bk.fr q.x.first (Bk.bucket q.client.toList) = mine q.x q.client := by unfold mine Bk.fr; rw [if_neg h]
theorem buk_lt (l : List UInt8) : Bk.bucket l < 256 := Bk.down_lt l 0
theorem disc_no {q : Qy} (h : q.state = 1) (k : mine q.x q.client = false) : q.discover = An.none := if_pos ⟨h,k⟩
theorem disc_of {q : Qy} (h : ¬ q.state = 1 \/ mine q.x q.client = true) : q.discover = if q.pick.2 = true then q.offer q.pick.1 else An.none := if_neg fun hc => by
  rcases h with h | h
  · exact h hc.1
  · rw [hc.2] at h; cases h
theorem disc_1 {q : Qy} (h : ¬ q.state = 1 \/ mine q.x q.client = true) (k : (fst q.th q.l).2 = true) : q.discover = q.offer (fst q.th q.l).1 := by
  rw [disc_of h,show q.pick = fst q.th q.l from if_pos k,if_pos k]
theorem disc_2 {q : Qy} (h : ¬ q.state = 1 \/ mine q.x q.client = true) (k : (fst q.th q.l).2 = false) (m : (of q.may q.l q.addr).2 = true) : q.discover = q.offer (of q.may q.l q.addr).1 := by
  rw [disc_of h,show q.pick = of q.may q.l q.addr from (if_neg (by rw [k]; decide)).trans (if_pos m),if_pos m]
theorem disc_3 {q : Qy} (h : ¬ q.state = 1 \/ mine q.x q.client = true) (k : (fst q.th q.l).2 = false) (m : (of q.may q.l q.addr).2 = false) : q.discover = if (fst q.may q.l).2 = true then q.offer (fst q.may q.l).1 else An.none := by
  rw [disc_of h,show q.pick = fst q.may q.l from (if_neg (by rw [k]; decide)).trans (if_neg (by rw [m]; decide))]
theorem offer_no {q : Qy} {y : Le} (h : q.tm y < 1) : q.offer y = An.none := if_pos h
theorem offer_is {q : Qy} {y : Le} (h : ¬ q.tm y < 1) : q.offer y = ⟨true,prom q.x q.p 2 y.addr (q.tm y),false,Le.dflt,0⟩ := if_neg h
theorem req_other {q : Qy} (h : q.told = true) (k : ¬ q.server = q.x.server) : q.request = An.none := if_pos ⟨h,k⟩
theorem req_mine {q : Qy} (h : q.told = false \/ q.server = q.x.server) : q.request = if q.gives = true then ⟨true,prom q.x q.p 5 q.addr (q.tm q.g.1),true,q.nl,Rul.potential q.nl q.now q.want⟩
    else if q.told = false /\ q.idle = true then An.none else ⟨true,rep q.x q.p 6,false,Le.dflt,0⟩ := if_neg fun hc => by
  rcases h with h | h
  · rw [hc.1] at h; cases h
  · exact hc.2 h
theorem req_gives {q : Qy} (h : q.told = false \/ q.server = q.x.server) (k : q.gives = true) : q.request = ⟨true,prom q.x q.p 5 q.addr (q.tm q.g.1),true,q.nl,Rul.potential q.nl q.now q.want⟩ := (req_mine h).trans (if_pos k)
theorem req_idle {q : Qy} (h : q.told = false) (k : q.gives = false) (m : q.idle = true) : q.request = An.none := (req_mine (.inl h)).trans ((if_neg (by rw [k]; decide)).trans (if_pos ⟨h,m⟩))
theorem req_nak {q : Qy} (h : q.told = false \/ q.server = q.x.server) (k : q.gives = false) (m : q.told = true \/ q.idle = false) : q.request = ⟨true,rep q.x q.p 6,false,Le.dflt,0⟩ := (req_mine h).trans ((if_neg (by rw [k]; decide)).trans (if_neg fun hc => by
  rcases m with m | m
  · rw [hc.1] at m; cases m
  · rw [hc.2] at m; cases m))
end Eg
namespace Eg
structure Qok (V : Vw) (q : Qy) (hv ov : Value) : Prop where
  hw : Rd V [] 1 hv q.p.hw.length (q.p.hw.map byteV)
  os : Pc.Rs V ov q.p.os
  few : Oc.few q.p.os = true
  hl : q.p.hw.length < 1000
  xid : 0 <= q.p.xid /\ q.p.xid <= 4294967295
  ad : 0 <= q.addr /\ q.addr <= 4294967295
  sv : 0 <= q.x.server /\ q.x.server <= 4294967295
  la : ∀ y,y ∈ q.l -> 0 <= y.addr /\ y.addr <= 4294967295
  cl : q.client.size <= 9223372036854775807
theorem Qok.le {V V2 : Vw} {q : Qy} {hv ov : Value} (h : Qok V q hv ov) (hl : V.le V2) : Qok V2 q hv ov := ⟨h.hw.le hl,h.os.le hl,h.few,h.hl,h.xid,h.ad,h.sv,h.la,h.cl⟩
theorem Qok.forms {V : Vw} {q : Qy} {hv ov : Value} (h : Qok V q hv ov) : (∃ p c,hv = .slice p q.p.hw.length c) /\ ∃ p n c,ov = .slice p n c := by
  obtain ⟨p,c,rfl,_⟩ := h.hw.form
  obtain ⟨L,_,ho,_⟩ := h.os
  obtain ⟨p2,c2,rfl,_⟩ := ho.form
  exact ⟨⟨p,c,rfl⟩,p2,_,c2,rfl⟩
theorem asked_bd {p : Pc} (h : 0 <= p.ci /\ p.ci <= 4294967295) : 0 <= p.asked /\ p.asked <= 4294967295 := by
  unfold Pc.asked
  split
  · rename_i hl; exact Cli.val4 hl
  · exact h
theorem client_sz {p : Pc} (hf : p.few = true) : p.client.size <= 9223372036854775807 := by
  simp only [Pc.few,Bool.and_eq_true,decide_eq_true_eq] at hf
  unfold Pc.client
  split
  · rename_i h; show (Oc.fd 61 p.os).toArray.size <= _; rw [List.size_toArray]; omega
  · show p.hw.toArray.size <= _; rw [List.size_toArray]; omega
theorem qok_of {V : Vw} {x : Si} {l : List Le} {p : Pc} {hv ov : Value} {state now entry : Int} (hp : Pc.R V p hv ov) (hf : p.few = true) (hci : 0 <= p.ci /\ p.ci <= 4294967295) (hsv : 0 <= x.server /\ x.server <= 4294967295) (hla : ∀ y,y ∈ l -> 0 <= y.addr /\ y.addr <= 4294967295) : Qok V (qy x l state now entry p) hv ov :=
  have h2 := hf
  ⟨hp.hw,hp.os,by simp only [Pc.few,Bool.and_eq_true] at h2; exact h2.1,by simp only [Pc.few,Bool.and_eq_true,decide_eq_true_eq] at h2; show p.hw.length < 1000; omega,hp.xid,asked_bd hci,hsv,hla,client_sz hf⟩
theorem ans_1 {q : Qy} (h : q.p.kind = 1) : q.answer = q.discover := if_pos h
theorem ans_3 {q : Qy} (h : q.p.kind = 3) : q.answer = q.request := by unfold Qy.answer; rw [if_neg (by omega),if_pos h]
theorem ans_4 {q : Qy} (h : q.p.kind = 4) : q.answer = q.decline := by unfold Qy.answer; rw [if_neg (by omega),if_neg (by omega),if_pos h]
theorem ans_7 {q : Qy} (h : q.p.kind = 7) : q.answer = q.release := by unfold Qy.answer; rw [if_neg (by omega),if_neg (by omega),if_neg (by omega),if_pos h]
theorem ans_8 {q : Qy} (h : q.p.kind = 8) : q.answer = ⟨true,rep q.x q.p 5,false,Le.dflt,0⟩ := by unfold Qy.answer; rw [if_neg (by omega),if_neg (by omega),if_neg (by omega),if_neg (by omega),if_pos h]
theorem ans_0 {q : Qy} (h : ¬ q.p.kind = 1) (h3 : ¬ q.p.kind = 3) (h4 : ¬ q.p.kind = 4) (h7 : ¬ q.p.kind = 7) (h8 : ¬ q.p.kind = 8) : q.answer = An.none := by unfold Qy.answer; rw [if_neg h,if_neg h3,if_neg h4,if_neg h7,if_neg h8]
theorem fits_y {x : Si} {state now : Int} {p : Pc} (h1 : x.right = true) (h2 : Rul.serves state = true) (h3 : decide (0 <= now /\ now <= 1099511627776) = true) (h4 : p.right = true) (h5 : p.op = 1) : fits x state now p = true := by
  unfold fits Si.wi; rw [h1,h2,h3,h4,h5]; rfl
theorem fits_n {x : Si} {state now : Int} {p : Pc} (h : x.right = false \/ Rul.serves state = false \/ decide (0 <= now /\ now <= 1099511627776) = false \/ p.right = false \/ ¬ p.op = 1) : fits x state now p = false := by
  cases hc : fits x state now p with
  | false => rfl
  | true =>
    unfold fits Si.wi at hc
    simp only [Bool.and_eq_true,beq_iff_eq] at hc
    obtain ⟨a,b,c,d,e⟩ := hc
    rcases h with h | h | h | h | h
    · rw [a] at h; cases h
    · rw [b] at h; cases h
    · rw [c] at h; cases h
    · rw [d] at h; cases h
    · exact absurd e h
theorem fst_la {q : Le -> Bool} {l : List Le} (h : (fst q l).2 = true) (k : ∀ y,y ∈ l -> 0 <= y.addr /\ y.addr <= 4294967295) : 0 <= (fst q l).1.addr /\ (fst q l).1.addr <= 4294967295 := k _ (fst_is h).1
theorem getE_mem {l : List Le} {a : Int} (h : (Le.getE l a).2 = 0) : (Le.getE l a).1 ∈ l /\ (Le.getE l a).1.addr = a := by
  unfold Le.getE at h ⊢
  cases hg : Le.get l a with
  | none => rw [hg] at h; cases h
  | some y =>
    unfold Le.get at hg
    exact ⟨List.mem_of_find?_eq_some hg,by have := List.find?_some hg; simpa using this⟩
theorem of_la {q : Le -> Bool} {l : List Le} {a : Int} (h : (of q l a).2 = true) (k : ∀ y,y ∈ l -> 0 <= y.addr /\ y.addr <= 4294967295) : 0 <= (of q l a).1.addr /\ (of q l a).1.addr <= 4294967295 := k _ (getE_mem (of_is h).1).1
theorem gives_no {q : Qy} (h : (of (fun l => q.th l || q.may l) q.l q.addr).2 = false \/ ¬ q.tm (of (fun l => q.th l || q.may l) q.l q.addr).1 > 0) : q.gives = false := by
  unfold Qy.gives Qy.has
  rcases h with h | h
  · unfold of at h; rw [show (q.g.2 == 0 && (q.th q.g.1 || q.may q.g.1)) = false from h]; rfl
  · rw [decide_eq_false (show ¬ q.tm q.g.1 > 0 from h),Bool.and_false]
def Qy.shut (q : Qy) : Bool := q.state == 1 && !mine q.x q.client
theorem shut_t {q : Qy} (h : q.shut = true) : q.discover = An.none := by
  unfold Qy.shut at h; simp only [Bool.and_eq_true,beq_iff_eq,Bool.not_eq_true'] at h; exact disc_no h.1 h.2
theorem shut_f {q : Qy} (h : q.shut = false) : ¬ q.state = 1 \/ mine q.x q.client = true := by
  unfold Qy.shut at h; simp only [Bool.and_eq_false_iff,beq_eq_false_iff_ne,Bool.not_eq_false'] at h; exact h
def Qy.oth (q : Qy) : Bool := q.told && !(q.server == q.x.server)
theorem oth_t {q : Qy} (h : q.oth = true) : q.request = An.none := by
  unfold Qy.oth at h; simp only [Bool.and_eq_true,Bool.not_eq_true',beq_eq_false_iff_ne] at h; exact req_other h.1 h.2
theorem oth_f {q : Qy} (h : q.oth = false) : q.told = false \/ q.server = q.x.server := by
  unfold Qy.oth at h; simp only [Bool.and_eq_false_iff,Bool.not_eq_false',beq_iff_eq] at h; exact h
theorem oth_n {q : Qy} (h : q.told = false) : false = q.oth := by unfold Qy.oth; rw [h]; rfl
theorem oth_y {q : Qy} {s : Int} (h : q.told = true) (k : q.told = true -> s = q.server) : (s != q.x.server) = q.oth := by unfold Qy.oth; rw [h,k h]; rfl
theorem gives_eq {q : Qy} (h : (of (fun l => q.th l || q.may l) q.l q.addr).2 = true) : decide (q.tm (of (fun l => q.th l || q.may l) q.l q.addr).1 > 0) = q.gives := by
  unfold Qy.gives Qy.has; unfold of at h; rw [show (q.g.2 == 0 && (q.th q.g.1 || q.may q.g.1)) = true from h]; rfl
def Qy.mum (q : Qy) : Bool := !q.told && q.idle
theorem mum_t {q : Qy} (h : q.mum = true) : q.told = false /\ q.idle = true := by
  unfold Qy.mum at h; simp only [Bool.and_eq_true,Bool.not_eq_true'] at h; exact h
theorem mum_f {q : Qy} (h : q.mum = false) : q.told = true \/ q.idle = false := by
  unfold Qy.mum at h; simp only [Bool.and_eq_false_iff,Bool.not_eq_false'] at h; exact h
end Eg
structure Cn where
  code : Int
  n : Int
namespace Cn
def dflt : Cn := ⟨0,0⟩
def cells (c : Cn) : List Value := [.int .i64 c.code,.int .i64 c.n]
theorem enc : Enc cells 2 := ⟨fun _ => rfl,fun _ => rfl⟩
theorem len (c : Cn) : c.cells.length = 2 := rfl
def oc (c : Cn) : Oc := ⟨c.code,Msg.be 4 c.n⟩
def Fine (l : List Cn) : Prop := ∀ c,c ∈ l -> 0 <= c.n /\ c.n <= 4294967295
theorem Fine.at {l : List Cn} (h : Fine l) {i : Nat} (hi : i < l.length) : 0 <= (l.getD i dflt).n /\ (l.getD i dflt).n <= 4294967295 := h _ (by rw [List.getD_eq_getElem?_getD,List.getElem?_eq_getElem hi]; exact List.getElem_mem hi)
theorem fine1 {c n : Int} (h : 0 <= n /\ n <= 4294967295) : Fine [⟨c,n⟩] := fun x hx => by rw [List.mem_singleton] at hx; subst hx; exact h
theorem fine3 {a b c m n o : Int} (h : 0 <= m /\ m <= 4294967295) (k : 0 <= n /\ n <= 4294967295) (l : 0 <= o /\ o <= 4294967295) : Fine [⟨a,m⟩,⟨b,n⟩,⟨c,o⟩] := fun x hx => by
  simp only [List.mem_cons,List.mem_nil_iff,or_false] at hx
  rcases hx with rfl | rfl | rfl
  · exact h
  · exact k
  · exact l
theorem take_oc {l : List Cn} {i : Nat} (h : i < l.length) : (l.take (i + 1)).map oc = (l.take i).map oc ++ [oc (l.getD i dflt)] := by
  rw [take_succ_getD l i dflt h,List.map_append]; rfl
end Cn
theorem Opn.flat (L : List Opn) : (L.map Opn.cells).flatten = L.flatMap Opn.cells := (List.flatMap_def ..).symm
theorem Opn.Rds.snoc {V : Vw} {L : List Opn} {o : Opn} (h : Opn.Rds V L) (ho : Rd V [] 1 o.v o.d.length (o.d.map byteV)) : Opn.Rds V (L ++ [o]) := fun x hx => by
  rcases List.mem_append.1 hx with hx | hx
  · exact h x hx
  · rw [List.mem_singleton] at hx; subst hx; exact ho
theorem Opn.Rds.one {V : Vw} {o : Opn} (h : Rd V [] 1 o.v o.d.length (o.d.map byteV)) : Opn.Rds V [o] := fun x hx => by rw [List.mem_singleton] at hx; subst hx; exact h
theorem Pc.rs_of {V : Vw} {ov : Value} {L : List Opn} {os : List Oc} (h1 : Rd V [] 2 ov L.length (L.flatMap Opn.cells)) (h2 : Opn.Rds V L) (h3 : L.map Opn.c = os) : Pc.Rs V ov os := ⟨L,h3,by rw [Opn.flat]; exact h1,h2⟩
end Go.K
namespace Go.K
namespace Eg
def si (id : Int) : Si := ⟨id,10,4,9,100,1000,256,4602678819172646912,4591870180066957722,4602678819172646912,4606056518893174784,[⟨1,6⟩],10000⟩
theorem pool6 : Rg.pool [⟨1,6⟩] = ([⟨1,6⟩],0) := by decide +kernel
theorem adr6 : Rg.adr [⟨1,6⟩] = [1,2,3,4,5,6] := by decide +kernel
theorem oks6 : Rg.Oks [⟨1,6⟩] := by
  intro r hr
  obtain rfl := List.mem_singleton.1 hr
  exact ⟨by decide,by decide,by decide,by decide⟩
def pa : Pc := ⟨1,7,0,0,0,0,0,0,[3],[⟨53,[1]⟩]⟩
theorem get_of_mem {l : List Le} (hr : Le.Ris l) {y : Le} (h : y ∈ l) : Le.getE l y.addr = (y,0) := by
  have : Le.get l y.addr = some y := by
    unfold Le.get
    induction l with
    | nil => cases h
    | cons x l ih =>
      obtain ⟨h1,h2⟩ := List.pairwise_cons.1 hr
      rcases List.mem_cons.1 h with rfl | h
      · rw [List.find?_cons_of_pos (by simp)]
      · rw [List.find?_cons_of_neg (by have := h1 y h; simp; omega)]; exact ih h2 h
  unfold Le.getE; rw [this]
theorem get_self {l : List Le} {a : Int} (h : (Le.getE l a).2 = 0) : Le.getE l (Le.getE l a).1.addr = ((Le.getE l a).1,0) := by
  have := (getE_mem h).2
  rw [this]; exact Prod.ext rfl h
def Good (q : Qy) (y : Le) : Prop := Le.getE q.l y.addr = (y,0) /\ (q.th y = true \/ q.may y = true) /\ 1 <= q.tm y
theorem ans_cases {q : Qy} (hr : Le.Ris q.l) : q.answer = An.none \/ (∃ m,q.answer = ⟨false,Cli.zeroP,true,m,0⟩ /\ (m.bind = 4 \/ m.bind = 5)) \/ (∃ k,q.answer = ⟨true,rep q.x q.p k,false,Le.dflt,0⟩ /\ (k = 5 \/ k = 6)) \/
    (∃ y,q.answer = ⟨true,prom q.x q.p 2 y.addr (q.tm y),false,Le.dflt,0⟩ /\ Good q y) \/ (∃ y,q.answer = ⟨true,prom q.x q.p 5 y.addr (q.tm y),true,q.x.rules.lease y q.client q.now q.want,Rul.potential (q.x.rules.lease y q.client q.now q.want) q.now q.want⟩ /\ Good q y) := by
  have off : ∀ y,Le.getE q.l y.addr = (y,0) -> (q.th y = true \/ q.may y = true) -> q.offer y = An.none \/ ∃ z,q.offer y = ⟨true,prom q.x q.p 2 z.addr (q.tm z),false,Le.dflt,0⟩ /\ Good q z := fun y h1 h2 => by
    by_cases h : q.tm y < 1
    · exact .inl (offer_no h)
    · exact .inr ⟨y,offer_is h,h1,h2,by omega⟩
  have fin : ∀ {a : An},(a = An.none \/ ∃ z,a = ⟨true,prom q.x q.p 2 z.addr (q.tm z),false,Le.dflt,0⟩ /\ Good q z) -> a = An.none \/ (∃ m,a = ⟨false,Cli.zeroP,true,m,0⟩ /\ (m.bind = 4 \/ m.bind = 5)) \/ (∃ k,a = ⟨true,rep q.x q.p k,false,Le.dflt,0⟩ /\ (k = 5 \/ k = 6)) \/
      (∃ y,a = ⟨true,prom q.x q.p 2 y.addr (q.tm y),false,Le.dflt,0⟩ /\ Good q y) \/ (∃ y,a = ⟨true,prom q.x q.p 5 y.addr (q.tm y),true,q.x.rules.lease y q.client q.now q.want,Rul.potential (q.x.rules.lease y q.client q.now q.want) q.now q.want⟩ /\ Good q y) := fun h => by
    rcases h with h | ⟨z,h,g⟩
    · exact .inl h
    · exact .inr (.inr (.inr (.inl ⟨z,h,g⟩)))
  by_cases k1 : q.p.kind = 1
  · rw [ans_1 k1]
    refine fin ?_
    by_cases hs : q.state = 1 /\ mine q.x q.client = false
    · exact .inl (disc_no hs.1 hs.2)
    · have hA : ¬ q.state = 1 \/ mine q.x q.client = true := by
        by_cases h1 : q.state = 1
        · right; cases hm : mine q.x q.client with
          | true => rfl
          | false => exact absurd ⟨h1,hm⟩ hs
        · exact .inl h1
      cases f1 : (fst q.th q.l).2 with
      | true => rw [disc_1 hA f1]; exact off _ (get_of_mem hr (fst_is f1).1) (.inl (fst_is f1).2)
      | false =>
        cases f2 : (of q.may q.l q.addr).2 with
        | true => rw [disc_2 hA f1 f2]; exact off _ (get_self (of_is f2).1) (.inr (of_is f2).2)
        | false =>
          rw [disc_3 hA f1 f2]
          cases f3 : (fst q.may q.l).2 with
          | true => rw [if_pos rfl]; exact off _ (get_of_mem hr (fst_is f3).1) (.inr (fst_is f3).2)
          | false => rw [if_neg (by decide)]; exact .inl rfl
  by_cases k3 : q.p.kind = 3
  · rw [ans_3 k3]
    by_cases ho : q.told = true /\ ¬ q.server = q.x.server
    · exact .inl (req_other ho.1 ho.2)
    · have hM : q.told = false \/ q.server = q.x.server := by
        cases ht : q.told with
        | false => exact .inl rfl
        | true => right; exact Decidable.byContradiction fun hc => ho ⟨ht,hc⟩
      cases hg : q.gives with
      | true =>
        have hg2 := hg
        unfold Qy.gives Qy.has at hg2
        simp only [Bool.and_eq_true,Bool.or_eq_true,beq_iff_eq,decide_eq_true_eq] at hg2
        have ha : q.g.1.addr = q.addr := (getE_mem hg2.1.1).2
        rw [req_gives hM hg]
        refine .inr (.inr (.inr (.inr ⟨q.g.1,by rw [ha]; rfl,get_self hg2.1.1,hg2.1.2,by omega⟩)))
      | false =>
        by_cases hi : q.told = false /\ q.idle = true
        · exact .inl (req_idle hi.1 hg hi.2)
        · exact .inr (.inr (.inl ⟨6,req_nak hM hg (by
            cases ht : q.told with
            | true => exact .inl rfl
            | false => right; cases hi2 : q.idle with
              | false => rfl
              | true => exact absurd ⟨ht,hi2⟩ hi),.inr rfl⟩))
  by_cases k4 : q.p.kind = 4
  · rw [ans_4 k4]
    unfold Qy.decline
    split
    · exact .inr (.inl ⟨_,rfl,.inr rfl⟩)
    · exact .inl rfl
  by_cases k7 : q.p.kind = 7
  · rw [ans_7 k7]
    unfold Qy.release
    split
    · exact .inr (.inl ⟨_,rfl,.inl rfl⟩)
    · exact .inl rfl
  by_cases k8 : q.p.kind = 8
  · rw [ans_8 k8]; exact .inr (.inr (.inl ⟨5,rfl,.inl rfl⟩))
  · exact .inl (ans_0 k1 k3 k4 k7 k8)
theorem kind_prom (x : Si) (p : Pc) (a t : Int) : (prom x p 2 a t).kind = 2 /\ (prom x p 5 a t).kind = 5 := ⟨rfl,rfl⟩
theorem val_t {t : Int} (h : 0 <= t /\ t <= 4294967295) : val (Msg.be 4 t) = t := Msg.val_be h.1 (by have : (256 : Int) ^ 4 = 4294967296 := rfl; omega)
theorem few_prom {x : Si} {p : Pc} (hf : p.hw.length < 1000) (k a t : Int) : (prom x p k a t).few = true := by
  simp only [Pc.few,Bool.and_eq_true,decide_eq_true_eq]
  refine ⟨Oc.few_iff.2 ⟨(show 5 <= 100 by decide),fun o ho => ?_⟩,by show ((p.hw.length : Nat) : Int) < 1000; omega⟩
  simp only [prom,times,List.cons_append,List.nil_append,List.mem_cons,List.mem_nil_iff,or_false] at ho
  rcases ho with rfl | rfl | rfl | rfl | rfl
  · show 1 <= 1000; decide
  all_goals show (Msg.be 4 _).length <= 1000; rw [Msg.be_length]; decide
theorem latest_now {now : Int} (hn : 0 <= now /\ now <= 1099511627776) : Rul.latest [now] = now := by
  rw [Rul.latest1]; unfold Ck.add Ck.mo Ck.bnd; omega
theorem lease_facts (r : Rul) (y : Le) (c : ByteArray) {now want : Int} (hn : 0 <= now /\ now <= 1099511627776) :
    (r.lease y c now want).addr = y.addr /\ (r.lease y c now want).bind = 2 /\ ((r.lease y c now want).client.toList == c.toList) = true /\ r.until_ now want (if theirs c y = true then y.acked else 0) <= (r.lease y c now want).till /\ (r.lease y c now want).at_ = now := by
  by_cases h : y.bind ≠ 2 \/ (y.client.toList == c.toList) = false
  · have ht : theirs c y = false := by
      unfold theirs
      rcases h with h | h
      · rw [beq_eq_false_iff_ne.2 h]; rfl
      · rw [h,Bool.and_false]
    rw [Rul.lease_new h,ht]
    exact ⟨rfl,rfl,beq_self_eq_true _,Int.le_max_right _ _,latest_now hn⟩
  · have hb : y.bind = 2 := Decidable.byContradiction fun hc => h (.inl hc)
    have hc : (y.client.toList == c.toList) = true := by cases hx : (y.client.toList == c.toList) with
      | true => rfl
      | false => exact absurd (.inr hx) h
    have ht : theirs c y = true := by unfold theirs; rw [beq_iff_eq.2 hb,hc]; rfl
    rw [Rul.lease_same hb hc,ht]
    exact ⟨rfl,hb,hc,Int.le_max_right _ _,latest_now hn⟩
end Eg
end Go.K
namespace Go.K
namespace Eg
theorem put_addrs (l : List Le) (q : Le) : (Le.put l q).map Le.addr = l.map Le.addr := by
  unfold Le.put
  rw [List.map_map]
  refine List.map_congr_left fun x _ => ?_
  show (if x.addr = q.addr then q else x).addr = x.addr
  split
  · rename_i h; exact h.symm
  · rfl
theorem setE_addrs (l : List Le) (q : Le) : (Le.setE l q).2.map Le.addr = l.map Le.addr := by
  unfold Le.setE
  split
  · rfl
  · split
    · rfl
    · exact put_addrs l q
theorem la6 {l : List Le} (h : l.map Le.addr = [1,2,3,4,5,6]) : ∀ y,y ∈ l -> 1 <= y.addr /\ y.addr <= 6 := fun y hy => by
  have hm : y.addr ∈ [1,2,3,4,5,6] := by rw [<- h]; exact List.mem_map_of_mem hy
  simp only [List.mem_cons,List.mem_nil_iff,or_false] at hm
  omega
def long (p : Pc) (ls : List Le) (np : Nat) : Bool := (ls.any fun x => decide (x.client.size > 100)) || (!p.few || (decide (ls.length > 100) || decide (np > 20)))
structure Cs where
  state : Int
  now : Int
  entry : Int
  p : Pc
  hv : Value
  ov : Value
def Cs.cells (c : Cs) : Array Value := #[.int .i64 c.state,.int .i64 c.now,.int .i64 c.entry,.int .i64 c.p.op,.int .u32 c.p.xid,.int .i64 c.p.secs,.int .i64 c.p.flags,.int .u32 c.p.ci,.int .u32 c.p.yi,.int .u32 c.p.si,.int .u32 c.p.gi,c.hv,c.ov]
def sa (x : Si) (l : List Le) (c : Cs) : An := ans x l c.state c.now c.entry c.p
def sq (x : Si) (l : List Le) (c : Cs) : Qy := qy x l c.state c.now c.entry c.p
inductive Case (x : Si) (l : List Le) (c : Cs) : An -> Prop
  | none : Case x l c An.none
  | note (m : Le) : (m.bind = 4 \/ m.bind = 5) -> fits x c.state c.now c.p = true -> Case x l c ⟨false,Cli.zeroP,true,m,0⟩
  | rep (k : Int) : (k = 5 \/ k = 6) -> fits x c.state c.now c.p = true -> Case x l c ⟨true,Eg.rep x c.p k,false,Le.dflt,0⟩
  | offer (y : Le) : Good (sq x l c) y -> fits x c.state c.now c.p = true -> Case x l c ⟨true,prom x c.p 2 y.addr ((sq x l c).tm y),false,Le.dflt,0⟩
  | ack (y : Le) : Good (sq x l c) y -> fits x c.state c.now c.p = true -> Case x l c ⟨true,prom x c.p 5 y.addr ((sq x l c).tm y),true,x.rules.lease y c.p.client c.now (sq x l c).want,Rul.potential (x.rules.lease y c.p.client c.now (sq x l c).want) c.now (sq x l c).want⟩
theorem cases (x : Si) {l : List Le} (hr : Le.Ris l) (c : Cs) : Case x l c (sa x l c) := by
  unfold sa
  cases hf : fits x c.state c.now c.p with
  | false => rw [ans_no hf]; exact .none
  | true =>
    rw [ans_yes hf]
    rcases ans_cases (q := qy x l c.state c.now c.entry c.p) hr with h | ⟨m,h,k⟩ | ⟨k,h,k2⟩ | ⟨y,h,g⟩ | ⟨y,h,g⟩ <;> rw [h]
    · exact .none
    · exact .note m k hf
    · exact .rep k k2 hf
    · exact .offer y g hf
    · exact .ack y g hf
variable {x : Si} {l : List Le} {c : Cs} {y : Le}
theorem Case.eq {A : An} (h : Case x l c A) : A = An.none \/ (∃ m : Le,(m.bind = 4 \/ m.bind = 5) /\ fits x c.state c.now c.p = true /\ A = ⟨false,Cli.zeroP,true,m,0⟩) \/ (∃ k : Int,(k = 5 \/ k = 6) /\ fits x c.state c.now c.p = true /\ A = ⟨true,Eg.rep x c.p k,false,Le.dflt,0⟩) \/
    (∃ y,Good (sq x l c) y /\ fits x c.state c.now c.p = true /\ A = ⟨true,prom x c.p 2 y.addr ((sq x l c).tm y),false,Le.dflt,0⟩) \/
    (∃ y,Good (sq x l c) y /\ fits x c.state c.now c.p = true /\ A = ⟨true,prom x c.p 5 y.addr ((sq x l c).tm y),true,x.rules.lease y c.p.client c.now (sq x l c).want,Rul.potential (x.rules.lease y c.p.client c.now (sq x l c).want) c.now (sq x l c).want⟩) := by
  cases h with
  | none => exact .inl rfl
  | note m a b => exact .inr (.inl ⟨m,a,b,rfl⟩)
  | rep k a b => exact .inr (.inr (.inl ⟨k,a,b,rfl⟩))
  | offer y a b => exact .inr (.inr (.inr (.inl ⟨y,a,b,rfl⟩)))
  | ack y a b => exact .inr (.inr (.inr (.inr ⟨y,a,b,rfl⟩)))
end Eg
end Go.K
namespace Go.K
namespace Mt
def site (lead : Int) : Si := ⟨0,lead,4,9,30,60,256,4602678819172646912,4591870180066957722,4602678819172646912,4606056518893174784,[⟨1,6⟩],1000⟩
def l0 : List Le := Le.new [1,2,3,4,5,6]
variable {lead : Int}
theorem right (h : 4 <= lead /\ lead <= 100) : (site lead).right = true :=
  Si.right_y ⟨show (Rg.pool [⟨1,6⟩]).2 = 0 by rw [Eg.pool6],(show (0 : Int) <= 0 /\ (0 : Int) <= 1 by decide),(show 0 <= lead /\ lead <= 1073741824 by omega),(show (0 : Int) <= 4 /\ (4 : Int) <= 1073741824 by decide),(show (1 : Int) <= 30 /\ (30 : Int) <= 60 by decide),(show (60 : Int) <= 1073741824 by decide),(show (0 : Int) <= 256 /\ (256 : Int) <= 256 by decide),(show (1 : Int) <= 1000 /\ (1000 : Int) <= 1048576 by decide)⟩
theorem mine (c : ByteArray) : Eg.mine (site lead) c = true := by
  have h := Bk.down_lt c.toList 0
  rw [Bk.down_0] at h
  unfold Eg.mine
  rw [if_neg (show ¬ (site lead).id = 1 from by show ¬ (0 : Int) = 1; decide)]
  exact decide_eq_true (show ((Bk.bucket c.toList : Nat) : Int) < 256 by omega)
theorem fits (h : 4 <= lead /\ lead <= 100) {now : Int} (hn : 0 <= now /\ now <= 1000) {p : Pc} (hr : p.right = true) (ho : p.op = 1) : Eg.fits (site lead) 1 now p = true :=
  Eg.fits_y (right h) rfl (decide_eq_true (by omega)) hr ho
def q (lead : Int) (l : List Le) (now : Int) (p : Pc) : Eg.Qy := Eg.qy (site lead) l 1 now 0 p
theorem want {l : List Le} {now : Int} {p : Pc} (h : p.asks = 0) : (q lead l now p).want = 30 := by
  show min (if p.asks = 0 then (30 : Int) else p.asks) 60 = 30
  rw [if_pos h]; rfl
theorem tm {l : List Le} {now : Int} {p : Pc} (h : 4 <= lead /\ lead <= 100) (hn : 0 <= now /\ now <= 1000) (ha : p.asks = 0) (y : Le) : 4 <= (q lead l now p).tm y /\ (q lead l now p).tm y <= 30 := by
  rw [Eg.time_is,want ha]
  show 4 <= min (Ck.left now (Rul.until_ ⟨0,lead,4⟩ now 30 _)) 4294967295 /\ min (Ck.left now (Rul.until_ ⟨0,lead,4⟩ now 30 _)) 4294967295 <= 30
  generalize (if Eg.theirs (q lead l now p).client y = true then y.acked else 0) = ak
  unfold Rul.until_
  rw [Rul.latest2]
  unfold Ck.left Ck.add Ck.mo Ck.bnd
  dsimp only
  omega
theorem asks_sayP (c : Cli) : (Cli.sayP c).asks = 0 := by
  unfold Cli.sayP
  split
  · rfl
  · split <;> rfl
theorem op_sayP (c : Cli) : (Cli.sayP c).op = 1 /\ (Cli.sayP c).flags = 0 /\ (Cli.sayP c).xid = c.xid /\ (Cli.sayP c).hw = c.hw := by
  unfold Cli.sayP
  split
  · exact ⟨rfl,rfl,rfl,rfl⟩
  · split <;> exact ⟨rfl,rfl,rfl,rfl⟩
theorem right_prom {x : Si} {p : Pc} (h1 : 1 <= p.hw.length /\ p.hw.length <= 16) (h2 : p.flags = 0) (k a t : Int) : (Eg.prom x p k a t).right = true := by
  have o1 : Oc.odd ⟨53,[Eg.bt k]⟩ = false := Oc.odd_no (by decide) (by decide) (show 1 <= 255 by decide)
  have ob : ∀ (c n : Int),0 < c -> c < 255 -> Oc.odd ⟨c,Msg.be 4 n⟩ = false := fun c n h3 h4 => Oc.odd_no h3 (by omega) (by rw [Msg.be_length]; decide)
  have he : Oc.encE (Eg.prom x p k a t).os = 0 := Oc.encE_ok
    (by simp only [Eg.prom,Eg.times,List.cons_append,List.nil_append,List.any_cons,List.any_nil,Bool.or_false]; rw [o1,ob 54 _ (by decide) (by decide),ob 51 _ (by decide) (by decide),ob 58 _ (by decide) (by decide),ob 59 _ (by decide) (by decide)]; rfl)
    (by simp only [Eg.prom,Eg.times,List.cons_append,List.nil_append,Oc.tot,List.length_cons,List.length_nil,Msg.be_length]; omega)
  unfold Pc.right
  simp only [Bool.and_eq_true,Bool.or_eq_true,decide_eq_true_eq,beq_iff_eq]
  exact ⟨.inr rfl,h1.1,h1.2,(show (0 : Int) <= 0 by decide),(show (0 : Int) <= 65535 by decide),(show 0 <= p.flags by omega),(show p.flags <= 65535 by omega),he⟩
theorem num_prom {x : Si} {p : Pc} {k a t : Int} (ht : 0 <= t /\ t <= 30) (o : Int) : (Eg.prom x p k a t).num 51 o = t /\ (Eg.prom x p k a t).num 58 o = Fl.part t x.renew := by
  have h := Fl.part_range ht.1 x.renew
  refine ⟨?_,?_⟩
  · unfold Pc.num
    rw [show Oc.fd 51 (Eg.prom x p k a t).os = Msg.be 4 t from rfl,if_pos (Msg.be_length _ _)]
    exact Eg.val_t (by omega)
  · unfold Pc.num
    rw [show Oc.fd 58 (Eg.prom x p k a t).os = Msg.be 4 (Fl.part t x.renew) from rfl,if_pos (Msg.be_length _ _)]
    exact Eg.val_t (by omega)
theorem num_54 {p : Pc} {k a t o : Int} : (Eg.prom (site lead) p k a t).num 54 o = 9 := by
  unfold Pc.num
  rw [show Oc.fd 54 (Eg.prom (site lead) p k a t).os = Msg.be 4 9 from rfl,if_pos (Msg.be_length _ _)]
  exact Eg.val_t (by decide)
theorem get_cons (y : Le) (l : List Le) (a : Int) : Le.get (y :: l) a = if y.addr = a then some y else Le.get l a := by
  unfold Le.get
  by_cases h : y.addr = a
  · rw [List.find?_cons_of_pos (by simpa using h),if_pos h]
  · rw [List.find?_cons_of_neg (by simpa using h),if_neg h]
theorem get_put (l : List Le) (x : Le) (a : Int) : Le.get (Le.put l x) a = if a = x.addr then (Le.get l a).map (fun _ => x) else Le.get l a := by
  induction l with
  | nil => unfold Le.put; split <;> rfl
  | cons y l ih =>
    rw [show Le.put (y :: l) x = (if y.addr = x.addr then x else y) :: Le.put l x from rfl,get_cons,get_cons,ih]
    by_cases e : y.addr = x.addr
    · rw [if_pos e]
      by_cases h : a = x.addr
      · rw [if_pos h.symm,if_pos h,if_pos (by omega)]; rfl
      · rw [if_neg (fun q => h q.symm),if_neg h,if_neg h,if_neg (by omega)]
    · rw [if_neg e]
      by_cases h : a = x.addr
      · rw [if_neg (by omega),if_pos h,if_pos h,if_neg (by omega)]
      · rw [if_neg h,if_neg h]
theorem getE1 {l : List Le} (h : (Le.getE l 1).2 = 0) : (Le.getE l 1).1.addr = 1 := (Eg.getE_mem h).2
def Has (name : ByteArray) (l : List Le) : Prop := (Le.getE l 1).2 = 0 /\ (Eg.theirs name (Le.getE l 1).1 = true \/ (Le.getE l 1).1.bind = 0)
theorem has_set {name : ByteArray} {l : List Le} (h : Has name l) {x : Le} (ha : x.addr = 1) (hb : x.bind = 2) (hc : (x.client.toList == name.toList) = true) : Has name (Le.setE l x).2 := by
  unfold Le.setE
  split
  · exact h
  · split
    · exact h
    · rename_i y hy
      rw [ha] at hy
      have e : Le.getE (Le.put l x) 1 = (x,0) := by unfold Le.getE; rw [get_put,if_pos ha.symm,hy]; rfl
      show Has name (Le.put l x)
      unfold Has; rw [e]
      exact ⟨rfl,.inl (by unfold Eg.theirs; rw [beq_iff_eq.2 hb,hc]; rfl)⟩
theorem has0 (name : ByteArray) : Has name l0 := ⟨rfl,.inr rfl⟩
theorem discovers (h : 4 <= lead /\ lead <= 100) {now : Int} (hn : 0 <= now /\ now <= 1000) {p : Pc} (hr : p.right = true) (ho : p.op = 1) (ha : p.asks = 0) (hk : p.kind = 1) (hd : p.asked = 0) :
    Eg.ans (site lead) l0 1 now 0 p = ⟨true,Eg.prom (site lead) p 2 1 ((q lead l0 now p).tm (Le.bare 1 0 0)),false,Le.dflt,0⟩ := by
  refine (Eg.ans_yes (fits h hn hr ho)).trans ((Eg.ans_1 (q := q lead l0 now p) hk).trans ?_)
  have e2 : (Eg.of (q lead l0 now p).may (q lead l0 now p).l (q lead l0 now p).addr).2 = false := by
    unfold Eg.of
    rw [show (q lead l0 now p).addr = 0 from hd]; rfl
  have hm : (q lead l0 now p).may (Le.bare 1 0 0) = true := Rul.may_own rfl rfl
  have e3 : Eg.fst (q lead l0 now p).may (q lead l0 now p).l = (Le.bare 1 0 0,true) := by
    unfold Eg.fst
    rw [show (q lead l0 now p).l = Le.bare 1 0 0 :: Le.new [2,3,4,5,6] from rfl,List.find?_cons_of_pos hm]
  have e1 : ¬ (q lead l0 now p).state = 1 \/ Eg.mine (q lead l0 now p).x (q lead l0 now p).client = true := .inr (mine (lead := lead) p.client)
  have e0 : (Eg.fst (q lead l0 now p).th (q lead l0 now p).l).2 = false := rfl
  rw [Eg.disc_3 e1 e0 e2,e3,if_pos rfl,Eg.offer_is (by have := tm (l := l0) h hn ha (Le.bare 1 0 0); show ¬ (q lead l0 now p).tm (Le.bare 1 0 0) < 1; omega)]
  rfl
theorem requests (h : 4 <= lead /\ lead <= 100) {l : List Le} {now : Int} (hn : 0 <= now /\ now <= 1000) {p : Pc} (hr : p.right = true) (ho : p.op = 1) (ha : p.asks = 0) (hk : p.kind = 3) (hd : p.asked = 1) (hl : Has p.client l)
    (hs : (q lead l now p).told = false \/ (q lead l now p).server = 9) :
    Eg.ans (site lead) l 1 now 0 p = ⟨true,Eg.prom (site lead) p 5 1 ((q lead l now p).tm (Le.getE l 1).1),true,(site lead).rules.lease (Le.getE l 1).1 p.client now 30,Rul.potential ((site lead).rules.lease (Le.getE l 1).1 p.client now 30) now 30⟩ := by
  have ea : (q lead l now p).addr = 1 := hd
  have eg : (q lead l now p).g = Le.getE l 1 := by unfold Eg.Qy.g; rw [ea]; rfl
  have hg : (q lead l now p).gives = true := by
    have ht := tm (l := l) h hn ha (Le.getE l 1).1
    unfold Eg.Qy.gives Eg.Qy.has
    rw [eg,hl.1,decide_eq_true (show (q lead l now p).tm (Le.getE l 1).1 > 0 by omega)]
    rcases hl.2 with h2 | h2
    · rw [show (q lead l now p).th (Le.getE l 1).1 = true from h2]; rfl
    · rw [show (q lead l now p).may (Le.getE l 1).1 = true from Rul.may_own rfl h2]; simp
  refine (Eg.ans_yes (fits h hn hr ho)).trans ((Eg.ans_3 (q := q lead l now p) hk).trans ((Eg.req_gives (hs.imp id fun e => e) hg).trans ?_))
  unfold Eg.Qy.nl
  rw [eg,ea,want ha]; rfl
theorem acks {c : Cli} {p : Pc} {now t : Int} (hn : 0 <= now /\ now <= 1000) (hx : p.xid = c.xid) (hh : p.hw = c.hw) (h1 : 1 <= c.hw.length /\ c.hw.length <= 16) (hf : p.flags = 0) (hs : c.state = 2 \/ c.state = 4 \/ c.state = 5) (hk : Cli.holding c = true \/ c.tries > 0) (ha : c.addr = 1) (ht : 1 <= t /\ t <= 30) :
    Cli.takeC c (Eg.prom (site lead) p 5 1 t) now = { c with state := 3,due := false,until_ := c.asks + t,one := c.asks + Fl.part t (site lead).renew,two := c.asks + (Eg.prom (site lead) p 5 1 t).num 59 (t - t / 8) } := by
  have hp := num_prom (x := site lead) (p := p) (k := 5) (a := 1) (t := t) (by omega)
  have e := (Cli.take_a (c := c) (p := Eg.prom (site lead) p 5 1 t) (now := now) ((Con.moment_iff now).2 (by omega)) (right_prom (by rw [hh]; exact h1) hf _ _ _) rfl
    (by rintro (h | h | h | h)
        · exact h hx
        · exact h hh
        · omega
        · omega)
    (by rintro ⟨h,_⟩; rw [(Eg.kind_prom _ _ _ _).2] at h; exact absurd h (by decide))
    ⟨(Eg.kind_prom _ _ _ _).2,Cli.ask_y hs,hk,ha.symm,by rw [(hp 0).1]; omega⟩).2
  rw [e,(hp 0).1,(hp _).2]
structure J (lead : Int) (name : ByteArray) (now : Int) (c : Cli) (l : List Le) : Prop where
  inv : Cli.Inv now c
  nm : c.name = name
  hw : c.hw = [1,2]
  ad : l.map Le.addr = [1,2,3,4,5,6]
  has : Has name l
  ph : (now = 0 /\ c.state = 0 /\ l = l0) \/ (now = 1 /\ c.state = 2 /\ c.addr = 1 /\ c.server = 9 /\ c.due = true /\ c.tries = 0) \/ (2 <= now /\ c.state = 3 /\ c.addr = 1 /\ c.due = false /\ now <= c.until_ /\ c.one <= c.until_)
def Fin (now : Int) (c : Cli) : Prop := 2 <= now -> c.addr = 1 /\ now <= Cli.until0 c
theorem fin_of {now : Int} {c : Cli} (h1 : c.state = 3) (h2 : c.addr = 1) (h3 : now <= c.until_) : Fin now c := fun _ => ⟨h2,by unfold Cli.until0; rw [if_pos (Cli.hold_y (by omega))]; exact h3⟩
theorem j0 {name : ByteArray} (h : Cli.fine name [1,2]) : J lead name 0 (Cli.new name [1,2]) l0 := ⟨Cli.Inv.new h,rfl,rfl,rfl,has0 name,.inl ⟨rfl,rfl,rfl⟩⟩
structure Rnd (lead : Int) (name : ByteArray) (now : Int) (c : Cli) (l : List Le) (p : Pc) : Prop where
  few : p.few = true
  ci : 0 <= p.ci /\ p.ci <= 4294967295
  send : (Eg.ans (site lead) l 1 now 0 p).send = true
  rf : (Eg.ans (site lead) l 1 now 0 p).reply.few = true
  sz : (Eg.ans (site lead) l 1 now 0 p).lease.client.size <= 9223372036854775807
  nxt : J lead name (now + 1) (Cli.takeC (Cli.tickC c now) (Eg.ans (site lead) l 1 now 0 p).reply now) (if (Eg.ans (site lead) l 1 now 0 p).change = true then (Le.setE l (Eg.ans (site lead) l 1 now 0 p).lease).2 else l)
  fin : Fin now (Cli.takeC (Cli.tickC c now) (Eg.ans (site lead) l 1 now 0 p).reply now)
theorem few_p {p : Pc} (h : p.hw = [1,2]) (k a t : Int) : (Eg.prom (site lead) p k a t).few = true := Eg.few_prom (by rw [h]; decide) _ _ _
theorem yi_si {p : Pc} {k t : Int} : (0 <= (Eg.prom (site lead) p k 1 t).yi /\ (Eg.prom (site lead) p k 1 t).yi <= 4294967295) /\ (0 <= (Eg.prom (site lead) p k 1 t).si /\ (Eg.prom (site lead) p k 1 t).si <= 4294967295) :=
  ⟨(show (0 : Int) <= 1 /\ (1 : Int) <= 4294967295 by decide),(show (0 : Int) <= 9 /\ (9 : Int) <= 4294967295 by decide)⟩
theorem set_addrs (l : List Le) (x : Le) : (Le.setE l x).2.map Le.addr = l.map Le.addr := Eg.setE_addrs l x
theorem round {name : ByteArray} {now : Int} {c d : Cli} {l : List Le} (hl : 4 <= lead /\ lead <= 100) (hn : 1 <= now /\ now <= 1000) (hj : J lead name now c l) (hz : name.size <= 9223372036854775807) (hd : Cli.tickC c now = Cli.sayC d now) (hi : Cli.Inv now d) (n : d.name = name) (w : d.hw = [1,2]) (a : d.addr = 1)
    (hs : d.state = 2 \/ d.state = 4 \/ d.state = 5) (ht : d.state = 2 -> d.tries = 0) (ha : ¬ d.state = 2 -> d.asks = now) (hv : d.state = 2 -> d.server = 9) : Rnd lead name now c l (Cli.sayP d) := by
  obtain ⟨o1,o2,o3,o4⟩ := op_sayP d
  obtain ⟨t1,t2,t3,t4,_⟩ := Cli.told hi
  have h1 : ¬ d.state = 1 := by omega
  have hk : (Cli.sayP d).kind = 3 := by rw [t2,if_neg h1]
  have hc : (Cli.sayP d).client = name := t1.trans n
  have hask : (Cli.sayP d).asked = 1 := (t3 h1).trans a
  have hh : (Cli.sayP d).hw = [1,2] := o4.trans w
  have hs9 : (q lead l now (Cli.sayP d)).told = false \/ (q lead l now (Cli.sayP d)).server = 9 := by
    by_cases h2 : d.state = 2
    · right
      show val (Oc.fd 54 (Cli.sayP d).os) = 9
      rw [Cli.sayP_2 h1 h2,hv h2]
      show val (Msg.be 4 9) = 9
      exact Eg.val_t (by decide)
    · left
      show ((Oc.fd 54 (Cli.sayP d).os).length == 4) = false
      rw [Cli.sayP_d h1 h2]; rfl
  have he := requests (lead := lead) (l := l) (now := now) hl (by omega) (Cli.right_sayP hi) o1 (asks_sayP d) hk hask (by rw [hc]; exact hj.has) hs9
  have hT := tm (l := l) (now := now) (p := Cli.sayP d) hl (by omega) (asks_sayP d) (Le.getE l 1).1
  generalize (q lead l now (Cli.sayP d)).tm (Le.getE l 1).1 = T at he hT
  have hf := Eg.lease_facts (site lead).rules (Le.getE l 1).1 (Cli.sayP d).client (now := now) (want := 30) (by omega)
  generalize (site lead).rules.lease (Le.getE l 1).1 (Cli.sayP d).client now 30 = m at he hf
  obtain ⟨f1,f2,f3,_,_⟩ := hf
  rw [(getE1 hj.has.1)] at f1
  rw [hc] at f3
  have hsd : (Cli.sayC d now).asks = now := by
    by_cases h2 : d.state = 2
    · rw [Cli.sayC_y ⟨h2,by rw [ht h2]; rfl⟩]
    · rw [Cli.sayC_n (fun e => h2 e.1)]; exact ha h2
  have hss : (Cli.sayC d now).state = d.state /\ (Cli.sayC d now).addr = d.addr /\ (Cli.sayC d now).hw = d.hw /\ (Cli.sayC d now).xid = d.xid /\ (Cli.sayC d now).tries = d.tries + 1 /\ (Cli.sayC d now).name = d.name := ⟨rfl,rfl,rfl,rfl,rfl,rfl⟩
  have hti := hi.tries.1
  have hak := acks (lead := lead) (c := Cli.sayC d now) (p := Cli.sayP d) (now := now) (t := T) (by omega) o3 o4 (by rw [hss.2.2.1,w]; decide) o2 (by rw [hss.1]; exact hs) (.inr (by rw [hss.2.2.2.2.1]; omega)) (by rw [hss.2.1]; exact a) (by omega)
  have hpr := Fl.part_range (show 0 <= T by omega) (site lead).renew
  have hiv : Cli.Inv (now + 1) (Cli.takeC (Cli.sayC d now) (Eg.prom (site lead) (Cli.sayP d) 5 1 T) now) := (hi.say (by omega)).take yi_si.1 yi_si.2 now
  rw [hsd] at hak
  have hsz : m.client.size <= 9223372036854775807 := by
    have : m.client.toList = name.toList := by simpa using f3
    have h5 := size_list m.client
    rw [this,size_list] at h5
    omega
  refine ⟨Cli.few_sayP hi,t4,by rw [he],by rw [he]; exact few_p hh _ _ _,by rw [he]; exact hsz,?_,?_⟩
  · rw [he,hd]
    refine ⟨hiv,by rw [hak]; exact n,by rw [hak]; exact w,by rw [if_pos rfl,set_addrs]; exact hj.ad,by rw [if_pos rfl]; exact has_set hj.has f1 f2 f3,.inr (.inr ⟨by omega,by rw [hak],by rw [hak]; exact a,by rw [hak],by rw [hak]; show now + 1 <= now + T; omega,by rw [hak]; show now + Fl.part T (site lead).renew <= now + T; omega⟩)⟩
  · rw [he,hd]
    exact fin_of (by rw [hak]) (by rw [hak]; exact a) (by rw [hak]; show now <= now + T; omega)
theorem moment {name : ByteArray} {now : Int} {c : Cli} {l : List Le} (hl : 4 <= lead /\ lead <= 100) (hn : 0 <= now /\ now <= 999) (hj : J lead name now c l) (hz : name.size <= 9223372036854775807) :
    (Cli.tickP c now = [] /\ J lead name (now + 1) (Cli.tickC c now) l /\ Fin now (Cli.tickC c now)) \/ ∃ p,Cli.tickP c now = [p] /\ Rnd lead name now c l p := by
  have hm : Con.moment now = true := (Con.moment_iff now).2 (by omega)
  rcases hj.ph with ⟨h0,h1,h2⟩ | ⟨h0,h1,h2,h3,h4,h5⟩ | ⟨h0,h1,h2,h3,h4,h5⟩
  · right
    subst h2
    have x4 : Cli.turn c now = Cli.anew c := by
      unfold Cli.turn
      rw [Cli.turn1_n (.inl (Cli.hold_n (by omega))),Cli.turn2_n (.inl (by omega)),Cli.turn3_n (.inl (by omega))]
      exact Cli.turn4_0 h1
    obtain ⟨e1,_,e3⟩ := Cli.tick_y hm (show ¬ c.state = 6 by omega) (show (Cli.turn c now).due = true by rw [x4]; rfl)
    rw [x4] at e1 e3
    refine ⟨_,e3,?_⟩
    have hi := hj.inv.anew
    obtain ⟨o1,o2,o3,o4⟩ := op_sayP (Cli.anew c)
    obtain ⟨t1,t2,_,t4,_⟩ := Cli.told hi
    have hh : (Cli.sayP (Cli.anew c)).hw = [1,2] := o4.trans hj.hw
    have he := discovers (lead := lead) (now := now) hl (by omega) (Cli.right_sayP hi) o1 (asks_sayP _) (by rw [t2]; rfl) (by rw [Cli.sayP_1 (show (Cli.anew c).state = 1 from rfl)]; rfl)
    have hT := tm (l := l0) (now := now) (p := Cli.sayP (Cli.anew c)) hl (by omega) (asks_sayP _) (Le.bare 1 0 0)
    generalize (q lead l0 now (Cli.sayP (Cli.anew c))).tm (Le.bare 1 0 0) = T at he hT
    have hp := num_prom (x := site lead) (p := Cli.sayP (Cli.anew c)) (k := 2) (a := 1) (t := T) (by omega)
    have h16 : 1 <= (Cli.sayP (Cli.anew c)).hw.length /\ (Cli.sayP (Cli.anew c)).hw.length <= 16 := by rw [hh]; decide
    have hak := (Cli.take_o (c := Cli.sayC (Cli.anew c) now) (p := Eg.prom (site lead) (Cli.sayP (Cli.anew c)) 2 1 T) (now := now) hm (right_prom h16 o2 _ _ _) rfl
      (by rintro (h | h | h | h)
          · exact h o3
          · exact h o4
          · exact absurd (show (1 : Int) = 0 from h) (by decide)
          · exact absurd (show (1 : Int) = 6 from h) (by decide))
      ⟨(Eg.kind_prom _ _ _ _).1,rfl,(show ¬ (1 : Int) = 0 by decide),by rw [(hp 0).1]; omega⟩).2
    rw [num_54] at hak
    have hiv : Cli.Inv (now + 1) (Cli.takeC (Cli.sayC (Cli.anew c) now) (Eg.prom (site lead) (Cli.sayP (Cli.anew c)) 2 1 T) now) := (hi.say (by omega)).take yi_si.1 yi_si.2 now
    refine ⟨Cli.few_sayP hi,t4,by rw [he],by rw [he]; exact few_p hh _ _ _,by rw [he]; exact (show (0 : Nat) <= 9223372036854775807 by decide),?_,fun h => by omega⟩
    rw [he,e1]
    refine ⟨hiv,by rw [hak]; exact hj.nm,by rw [hak]; exact hj.hw,hj.ad,hj.has,.inr (.inl ⟨by omega,by rw [hak],by rw [hak]; rfl,by rw [hak],by rw [hak],by rw [hak]⟩)⟩
  · right
    have x4 : Cli.turn c now = c := by
      unfold Cli.turn
      rw [Cli.turn1_n (.inl (Cli.hold_n (by omega))),Cli.turn2_n (.inl (by omega)),Cli.turn3_n (.inl (by omega))]
      exact Cli.turn4_n (by omega) (.inl (by unfold Cli.late; rw [h4]; rfl))
    obtain ⟨e1,_,e3⟩ := Cli.tick_y hm (show ¬ c.state = 6 by omega) (show (Cli.turn c now).due = true by rw [x4]; exact h4)
    rw [x4] at e1 e3
    exact ⟨_,e3,round hl (by omega) hj hz e1 hj.inv hj.nm hj.hw h2 (.inl h1) (fun _ => h5) (fun h => absurd h1 h) (fun _ => h3)⟩
  · by_cases h6 : now >= c.one
    · right
      have hi := hj.inv.turn (now := now) (by omega)
      have hs := Cli.turn_same c now
      have ht : (Cli.turn c now).due = true /\ (Cli.turn c now).addr = 1 /\ ((Cli.turn c now).state = 4 \/ (Cli.turn c now).state = 5) /\ (Cli.turn c now).asks = now := by
        unfold Cli.turn
        rw [Cli.turn1_n (.inr (by omega))]
        have hx := Cli.turn2_y h1 h6
        have d1 : (Cli.turn2 c now).state = 4 := by rw [hx]
        have d2 : (Cli.turn2 c now).addr = 1 := by rw [hx]; exact h2
        have d3 : (Cli.turn2 c now).due = true := by rw [hx]
        have d4 : (Cli.turn2 c now).asks = now := by rw [hx]
        generalize Cli.turn2 c now = d at d1 d2 d3 d4
        by_cases h7 : now >= d.two
        · have hy := Cli.turn3_y d1 h7
          rw [hy,Cli.turn4_n (show ¬ (5 : Int) = 0 by decide) (.inl rfl)]
          exact ⟨rfl,d2,.inr rfl,d4⟩
        · rw [Cli.turn3_n (.inr h7),Cli.turn4_n (by omega) (.inl (by unfold Cli.late; rw [d3]; rfl))]
          exact ⟨d3,d2,.inl d1,d4⟩
      obtain ⟨e1,_,e3⟩ := Cli.tick_y hm (show ¬ c.state = 6 by omega) ht.1
      exact ⟨_,e3,round hl (by omega) hj hz e1 hi (hs.2.trans hj.nm) (hs.1.trans hj.hw) ht.2.1 (.inr ht.2.2.1) (fun h => by have := ht.2.2.1; omega) (fun _ => ht.2.2.2) (fun h => by have := ht.2.2.1; omega)⟩
    · left
      have x4 : Cli.turn c now = c := by
        unfold Cli.turn
        rw [Cli.turn1_n (.inr (by omega)),Cli.turn2_n (.inr h6),Cli.turn3_n (.inl (by omega))]
        exact Cli.turn4_n (by omega) (.inr h1)
      obtain ⟨e1,_,e3⟩ := Cli.tick_n hm (show ¬ c.state = 6 by omega) (show (Cli.turn c now).due = false by rw [x4]; exact h3)
      rw [x4] at e1
      refine ⟨e3,?_,?_⟩
      · rw [e1]
        exact ⟨hj.inv.more (by omega),hj.nm,hj.hw,hj.ad,hj.has,.inr (.inr ⟨by omega,h1,h2,h3,by omega,h5⟩)⟩
      · rw [e1]; exact fin_of h1 h2 h4
end Mt
end Go.K
namespace Go.K
section
variable {C : Cx} {V : Vw} {H : Hp} {L : Sl} {Q : Exit -> Act -> World -> Prop} {ops : Array Oper} {os : List Oper}
variable {ty : TypeId} {pos : String} {aft : Array Edge} {d : Nat} {S0 : Sg}
theorem RunD.takeG {g i j dj : Nat} {t b0 : Bool} {op : Op} {v : Value} {listed : Array Bool} {b : Nat} {o : Obj} (m : Nat) (hm : S0[m]? = some (b,o)) (ho : ops[i]? = some ⟨some d,op,ty,pos,aft,some (j,t)⟩) (hj : ((ops[j]?).bind (·.dst)) = some dj) (hb : L.lookup dj = some (.bool b0)) (e : b0 = t) (hs : Region.noSelect ops = true) (hf : Region.free .any ops listed i = true)
    (hr : (Region.ready .any ops listed).contains i = true) (hQ : ∀ c a w,Q (.panic c) (a.put (some d) v) w -> Q (.panic c) a w) (hd : d < C.n) (hk : KnAll V H S0) (hy : ∀ B,Yl (CK C [(b,o)] B) (VK [(b,o)]) [] L op ty v)
    (h : RunD C ops S0 g (listed.setIfInBounds i true) V H ((d,v) :: L) Q) : RunD C ops S0 (g + 1) listed V H L Q := fun a w q =>
  anyD_take ho (Region.noSelect_spec hs) hQ g listed a w (Region.free_spec ho hf) (by simpa using hr) (fun b o hb => (hk b o hb).st q.2)
    (.inl ⟨by simp only [Region.wanted,yielded,hj,Option.bind_some,q.1.lk dj _ hb,e,beq_self_eq_true],fun w' hw' => hy w' _ a w' (Vw.le_refl _) ⟨q.1,stK fun c oc hc => by rw [List.mem_singleton] at hc; cases hc; exact hw' b o (List.mem_of_getElem? hm)⟩ _ rfl rfl⟩) (h _ w ⟨q.1.put hd v,q.2⟩)
theorem RunD.pureG {g i j dj : Nat} {t b0 : Bool} {op : Op} {v : Value} {listed : Array Bool} (ho : ops[i]? = some ⟨some d,op,ty,pos,aft,some (j,t)⟩) (hj : ((ops[j]?).bind (·.dst)) = some dj) (hb : L.lookup dj = some (.bool b0)) (e : b0 = t) (hs : Region.noSelect ops = true) (hf : Region.free .any ops listed i = true)
    (hr : (Region.ready .any ops listed).contains i = true) (hQ : ∀ c a w,Q (.panic c) (a.put (some d) v) w -> Q (.panic c) a w) (hd : d < C.n) (hk : KnAll V H S0) (hy : ∀ B,Yl (CK C [] B) (VK []) [] L op ty v)
    (h : RunD C ops S0 g (listed.setIfInBounds i true) V H ((d,v) :: L) Q) : RunD C ops S0 (g + 1) listed V H L Q := fun a w q =>
  anyD_take ho (Region.noSelect_spec hs) hQ g listed a w (Region.free_spec ho hf) (by simpa using hr) (fun b o hb => (hk b o hb).st q.2)
    (.inl ⟨by simp only [Region.wanted,yielded,hj,Option.bind_some,q.1.lk dj _ hb,e,beq_self_eq_true],fun w' _ => hy w' _ a w' (Vw.le_refl _) ⟨q.1,stK fun c oc hc => by cases hc⟩ _ rfl rfl⟩) (h _ w ⟨q.1.put hd v,q.2⟩)
end
end Go.K
namespace Go.K
theorem Z {α : Sort _} {a : α} : a = a := rfl
theorem W {p : Prop} (h : p := by omega) : p := h
theorem WD {p : Prop} (h : p := by decide) : p := h
theorem WK {p : Prop} (h : p := by kernel_rfl) : p := h
theorem WB {p : Prop} (h : p := by first | omega | (simp only [swp_size,Array.size_setIfInBounds]; omega)) : p := h
class KBp (b : Bool) (P N : outParam Prop) where
  t : b = true -> P
  f : b = false -> N
instance (priority := low) (b : Bool) : KBp b (b = true) (b = false) := ⟨id,id⟩
instance (p : Prop) [Decidable p] : KBp (decide p) p (¬ p) := ⟨of_decide_eq_true,of_decide_eq_false⟩
instance (a b : Int) : KBp (a == b) (a = b) (¬ a = b) := ⟨beq_iff_eq.1,beq_eq_false_iff_ne.1⟩
instance (a b : Int) : KBp (a != b) (¬ a = b) (a = b) := ⟨bne_iff_ne.1,bne_eq_false_iff_eq.1⟩
instance (a b : Nat) : KBp (a == b) (a = b) (¬ a = b) := ⟨beq_iff_eq.1,beq_eq_false_iff_ne.1⟩
instance (a b : Nat) : KBp (a != b) (¬ a = b) (a = b) := ⟨bne_iff_ne.1,bne_eq_false_iff_eq.1⟩
theorem Zq (b : Bool) {P N Q : Prop} [k : KBp b P N] (h1 : b = true -> P -> Q) (h2 : b = false -> N -> Q) : Q := by
  cases h : b with
  | true => exact h1 h (k.t h)
  | false => exact h2 h (k.f h)
section
variable {C : Cx} {V : Vw} {H : Hp} {L : Sl} {Q : Exit -> Act -> World -> Prop} {ops : Array Oper} {os : List Oper} {KQ : Act -> World -> Prop}
variable {ty : TypeId} {pos : String} {aft : Array Edge} {d : Nat}
theorem Zs {x y : Code} (h : Tr C V H L x (Exit.then (y.wp C.P Q) Q)) : Tr C V H L (.seq x y) Q := Tr.seq h
theorem Zr {id : Nat} {l : List Oper} (h : Run C l.toArray V H L l Q) : Tr C V H L (.region id l.toArray false) Q := Tr.region h
theorem Zb {id : Nat} {c : Code} (h : Tr C V H L c (Exit.inBlock id Q)) : Tr C V H L (.block id c) Q := Tr.block h
theorem Ze (h : Ex C V H L Q .normal) : Run C ops V H L [] Q := Run.to_end h
theorem ZE (h : Ex C V H L Q .normal) : RunQ C ops V H L [] (Q .normal) := RunQ.to_end h
theorem Zg {y : Code} (h : Tr C V H L y Q) : Ex C V H L (Exit.then (y.wp C.P Q) Q) .normal := h
theorem Zt (h : Ex C V H L Q .normal) : Tr C V H L .skip Q := Tr.to_end h
theorem Zu (h : Ex C V H L Q .ret) : Tr C V H L .ret Q := Tr.to_ret h
theorem Zx {id : Nat} (h : Ex C V H L Q (.exit id)) : Tr C V H L (.exit id) Q := Tr.to_exit h
theorem Zc {id : Nat} (h : Ex C V H L Q .normal) : Ex C V H L (Exit.inBlock id Q) .normal := h
theorem Zn {k : Act -> World -> Prop} (h : Ex C V H L Q .ret) : Ex C V H L (Exit.then k Q) .ret := h
theorem Zk {id : Nat} (h : Ex C V H L Q .ret) : Ex C V H L (Exit.inBlock id Q) .ret := h
theorem Zy {id : Nat} {k : Act -> World -> Prop} (h : Ex C V H L Q (.exit id)) : Ex C V H L (Exit.then k Q) (.exit id) := h
theorem Zi {id : Nat} (h : Ex C V H L Q .normal) : Ex C V H L (Exit.inBlock id Q) (.exit id) := Ex.exit_in h
theorem Zv {op : Op} {v : Value} (hx : Yl C V H L op ty v) (k : Run C ops V H ((d,v) :: L) os Q) (hd : Nat.blt d C.n = true := by exact rfl) : Run C ops V H L (⟨some d,op,ty,pos,aft,none⟩ :: os) Q := Run.val (lt hd) hx k
theorem Zm {x : Operand} {v : Value} (hx : ev L x = some v) (k : Run C ops V H ((d,v) :: L) os Q) (hd : Nat.blt d C.n = true := by exact rfl) : Run C ops V H L (⟨some d,.move x,ty,pos,aft,none⟩ :: os) Q := Run.val (lt hd) (Y.move hx) k
theorem Za {x : Operand} {v : Value} (hx : ev L x = some v) (k : Run C ops V H ((d,v) :: L) os Q) (hd : Nat.blt d C.n = true := by exact rfl) : Run C ops V H L (⟨some d,.assign x,ty,pos,aft,none⟩ :: os) Q := Run.val (lt hd) (Y.assign hx) k
theorem ZV {op : Op} {v : Value} (hx : Yl C V H L op ty v) (k : RunQ C ops V H ((d,v) :: L) os KQ) (hd : Nat.blt d C.n = true := by exact rfl) : RunQ C ops V H L (⟨some d,op,ty,pos,aft,none⟩ :: os) KQ := RunQ.val (lt hd) hx k
theorem ZM {x : Operand} {v : Value} (hx : ev L x = some v) (k : RunQ C ops V H ((d,v) :: L) os KQ) (hd : Nat.blt d C.n = true := by exact rfl) : RunQ C ops V H L (⟨some d,.move x,ty,pos,aft,none⟩ :: os) KQ := RunQ.val (lt hd) (Y.move hx) k
theorem ZA {x : Operand} {v : Value} (hx : ev L x = some v) (k : RunQ C ops V H ((d,v) :: L) os KQ) (hd : Nat.blt d C.n = true := by exact rfl) : RunQ C ops V H L (⟨some d,.assign x,ty,pos,aft,none⟩ :: os) KQ := RunQ.val (lt hd) (Y.assign hx) k
theorem Zo {o : Oper} {j : Nat} {t : Bool} {d dd : Nat} {b : Bool} (e : b = !t) (hd : o.dst = some dd) (k : Run C ops V H ((dd,undef) :: L) os Q) (hg : o.guard = some (j,t) := by exact rfl) (hj : ((ops[j]?).bind (·.dst)) = some d := by exact rfl) (hb : L.lookup d = some (.bool b) := by exact rfl) (hn : Nat.blt dd C.n = true := by exact rfl) : Run C ops V H L (o :: os) Q := Run.off hg hj hb e hd (lt hn) k
theorem ZO {o : Oper} {j : Nat} {t : Bool} {d dd : Nat} {b : Bool} (e : b = !t) (hd : o.dst = some dd) (k : RunQ C ops V H ((dd,undef) :: L) os KQ) (hg : o.guard = some (j,t) := by exact rfl) (hj : ((ops[j]?).bind (·.dst)) = some d := by exact rfl) (hb : L.lookup d = some (.bool b) := by exact rfl) (hn : Nat.blt dd C.n = true := by exact rfl) : RunQ C ops V H L (o :: os) KQ := RunQ.off hg hj hb e hd (lt hn) k
theorem Zp {o : Oper} {j : Nat} {t : Bool} {d : Nat} {b : Bool} (e : b = t) (k : Run C ops V H L (⟨o.dst,o.op,o.type,o.pos,o.after,none⟩ :: os) Q) (hg : o.guard = some (j,t) := by exact rfl) (hj : ((ops[j]?).bind (·.dst)) = some d := by exact rfl) (hb : L.lookup d = some (.bool b) := by exact rfl) : Run C ops V H L (o :: os) Q := Run.on hg hj hb e k
theorem ZP {o : Oper} {j : Nat} {t : Bool} {d : Nat} {b : Bool} (e : b = t) (k : RunQ C ops V H L (⟨o.dst,o.op,o.type,o.pos,o.after,none⟩ :: os) KQ) (hg : o.guard = some (j,t) := by exact rfl) (hj : ((ops[j]?).bind (·.dst)) = some d := by exact rfl) (hb : L.lookup d = some (.bool b) := by exact rfl) : RunQ C ops V H L (o :: os) KQ := RunQ.on hg hj hb e k
theorem ZK (i : Nat) {b : Nat} {o : Obj} {s : Sg} (h : H[i]? = some ((b,o) :: s)) : KnAll V H [(b,o)] := KnAll.cons (Kn.at i h) KnAll.nil
variable {S0 : Sg} {z : Nat}
theorem Zw {g : Nat} (i : Nat) {op : Op} {v : Value} {listed : Array Bool} (ho : ops[i]? = some ⟨some d,op,ty,pos,aft,none⟩) (hk : KnAll V H S0) (hy : ∀ B,Yl (CK C [] B) (VK []) [] L op ty v) (h : RunT C ops S0 z g (listed.setIfInBounds i true) V H ((d,v) :: L) Q)
    (hs : Region.noSelect ops = true := by kernel_rfl) (hf : Region.free .any ops listed i = true := by kernel_rfl) (hr : (Region.ready .any ops listed).contains i = true := by kernel_rfl) (hz : Nat.blt i z = true := by kernel_rfl) (hQ : ∀ c a w,Q (.panic c) (a.put (some d) v) w -> Q (.panic c) a w := by exact fun _ _ _ h => h) (hd : d < C.n := by exact lt rfl) :
    RunT C ops S0 z (g + 1) listed V H L Q := RunT.pure ho hs hf hr hz hQ hd hk hy h
theorem Zwm {g : Nat} (i : Nat) {x : Operand} {v : Value} {listed : Array Bool} (ho : ops[i]? = some ⟨some d,.move x,ty,pos,aft,none⟩) (hx : ev L x = some v) (hk : KnAll V H S0) (h : RunT C ops S0 z g (listed.setIfInBounds i true) V H ((d,v) :: L) Q)
    (hs : Region.noSelect ops = true := by kernel_rfl) (hf : Region.free .any ops listed i = true := by kernel_rfl) (hr : (Region.ready .any ops listed).contains i = true := by kernel_rfl) (hz : Nat.blt i z = true := by kernel_rfl) (hQ : ∀ c a w,Q (.panic c) (a.put (some d) v) w -> Q (.panic c) a w := by exact fun _ _ _ h => h) (hd : d < C.n := by exact lt rfl) :
    RunT C ops S0 z (g + 1) listed V H L Q := RunT.pure ho hs hf hr hz hQ hd hk (fun _ => Y.move hx) h
theorem ZT {g : Nat} (i : Nat) {op : Op} {v : Value} {listed : Array Bool} {b : Nat} {o : Obj} (m : Nat) (hm : S0[m]? = some (b,o)) (ho : ops[i]? = some ⟨some d,op,ty,pos,aft,none⟩) (hk : KnAll V H S0) (hy : ∀ B,Yl (CK C [(b,o)] B) (VK [(b,o)]) [] L op ty v) (h : RunT C ops S0 z g (listed.setIfInBounds i true) V H ((d,v) :: L) Q)
    (hs : Region.noSelect ops = true := by kernel_rfl) (hf : Region.free .any ops listed i = true := by kernel_rfl) (hr : (Region.ready .any ops listed).contains i = true := by kernel_rfl) (hz : (waitsAll .any ops z i && noneZ ops z listed && Nat.blt i z) = true := by kernel_rfl) (hQ : ∀ c a w,Q (.panic c) (a.put (some d) v) w -> Q (.panic c) a w := by exact fun _ _ _ h => h) (hd : d < C.n := by exact lt rfl) :
    RunT C ops S0 z (g + 1) listed V H L Q := RunT.take m hm ho hs hf hr hz hQ hd hk hy h
theorem Zz {g : Nat} (i : Nat) {listed : Array Bool} (h : RunT C ops S0 z g listed V H L Q) (he : listed.getD i false = true := by exact rfl) (hz : Nat.ble z i = true := by exact rfl) (hi : Nat.blt i ops.size = true := by exact rfl) : Ex C V H L (Exit.then (fun a' w' => (preZ ops z listed -> DK S0 w') /\ K.anyT C.P .any ops (DK S0) z Q g listed a' w') Q) .normal := Ex.anyTz he hz hi h
theorem Zd {g : Nat} (i : Nat) {op : Op} {v : Value} {listed : Array Bool} (ho : ops[i]? = some ⟨some d,op,ty,pos,aft,none⟩) (hy : ∀ B,Yl (CK C [] B) (VK []) [] L op ty v) (h : RunD C ops S0 g (listed.setIfInBounds i true) V H ((d,v) :: L) Q)
    (hs : Region.noSelect ops = true := by kernel_rfl) (hf : Region.free .any ops listed i = true := by kernel_rfl) (hr : (Region.ready .any ops listed).contains i = true := by kernel_rfl) (hQ : ∀ c a w,Q (.panic c) (a.put (some d) v) w -> Q (.panic c) a w := by exact fun _ _ _ h => h) (hd : d < C.n := by exact lt rfl) (hk : KnAll V H S0 := by repeat (first | exact KnAll.nil | refine KnAll.cons (by first | assumption | exact Kn.of_nil (by assumption) | exact Kn.at 0 rfl | exact Kn.at 1 rfl | exact Kn.at 2 rfl | exact Kn.at 3 rfl | exact Kn.at 4 rfl | exact Kn.at 5 rfl | exact Kn.at 6 rfl | exact Kn.at 7 rfl | exact Kn.at 8 rfl | exact Kn.at 9 rfl) ?_)) : RunD C ops S0 (g + 1) listed V H L Q := RunD.pure ho hs hf hr hQ hd hk hy h
theorem ZD {g : Nat} (i : Nat) {op : Op} {v : Value} {listed : Array Bool} {b : Nat} {o : Obj} (m : Nat) (hm : S0[m]? = some (b,o)) (ho : ops[i]? = some ⟨some d,op,ty,pos,aft,none⟩) (hy : ∀ B,Yl (CK C [(b,o)] B) (VK [(b,o)]) [] L op ty v) (h : RunD C ops S0 g (listed.setIfInBounds i true) V H ((d,v) :: L) Q)
    (hs : Region.noSelect ops = true := by kernel_rfl) (hf : Region.free .any ops listed i = true := by kernel_rfl) (hr : (Region.ready .any ops listed).contains i = true := by kernel_rfl) (hQ : ∀ c a w,Q (.panic c) (a.put (some d) v) w -> Q (.panic c) a w := by exact fun _ _ _ h => h) (hd : d < C.n := by exact lt rfl) (hk : KnAll V H S0 := by repeat (first | exact KnAll.nil | refine KnAll.cons (by first | assumption | exact Kn.of_nil (by assumption) | exact Kn.at 0 rfl | exact Kn.at 1 rfl | exact Kn.at 2 rfl | exact Kn.at 3 rfl | exact Kn.at 4 rfl | exact Kn.at 5 rfl | exact Kn.at 6 rfl | exact Kn.at 7 rfl | exact Kn.at 8 rfl | exact Kn.at 9 rfl) ?_)) : RunD C ops S0 (g + 1) listed V H L Q := RunD.take m hm ho hs hf hr hQ hd hk hy h
theorem Zh {g : Nat} (i : Nat) {op : Op} {v : Value} {listed : Array Bool} (ho : ops[i]? = some ⟨some d,op,ty,pos,aft,none⟩) (hy : ∀ B,Yl (CK C [] B) (VK []) [] L op ty v) (h : RunL C ops S0 z g (listed.setIfInBounds i true) V H ((d,v) :: L) Q)
    (hs : Region.noSelect ops = true := by kernel_rfl) (hf : Region.free .any ops listed i = true := by kernel_rfl) (hr : (Region.ready .any ops listed).contains i = true := by kernel_rfl) (hz : waits .any ops z i = true := by kernel_rfl) (hQ : ∀ c a w,Q (.panic c) (a.put (some d) v) w -> Q (.panic c) a w := by exact fun _ _ _ h => h) (hd : d < C.n := by exact lt rfl) (hk : KnAll V H S0 := by repeat (first | exact KnAll.nil | refine KnAll.cons (by first | assumption | exact Kn.of_nil (by assumption) | exact Kn.at 0 rfl | exact Kn.at 1 rfl | exact Kn.at 2 rfl | exact Kn.at 3 rfl | exact Kn.at 4 rfl | exact Kn.at 5 rfl | exact Kn.at 6 rfl | exact Kn.at 7 rfl | exact Kn.at 8 rfl | exact Kn.at 9 rfl) ?_)) : RunL C ops S0 z (g + 1) listed V H L Q := RunL.pure ho hs hf hr hz hQ hd hk hy h
theorem ZH {g : Nat} (i : Nat) {op : Op} {v : Value} {listed : Array Bool} {b : Nat} {o : Obj} (m : Nat) (hm : S0[m]? = some (b,o)) (ho : ops[i]? = some ⟨some d,op,ty,pos,aft,none⟩) (hy : ∀ B,Yl (CK C [(b,o)] B) (VK [(b,o)]) [] L op ty v) (h : RunL C ops S0 z g (listed.setIfInBounds i true) V H ((d,v) :: L) Q)
    (hs : Region.noSelect ops = true := by kernel_rfl) (hf : Region.free .any ops listed i = true := by kernel_rfl) (hr : (Region.ready .any ops listed).contains i = true := by kernel_rfl) (hz : waits .any ops z i = true := by kernel_rfl) (hQ : ∀ c a w,Q (.panic c) (a.put (some d) v) w -> Q (.panic c) a w := by exact fun _ _ _ h => h) (hd : d < C.n := by exact lt rfl) (hk : KnAll V H S0 := by repeat (first | exact KnAll.nil | refine KnAll.cons (by first | assumption | exact Kn.of_nil (by assumption) | exact Kn.at 0 rfl | exact Kn.at 1 rfl | exact Kn.at 2 rfl | exact Kn.at 3 rfl | exact Kn.at 4 rfl | exact Kn.at 5 rfl | exact Kn.at 6 rfl | exact Kn.at 7 rfl | exact Kn.at 8 rfl | exact Kn.at 9 rfl) ?_)) : RunL C ops S0 z (g + 1) listed V H L Q := RunL.take m hm ho hs hf hr hz hQ hd hk hy h
theorem Zf {g : Nat} {listed : Array Bool} (h : RunD C ops S0 g listed V H L Q) (hk : KnAll V H S0 := by repeat (first | exact KnAll.nil | refine KnAll.cons (by first | assumption | exact Kn.of_nil (by assumption) | exact Kn.at 0 rfl | exact Kn.at 1 rfl | exact Kn.at 2 rfl | exact Kn.at 3 rfl | exact Kn.at 4 rfl | exact Kn.at 5 rfl | exact Kn.at 6 rfl | exact Kn.at 7 rfl | exact Kn.at 8 rfl | exact Kn.at 9 rfl) ?_)) : Ex C V H L (Exit.then (fun a' w' => DK S0 w' /\ K.anyD C.P .any ops (DK S0) Q g listed a' w') Q) .normal := Ex.anyD hk h
theorem ZF {i g : Nat} {listed : Array Bool} (h : RunL C ops S0 z g listed V H L Q) (hk : KnAll V H S0 := by repeat (first | exact KnAll.nil | refine KnAll.cons (by first | assumption | exact Kn.of_nil (by assumption) | exact Kn.at 0 rfl | exact Kn.at 1 rfl | exact Kn.at 2 rfl | exact Kn.at 3 rfl | exact Kn.at 4 rfl | exact Kn.at 5 rfl | exact Kn.at 6 rfl | exact Kn.at 7 rfl | exact Kn.at 8 rfl | exact Kn.at 9 rfl) ?_)) : Ex C V H L (Exit.then (fun a' w' => (i ≠ z -> DK S0 w') /\ K.anyL C.P .any ops (DK S0) z Q g listed a' w') Q) .normal := Ex.anyL hk h
theorem Yc {x : Operand} {l : List Operand} {at_ : Array TypeId} {f : FuncId} {first cap : Array Value} {vs args : List Value} {v0 : Value} (hx : ev L x = some (.func (.func f) first cap)) (hl : evs L l = some vs) (ha : first.toList ++ vs ++ cap.toList = args) (hc : Does C.P f args V H (Pv v0 V H)) (k : Run C ops V H ((d,v0) :: L) os Q)
    (hd : Nat.blt d C.n = true := by exact rfl) :
    Run C ops V H L (⟨some d,.call { callee := .value x,args := l.toArray,argTypes := at_ },ty,pos,aft,none⟩ :: os) Q := Run.call0 hx hl ha (lt hd) hc k
theorem YC {x : Operand} {l : List Operand} {at_ : Array TypeId} {f : FuncId} {first cap : Array Value} {vs args : List Value} {v0 : Value} (hx : ev L x = some (.func (.func f) first cap)) (hl : evs L l = some vs) (ha : first.toList ++ vs ++ cap.toList = args) (hc : Does C.P f args V H (Pv v0 V H)) (k : RunQ C ops V H ((d,v0) :: L) os KQ)
    (hd : Nat.blt d C.n = true := by exact rfl) :
    RunQ C ops V H L (⟨some d,.call { callee := .value x,args := l.toArray,argTypes := at_ },ty,pos,aft,none⟩ :: os) KQ := RunQ.call0 hx hl ha (lt hd) hc k
theorem Yk {x : Operand} {l : List Operand} {at_ : Array TypeId} {f : FuncId} {first cap : Array Value} {vs args : List Value} {R : Value -> Vw -> Hp -> Prop} (is : List Nat) (hx : ev L x = some (.func (.func f) first cap)) (hl : evs L l = some vs) (ha : first.toList ++ vs ++ cap.toList = args) (hc : Does C.P f args V (pull is H).2 R)
    (k : ∀ v V' H',V.le V' -> R v V' H' -> Run C ops V' ((pull is H).1 ++ H') ((d,v) :: L) os Q)
    (hd : Nat.blt d C.n = true := by exact rfl) :
    Run C ops V H L (⟨some d,.call { callee := .value x,args := l.toArray,argTypes := at_ },ty,pos,aft,none⟩ :: os) Q := Run.call is hx hl ha (lt hd) hc k
theorem ZS {L L' : Sl} (h : subB L L' := by repeat (first | exact subB_nil _ | refine subB_cons (by first | rfl | exact congrArg (fun z => some (Value.int _ z)) (by omega)) ?_)) : subB L L' := h
theorem ZR {X : Type} {p : X -> Prop} {μ : X -> Nat} {V' : X -> Vw} {H' : X -> Hp} {L' : X -> Sl} {m : Nat} (y : X) (hp : p y) (hm : μ y < m) (hL : subB L (L' y) := by repeat (first | exact subB_nil _ | refine subB_cons (by first | rfl | exact congrArg (fun z => some (Value.int _ z)) (by omega)) ?_)) (hV : V' y = V := by exact rfl) (hH : H' y = H := by exact rfl) :
    Ex C V H L (Exit.then (fun a w => ∃ y,p y /\ μ y < m /\ Is C (V' y) (H' y) (L' y) a w) Q) .normal := Ex.round y hp hm hV hH hL
theorem ZX {X : Type} {p : X -> Prop} {V' : X -> Vw} {H' : X -> Hp} {L' : X -> Sl} (y : X) (hp : p y) (hL : subB L (L' y) := by repeat (first | exact subB_nil _ | refine subB_cons (by first | rfl | exact congrArg (fun z => some (Value.int _ z)) (by omega)) ?_)) (hV : V' y = V := by exact rfl) (hH : H' y = H := by exact rfl) :
    Ex C V H L (Exit.then (fun a w => ∃ y,p y /\ Is C (V' y) (H' y) (L' y) a w) Q) .normal := Ex.cutx y hp hV hH hL
theorem ZL {c : Code} {X : Type} (V' : X -> Vw) (H' : X -> Hp) (L' : X -> Sl) (p : X -> Prop) (m : X -> Nat) (x0 : X) (h0 : p x0) (h : ∀ x,p x -> Tr C (V' x) (H' x) (L' x) c (Exit.then (fun a w => ∃ y,p y /\ m y < m x /\ Is C (V' y) (H' y) (L' y) a w) Q))
    (hL : subB L (L' x0) := by repeat (first | exact subB_nil _ | refine subB_cons (by first | rfl | exact congrArg (fun z => some (Value.int _ z)) (by omega)) ?_)) (hV : V' x0 = V := by exact rfl) (hH : H' x0 = H := by exact rfl) : Tr C V H L (.loop c) Q := Tr.loop V' H' L' p m x0 h0 (fun a w i => by rw [hV,hH]; exact ⟨i.1.sub hL,i.2⟩) h
end
abbrev pZ (b : Nat) : Value := .pointer (some ⟨b,0,none⟩)
abbrev cL (T b d : Nat) : Sg := [(b,.cells #[.pointer (some ⟨d,0,none⟩)] T (0,0))]
end Go.K
namespace Go.Proofs.YtfgblingojgafaaGreat
open Go Go.K
attribute [local irreducible] Code.wp wpList Calls wpQuiet
theorem bnd_c {x lo hi : Int} {V : Vw} : Does Tryz.prog 109 [.int .i64 x,.int .i64 lo,.int .i64 hi] V [] (Pv (.int .i64 (Ck.bnd x lo hi)) V []) := by
 refine Does.intro Tryz.func109 rfl rfl (le rfl) (fun B => ?_)
 refine Zs<|Zr<|Za Z<|Ze<|Zg<|Zs<|Zr<|Zm Z<|Zm Z<|Zv (Y.max2 Z Z)<|Zm Z<|Zv (Y.min2 Z Z)<|Za Z<|Ze<|Zg<|Zu<|?_
 exact Ex.ret1 rfl rfl  ⟨rfl,rfl,rfl⟩
theorem bnd_c_h {x lo hi : Int} {V : Vw} {H : Hp} : Does Tryz.prog 109 [.int .i64 x,.int .i64 lo,.int .i64 hi] V H (Pv (.int .i64 (Ck.bnd x lo hi)) V H) := bnd_c.frame
theorem mo_c {n : Int} {V : Vw} : Does Tryz.prog 108 [.int .i64 n] V [] (Pv (.int .i64 (Ck.mo n)) V []) := by
 refine Does.intro Tryz.func108 rfl rfl (le rfl) (fun B => ?_)
 refine Zs<|Zr<|Za Z<|Ze<|Zg<|Zs<|Zr<|Zm Z<|Yc Z Z Z (bnd_c_h (x := n))<|Za Z<|Ze<|Zg<|Zu<|?_
 exact Ex.ret1 rfl rfl  ⟨rfl,rfl,rfl⟩
theorem mo_c_h {n : Int} {V : Vw} {H : Hp} : Does Tryz.prog 108 [.int .i64 n] V H (Pv (.int .i64 (Ck.mo n)) V H) := mo_c.frame
theorem add_c {t d : Int} {V : Vw} : Does Tryz.prog 48 [.int .i64 t,.int .i64 d] V [] (Pv (.int .i64 (Ck.add t d)) V []) := by
 have hmt := Ck.mo_bd t
 have hnt := Ck.bnd_bd t (lo := 0) (hi := 1099511627776) WD
 have hbd := Ck.bnd_bd d (lo := -1099511627776) (hi := 1099511627776) WD
 refine Does.intro Tryz.func48 rfl rfl (le rfl) (fun B => ?_)
 refine Zs<|Zr<|Za Z<|Ze<|Zg<|Zs<|Zr<|Zm Z<|Yc Z Z Z (mo_c_h (n := t))<|Zm Z<|Yc Z Z Z (bnd_c_h (x := d))<|Zv (Y.add Z Z W)<|Yc Z Z Z (mo_c_h (n := (Ck.mo t) + (Ck.bnd d (-1099511627776) 1099511627776)))<|Za Z<|Ze<|Zg<|?_
 refine Zu ?_
 exact Ex.ret1 rfl rfl  ⟨rfl,rfl,rfl⟩
theorem add_c_h {t d : Int} {V : Vw} {H : Hp} : Does Tryz.prog 48 [.int .i64 t,.int .i64 d] V H (Pv (.int .i64 (Ck.add t d)) V H) := add_c.frame
theorem left_c {now til : Int} {V : Vw} : Does Tryz.prog 147 [.int .i64 now,.int .i64 til] V [] (Pv (.int .i64 (Ck.left now til)) V []) := by
 have hmnow := Ck.mo_bd now
 have hmtil := Ck.mo_bd til
 have hnnow := Ck.bnd_bd now (lo := 0) (hi := 1099511627776) WD
 have hntil := Ck.bnd_bd til (lo := 0) (hi := 1099511627776) WD
 refine Does.intro Tryz.func147 rfl rfl (le rfl) (fun B => ?_)
 refine Zs<|Zr<|Za Z<|Ze<|Zg<|Zs<|Zr<|Zm Z<|Yc Z Z Z (mo_c_h (n := til))<|Zm Z<|Yc Z Z Z (mo_c_h (n := now))<|Zv (Y.sub Z Z W)<|Yc Z Z Z (mo_c_h (n := (Ck.mo til) - (Ck.mo now)))<|Za Z<|Ze<|Zg<|?_
 refine Zu ?_
 exact Ex.ret1 rfl rfl  ⟨rfl,rfl,rfl⟩
theorem left_c_h {now til : Int} {V : Vw} {H : Hp} : Does Tryz.prog 147 [.int .i64 now,.int .i64 til] V H (Pv (.int .i64 (Ck.left now til)) V H) := left_c.frame
theorem past_c {now til grd : Int} {V : Vw} : Does Tryz.prog 49 [.int .i64 now,.int .i64 til,.int .i64 grd] V [] (Pv (.bool (Ck.past now til grd)) V []) := by
 have hmnow := Ck.mo_bd now
 have hmtil := Ck.mo_bd til
 have hmgrd := Ck.mo_bd grd
 have hnnow := Ck.bnd_bd now (lo := 0) (hi := 1099511627776) WD
 have hntil := Ck.bnd_bd til (lo := 0) (hi := 1099511627776) WD
 have hngrd := Ck.bnd_bd grd (lo := 0) (hi := 1099511627776) WD
 refine Does.intro Tryz.func49 rfl rfl (le rfl) (fun B => ?_)
 refine Zs<|Zr<|Za Z<|Ze<|Zg<|Zs<|Zr<|Zm Z<|Yc Z Z Z (mo_c_h (n := now))<|Zm Z<|Yc Z Z Z (mo_c_h (n := til))<|Zm Z<|Yc Z Z Z (mo_c_h (n := grd))<|Zv (Y.add Z Z W)<|Zv (Y.int Z Z Z)<|Za Z<|?_
 refine Ze<|Zg<|Zu<|?_
 exact Ex.ret1 rfl rfl  ⟨rfl,rfl,rfl⟩
theorem past_c_h {now til grd : Int} {V : Vw} {H : Hp} : Does Tryz.prog 49 [.int .i64 now,.int .i64 til,.int .i64 grd] V H (Pv (.bool (Ck.past now til grd)) V H) := past_c.frame
end Go.Proofs.YtfgblingojgafaaGreat
namespace Go.Proofs.YtfgblingojgafaaGreat
open Go Go.K
attribute [local irreducible] Code.wp wpList Calls wpQuiet
open Go.Sort
theorem isnan_u0 {m : Int} {V : Vw} : Does Tryz.prog 155 [.int .u32 m] V [] (Pv (.bool false) V []) := by
 refine Does.intro Tryz.func155 rfl rfl (le rfl) (fun B => ?_)
 refine Zs<|Zr<|Za Z<|Ze<|Zg<|Zs<|Zr<|Zm Z<|Zm Z<|Zv (Y.int Z Z Z)<|Za Z<|Ze<|Zg<|Zu<|?_
 exact Ex.ret1 rfl rfl  ⟨by simp,rfl,rfl⟩
theorem isnan_u0_h {m : Int} {V : Vw} {H : Hp} : Does Tryz.prog 155 [.int .u32 m] V H (Pv (.bool false) V H) := isnan_u0.frame
end Go.Proofs.YtfgblingojgafaaGreat
namespace Go.K
open Go.ChangeShapes Go.WideShapes Go.ChangeAt Go.RowKit
section
variable {H : Type} {enc : TypeId × Value -> H} {P : Program} {w : World} {base : Nat} {spare : Nat -> Bool} {held : Bool}
end
end Go.K
namespace Go.K
section
variable {C : Cx} {V : Vw} {H : Hp} {L : Sl} {ty : TypeId}
end
end Go.K
namespace Go.K
theorem YDoes.perm {P : Program} {l : Nat} {args : List Value} {V : Vw} {H H' : Hp} {R : Value -> Vw -> Hp -> Prop} (h : YDoes P l args V H R) (p : H'.Perm H) : YDoes P l args V H' R := fun B hB => by
  obtain ⟨fn,tmps,asg,body,h1,h2⟩ := h B ((hB.perm p.symm).memS (keys_perm p))
  exact ⟨fn,tmps,asg,body,h1,h2.mono fun e w' ⟨v,V',H2,q1,q2,q3⟩ => ⟨v,V',H2,q1,q2,q3.memS (fun b => (keys_perm p b).symm)⟩⟩
section
variable {C : Cx} {V : Vw} {H : Hp} {L : Sl} {Q : Exit -> Act -> World -> Prop}
end
end Go.K
namespace Go.K
section
variable {C : Cx} {H : Hp} {L : Sl} {Q : Exit -> Act -> World -> Prop} {ops : Array Oper} {os : List Oper}
end
end Go.K
namespace Go.K
section
variable {C : Cx} {V : Vw} {H : Hp} {L : Sl} {Q : Exit -> Act -> World -> Prop} {c : Code}
theorem Tr.unroll (n : Nat) (h : Tr C V H L c (Exit.then (Code.rounds C.P c Q n) Q)) : Tr C V H L (.loop c) Q := fun a w i => wp_loop_rounds (n + 1) (h a w i)
theorem Ex.goU {n : Nat} (h : Tr C V H L c (Exit.then (Code.rounds C.P c Q n) Q)) : Ex C V H L (Exit.then (Code.rounds C.P c Q (n + 1)) Q) .normal := fun a w i => h a w i
end
end Go.K
namespace Go.K
section
variable {C : Cx} {V : Vw} {H : Hp} {L : Sl} {Q : Exit -> Act -> World -> Prop} {ops : Array Oper} {os : List Oper}
variable {ty : TypeId} {pos : String} {aft : Array Edge} {d : Nat}
end
end Go.K
namespace Go.K
theorem rep_cells (n : Nat) : rep (Value.int .u8 0).cells.toList n = (List.replicate n (0 : UInt8)).map byteV := by
  induction n with
  | zero => rfl
  | succ n ih => rw [List.replicate_succ,List.map_cons,<- ih]; rfl
theorem Ow.made {e b n : Nat} (h : n <= 9223372036854775807) (h2 : n <= maxLen) : Ow e 1 (.slice (some ⟨b,0,none⟩) n n) n ((List.replicate n (0 : UInt8)).map byteV) [(b,.cells (rep (Value.int .u8 0).cells.toList n).toArray e (0,0))] := by
  rw [rep_cells]
  have := Ow.lit (e := e) (k := 1) (b := b) (n := n) (cur := ((List.replicate n (0 : UInt8)).map byteV).toArray) (by simp) h2
  simpa using this
end Go.K
