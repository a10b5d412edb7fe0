/- What a message is, when it may be, and its bytes: plain definitions.
Conditions: none; no program in sight. -/
import Derived.Test.YtinkencbkcciiaaGreatKA
set_option linter.unusedSimpArgs false
set_option linter.unusedVariables false
set_option linter.unusedSectionVars false
namespace Go.K
structure Msg where
  kind : Int
  life : Int
  seen : Int
  xid : Int
  state : Int
  addr : Int
  bind : Int
  client : ByteArray
  pot : Int
  at_ : Int
  ok : Bool
namespace Msg
def cells (m : Msg) : Array Value := #[.int .i64 m.kind,.int .i64 m.life,.int .i64 m.seen,.int .i64 m.xid,.int .i64 m.state,.int .u32 m.addr,.int .i64 m.bind,.string m.client,.int .i64 m.pot,.int .i64 m.at_,.bool m.ok]
def zero : Msg := ⟨0,0,0,0,0,0,0,⟨#[]⟩,0,0,false⟩
structure Wf (m : Msg) : Prop where
  kind : -9223372036854775808 ≤ m.kind ∧ m.kind ≤ 9223372036854775807
  life : -9223372036854775808 ≤ m.life ∧ m.life ≤ 9223372036854775807
  seen : -9223372036854775808 ≤ m.seen ∧ m.seen ≤ 9223372036854775807
  xid : -9223372036854775808 ≤ m.xid ∧ m.xid ≤ 9223372036854775807
  state : -9223372036854775808 ≤ m.state ∧ m.state ≤ 9223372036854775807
  addr : 0 ≤ m.addr ∧ m.addr ≤ 4294967295
  bind : -9223372036854775808 ≤ m.bind ∧ m.bind ≤ 9223372036854775807
  client : m.client.size ≤ 140737488351232
  pot : -9223372036854775808 ≤ m.pot ∧ m.pot ≤ 9223372036854775807
  at_ : -9223372036854775808 ≤ m.at_ ∧ m.at_ ≤ 9223372036854775807
def num (m : Msg) : Nat → Int
  | 0 => m.kind | 1 => m.life | 2 => m.seen | 3 => m.xid | 4 => m.state | 6 => m.bind | 8 => m.pot | 9 => m.at_ | _ => 0
def setNum (m : Msg) (j : Nat) (n : Int) : Msg :=
  match j with
  | 1 => { m with life := n } | 2 => { m with seen := n } | 3 => { m with xid := n } | 4 => { m with state := n } | 6 => { m with bind := n } | 8 => { m with pot := n } | 9 => { m with at_ := n } | _ => m
def go2 {G : Type} (f : Nat → Int → Int → Int → G → G) (g : G) : G := f 2 4 0 536870912 (f 1 4 1 536870912 g)
def go3 {G : Type} (kind : Int) (f : Nat → Int → Int → Int → G → G) (g : G) : G := if [1,3,2].contains kind then f 3 4 1 1073741824 (go2 f g) else go2 f g
def go4 {G : Type} (kind : Int) (f : Nat → Int → Int → Int → G → G) (g : G) : G := if [1].contains kind then f 4 1 0 8 (go3 kind f g) else go3 kind f g
def go5 {G : Type} (kind : Int) (f : Nat → Int → Int → Int → G → G) (o : G → G) (g : G) : G := if [3,2].contains kind then o (go4 kind f g) else go4 kind f g
def go {G : Type} (kind : Int) (f : Nat → Int → Int → Int → G → G) (o : G → G) (g : G) : G :=
  if [2].contains kind then f 9 6 0 1099511627776 (f 8 6 0 1099511627776 (f 6 1 0 5 (go5 kind f o g))) else go5 kind f o g
def within (n lo hi : Int) : Bool := decide (lo ≤ n) && decide (n ≤ hi)
def bare (m : Msg) : Msg :=
  let b := go m.kind (fun j _ _ _ b => b.setNum j 0) (fun b => { b with ok := b.ok && decide (b.kind ≠ 3) }) m
  if m.kind = 2 then { b with addr := 0,client := ⟨#[]⟩ } else b
def same (m n : Msg) : Bool := eqVs m.cells.toList n.cells.toList
def right (m : Msg) : Bool :=
  (go m.kind (fun j _ lo hi b => b && within (m.num j) lo hi) id ([1,2,3,4,5].contains m.kind && decide ((m.client.size : Int) ≤ 32))) && same (bare m) { zero with kind := m.kind }
def be : Nat → Int → List UInt8
  | 0,_ => []
  | k + 1,n => UInt8.ofNat (n / 256 ^ k % 256).toNat :: be k n
theorem be_length : ∀ (k : Nat) (n : Int),(be k n).length = k
  | 0,_ => rfl
  | k + 1,n => by rw [be,List.length_cons,be_length k n]
theorem be_get : ∀ (k j : Nat) (n : Int),j < k → (be k n)[j]? = some (UInt8.ofNat (n / 256 ^ (k - 1 - j) % 256).toNat)
  | 0,j,n,h => by omega
  | k + 1,0,n,h => by simp [be]
  | k + 1,j + 1,n,h => by
    rw [be,List.getElem?_cons_succ,be_get k j n (by omega)]
    congr 4
    congr 2
    omega
theorem be_step {k j : Nat} {n : Int} (h : j < k) : (be k n).take (j + 1) = (be k n).take j ++ [UInt8.ofNat (n / 256 ^ (k - 1 - j) % 256).toNat] := by
  have hl : j < (be k n).length := by rw [be_length]; exact h
  rw [List.take_succ_eq_append_getElem hl]
  have := be_get k j n h
  rw [List.getElem?_eq_getElem hl] at this
  rw [Option.some.inj this]
theorem shr_be {n i : Int} {q : Nat} (hq : i = q) (h7 : q ≤ 7) : n.fdiv (2 ^ min (8 * i).toNat IntKind.i64.bits) = n / 256 ^ q := by
  subst hq
  have e : min (8 * (q : Int)).toNat IntKind.i64.bits = 8 * q := by
    have : IntKind.i64.bits = 64 := rfl
    omega
  rw [e]
  have h2 : (2 : Int) ^ (8 * q) = 256 ^ q := by rw [Int.pow_mul]; rfl
  rw [h2,Int.fdiv_eq_ediv_of_nonneg]
  exact Int.pow_nonneg (by decide)
def encF (m : Msg) (j : Nat) (k _ _ : Int) (b : List UInt8) : List UInt8 := b ++ be k.toNat (m.num j)
def encO (m : Msg) (b : List UInt8) : List UInt8 := if m.kind = 2 then b ++ be 4 m.addr else b ++ [if m.ok then 1 else 0]
def enc0 (m : Msg) : List UInt8 := go m.kind (encF m) (encO m) [UInt8.ofNat (m.kind % 256).toNat]
def enc (m : Msg) : List UInt8 := enc0 m ++ (if m.kind = 2 then UInt8.ofNat m.client.size :: m.client.toList else [])
theorem kinds_of {k : Int} (h : [1,2,3,4,5].contains k = true) : k = 1 ∨ k = 2 ∨ k = 3 ∨ k = 4 ∨ k = 5 := by
  simp only [List.contains_iff_mem,List.mem_cons,List.mem_nil_iff,or_false] at h; exact h
theorem beq_toList_iff (a b : ByteArray) : (a.toList == b.toList) = true ↔ a = b := by
  rw [beq_iff_eq,ByteArray.toList_eq,ByteArray.toList_eq]
  constructor
  · intro h; cases a; cases b; simp only [ByteArray.mk.injEq]; exact Array.toList_inj.1 h
  · rintro rfl; rfl
theorem same_iff (m n : Msg) : same m n = true ↔ m = n := by
  obtain ⟨a1,a2,a3,a4,a5,a6,a7,a8,a9,a10,a11⟩ := m
  obtain ⟨b1,b2,b3,b4,b5,b6,b7,b8,b9,b10,b11⟩ := n
  have h8 : (a8.toList == b8.toList) = true ↔ a8 = b8 := beq_toList_iff a8 b8
  simp only [same,cells,eqVs,eqV,Bool.and_eq_true,beq_iff_eq,h8,and_true,Msg.mk.injEq]
theorem within_iff (n lo hi : Int) : within n lo hi = true ↔ lo ≤ n ∧ n ≤ hi := by simp [within]
theorem right_iff (m : Msg) : right m = true ↔ (1 ≤ m.life ∧ m.life ≤ 536870912) ∧ (0 ≤ m.seen ∧ m.seen ≤ 536870912) ∧
    ((m.kind = 1 ∧ (1 ≤ m.xid ∧ m.xid ≤ 1073741824) ∧ (0 ≤ m.state ∧ m.state ≤ 8) ∧ m.addr = 0 ∧ m.bind = 0 ∧ m.client = ⟨#[]⟩ ∧ m.pot = 0 ∧ m.at_ = 0 ∧ m.ok = false) ∨
     (m.kind = 2 ∧ (1 ≤ m.xid ∧ m.xid ≤ 1073741824) ∧ m.state = 0 ∧ (0 ≤ m.bind ∧ m.bind ≤ 5) ∧ m.client.size ≤ 32 ∧ (0 ≤ m.pot ∧ m.pot ≤ 1099511627776) ∧ (0 ≤ m.at_ ∧ m.at_ ≤ 1099511627776) ∧ m.ok = false) ∨
     (m.kind = 3 ∧ (1 ≤ m.xid ∧ m.xid ≤ 1073741824) ∧ m.state = 0 ∧ m.addr = 0 ∧ m.bind = 0 ∧ m.client = ⟨#[]⟩ ∧ m.pot = 0 ∧ m.at_ = 0) ∨
     ((m.kind = 4 ∨ m.kind = 5) ∧ m.xid = 0 ∧ m.state = 0 ∧ m.addr = 0 ∧ m.bind = 0 ∧ m.client = ⟨#[]⟩ ∧ m.pot = 0 ∧ m.at_ = 0 ∧ m.ok = false)) := by
  obtain ⟨kind,life,seen,xid,state,addr,bind,client,pot,at_,ok⟩ := m
  by_cases hk : [1,2,3,4,5].contains kind = true
  · have e0 : (⟨#[]⟩ : ByteArray).size = 0 := rfl
    rcases kinds_of hk with rfl | rfl | rfl | rfl | rfl
    · simp [right,same_iff,bare,go,go2,go3,go4,go5,setNum,zero,num,within_iff]
      constructor <;> (intro h; simp_all)
    · simp [right,same_iff,bare,go,go2,go3,go4,go5,setNum,zero,num,within_iff]
      constructor <;> (intro h; simp_all; try omega)
    · simp [right,same_iff,bare,go,go2,go3,go4,go5,setNum,zero,num,within_iff]
      constructor <;> (intro h; simp_all)
    · simp [right,same_iff,bare,go,go2,go3,go4,go5,setNum,zero,num,within_iff]
      constructor <;> (intro h; simp_all)
    · simp [right,same_iff,bare,go,go2,go3,go4,go5,setNum,zero,num,within_iff]
      constructor <;> (intro h; simp_all)
  · have hk' : [1,2,3,4,5].contains kind = false := by simpa using hk
    have hgo : ∀ (k : Int) (f : Nat → Int → Int → Int → Bool → Bool),(∀ j a b c,f j a b c false = false) → go k f id false = false := fun k f hf => by
      have h2 : go2 f false = false := by simp only [go2,hf]
      have h3 : go3 k f false = false := by unfold go3; split <;> simp only [hf,h2]
      have h4 : go4 k f false = false := by unfold go4; split <;> simp only [hf,h3]
      have h5 : go5 k f id false = false := by unfold go5; split <;> simp only [id,h4]
      unfold go; split <;> simp only [hf,h5]
    have hr : right ⟨kind,life,seen,xid,state,addr,bind,client,pot,at_,ok⟩ = false := by
      unfold right
      simp only [hk',Bool.false_and]
      rw [hgo _ _ (fun _ _ _ _ => by simp)]
      rfl
    rw [hr]
    simp only [Bool.false_eq_true,false_iff]
    simp only [List.contains_iff_mem,List.mem_cons,List.mem_nil_iff,or_false,not_or] at hk
    intro h; obtain ⟨_,_,h⟩ := h; omega
theorem be_one {n : Int} (h : 0 ≤ n ∧ n ≤ 255) : (be 1 n).map byteV = [.int .u8 n] := by
  have e : n / 256 ^ 0 % 256 = n := by have : (256 : Int) ^ 0 = 1 := rfl; rw [this]; omega
  simp only [be,List.map_cons,List.map_nil,e,byteV_of h]
theorem _root_.Go.K.Ow.bytes {e : TypeId} {v : Value} {n : Nat} {xs : List Value} {s : Sg} {bs : List UInt8} (h : Ow e 1 v n xs s) (hx : xs = bs.map byteV) : Ow e 1 v bs.length (bs.map byteV) s := by
  have h1 := h.1
  rw [hx,List.length_map,Nat.mul_one] at h1
  rw [← hx,h1]; exact h
def row (k j : Nat) (n : Int) : List Value := List.replicate (k - j) (.int .u8 0) ++ (be j n).map byteV
theorem row_length {k j : Nat} {n : Int} (h : j ≤ k) : (row k j n).length = k := by simp [row,be_length]; omega
theorem rep_one (v : Value) : ∀ k,rep [v] k = List.replicate k v
  | 0 => rfl
  | k + 1 => by rw [rep,rep_one v k]; rfl
theorem row_zero (k : Nat) (n : Int) : rep (Value.int .u8 0).cells.toList k = row k 0 n := by
  show rep [Value.int .u8 0] k = _
  rw [rep_one]; simp [row,be]
theorem row_step {k x : Nat} {n : Int} (h : x < k) (hn : 0 ≤ n / 256 ^ x % 256 ∧ n / 256 ^ x % 256 ≤ 255) : row k (x + 1) n = (row k x n).set (0 + (((k : Int) - 1 - (x : Int)).toNat * 1)) (.int .u8 (n / 256 ^ x % 256)) := by
  have e : 0 + (((k : Int) - 1 - (x : Int)).toNat * 1) = k - (x + 1) := by omega
  rw [e]
  unfold row
  have e2 : k - x = (k - (x + 1)) + 1 := by omega
  rw [e2,List.replicate_succ',List.append_assoc,List.set_append_right _ _ (by simp)]
  simp only [List.length_replicate,Nat.sub_self,List.singleton_append,List.set_cons_zero,be,List.map_cons,byteV_of hn]
theorem row_ow (k : Nat) (n : Int) (b : Nat) (e : TypeId) (h : k ≤ 100) : Ow e 1 (.slice (some ⟨b,0,none⟩) k k) k ((be k n).map byteV) [(b,.cells (row k k n).toArray e (0,0))] := by
  have h1 : row k k n = (be k n).map byteV := by simp [row]
  rw [h1]
  exact Ow.lit (cur := ((be k n).map byteV).toArray) (by simp [be_length]) (by unfold maxLen; omega)
theorem tmod_256 {n : Int} (hn : 0 ≤ n) (x : Nat) : (n / 256 ^ x).tmod 256 = n / 256 ^ x % 256 := by
  have h : 0 ≤ n / 256 ^ x := Int.ediv_nonneg hn (Int.pow_nonneg (by decide))
  rw [Int.tmod_eq_emod_of_nonneg h]
theorem tdiv_256 {n : Int} (hn : 0 ≤ n ∧ n ≤ 9223372036854775807) (x : Nat) : IntKind.i64.wrap ((n / 256 ^ x).tdiv 256) = n / 256 ^ (x + 1) := by
  have h : 0 ≤ n / 256 ^ x := Int.ediv_nonneg hn.1 (Int.pow_nonneg (by decide))
  have h2 : n / 256 ^ x ≤ n := Int.ediv_le_self _ hn.1
  rw [Int.tdiv_eq_ediv_of_nonneg h,wrap_i64 (by omega),Int.ediv_ediv_of_nonneg (Int.pow_nonneg (by decide)),Int.pow_succ]
end Msg
end Go.K
