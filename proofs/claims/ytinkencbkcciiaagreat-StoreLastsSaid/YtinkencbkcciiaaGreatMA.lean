/- Facts on messages which the laws of layer 4 need: plain Lean.
Conditions: none; no program in sight. -/
import Derived.Test.YtinkencbkcciiaaGreatMB
import Derived.Test.YtinkencbkcciiaaGreatKB
set_option linter.unusedSimpArgs false
set_option linter.unusedVariables false
set_option linter.unusedSectionVars false
namespace Go.K
namespace Msg
end Msg
end Go.K
namespace Go.K
namespace Msg
def tags11 : List (Nat × IntKind) := [(0,.i64),(0,.i64),(0,.i64),(0,.i64),(0,.i64),(0,.u32),(0,.i64),(2,.i64),(0,.i64),(0,.i64),(1,.i64)]
theorem of_wf {cs : List Value} (h : wfVs tags11 cs) : ∃ m : Msg,cs.toArray = m.cells ∧ (0 ≤ m.addr ∧ m.addr ≤ 4294967295) ∧ m.client.size ≤ 9223372036854775807 := by
  obtain ⟨v0,c0,rfl,h0,h⟩ := wfVs_cons h
  obtain ⟨v1,c1,rfl,h1,h⟩ := wfVs_cons h
  obtain ⟨v2,c2,rfl,h2,h⟩ := wfVs_cons h
  obtain ⟨v3,c3,rfl,h3,h⟩ := wfVs_cons h
  obtain ⟨v4,c4,rfl,h4,h⟩ := wfVs_cons h
  obtain ⟨v5,c5,rfl,h5,h⟩ := wfVs_cons h
  obtain ⟨v6,c6,rfl,h6,h⟩ := wfVs_cons h
  obtain ⟨v7,c7,rfl,h7,h⟩ := wfVs_cons h
  obtain ⟨v8,c8,rfl,h8,h⟩ := wfVs_cons h
  obtain ⟨v9,c9,rfl,h9,h⟩ := wfVs_cons h
  obtain ⟨v10,c10,rfl,h10,h⟩ := wfVs_cons h
  obtain rfl := wfVs_nil h
  obtain ⟨n0,rfl,w0⟩ := wfV_int h0
  obtain ⟨n1,rfl,w1⟩ := wfV_int h1
  obtain ⟨n2,rfl,w2⟩ := wfV_int h2
  obtain ⟨n3,rfl,w3⟩ := wfV_int h3
  obtain ⟨n4,rfl,w4⟩ := wfV_int h4
  obtain ⟨n5,rfl,w5⟩ := wfV_int h5
  obtain ⟨n6,rfl,w6⟩ := wfV_int h6
  obtain ⟨s7,rfl,w7⟩ := wfV_str h7
  obtain ⟨n8,rfl,w8⟩ := wfV_int h8
  obtain ⟨n9,rfl,w9⟩ := wfV_int h9
  obtain ⟨b10,rfl⟩ := wfV_bool h10
  exact ⟨⟨n0,n1,n2,n3,n4,n5,n6,s7,n8,n9,b10⟩,rfl,Go.bounds_u32 w5,w7⟩
end Msg
end Go.K
namespace Go.K
def val (l : List UInt8) : Int := l.foldl (fun a c => a * 256 + (c.toNat : Int)) 0
theorem foldl_val (l : List UInt8) : ∀ a : Int,l.foldl (fun a c => a * 256 + (c.toNat : Int)) a = a * 256 ^ l.length + val l := by
  unfold val
  induction l with
  | nil => intro a; simp
  | cons c l ih =>
    intro a
    simp only [List.foldl_cons,List.length_cons]
    rw [ih (a * 256 + (c.toNat : Int)),ih (0 * 256 + (c.toNat : Int)),Int.pow_succ]
    generalize (256 : Int) ^ l.length = p
    rw [Int.add_mul,Int.add_mul,Int.mul_assoc,Int.mul_comm 256 p]
    omega
theorem val_nil : val [] = 0 := rfl
theorem val_cons (c : UInt8) (l : List UInt8) : val (c :: l) = (c.toNat : Int) * 256 ^ l.length + val l := by
  show (c :: l).foldl _ 0 = _
  rw [List.foldl_cons,foldl_val]; simp
theorem val_snoc (l : List UInt8) (c : UInt8) : val (l ++ [c]) = val l * 256 + (c.toNat : Int) := by simp [val,List.foldl_append]
theorem val_one (c : UInt8) : val [c] = c.toNat := by simp [val]
theorem u8_lt (c : UInt8) : (c.toNat : Int) < 256 := by have := c.toNat_lt; omega
theorem pow_pos256 (k : Nat) : (0 : Int) < 256 ^ k := Int.pow_pos (by decide)
theorem val_bounds : ∀ l : List UInt8,0 ≤ val l ∧ val l < 256 ^ l.length
  | [] => by simp [val_nil]
  | c :: l => by
    obtain ⟨h1,h2⟩ := val_bounds l
    have h3 := u8_lt c
    have hp := pow_pos256 l.length
    rw [val_cons,List.length_cons,Int.pow_succ]
    have h4 : (c.toNat : Int) * 256 ^ l.length ≤ 255 * 256 ^ l.length := Int.mul_le_mul_of_nonneg_right (by omega) (by omega)
    have h5 : 0 ≤ (c.toNat : Int) * 256 ^ l.length := Int.mul_nonneg (by omega) (by omega)
    constructor <;> omega
namespace Msg
theorem be_add : ∀ (k : Nat) (v c : Int),be k (v + 256 ^ k * c) = be k v
  | 0,_,_ => rfl
  | k + 1,v,c => by
    have hp := pow_pos256 k
    have e : v + 256 ^ (k + 1) * c = v + 256 ^ k * (256 * c) := by rw [Int.pow_succ,Int.mul_assoc]
    rw [be,be,e,be_add k v (256 * c),Int.add_mul_ediv_left _ _ (by omega),Int.add_mul_emod_self_left]
theorem be_val : ∀ l : List UInt8,be l.length (val l) = l
  | [] => rfl
  | c :: l => by
    obtain ⟨h1,h2⟩ := val_bounds l
    have hp := pow_pos256 l.length
    have hc := u8_lt c
    rw [List.length_cons,val_cons,be]
    have e : (c.toNat : Int) * 256 ^ l.length + val l = val l + 256 ^ l.length * (c.toNat : Int) := by rw [Int.mul_comm]; omega
    rw [e,be_add,be_val l,Int.add_mul_ediv_left _ _ (by omega),Int.ediv_eq_zero_of_lt h1 h2,Int.zero_add,Int.emod_eq_of_lt (by omega) hc,Int.toNat_natCast]
    simp
theorem val_be_mod : ∀ (k : Nat) (n : Int),val (be k n) = n % 256 ^ k
  | 0,n => by simp [be,val_nil,Int.emod_one]
  | k + 1,n => by
    have hp := pow_pos256 k
    rw [be,val_cons,be_length,val_be_mod k n]
    have h1 : (UInt8.ofNat (n / 256 ^ k % 256).toNat).toNat = (n / 256 ^ k % 256).toNat := by
      rw [UInt8.toNat_ofNat']; omega
    rw [h1]
    have hq := Int.emod_add_mul_ediv (n / 256 ^ k) 256
    have hr := Int.emod_add_mul_ediv n (256 ^ k)
    have hb := Int.emod_lt_of_pos n hp
    have hb0 := Int.emod_nonneg n (Int.ne_of_gt hp)
    have h2 : ((n / 256 ^ k % 256).toNat : Int) = n / 256 ^ k % 256 := by omega
    rw [h2]
    generalize hQ : n / 256 ^ k = Q at *
    generalize hR : n % 256 ^ k = R at *
    have e : n = (Q % 256 * 256 ^ k + R) + 256 ^ (k + 1) * (Q / 256) := by
      rw [Int.pow_succ]
      conv => lhs; rw [← hr,← hq]
      rw [Int.mul_add,Int.mul_comm (256 ^ k) (Q % 256),Int.mul_assoc]; omega
    have hqq := Int.emod_lt_of_pos Q (show (0 : Int) < 256 by decide)
    have hq0 := Int.emod_nonneg Q (show (256 : Int) ≠ 0 by decide)
    have h4 : Q % 256 * 256 ^ k ≤ 255 * 256 ^ k := Int.mul_le_mul_of_nonneg_right (by omega) (by omega)
    have h5 : 0 ≤ Q % 256 * 256 ^ k := Int.mul_nonneg hq0 (by omega)
    conv => rhs; rw [e]
    rw [Int.add_mul_emod_self_left]
    exact (Int.emod_eq_of_lt (by omega) (by rw [Int.pow_succ]; omega)).symm
abbrev Rs := List UInt8 × Bool
def rd (n : Nat) (s : Rs) : List UInt8 × Rs := if s.1.length < n then (List.replicate n 0,([],true)) else (s.1.take n,(s.1.drop n,s.2))
end Msg
end Go.K
namespace Go.K
section
variable {V : Vw} {H : Hp}
theorem Rd.zeros {b : Nat} {e : TypeId} {n : Nat} (i : Nat) (hi : H[i]? = some [(b,.cells (rep (Value.int .u8 0).cells.toList n).toArray e (0,0))]) : Rd V H 1 (.slice (some ⟨b,0,none⟩) n n) n ((List.replicate n 0).map byteV) := by
  have e1 : rep (Value.int .u8 0).cells.toList n = (List.replicate n (0 : UInt8)).map byteV := by
    show rep [Value.int .u8 0] n = _
    rw [Msg.rep_one,List.map_replicate]; rfl
  have h := Rd.one (V := V) (H := H) (k := 1) (n := n) (Kn.at i hi) (by simp [length_rep,Value.cells])
  simp only [List.toList_toArray] at h
  rwa [e1] at h
theorem Rd.congr {k : Nat} {v : Value} {n : Nat} {xs ys : List Value} (h : Rd V H k v n xs) (e : xs = ys) : Rd V H k v n ys := e ▸ h
theorem Rd.cap {k : Nat} {p : Option Addr} {n c : Nat} {xs : List Value} (h : Rd V H k (.slice p n c) n xs) : n ≤ c := by
  obtain ⟨_,_,_,e,h,_⟩ := h; cases e; exact h
theorem pow_le256 {a b : Nat} (h : a ≤ b) : (256 : Int) ^ a ≤ 256 ^ b := by
  have := Nat.pow_le_pow_right (n := 256) (by decide) h
  have e : ∀ k : Nat,(256 : Int) ^ k = ((256 ^ k : Nat) : Int) := fun k => by rw [Int.natCast_pow]; rfl
  rw [e,e]; exact Int.ofNat_le.2 this
theorem val_small {l : List UInt8} (h : l.length ≤ 6) : 0 ≤ val l ∧ val l ≤ 281474976710655 := by
  obtain ⟨h1,h2⟩ := val_bounds l
  have h3 : (256 : Int) ^ l.length ≤ 256 ^ 6 := pow_le256 h
  have h4 : (256 : Int) ^ 6 = 281474976710656 := rfl
  omega
theorem or_byte {a c : Int} (h0 : 0 ≤ a) (h1 : a ≤ 281474976710655) (c0 : 0 ≤ c) (c1 : c ≤ 255) :
    IntKind.i64.wrap ((BitVec.ofInt IntKind.i64.bits (a * 256) ||| BitVec.ofInt IntKind.i64.bits c).toNat : Int) = a * 256 + c := by
  obtain ⟨n,rfl⟩ := Int.eq_ofNat_of_zero_le h0
  obtain ⟨d,rfl⟩ := Int.eq_ofNat_of_zero_le c0
  have hb : IntKind.i64.bits = 64 := rfl
  rw [hb,BitVec.toNat_or,BitVec.toNat_ofInt,BitVec.toNat_ofInt]
  have e1 : (((n : Int) * 256) % ((2 ^ 64 : Nat) : Int)).toNat = 2 ^ 8 * n := by
    have : ((2 ^ 64 : Nat) : Int) = 18446744073709551616 := rfl
    rw [this]; omega
  have e2 : ((d : Int) % ((2 ^ 64 : Nat) : Int)).toNat = d := by
    have : ((2 ^ 64 : Nat) : Int) = 18446744073709551616 := rfl
    rw [this]; omega
  rw [e1,e2,← Nat.two_pow_add_eq_or_of_lt (by omega)]
  rw [wrap_i64 (by omega)]; omega
theorem shl_byte {a : Int} (h0 : 0 ≤ a) (h1 : a ≤ 281474976710655) : IntKind.i64.wrap (a * 2 ^ min (8 : Int).toNat IntKind.i64.bits) = a * 256 := by
  have e : (2 : Int) ^ min (8 : Int).toNat IntKind.i64.bits = 256 := rfl
  rw [e,wrap_i64 (by omega)]
theorem val_take {l : List UInt8} {i : Nat} (h : i < l.length) : val (l.take (i + 1)) = val (l.take i) * 256 + ((l.getD i 0).toNat : Int) := by
  rw [take_succ_getD l i 0 h,val_snoc]
end
namespace Msg
def sl (l : List UInt8) (a b : Nat) : List UInt8 := (l.drop a).take (b - a)
end Msg
end Go.K
namespace Go.K
section
variable {C : Cx} {V : Vw} {H : Hp} {L : Sl} {ty : TypeId}
end
namespace Msg
end Msg
end Go.K
namespace Go.K
section
variable {V : Vw} {H : Hp}
namespace Msg
theorem sl_length (bs : List UInt8) (l m : Nat) (hm : m ≤ bs.length) : (sl bs l m).length = m - l := by unfold sl; simp; omega
theorem eq_bytes (a b : List UInt8) : ((⟨a.toArray⟩ : ByteArray).toList == (⟨b.toArray⟩ : ByteArray).toList) = decide (a = b) := by
  rw [ByteArray.toList_eq,ByteArray.toList_eq]
  by_cases h : a = b
  · subst h; simp
  · rw [decide_eq_false h]; simpa using h
end Msg
end
end Go.K
namespace Go.K
namespace Msg
theorem same_self (m : Msg) : same m m = true := (same_iff _ _).2 rfl
end Msg
end Go.K
