/- Facts on messages which the laws of layer 4 need: plain Lean.
Conditions: none; no program in sight. -/
import Derived.Test.YtpdnkhdmajmbiaaMB
import Derived.Test.YtpdnkhdmajmbiaaKB
set_option linter.unusedSimpArgs false
set_option linter.unusedVariables false
set_option linter.unusedSectionVars false
namespace Go.K
namespace Msg
/-- A right message with another kind, that has no field of its own: right just if it has no such field. -/
theorem right_other {m : Msg} {k : Int} (h : right m = true) (hk : k = 4 ∨ k = 5) :
    right ⟨k, m.life, m.seen, m.xid, m.state, m.addr, m.bind, m.client, m.pot, m.at_, m.ok⟩ = same ⟨k, m.life, m.seen, m.xid, m.state, m.addr, m.bind, m.client, m.pot, m.at_, m.ok⟩ ⟨k, m.life, m.seen, 0, 0, 0, 0, ⟨#[]⟩, 0, 0, false⟩ := by
  have hb := right_bounds h
  rw [Bool.eq_iff_iff, right_iff, same_iff]
  simp only [Msg.mk.injEq, true_and]
  constructor
  · rintro ⟨_, _, ⟨h1, _⟩ | ⟨h1, _⟩ | ⟨h1, _⟩ | h1⟩
    · omega
    · omega
    · omega
    · exact h1.2
  · intro h1; exact ⟨hb.2.1, hb.2.2.1, .inr (.inr (.inr ⟨hk, h1⟩))⟩
theorem right_kind {m : Msg} (h : right m = true) : m.kind = 1 ∨ m.kind = 2 ∨ m.kind = 3 ∨ m.kind = 4 ∨ m.kind = 5 := by
  have := (right_bounds h).1; omega
theorem right_bad {m : Msg} (hk : m.kind < 1 ∨ 5 < m.kind) : right m = false := by
  cases h : right m with
  | false => rfl
  | true => have := right_kind h; omega
theorem enc_at0 {m : Msg} (h : right m = true) : ((enc m).map byteV)[0]? = some (.int .u8 m.kind) := by
  have hb : ∃ t, enc m = UInt8.ofNat (m.kind % 256).toNat :: t := by
    rcases right_kind h with h | h | h | h | h
    · rw [enc_1 h, h]; exact ⟨_, rfl⟩
    · rw [enc_2 h, h]; exact ⟨_, rfl⟩
    · rw [enc_3 h, h]; exact ⟨_, rfl⟩
    · rw [enc_0 (by omega) (by omega) (by omega)]; exact ⟨_, rfl⟩
    · rw [enc_0 (by omega) (by omega) (by omega)]; exact ⟨_, rfl⟩
  obtain ⟨t, ht⟩ := hb
  have := (right_bounds h).1
  rw [ht, List.map_cons, List.getElem?_cons_zero, byteV_of (by omega)]
  rw [Int.emod_eq_of_lt (by omega) (by omega)]
theorem size_at {m : Msg} (h : right m = true) : (#[.int .i64 0, .int .i64 14, .int .i64 (31 + (m.client.size : Int)), .int .i64 14, .int .i64 9, .int .i64 9] : Array Value)[m.kind.toNat]? = some (.int .i64 ((enc m).length : Int)) := by
  rcases right_kind h with h | h | h | h | h
  · rw [enc_1 h, h]; simp [be_length]
  · rw [enc_2 h, h]; simp [be_length, ByteArray.toList_eq]; omega
  · rw [enc_3 h, h]; simp [be_length]
  · rw [enc_0 (by omega) (by omega) (by omega), h]; simp [be_length]
  · rw [enc_0 (by omega) (by omega) (by omega), h]; simp [be_length]
theorem enc_pos {m : Msg} (h : right m = true) : 0 < (enc m).length := by
  have := enc_at0 h
  rw [List.getElem?_eq_some_iff] at this
  obtain ⟨h1, _⟩ := this; simpa using h1
end Msg
end Go.K

namespace Go.K
namespace Msg
def tags11 : List (Nat × IntKind) := [(0, .i64), (0, .i64), (0, .i64), (0, .i64), (0, .i64), (0, .u32), (0, .i64), (2, .i64), (0, .i64), (0, .i64), (1, .i64)]
theorem of_wf {cs : List Value} (h : wfVs tags11 cs) : ∃ m : Msg, cs.toArray = m.cells ∧ (0 ≤ m.addr ∧ m.addr ≤ 4294967295) ∧ m.client.size ≤ 9223372036854775807 := by
  obtain ⟨v0, c0, rfl, h0, h⟩ := wfVs_cons h
  obtain ⟨v1, c1, rfl, h1, h⟩ := wfVs_cons h
  obtain ⟨v2, c2, rfl, h2, h⟩ := wfVs_cons h
  obtain ⟨v3, c3, rfl, h3, h⟩ := wfVs_cons h
  obtain ⟨v4, c4, rfl, h4, h⟩ := wfVs_cons h
  obtain ⟨v5, c5, rfl, h5, h⟩ := wfVs_cons h
  obtain ⟨v6, c6, rfl, h6, h⟩ := wfVs_cons h
  obtain ⟨v7, c7, rfl, h7, h⟩ := wfVs_cons h
  obtain ⟨v8, c8, rfl, h8, h⟩ := wfVs_cons h
  obtain ⟨v9, c9, rfl, h9, h⟩ := wfVs_cons h
  obtain ⟨v10, c10, rfl, h10, h⟩ := wfVs_cons h
  obtain rfl := wfVs_nil h
  obtain ⟨n0, rfl, w0⟩ := wfV_int h0
  obtain ⟨n1, rfl, w1⟩ := wfV_int h1
  obtain ⟨n2, rfl, w2⟩ := wfV_int h2
  obtain ⟨n3, rfl, w3⟩ := wfV_int h3
  obtain ⟨n4, rfl, w4⟩ := wfV_int h4
  obtain ⟨n5, rfl, w5⟩ := wfV_int h5
  obtain ⟨n6, rfl, w6⟩ := wfV_int h6
  obtain ⟨s7, rfl, w7⟩ := wfV_str h7
  obtain ⟨n8, rfl, w8⟩ := wfV_int h8
  obtain ⟨n9, rfl, w9⟩ := wfV_int h9
  obtain ⟨b10, rfl⟩ := wfV_bool h10
  exact ⟨⟨n0, n1, n2, n3, n4, n5, n6, s7, n8, n9, b10⟩, rfl, Go.bounds_u32 w5, w7⟩
end Msg
end Go.K

namespace Go.K
/-- The number that bytes are, the first the highest. -/
def val (l : List UInt8) : Int := l.foldl (fun a c => a * 256 + (c.toNat : Int)) 0

theorem foldl_val (l : List UInt8) : ∀ a : Int, l.foldl (fun a c => a * 256 + (c.toNat : Int)) a = a * 256 ^ l.length + val l := by
  unfold val
  induction l with
  | nil => intro a; simp
  | cons c l ih =>
    intro a
    simp only [List.foldl_cons, List.length_cons]
    rw [ih (a * 256 + (c.toNat : Int)), ih (0 * 256 + (c.toNat : Int)), Int.pow_succ]
    generalize (256 : Int) ^ l.length = p
    rw [Int.add_mul, Int.add_mul, Int.mul_assoc, Int.mul_comm 256 p]
    omega
theorem val_nil : val [] = 0 := rfl
theorem val_cons (c : UInt8) (l : List UInt8) : val (c :: l) = (c.toNat : Int) * 256 ^ l.length + val l := by
  show (c :: l).foldl _ 0 = _
  rw [List.foldl_cons, foldl_val]; simp
theorem val_snoc (l : List UInt8) (c : UInt8) : val (l ++ [c]) = val l * 256 + (c.toNat : Int) := by simp [val, List.foldl_append]
theorem val_one (c : UInt8) : val [c] = c.toNat := by simp [val]
theorem u8_lt (c : UInt8) : (c.toNat : Int) < 256 := by have := c.toNat_lt; omega
theorem pow_pos256 (k : Nat) : (0 : Int) < 256 ^ k := Int.pow_pos (by decide)
theorem val_bounds : ∀ l : List UInt8, 0 ≤ val l ∧ val l < 256 ^ l.length
  | [] => by simp [val_nil]
  | c :: l => by
    obtain ⟨h1, h2⟩ := val_bounds l
    have h3 := u8_lt c
    have hp := pow_pos256 l.length
    rw [val_cons, List.length_cons, Int.pow_succ]
    have h4 : (c.toNat : Int) * 256 ^ l.length ≤ 255 * 256 ^ l.length := Int.mul_le_mul_of_nonneg_right (by omega) (by omega)
    have h5 : 0 ≤ (c.toNat : Int) * 256 ^ l.length := Int.mul_nonneg (by omega) (by omega)
    constructor <;> omega

namespace Msg
theorem be_add : ∀ (k : Nat) (v c : Int), be k (v + 256 ^ k * c) = be k v
  | 0, _, _ => rfl
  | k + 1, v, c => by
    have hp := pow_pos256 k
    have e : v + 256 ^ (k + 1) * c = v + 256 ^ k * (256 * c) := by rw [Int.pow_succ, Int.mul_assoc]
    rw [be, be, e, be_add k v (256 * c), Int.add_mul_ediv_left _ _ (by omega), Int.add_mul_emod_self_left]
theorem be_val : ∀ l : List UInt8, be l.length (val l) = l
  | [] => rfl
  | c :: l => by
    obtain ⟨h1, h2⟩ := val_bounds l
    have hp := pow_pos256 l.length
    have hc := u8_lt c
    rw [List.length_cons, val_cons, be]
    have e : (c.toNat : Int) * 256 ^ l.length + val l = val l + 256 ^ l.length * (c.toNat : Int) := by rw [Int.mul_comm]; omega
    rw [e, be_add, be_val l, Int.add_mul_ediv_left _ _ (by omega), Int.ediv_eq_zero_of_lt h1 h2, Int.zero_add, Int.emod_eq_of_lt (by omega) hc, Int.toNat_natCast]
    simp
theorem val_be_mod : ∀ (k : Nat) (n : Int), val (be k n) = n % 256 ^ k
  | 0, n => by simp [be, val_nil, Int.emod_one]
  | k + 1, n => by
    have hp := pow_pos256 k
    rw [be, val_cons, be_length, val_be_mod k n]
    have h1 : (UInt8.ofNat (n / 256 ^ k % 256).toNat).toNat = (n / 256 ^ k % 256).toNat := by
      rw [UInt8.toNat_ofNat']; omega
    rw [h1]
    have hq := Int.emod_add_mul_ediv (n / 256 ^ k) 256
    have hr := Int.emod_add_mul_ediv n (256 ^ k)
    have hb := Int.emod_lt_of_pos n hp
    have hb0 := Int.emod_nonneg n (Int.ne_of_gt hp)
    have h2 : ((n / 256 ^ k % 256).toNat : Int) = n / 256 ^ k % 256 := by omega
    rw [h2]
    generalize hQ : n / 256 ^ k = Q at *
    generalize hR : n % 256 ^ k = R at *
    have e : n = (Q % 256 * 256 ^ k + R) + 256 ^ (k + 1) * (Q / 256) := by
      rw [Int.pow_succ]
      conv => lhs; rw [← hr, ← hq]
      rw [Int.mul_add, Int.mul_comm (256 ^ k) (Q % 256), Int.mul_assoc]; omega
    have hqq := Int.emod_lt_of_pos Q (show (0 : Int) < 256 by decide)
    have hq0 := Int.emod_nonneg Q (show (256 : Int) ≠ 0 by decide)
    have h4 : Q % 256 * 256 ^ k ≤ 255 * 256 ^ k := Int.mul_le_mul_of_nonneg_right (by omega) (by omega)
    have h5 : 0 ≤ Q % 256 * 256 ^ k := Int.mul_nonneg hq0 (by omega)
    conv => rhs; rw [e]
    rw [Int.add_mul_emod_self_left]
    exact (Int.emod_eq_of_lt (by omega) (by rw [Int.pow_succ]; omega)).symm
theorem val_be {k : Nat} {n : Int} (h0 : 0 ≤ n) (h1 : n < 256 ^ k) : val (be k n) = n := by rw [val_be_mod, Int.emod_eq_of_lt h0 h1]

/-- What is not read yet, and whether there were too few. -/
abbrev Rs := List UInt8 × Bool
def rd (n : Nat) (s : Rs) : List UInt8 × Rs := if s.1.length < n then (List.replicate n 0, ([], true)) else (s.1.take n, (s.1.drop n, s.2))
theorem rd_len (n : Nat) (s : Rs) : (rd n s).1.length = n := by
  unfold rd; split
  · simp
  · simp; omega
theorem rd_app (l t : List UInt8) (b : Bool) : rd l.length (l ++ t, b) = (l, (t, b)) := by
  unfold rd; rw [if_neg (by simp)]; simp
theorem rd_be (k : Nat) (n : Int) (t : List UInt8) (b : Bool) : rd k (be k n ++ t, b) = (be k n, (t, b)) := by
  have := rd_app (be k n) t b; rwa [be_length] at this
theorem rd_one (c : UInt8) (t : List UInt8) (b : Bool) : rd 1 (c :: t, b) = ([c], (t, b)) := rd_app [c] t b
theorem rd_back {n : Nat} {s : Rs} (h : (rd n s).2.2 = false) : s.2 = false ∧ s.1 = (rd n s).1 ++ (rd n s).2.1 := by
  unfold rd at h ⊢; split
  · rename_i hc; rw [if_pos hc] at h; cases h
  · rename_i hc; rw [if_neg hc] at h; exact ⟨h, by simp⟩
theorem rd_val (n : Nat) (s : Rs) : 0 ≤ val (rd n s).1 ∧ val (rd n s).1 < 256 ^ n := by
  have := val_bounds (rd n s).1; rwa [rd_len] at this
theorem be_rd (n : Nat) (s : Rs) : be n (val (rd n s).1) = (rd n s).1 := by
  have := be_val (rd n s).1; rwa [rd_len] at this

def decF (j : Nat) (k _ _ : Int) (g : Msg × Rs) : Msg × Rs := (g.1.setNum j (val (rd k.toNat g.2).1), (rd k.toNat g.2).2)
def decO (g : Msg × Rs) : Msg × Rs :=
  if g.1.kind = 2 then ({ g.1 with addr := val (rd 4 g.2).1 }, (rd 4 g.2).2)
  else ({ g.1 with ok := decide (val (rd 1 g.2).1 = 1) }, ((rd 1 g.2).2.1, (rd 1 g.2).2.2 || decide (val (rd 1 g.2).1 > 1)))
def dec0 (bs : List UInt8) : Msg × Rs := go (val (rd 1 (bs, false)).1) decF decO ({ zero with kind := val (rd 1 (bs, false)).1 }, (rd 1 (bs, false)).2)
def decC (g : Msg × Rs) : Msg × Rs :=
  if g.1.kind = 2 then ({ g.1 with client := ⟨(rd (val (rd 1 g.2).1).toNat (rd 1 g.2).2).1.toArray⟩ }, (rd (val (rd 1 g.2).1).toNat (rd 1 g.2).2).2) else g
/-- What is read of bytes, and what is left. -/
def dec1 (bs : List UInt8) : Msg × Rs := decC (dec0 bs)
def bad (bs : List UInt8) : Bool := ((dec1 bs).2.2 || decide (((dec1 bs).2.1.length : Int) > 0)) || !right (dec1 bs).1

/-- Bytes of a right message, whatever follows, are read as it. -/
theorem dec1_enc {m : Msg} (h : right m = true) (ha : 0 ≤ m.addr ∧ m.addr ≤ 4294967295) (t : List UInt8) : dec1 (enc m ++ t) = (m, (t, false)) := by
  have hb := right_bounds h
  have hr := (right_iff m).1 h
  obtain ⟨kind, life, seen, xid, state, addr, bind, client, pot, at_, ok⟩ := m
  simp only at hb hr ha
  obtain ⟨b1, b2, b3, b4, b5, b6, b7, b8, b9⟩ := hb
  have v1 : val (be 4 life) = life := val_be (by omega) (by omega)
  have v2 : val (be 4 seen) = seen := val_be (by omega) (by omega)
  have v3 : val (be 4 xid) = xid := val_be (by omega) (by omega)
  have v4 : val (be 1 state) = state := val_be (by omega) (by omega)
  have v5 : val (be 4 addr) = addr := val_be (by omega) (by omega)
  have v6 : val (be 1 bind) = bind := val_be (by omega) (by omega)
  have v7 : val (be 6 pot) = pot := val_be (by omega) (by omega)
  have v8 : val (be 6 at_) = at_ := val_be (by omega) (by omega)
  obtain ⟨_, _, hk | hk | hk | hk⟩ := hr
  · obtain ⟨rfl, _, _, rfl, rfl, rfl, rfl, rfl, rfl⟩ := hk
    rw [enc_1 rfl]
    simp [dec1, dec0, decC, go, go2, go3, go4, go5, decF, rd_one, rd_be, val_one, setNum, zero, v1, v2, v3, v4]
  · obtain ⟨rfl, _, rfl, _, _, _, _, rfl⟩ := hk
    rw [enc_2 rfl]
    have hc : (client.size : Int) % 256 = client.size := by omega
    have hcl : rd client.size (client.data.toList ++ t, false) = (client.data.toList, (t, false)) := by
      have := rd_app client.data.toList t false
      rwa [show client.data.toList.length = client.size from by simp] at this
    simp [dec1, dec0, decC, go, go2, go3, go4, go5, decF, decO, rd_one, rd_be, val_one, setNum, zero, v1, v2, v3, v5, v6, v7, v8, hc, hcl, ByteArray.toList_eq]
  · obtain ⟨rfl, _, rfl, rfl, rfl, rfl, rfl, rfl⟩ := hk
    rw [enc_3 rfl]
    cases ok <;> simp [dec1, dec0, decC, go, go2, go3, go4, go5, decF, decO, rd_one, rd_be, val_one, setNum, zero, v1, v2, v3]
  · obtain ⟨h45, rfl, rfl, rfl, rfl, rfl, rfl, rfl, rfl⟩ := hk
    rcases h45 with rfl | rfl
    · rw [enc_0 (show ¬ (4 : Int) = 1 by decide) (show ¬ (4 : Int) = 2 by decide) (show ¬ (4 : Int) = 3 by decide)]
      simp [dec1, dec0, decC, go, go2, go3, go4, go5, decF, rd_one, rd_be, val_one, setNum, zero, v1, v2]
    · rw [enc_0 (show ¬ (5 : Int) = 1 by decide) (show ¬ (5 : Int) = 2 by decide) (show ¬ (5 : Int) = 3 by decide)]
      simp [dec1, dec0, decC, go, go2, go3, go4, go5, decF, rd_one, rd_be, val_one, setNum, zero, v1, v2]

theorem rd_back' {n : Nat} {s : Rs} {r : List UInt8 × Rs} (e : rd n s = r) (h : r.2.2 = false) : s.2 = false ∧ s.1 = r.1 ++ r.2.1 := by rw [← e] at h ⊢; exact rd_back h
theorem be_rd' {n : Nat} {s : Rs} {r : List UInt8 × Rs} (e : rd n s = r) : be n (val r.1) = r.1 := by rw [← e]; exact be_rd n s
theorem rd_val' {n : Nat} {s : Rs} {r : List UInt8 × Rs} (e : rd n s = r) : 0 ≤ val r.1 ∧ val r.1 < 256 ^ n := by rw [← e]; exact rd_val n s
theorem rd_len' {n : Nat} {s : Rs} {r : List UInt8 × Rs} (e : rd n s = r) : r.1.length = n := by rw [← e]; exact rd_len n s
theorem be_1 {n : Int} (h : 0 ≤ n ∧ n < 256) : be 1 n = [UInt8.ofNat n.toNat] := by
  have e : n / 256 ^ 0 % 256 = n := by have : (256 : Int) ^ 0 = 1 := rfl; rw [this]; omega
  simp only [be, e]

theorem dec1_kind (bs : List UInt8) : (dec1 bs).1.kind = val (rd 1 (bs, false)).1 := by
  unfold dec1 dec0
  generalize rd 1 (bs, false) = r0
  obtain ⟨c0, s1⟩ := r0
  simp only
  have hF : ∀ j k lo hi g, (j, k, lo, hi) ∈ flds → (decF j k lo hi g).1.kind = g.1.kind := fun j k lo hi g h => by
    simp only [flds, List.mem_cons, Prod.mk.injEq, List.mem_nil_iff, or_false] at h
    rcases h with ⟨rfl, rfl, rfl, rfl⟩ | ⟨rfl, rfl, rfl, rfl⟩ | ⟨rfl, rfl, rfl, rfl⟩ | ⟨rfl, rfl, rfl, rfl⟩ | ⟨rfl, rfl, rfl, rfl⟩ | ⟨rfl, rfl, rfl, rfl⟩ | ⟨rfl, rfl, rfl, rfl⟩ <;> rfl
  have hO : ∀ g, (decO g).1.kind = g.1.kind := fun g => by unfold decO; split <;> rfl
  have hC : ∀ g, (decC g).1.kind = g.1.kind := fun g => by unfold decC; split <;> rfl
  rw [hC]
  have g2 : ∀ g, (go2 decF g).1.kind = g.1.kind := fun g => by unfold go2; rw [hF _ _ _ _ _ (by simp [flds]), hF _ _ _ _ _ (by simp [flds])]
  have g3 : ∀ k g, (go3 k decF g).1.kind = g.1.kind := fun k g => by unfold go3; split <;> (try rw [hF _ _ _ _ _ (by simp [flds])]) <;> rw [g2]
  have g4 : ∀ k g, (go4 k decF g).1.kind = g.1.kind := fun k g => by unfold go4; split <;> (try rw [hF _ _ _ _ _ (by simp [flds])]) <;> rw [g3]
  have g5 : ∀ k g, (go5 k decF decO g).1.kind = g.1.kind := fun k g => by unfold go5; split <;> (try rw [hO]) <;> rw [g4]
  unfold go; split
  · rw [hF _ _ _ _ _ (by simp [flds]), hF _ _ _ _ _ (by simp [flds]), hF _ _ _ _ _ (by simp [flds]), g5]
  · rw [g5]

/-- Bytes that are read as a right message are its bytes. -/
theorem enc_dec1 {bs : List UInt8} (hb : (dec1 bs).2.2 = false) (hr : (dec1 bs).2.1 = []) (h : right (dec1 bs).1 = true) : enc (dec1 bs).1 = bs ∧ (0 ≤ (dec1 bs).1.addr ∧ (dec1 bs).1.addr ≤ 4294967295) := by
  have hk := right_kind h
  rw [dec1_kind] at hk
  clear h
  unfold dec1 dec0 at hb hr ⊢
  generalize e0 : rd 1 (bs, false) = r0 at *
  have hone : ∀ n, val r0.1 = n → 0 ≤ n ∧ n < 256 → r0.1 = [UInt8.ofNat n.toNat] := fun n hn hb => by have := be_rd' e0; rw [hn, be_1 hb] at this; exact this.symm
  rcases hk with hk | hk | hk | hk | hk <;> rw [hk] at hb hr ⊢ <;> have h1 := hone _ hk (by decide)
  · simp [decC, go, go2, go3, go4, go5, decF, setNum, zero] at hb hr ⊢
    rw [enc_1 rfl]
    generalize e1 : rd 4 r0.2 = r1 at *
    generalize e2 : rd 4 r1.2 = r2 at *
    generalize e3 : rd 4 r2.2 = r3 at *
    generalize e4 : rd 1 r3.2 = r4 at *
    obtain ⟨b4, a4⟩ := rd_back' e4 hb
    obtain ⟨b3, a3⟩ := rd_back' e3 b4
    obtain ⟨b2, a2⟩ := rd_back' e2 b3
    obtain ⟨b1, a1⟩ := rd_back' e1 b2
    obtain ⟨_, a0⟩ := rd_back' e0 b1
    simp only at a0
    rw [a0, a1, a2, a3, a4, hr, h1]
    simp [be_rd' e1, be_rd' e2, be_rd' e3, be_rd' e4]
  · simp [decC, go, go2, go3, go4, go5, decF, decO, setNum, zero] at hb hr ⊢
    rw [enc_2 rfl]
    generalize e1 : rd 4 r0.2 = r1 at *
    generalize e2 : rd 4 r1.2 = r2 at *
    generalize e3 : rd 4 r2.2 = r3 at *
    generalize e4 : rd 4 r3.2 = r4 at *
    generalize e5 : rd 1 r4.2 = r5 at *
    generalize e6 : rd 6 r5.2 = r6 at *
    generalize e7 : rd 6 r6.2 = r7 at *
    generalize e8 : rd 1 r7.2 = r8 at *
    generalize e9 : rd (val r8.1).toNat r8.2 = r9 at *
    obtain ⟨b9, a9⟩ := rd_back' e9 hb
    obtain ⟨b8, a8⟩ := rd_back' e8 b9
    obtain ⟨b7, a7⟩ := rd_back' e7 b8
    obtain ⟨b6, a6⟩ := rd_back' e6 b7
    obtain ⟨b5, a5⟩ := rd_back' e5 b6
    obtain ⟨b4, a4⟩ := rd_back' e4 b5
    obtain ⟨b3, a3⟩ := rd_back' e3 b4
    obtain ⟨b2, a2⟩ := rd_back' e2 b3
    obtain ⟨b1, a1⟩ := rd_back' e1 b2
    obtain ⟨_, a0⟩ := rd_back' e0 b1
    have v4 := rd_val' e4
    have v8 := rd_val' e8
    have l9 := rd_len' e9
    have c8 := be_rd' e8
    rw [be_1 (by simpa using v8)] at c8
    have hs : (⟨r9.1.toArray⟩ : ByteArray).size = (val r8.1).toNat := by show r9.1.toArray.size = _; simpa using l9
    simp only at a0
    refine ⟨?_, by omega, by omega⟩
    rw [a0, a1, a2, a3, a4, a5, a6, a7, a8, a9, hr, h1]
    have c9 : UInt8.ofNat (val r8.1).toNat :: r9.1 = r8.1 ++ r9.1 := congrArg (· ++ r9.1) c8
    simp only [hs, ByteArray.toList_eq, be_rd' e1, be_rd' e2, be_rd' e3, be_rd' e4, be_rd' e5, be_rd' e6, be_rd' e7]
    rw [c9]
    simp
  · simp [decC, go, go2, go3, go4, go5, decF, decO, setNum, zero] at hb hr ⊢
    rw [enc_3 rfl]
    generalize e1 : rd 4 r0.2 = r1 at *
    generalize e2 : rd 4 r1.2 = r2 at *
    generalize e3 : rd 4 r2.2 = r3 at *
    generalize e4 : rd 1 r3.2 = r4 at *
    obtain ⟨b4, a4⟩ := rd_back' e4 hb.1
    obtain ⟨b3, a3⟩ := rd_back' e3 b4
    obtain ⟨b2, a2⟩ := rd_back' e2 b3
    obtain ⟨b1, a1⟩ := rd_back' e1 b2
    obtain ⟨_, a0⟩ := rd_back' e0 b1
    have v4 := rd_val' e4
    have c4 := be_rd' e4
    rw [be_1 (by simpa using v4)] at c4
    have hv : val r4.1 = 0 ∨ val r4.1 = 1 := by omega
    simp only at a0
    rw [a0, a1, a2, a3, a4, hr, h1]
    rcases hv with hv | hv <;> rw [hv] at c4 ⊢ <;> simp [be_rd' e1, be_rd' e2, be_rd' e3, ← c4]
  · simp [decC, go, go2, go3, go4, go5, decF, setNum, zero] at hb hr ⊢
    rw [enc_0 (show ¬ (4 : Int) = 1 by decide) (show ¬ (4 : Int) = 2 by decide) (show ¬ (4 : Int) = 3 by decide)]
    generalize e1 : rd 4 r0.2 = r1 at *
    generalize e2 : rd 4 r1.2 = r2 at *
    obtain ⟨b2, a2⟩ := rd_back' e2 hb
    obtain ⟨b1, a1⟩ := rd_back' e1 b2
    obtain ⟨_, a0⟩ := rd_back' e0 b1
    simp only at a0
    rw [a0, a1, a2, hr, h1]
    simp [be_rd' e1, be_rd' e2]
  · simp [decC, go, go2, go3, go4, go5, decF, setNum, zero] at hb hr ⊢
    rw [enc_0 (show ¬ (5 : Int) = 1 by decide) (show ¬ (5 : Int) = 2 by decide) (show ¬ (5 : Int) = 3 by decide)]
    generalize e1 : rd 4 r0.2 = r1 at *
    generalize e2 : rd 4 r1.2 = r2 at *
    obtain ⟨b2, a2⟩ := rd_back' e2 hb
    obtain ⟨b1, a1⟩ := rd_back' e1 b2
    obtain ⟨_, a0⟩ := rd_back' e0 b1
    simp only at a0
    rw [a0, a1, a2, hr, h1]
    simp [be_rd' e1, be_rd' e2]

/-- Bytes are a message just if they are those of a right one. -/
theorem bad_enc {m : Msg} (h : right m = true) (ha : 0 ≤ m.addr ∧ m.addr ≤ 4294967295) : bad (enc m) = false := by
  have := dec1_enc h ha []
  rw [List.append_nil] at this
  unfold bad; rw [this]; simp [h]
theorem not_bad {bs : List UInt8} (h : bad bs = false) : right (dec1 bs).1 = true ∧ enc (dec1 bs).1 = bs ∧ (0 ≤ (dec1 bs).1.addr ∧ (dec1 bs).1.addr ≤ 4294967295) := by
  unfold bad at h
  simp only [Bool.or_eq_false_iff, decide_eq_false_iff_not, Bool.not_eq_false'] at h
  obtain ⟨⟨h1, h2⟩, h3⟩ := h
  have hr : (dec1 bs).2.1 = [] := List.eq_nil_of_length_eq_zero (by omega)
  exact ⟨h3, enc_dec1 h1 hr h3⟩
theorem dec1_of_enc {m : Msg} (h : right m = true) (ha : 0 ≤ m.addr ∧ m.addr ≤ 4294967295) : (dec1 (enc m)).1 = m := by
  have := dec1_enc h ha []
  rw [List.append_nil] at this; rw [this]
theorem bad_more {m : Msg} (h : right m = true) (ha : 0 ≤ m.addr ∧ m.addr ≤ 4294967295) {t : List UInt8} (ht : t ≠ []) : bad (enc m ++ t) = true := by
  have hl : 0 < t.length := List.length_pos_iff.2 ht
  unfold bad; rw [dec1_enc h ha t]; simp; omega
theorem bad_less {m : Msg} (h : right m = true) (ha : 0 ≤ m.addr ∧ m.addr ≤ 4294967295) {l t : List UInt8} (ht : t ≠ []) (he : enc m = l ++ t) : bad l = true := by
  cases hb : bad l with
  | true => rfl
  | false =>
    obtain ⟨h1, h2, h3⟩ := not_bad hb
    have := bad_more h1 h3 ht
    rw [h2, ← he, bad_enc h ha] at this; cases this
theorem enc_inj {m n : Msg} (h : right m = true) (ha : 0 ≤ m.addr ∧ m.addr ≤ 4294967295) (h' : right n = true) (ha' : 0 ≤ n.addr ∧ n.addr ≤ 4294967295) (he : enc m = enc n) : m = n := by
  have := dec1_of_enc h ha
  rw [he, dec1_of_enc h' ha'] at this; exact this.symm
end Msg
end Go.K

namespace Go.K
section
variable {V : Vw} {H : Hp}

theorem Ex.nilseg {C : Cx} {L : Sl} {Q : Exit → Act → World → Prop} {e : Exit} (k : Ex C V ([] :: H) L Q e) : Ex C V H L Q e := fun a w i => k a w ⟨i.1, i.2.recut (by simp)⟩
theorem Rd.zeros {b : Nat} {e : TypeId} {n : Nat} (i : Nat) (hi : H[i]? = some [(b, .cells (rep (Value.int .u8 0).cells.toList n).toArray e (0, 0))]) : Rd V H 1 (.slice (some ⟨b, 0, none⟩) n n) n ((List.replicate n 0).map byteV) := by
  have e1 : rep (Value.int .u8 0).cells.toList n = (List.replicate n (0 : UInt8)).map byteV := by
    show rep [Value.int .u8 0] n = _
    rw [Msg.rep_one, List.map_replicate]; rfl
  have h := Rd.one (V := V) (H := H) (k := 1) (n := n) (Kn.at i hi) (by simp [length_rep, Value.cells])
  simp only [List.toList_toArray] at h
  rwa [e1] at h
theorem Rd.congr {k : Nat} {v : Value} {n : Nat} {xs ys : List Value} (h : Rd V H k v n xs) (e : xs = ys) : Rd V H k v n ys := e ▸ h
theorem Rd.resize {k : Nat} {v : Value} {n m : Nat} {xs : List Value} (h : Rd V H k v n xs) (e : n = m) : Rd V H k v m xs := e ▸ h

theorem rd_head {p : Option Addr} {c n : Nat} {rest : List UInt8} {b : Bool} (hv : Rd V [] 1 (.slice p rest.length c) rest.length (rest.map byteV)) (h : n ≤ rest.length) :
    Rd V H 1 (.slice (if c = 0 then p else p.map (·.add (0 * 1))) (n - 0) (c - 0)) n ((Msg.rd n (rest, b)).1.map byteV) := by
  have := (hv.slice 0 n (by omega) h).of_nil (H := H)
  refine Rd.congr (Rd.resize this (by omega)) ?_
  unfold Msg.rd; rw [if_neg (by show ¬ rest.length < n; omega)]
  simp
theorem rd_tail {p : Option Addr} {c n : Nat} {rest : List UInt8} {b : Bool} (hv : Rd V [] 1 (.slice p rest.length c) rest.length (rest.map byteV)) (h : n ≤ rest.length) :
    Rd V [] 1 (.slice (if c = n then p else p.map (·.add (n * 1))) (rest.length - n) (c - n)) (Msg.rd n (rest, b)).2.1.length ((Msg.rd n (rest, b)).2.1.map byteV) := by
  have := hv.slice n rest.length h (Nat.le_refl _)
  have e : (Msg.rd n (rest, b)).2.1 = rest.drop n := by unfold Msg.rd; rw [if_neg (by show ¬ rest.length < n; omega)]
  refine Rd.congr (Rd.resize this (by rw [e]; simp)) ?_
  rw [e, Nat.mul_one, Nat.mul_one, ← List.map_drop, ← List.map_take]
  rw [List.take_of_length_le (by simp)]
theorem rd_few {n : Nat} {rest : List UInt8} {b : Bool} (h : ¬ n ≤ rest.length) : Msg.rd n (rest, b) = (List.replicate n 0, ([], true)) := by
  unfold Msg.rd; rw [if_pos (by show rest.length < n; omega)]
theorem rd_enough {n : Nat} {rest : List UInt8} {b : Bool} (h : n ≤ rest.length) : (Msg.rd n (rest, b)).2.2 = b := by
  unfold Msg.rd; rw [if_neg (by show ¬ rest.length < n; omega)]
theorem rd_le (n : Nat) (s : Msg.Rs) : (Msg.rd n s).2.1.length ≤ s.1.length := by
  unfold Msg.rd; split <;> simp
theorem Rd.cap {k : Nat} {p : Option Addr} {n c : Nat} {xs : List Value} (h : Rd V H k (.slice p n c) n xs) : n ≤ c := by
  obtain ⟨_, _, _, e, h, _⟩ := h; cases e; exact h

theorem pow_le256 {a b : Nat} (h : a ≤ b) : (256 : Int) ^ a ≤ 256 ^ b := by
  have := Nat.pow_le_pow_right (n := 256) (by decide) h
  have e : ∀ k : Nat, (256 : Int) ^ k = ((256 ^ k : Nat) : Int) := fun k => by rw [Int.natCast_pow]; rfl
  rw [e, e]; exact Int.ofNat_le.2 this
theorem val_small {l : List UInt8} (h : l.length ≤ 6) : 0 ≤ val l ∧ val l ≤ 281474976710655 := by
  obtain ⟨h1, h2⟩ := val_bounds l
  have h3 : (256 : Int) ^ l.length ≤ 256 ^ 6 := pow_le256 h
  have h4 : (256 : Int) ^ 6 = 281474976710656 := rfl
  omega
theorem or_byte {a c : Int} (h0 : 0 ≤ a) (h1 : a ≤ 281474976710655) (c0 : 0 ≤ c) (c1 : c ≤ 255) :
    IntKind.i64.wrap ((BitVec.ofInt IntKind.i64.bits (a * 256) ||| BitVec.ofInt IntKind.i64.bits c).toNat : Int) = a * 256 + c := by
  obtain ⟨n, rfl⟩ := Int.eq_ofNat_of_zero_le h0
  obtain ⟨d, rfl⟩ := Int.eq_ofNat_of_zero_le c0
  have hb : IntKind.i64.bits = 64 := rfl
  rw [hb, BitVec.toNat_or, BitVec.toNat_ofInt, BitVec.toNat_ofInt]
  have e1 : (((n : Int) * 256) % ((2 ^ 64 : Nat) : Int)).toNat = 2 ^ 8 * n := by
    have : ((2 ^ 64 : Nat) : Int) = 18446744073709551616 := rfl
    rw [this]; omega
  have e2 : ((d : Int) % ((2 ^ 64 : Nat) : Int)).toNat = d := by
    have : ((2 ^ 64 : Nat) : Int) = 18446744073709551616 := rfl
    rw [this]; omega
  rw [e1, e2, ← Nat.two_pow_add_eq_or_of_lt (by omega)]
  rw [wrap_i64 (by omega)]; omega
theorem shl_byte {a : Int} (h0 : 0 ≤ a) (h1 : a ≤ 281474976710655) : IntKind.i64.wrap (a * 2 ^ min (8 : Int).toNat IntKind.i64.bits) = a * 256 := by
  have e : (2 : Int) ^ min (8 : Int).toNat IntKind.i64.bits = 256 := rfl
  rw [e, wrap_i64 (by omega)]
theorem val_take {l : List UInt8} {i : Nat} (h : i < l.length) : val (l.take (i + 1)) = val (l.take i) * 256 + ((l.getD i 0).toNat : Int) := by
  rw [take_succ_getD l i 0 h, val_snoc]
end

namespace Msg
/-- The byte in place i. -/
def by_ (l : List UInt8) (i : Nat) : Int := ((l.getD i 0).toNat : Int)
def sl (l : List UInt8) (a b : Nat) : List UInt8 := (l.drop a).take (b - a)
def pad (bs : List UInt8) : List UInt8 := bs.drop 9 ++ List.replicate 30 0
def parse0 (bs : List UInt8) : Msg := { zero with kind := by_ bs 0, life := val (sl bs 1 5), seen := val (sl bs 5 9) }
/-- What the reference reads of nine bytes or more. -/
def parse (bs : List UInt8) : Msg :=
  if by_ bs 0 = 1 then { parse0 bs with xid := val (sl (pad bs) 0 4), state := by_ (pad bs) 4 }
  else if by_ bs 0 = 3 then { parse0 bs with xid := val (sl (pad bs) 0 4), ok := by_ (pad bs) 4 == 1 }
  else if by_ bs 0 = 2 then { parse0 bs with xid := val (sl (pad bs) 0 4), addr := val (sl (pad bs) 4 8), bind := by_ (pad bs) 8, pot := val (sl (pad bs) 9 15), at_ := val (sl (pad bs) 15 21), client := ⟨(sl (pad bs) 22 (22 + min (by_ (pad bs) 21).toNat ((pad bs).length - 22))).toArray⟩ }
  else parse0 bs
theorem parse_enc {m : Msg} (h : right m = true) (ha : 0 ≤ m.addr ∧ m.addr ≤ 4294967295) : parse (enc m) = m := by
  have hb := right_bounds h
  have hr := (right_iff m).1 h
  obtain ⟨kind, life, seen, xid, state, addr, bind, client, pot, at_, ok⟩ := m
  simp only at hb hr ha
  obtain ⟨b1, b2, b3, b4, b5, b6, b7, b8, b9⟩ := hb
  have v1 : val (be 4 life) = life := val_be (by omega) (by omega)
  have v2 : val (be 4 seen) = seen := val_be (by omega) (by omega)
  have v3 : val (be 4 xid) = xid := val_be (by omega) (by omega)
  have v4 : val (be 1 state) = state := val_be (by omega) (by omega)
  have v5 : val (be 4 addr) = addr := val_be (by omega) (by omega)
  have v6 : val (be 1 bind) = bind := val_be (by omega) (by omega)
  have v7 : val (be 6 pot) = pot := val_be (by omega) (by omega)
  have v8 : val (be 6 at_) = at_ := val_be (by omega) (by omega)
  simp only [be] at v1 v2 v3 v4 v5 v6 v7 v8
  rw [val_one] at v4 v6
  obtain ⟨_, _, hk | hk | hk | hk⟩ := hr
  · obtain ⟨rfl, _, _, rfl, rfl, rfl, rfl, rfl, rfl⟩ := hk
    rw [enc_1 rfl]
    simp only [be, List.cons_append, List.nil_append]
    simp only [parse, parse0, by_, sl, Msg.pad, zero, List.getD_cons_zero, List.getD_cons_succ, List.drop_succ_cons, List.drop_zero, List.take_succ_cons, List.take_zero, List.cons_append, List.nil_append, Nat.reduceSub, v1, v2, v3, v4]
    rfl
  · obtain ⟨rfl, _, rfl, _, _, _, _, rfl⟩ := hk
    rw [enc_2 rfl]
    simp only [be, List.cons_append, List.nil_append]
    simp only [parse, parse0, by_, sl, Msg.pad, zero, List.getD_cons_zero, List.getD_cons_succ, List.drop_succ_cons, List.drop_zero, List.take_succ_cons, List.take_zero, List.cons_append, List.nil_append, Nat.reduceSub, v1, v2, v3, v5, v6, v7, v8]
    have e1 : ((UInt8.ofNat client.size).toNat : Int) = client.size := by rw [UInt8.toNat_ofNat']; omega
    rw [e1]
    have e2 : min ((client.size : Int)).toNat ((client.toList ++ List.replicate 30 (0 : UInt8)).length) = client.size := by
      rw [ByteArray.toList_eq]; simp
    simp [ByteArray.toList_eq]
  · obtain ⟨rfl, _, rfl, rfl, rfl, rfl, rfl, rfl⟩ := hk
    rw [enc_3 rfl]
    simp only [be, List.cons_append, List.nil_append]
    simp only [parse, parse0, by_, sl, Msg.pad, zero, List.getD_cons_zero, List.getD_cons_succ, List.drop_succ_cons, List.drop_zero, List.take_succ_cons, List.take_zero, List.cons_append, List.nil_append, Nat.reduceSub, v1, v2, v3]
    cases ok <;> rfl
  · obtain ⟨h45, rfl, rfl, rfl, rfl, rfl, rfl, rfl, rfl⟩ := hk
    rcases h45 with rfl | rfl
    · rw [enc_0 (show ¬ (4 : Int) = 1 by decide) (show ¬ (4 : Int) = 2 by decide) (show ¬ (4 : Int) = 3 by decide)]
      simp only [be, List.cons_append, List.nil_append]
      simp only [parse, parse0, by_, sl, Msg.pad, zero, List.getD_cons_zero, List.getD_cons_succ, List.drop_succ_cons, List.drop_zero, List.take_succ_cons, List.take_zero, List.cons_append, List.nil_append, Nat.reduceSub, v1, v2]
      rfl
    · rw [enc_0 (show ¬ (5 : Int) = 1 by decide) (show ¬ (5 : Int) = 2 by decide) (show ¬ (5 : Int) = 3 by decide)]
      simp only [be, List.cons_append, List.nil_append]
      simp only [parse, parse0, by_, sl, Msg.pad, zero, List.getD_cons_zero, List.getD_cons_succ, List.drop_succ_cons, List.drop_zero, List.take_succ_cons, List.take_zero, List.cons_append, List.nil_append, Nat.reduceSub, v1, v2]
      rfl
theorem enc_bounds {m : Msg} (h : right m = true) : 9 ≤ (enc m).length ∧ (enc m).length ≤ 100 := by
  have hb := right_bounds h
  rcases right_kind h with h | h | h | h | h
  · rw [enc_1 h]; simp [be_length]
  · rw [enc_2 h]; simp [be_length, ByteArray.toList_eq]; omega
  · rw [enc_3 h]; simp [be_length]
  · rw [enc_0 (by omega) (by omega) (by omega)]; simp [be_length]
  · rw [enc_0 (by omega) (by omega) (by omega)]; simp [be_length]
/-- The reference refuses. -/
def rbad (bs : List UInt8) : Bool := !(decide (9 ≤ bs.length ∧ bs.length ≤ 100) && (right (parse bs) && decide (enc (parse bs) = bs)))
theorem parse_addr (bs : List UInt8) : 0 ≤ (parse bs).addr ∧ (parse bs).addr ≤ 4294967295 := by
  have hv : ∀ l : List UInt8, 0 ≤ val (sl l 4 8) ∧ val (sl l 4 8) ≤ 4294967295 := fun l => by
    obtain ⟨h1, h2⟩ := val_bounds (sl l 4 8)
    have h3 : (256 : Int) ^ (sl l 4 8).length ≤ 256 ^ 4 := pow_le256 (by unfold sl; simp; omega)
    have h4 : (256 : Int) ^ 4 = 4294967296 := rfl
    omega
  unfold parse
  split
  · simp [parse0, zero]
  · split
    · simp [parse0, zero]
    · split
      · exact hv _
      · simp [parse0, zero]
theorem rbad_eq (bs : List UInt8) : rbad bs = bad bs := by
  cases hb : bad bs with
  | false =>
    obtain ⟨h1, h2, h3⟩ := not_bad hb
    unfold rbad
    rw [← h2, parse_enc h1 h3, h1]
    have := enc_bounds h1
    simp [this]
  | true =>
    cases hr : rbad bs with
    | true => rfl
    | false =>
      unfold rbad at hr
      simp only [Bool.not_eq_false', Bool.and_eq_true, decide_eq_true_eq] at hr
      have := bad_enc hr.2.1 (parse_addr bs)
      rw [hr.2.2, hb] at this; cases this
theorem parse_dec {bs : List UInt8} (h : bad bs = false) : parse bs = (dec1 bs).1 := by
  obtain ⟨h1, h2, h3⟩ := not_bad h
  rw [← h2, parse_enc h1 h3, h2]
end Msg
end Go.K

namespace Go.K
section
variable {C : Cx} {V : Vw} {H : Hp} {L : Sl} {ty : TypeId}
theorem Y.lenRd {x : Operand} {t e : TypeId} {z k n : Nat} {v : Value} {xs : List Value} {V0 : Vw} {H0 : Hp} (hx : ev L x = some v) (ht : elemS C.P t = some (e, z)) (hr : Rd V0 H0 k v n xs) : Yl C V H L (.call { callee := .builtin .len, args := #[x], argTypes := #[t] }) ty (.int .i64 n) := by
  obtain ⟨p, c, rfl, _⟩ := hr.form
  exact Y.lenSl hx ht
theorem rd_u8 (s : Msg.Rs) : 0 ≤ val (Msg.rd 1 s).1 ∧ val (Msg.rd 1 s).1 ≤ 255 := by
  have := Msg.rd_val 1 s
  have e : (256 : Int) ^ 1 = 256 := rfl
  omega
theorem rd_u32 (s : Msg.Rs) : 0 ≤ val (Msg.rd 4 s).1 ∧ val (Msg.rd 4 s).1 ≤ 4294967295 := by
  have := Msg.rd_val 4 s
  have e : (256 : Int) ^ 4 = 4294967296 := rfl
  omega
end
namespace Msg
theorem bad_of {bs : List UInt8} {g : Msg × Rs} (e : dec1 bs = g) : bad bs = ((g.2.2 || decide ((g.2.1.length : Int) > 0)) || !right g.1) := by unfold bad; rw [e]
theorem decO_le (g : Msg × Rs) : (decO g).2.1.length ≤ g.2.1.length := by
  unfold decO; split <;> exact rd_le _ _
theorem decO_kind (g : Msg × Rs) : (decO g).1.kind = g.1.kind := by unfold decO; split <;> rfl
end Msg
end Go.K

namespace Go.K
section
variable {V : Vw} {H : Hp}
namespace Msg
theorem sl_length (bs : List UInt8) (l m : Nat) (hm : m ≤ bs.length) : (sl bs l m).length = m - l := by unfold sl; simp; omega
theorem pad_length (bs : List UInt8) : (Msg.pad bs).length = (bs.length - 9) + 30 := by unfold Msg.pad; simp
theorem by_bounds (l : List UInt8) (i : Nat) : 0 ≤ by_ l i ∧ by_ l i ≤ 255 := by have := u8_lt (l.getD i 0); unfold by_; omega
theorem by_at {l : List UInt8} {i : Nat} (h : i < l.length) : (l.map byteV)[i]? = some (.int .u8 (by_ l i)) := map_at byteV 0 h
theorem pad_cells (bs : List UInt8) : (([] : List Value) ++ (sl bs 9 bs.length).map byteV) ++ rep (Value.int .u8 0).cells.toList 30 = (Msg.pad bs).map byteV := by
  have e : sl bs 9 bs.length = bs.drop 9 := by unfold sl; rw [List.take_of_length_le (by simp)]
  rw [e, List.nil_append]; unfold Msg.pad; rw [List.map_append]; rfl
theorem sl_val (bs : List UInt8) (l m : Nat) (h : m - l ≤ 6) : 0 ≤ val (sl bs l m) ∧ val (sl bs l m) ≤ 281474976710655 := val_small (by unfold sl; simp; omega)
theorem sl_u32 (bs : List UInt8) : 0 ≤ val (sl bs 4 8) ∧ val (sl bs 4 8) ≤ 4294967295 := by
  obtain ⟨h1, h2⟩ := val_bounds (sl bs 4 8)
  have h3 : (256 : Int) ^ (sl bs 4 8).length ≤ 256 ^ 4 := pow_le256 (by unfold sl; simp; omega)
  have h4 : (256 : Int) ^ 4 = 4294967296 := rfl
  omega
theorem rbad_len {bs : List UInt8} (h : ¬ (9 ≤ bs.length ∧ bs.length ≤ 100)) : rbad bs = true := by unfold rbad; rw [decide_eq_false h]; rfl
theorem rbad_right {bs : List UInt8} (h : right (parse bs) = false) : rbad bs = true := by unfold rbad; rw [h]; simp
theorem eq_bytes (a b : List UInt8) : ((⟨a.toArray⟩ : ByteArray).toList == (⟨b.toArray⟩ : ByteArray).toList) = decide (a = b) := by
  rw [ByteArray.toList_eq, ByteArray.toList_eq]
  by_cases h : a = b
  · subst h; simp
  · rw [decide_eq_false h]; simpa using h
theorem rbad_ne {bs : List UInt8} (h : ((⟨(enc (parse bs)).toArray⟩ : ByteArray).toList == (⟨bs.toArray⟩ : ByteArray).toList) = false) : rbad bs = true := by
  rw [eq_bytes] at h; unfold rbad; rw [h]; simp
theorem rbad_ok {bs : List UInt8} (h1 : 9 ≤ bs.length ∧ bs.length ≤ 100) (h2 : right (parse bs) = true) (h : ((⟨(enc (parse bs)).toArray⟩ : ByteArray).toList == (⟨bs.toArray⟩ : ByteArray).toList) = true) : rbad bs = false := by
  rw [eq_bytes] at h; unfold rbad; rw [h, h2, decide_eq_true h1]; rfl
end Msg
theorem rd_sl {p : Option Addr} {c : Nat} {bs : List UInt8} (hv : Rd V H 1 (.slice p bs.length c) bs.length (bs.map byteV)) (l m : Nat) (hl : l ≤ m) (hm : m ≤ bs.length) :
    Rd V H 1 (.slice (if c = l then p else p.map (·.add (l * 1))) (m - l) (c - l)) (Msg.sl bs l m).length ((Msg.sl bs l m).map byteV) := by
  refine Rd.congr (Rd.resize (hv.slice l m hl hm) (Msg.sl_length bs l m hm).symm) ?_
  rw [Nat.mul_one, Nat.mul_one, ← List.map_drop, ← List.map_take]; rfl
end
end Go.K

namespace Go.K
namespace Msg
theorem same_dec {m : Msg} (h : right m = true) (ha : 0 ≤ m.addr ∧ m.addr ≤ 4294967295) : same (dec1 (enc m)).1 m = true := (same_iff _ _).2 (dec1_of_enc h ha)
theorem same_self (m : Msg) : same m m = true := (same_iff _ _).2 rfl
theorem bad_init {m : Msg} (h : right m = true) (ha : 0 ≤ m.addr ∧ m.addr ≤ 4294967295) : bad (sl (enc m) 0 ((enc m).length - 1)) = true := by
  have hb := enc_bounds h
  refine bad_less h ha (t := (enc m).drop ((enc m).length - 1)) ?_ ?_
  · intro e; have := congrArg List.length e; simp at this; omega
  · unfold sl; simp
theorem enc_eq_same {m n : Msg} (h : right m = true) (ha : 0 ≤ m.addr ∧ m.addr ≤ 4294967295) (h' : right n = true) (ha' : 0 ≤ n.addr ∧ n.addr ≤ 4294967295) :
    (((⟨(enc m).toArray⟩ : ByteArray).toList == (⟨(enc n).toArray⟩ : ByteArray).toList) == same m n) = true := by
  rw [eq_bytes, beq_iff_eq, Bool.eq_iff_iff, decide_eq_true_eq, same_iff]
  exact ⟨enc_inj h ha h' ha', fun e => by rw [e]⟩
end Msg
end Go.K
