/- Bytes read back as a message: plain Lean.
Conditions: none; no program in sight. -/
import Derived.Test.YtelahacalnmilaaM2
namespace Go.K
/-- The number that bytes are, the first the highest. -/
def val (l : List UInt8) : Int := l.foldl (fun a c => a * 256 + (c.toNat : Int)) 0

theorem foldl_val (l : List UInt8) : ∀ a : Int, l.foldl (fun a c => a * 256 + (c.toNat : Int)) a = a * 256 ^ l.length + val l := by
  unfold val
  induction l with
  | nil => intro a; simp
  | cons c l ih =>
    intro a
    simp only [List.foldl_cons, List.length_cons]
    rw [ih (a * 256 + (c.toNat : Int)), ih (0 * 256 + (c.toNat : Int)), Int.pow_succ]
    generalize (256 : Int) ^ l.length = p
    rw [Int.add_mul, Int.add_mul, Int.mul_assoc, Int.mul_comm 256 p]
    omega
theorem val_nil : val [] = 0 := rfl
theorem val_cons (c : UInt8) (l : List UInt8) : val (c :: l) = (c.toNat : Int) * 256 ^ l.length + val l := by
  show (c :: l).foldl _ 0 = _
  rw [List.foldl_cons, foldl_val]; simp
theorem val_snoc (l : List UInt8) (c : UInt8) : val (l ++ [c]) = val l * 256 + (c.toNat : Int) := by simp [val, List.foldl_append]
theorem val_one (c : UInt8) : val [c] = c.toNat := by simp [val]
theorem u8_lt (c : UInt8) : (c.toNat : Int) < 256 := by have := c.toNat_lt; omega
theorem pow_pos256 (k : Nat) : (0 : Int) < 256 ^ k := Int.pow_pos (by decide)
theorem val_bounds : ∀ l : List UInt8, 0 ≤ val l ∧ val l < 256 ^ l.length
  | [] => by simp [val_nil]
  | c :: l => by
    obtain ⟨h1, h2⟩ := val_bounds l
    have h3 := u8_lt c
    have hp := pow_pos256 l.length
    rw [val_cons, List.length_cons, Int.pow_succ]
    have h4 : (c.toNat : Int) * 256 ^ l.length ≤ 255 * 256 ^ l.length := Int.mul_le_mul_of_nonneg_right (by omega) (by omega)
    have h5 : 0 ≤ (c.toNat : Int) * 256 ^ l.length := Int.mul_nonneg (by omega) (by omega)
    constructor <;> omega

namespace Msg
theorem be_add : ∀ (k : Nat) (v c : Int), be k (v + 256 ^ k * c) = be k v
  | 0, _, _ => rfl
  | k + 1, v, c => by
    have hp := pow_pos256 k
    have e : v + 256 ^ (k + 1) * c = v + 256 ^ k * (256 * c) := by rw [Int.pow_succ, Int.mul_assoc]
    rw [be, be, e, be_add k v (256 * c), Int.add_mul_ediv_left _ _ (by omega), Int.add_mul_emod_self_left]
theorem be_val : ∀ l : List UInt8, be l.length (val l) = l
  | [] => rfl
  | c :: l => by
    obtain ⟨h1, h2⟩ := val_bounds l
    have hp := pow_pos256 l.length
    have hc := u8_lt c
    rw [List.length_cons, val_cons, be]
    have e : (c.toNat : Int) * 256 ^ l.length + val l = val l + 256 ^ l.length * (c.toNat : Int) := by rw [Int.mul_comm]; omega
    rw [e, be_add, be_val l, Int.add_mul_ediv_left _ _ (by omega), Int.ediv_eq_zero_of_lt h1 h2, Int.zero_add, Int.emod_eq_of_lt (by omega) hc, Int.toNat_natCast]
    simp
theorem val_be_mod : ∀ (k : Nat) (n : Int), val (be k n) = n % 256 ^ k
  | 0, n => by simp [be, val_nil, Int.emod_one]
  | k + 1, n => by
    have hp := pow_pos256 k
    rw [be, val_cons, be_length, val_be_mod k n]
    have h1 : (UInt8.ofNat (n / 256 ^ k % 256).toNat).toNat = (n / 256 ^ k % 256).toNat := by
      rw [UInt8.toNat_ofNat']; omega
    rw [h1]
    have hq := Int.emod_add_mul_ediv (n / 256 ^ k) 256
    have hr := Int.emod_add_mul_ediv n (256 ^ k)
    have hb := Int.emod_lt_of_pos n hp
    have hb0 := Int.emod_nonneg n (Int.ne_of_gt hp)
    have h2 : ((n / 256 ^ k % 256).toNat : Int) = n / 256 ^ k % 256 := by omega
    rw [h2]
    generalize hQ : n / 256 ^ k = Q at *
    generalize hR : n % 256 ^ k = R at *
    have e : n = (Q % 256 * 256 ^ k + R) + 256 ^ (k + 1) * (Q / 256) := by
      rw [Int.pow_succ]
      conv => lhs; rw [← hr, ← hq]
      rw [Int.mul_add, Int.mul_comm (256 ^ k) (Q % 256), Int.mul_assoc]; omega
    have hqq := Int.emod_lt_of_pos Q (show (0 : Int) < 256 by decide)
    have hq0 := Int.emod_nonneg Q (show (256 : Int) ≠ 0 by decide)
    have h4 : Q % 256 * 256 ^ k ≤ 255 * 256 ^ k := Int.mul_le_mul_of_nonneg_right (by omega) (by omega)
    have h5 : 0 ≤ Q % 256 * 256 ^ k := Int.mul_nonneg hq0 (by omega)
    conv => rhs; rw [e]
    rw [Int.add_mul_emod_self_left]
    exact (Int.emod_eq_of_lt (by omega) (by rw [Int.pow_succ]; omega)).symm
theorem val_be {k : Nat} {n : Int} (h0 : 0 ≤ n) (h1 : n < 256 ^ k) : val (be k n) = n := by rw [val_be_mod, Int.emod_eq_of_lt h0 h1]

/-- What is not read yet, and whether there were too few. -/
abbrev Rs := List UInt8 × Bool
def rd (n : Nat) (s : Rs) : List UInt8 × Rs := if s.1.length < n then (List.replicate n 0, ([], true)) else (s.1.take n, (s.1.drop n, s.2))
theorem rd_len (n : Nat) (s : Rs) : (rd n s).1.length = n := by
  unfold rd; split
  · simp
  · simp; omega
theorem rd_app (l t : List UInt8) (b : Bool) : rd l.length (l ++ t, b) = (l, (t, b)) := by
  unfold rd; rw [if_neg (by simp)]; simp
theorem rd_be (k : Nat) (n : Int) (t : List UInt8) (b : Bool) : rd k (be k n ++ t, b) = (be k n, (t, b)) := by
  have := rd_app (be k n) t b; rwa [be_length] at this
theorem rd_one (c : UInt8) (t : List UInt8) (b : Bool) : rd 1 (c :: t, b) = ([c], (t, b)) := rd_app [c] t b
theorem rd_back {n : Nat} {s : Rs} (h : (rd n s).2.2 = false) : s.2 = false ∧ s.1 = (rd n s).1 ++ (rd n s).2.1 := by
  unfold rd at h ⊢; split
  · rename_i hc; rw [if_pos hc] at h; cases h
  · rename_i hc; rw [if_neg hc] at h; exact ⟨h, by simp⟩
theorem rd_val (n : Nat) (s : Rs) : 0 ≤ val (rd n s).1 ∧ val (rd n s).1 < 256 ^ n := by
  have := val_bounds (rd n s).1; rwa [rd_len] at this
theorem be_rd (n : Nat) (s : Rs) : be n (val (rd n s).1) = (rd n s).1 := by
  have := be_val (rd n s).1; rwa [rd_len] at this

def decF (j : Nat) (k _ _ : Int) (g : Msg × Rs) : Msg × Rs := (g.1.setNum j (val (rd k.toNat g.2).1), (rd k.toNat g.2).2)
def decO (g : Msg × Rs) : Msg × Rs :=
  if g.1.kind = 2 then ({ g.1 with addr := val (rd 4 g.2).1 }, (rd 4 g.2).2)
  else ({ g.1 with ok := decide (val (rd 1 g.2).1 = 1) }, ((rd 1 g.2).2.1, (rd 1 g.2).2.2 || decide (val (rd 1 g.2).1 > 1)))
def dec0 (bs : List UInt8) : Msg × Rs := go (val (rd 1 (bs, false)).1) decF decO ({ zero with kind := val (rd 1 (bs, false)).1 }, (rd 1 (bs, false)).2)
def decC (g : Msg × Rs) : Msg × Rs :=
  if g.1.kind = 2 then ({ g.1 with client := ⟨(rd (val (rd 1 g.2).1).toNat (rd 1 g.2).2).1.toArray⟩ }, (rd (val (rd 1 g.2).1).toNat (rd 1 g.2).2).2) else g
/-- What is read of bytes, and what is left. -/
def dec1 (bs : List UInt8) : Msg × Rs := decC (dec0 bs)
def bad (bs : List UInt8) : Bool := ((dec1 bs).2.2 || decide (((dec1 bs).2.1.length : Int) > 0)) || !right (dec1 bs).1

/-- Bytes of a right message, whatever follows, are read as it. -/
theorem dec1_enc {m : Msg} (h : right m = true) (ha : 0 ≤ m.addr ∧ m.addr ≤ 4294967295) (t : List UInt8) : dec1 (enc m ++ t) = (m, (t, false)) := by
  have hb := right_bounds h
  have hr := (right_iff m).1 h
  obtain ⟨kind, life, seen, xid, state, addr, bind, client, pot, at_, ok⟩ := m
  simp only at hb hr ha
  obtain ⟨b1, b2, b3, b4, b5, b6, b7, b8, b9⟩ := hb
  have v1 : val (be 4 life) = life := val_be (by omega) (by omega)
  have v2 : val (be 4 seen) = seen := val_be (by omega) (by omega)
  have v3 : val (be 4 xid) = xid := val_be (by omega) (by omega)
  have v4 : val (be 1 state) = state := val_be (by omega) (by omega)
  have v5 : val (be 4 addr) = addr := val_be (by omega) (by omega)
  have v6 : val (be 1 bind) = bind := val_be (by omega) (by omega)
  have v7 : val (be 6 pot) = pot := val_be (by omega) (by omega)
  have v8 : val (be 6 at_) = at_ := val_be (by omega) (by omega)
  obtain ⟨_, _, hk | hk | hk | hk⟩ := hr
  · obtain ⟨rfl, _, _, rfl, rfl, rfl, rfl, rfl, rfl⟩ := hk
    rw [enc_1 rfl]
    simp [dec1, dec0, decC, go, go2, go3, go4, go5, decF, rd_one, rd_be, val_one, setNum, zero, v1, v2, v3, v4]
  · obtain ⟨rfl, _, rfl, _, _, _, _, rfl⟩ := hk
    rw [enc_2 rfl]
    have hc : (client.size : Int) % 256 = client.size := by omega
    have hcl : rd client.size (client.data.toList ++ t, false) = (client.data.toList, (t, false)) := by
      have := rd_app client.data.toList t false
      rwa [show client.data.toList.length = client.size from by simp] at this
    simp [dec1, dec0, decC, go, go2, go3, go4, go5, decF, decO, rd_one, rd_be, val_one, setNum, zero, v1, v2, v3, v5, v6, v7, v8, hc, hcl, ByteArray.toList_eq]
  · obtain ⟨rfl, _, rfl, rfl, rfl, rfl, rfl, rfl⟩ := hk
    rw [enc_3 rfl]
    cases ok <;> simp [dec1, dec0, decC, go, go2, go3, go4, go5, decF, decO, rd_one, rd_be, val_one, setNum, zero, v1, v2, v3]
  · obtain ⟨h45, rfl, rfl, rfl, rfl, rfl, rfl, rfl, rfl⟩ := hk
    rcases h45 with rfl | rfl
    · rw [enc_0 (show ¬ (4 : Int) = 1 by decide) (show ¬ (4 : Int) = 2 by decide) (show ¬ (4 : Int) = 3 by decide)]
      simp [dec1, dec0, decC, go, go2, go3, go4, go5, decF, rd_one, rd_be, val_one, setNum, zero, v1, v2]
    · rw [enc_0 (show ¬ (5 : Int) = 1 by decide) (show ¬ (5 : Int) = 2 by decide) (show ¬ (5 : Int) = 3 by decide)]
      simp [dec1, dec0, decC, go, go2, go3, go4, go5, decF, rd_one, rd_be, val_one, setNum, zero, v1, v2]

theorem rd_back' {n : Nat} {s : Rs} {r : List UInt8 × Rs} (e : rd n s = r) (h : r.2.2 = false) : s.2 = false ∧ s.1 = r.1 ++ r.2.1 := by rw [← e] at h ⊢; exact rd_back h
theorem be_rd' {n : Nat} {s : Rs} {r : List UInt8 × Rs} (e : rd n s = r) : be n (val r.1) = r.1 := by rw [← e]; exact be_rd n s
theorem rd_val' {n : Nat} {s : Rs} {r : List UInt8 × Rs} (e : rd n s = r) : 0 ≤ val r.1 ∧ val r.1 < 256 ^ n := by rw [← e]; exact rd_val n s
theorem rd_len' {n : Nat} {s : Rs} {r : List UInt8 × Rs} (e : rd n s = r) : r.1.length = n := by rw [← e]; exact rd_len n s
theorem be_1 {n : Int} (h : 0 ≤ n ∧ n < 256) : be 1 n = [UInt8.ofNat n.toNat] := by
  have e : n / 256 ^ 0 % 256 = n := by have : (256 : Int) ^ 0 = 1 := rfl; rw [this]; omega
  simp only [be, e]

theorem dec1_kind (bs : List UInt8) : (dec1 bs).1.kind = val (rd 1 (bs, false)).1 := by
  unfold dec1 dec0
  generalize rd 1 (bs, false) = r0
  obtain ⟨c0, s1⟩ := r0
  simp only
  have hF : ∀ j k lo hi g, (j, k, lo, hi) ∈ flds → (decF j k lo hi g).1.kind = g.1.kind := fun j k lo hi g h => by
    simp only [flds, List.mem_cons, Prod.mk.injEq, List.mem_nil_iff, or_false] at h
    rcases h with ⟨rfl, rfl, rfl, rfl⟩ | ⟨rfl, rfl, rfl, rfl⟩ | ⟨rfl, rfl, rfl, rfl⟩ | ⟨rfl, rfl, rfl, rfl⟩ | ⟨rfl, rfl, rfl, rfl⟩ | ⟨rfl, rfl, rfl, rfl⟩ | ⟨rfl, rfl, rfl, rfl⟩ <;> rfl
  have hO : ∀ g, (decO g).1.kind = g.1.kind := fun g => by unfold decO; split <;> rfl
  have hC : ∀ g, (decC g).1.kind = g.1.kind := fun g => by unfold decC; split <;> rfl
  rw [hC]
  have g2 : ∀ g, (go2 decF g).1.kind = g.1.kind := fun g => by unfold go2; rw [hF _ _ _ _ _ (by simp [flds]), hF _ _ _ _ _ (by simp [flds])]
  have g3 : ∀ k g, (go3 k decF g).1.kind = g.1.kind := fun k g => by unfold go3; split <;> (try rw [hF _ _ _ _ _ (by simp [flds])]) <;> rw [g2]
  have g4 : ∀ k g, (go4 k decF g).1.kind = g.1.kind := fun k g => by unfold go4; split <;> (try rw [hF _ _ _ _ _ (by simp [flds])]) <;> rw [g3]
  have g5 : ∀ k g, (go5 k decF decO g).1.kind = g.1.kind := fun k g => by unfold go5; split <;> (try rw [hO]) <;> rw [g4]
  unfold go; split
  · rw [hF _ _ _ _ _ (by simp [flds]), hF _ _ _ _ _ (by simp [flds]), hF _ _ _ _ _ (by simp [flds]), g5]
  · rw [g5]

/-- Bytes that are read as a right message are its bytes. -/
theorem enc_dec1 {bs : List UInt8} (hb : (dec1 bs).2.2 = false) (hr : (dec1 bs).2.1 = []) (h : right (dec1 bs).1 = true) : enc (dec1 bs).1 = bs ∧ (0 ≤ (dec1 bs).1.addr ∧ (dec1 bs).1.addr ≤ 4294967295) := by
  have hk := right_kind h
  rw [dec1_kind] at hk
  clear h
  unfold dec1 dec0 at hb hr ⊢
  generalize e0 : rd 1 (bs, false) = r0 at *
  have hone : ∀ n, val r0.1 = n → 0 ≤ n ∧ n < 256 → r0.1 = [UInt8.ofNat n.toNat] := fun n hn hb => by have := be_rd' e0; rw [hn, be_1 hb] at this; exact this.symm
  rcases hk with hk | hk | hk | hk | hk <;> rw [hk] at hb hr ⊢ <;> have h1 := hone _ hk (by decide)
  · simp [decC, go, go2, go3, go4, go5, decF, setNum, zero] at hb hr ⊢
    rw [enc_1 rfl]
    generalize e1 : rd 4 r0.2 = r1 at *
    generalize e2 : rd 4 r1.2 = r2 at *
    generalize e3 : rd 4 r2.2 = r3 at *
    generalize e4 : rd 1 r3.2 = r4 at *
    obtain ⟨b4, a4⟩ := rd_back' e4 hb
    obtain ⟨b3, a3⟩ := rd_back' e3 b4
    obtain ⟨b2, a2⟩ := rd_back' e2 b3
    obtain ⟨b1, a1⟩ := rd_back' e1 b2
    obtain ⟨_, a0⟩ := rd_back' e0 b1
    simp only at a0
    rw [a0, a1, a2, a3, a4, hr, h1]
    simp [be_rd' e1, be_rd' e2, be_rd' e3, be_rd' e4]
  · simp [decC, go, go2, go3, go4, go5, decF, decO, setNum, zero] at hb hr ⊢
    rw [enc_2 rfl]
    generalize e1 : rd 4 r0.2 = r1 at *
    generalize e2 : rd 4 r1.2 = r2 at *
    generalize e3 : rd 4 r2.2 = r3 at *
    generalize e4 : rd 4 r3.2 = r4 at *
    generalize e5 : rd 1 r4.2 = r5 at *
    generalize e6 : rd 6 r5.2 = r6 at *
    generalize e7 : rd 6 r6.2 = r7 at *
    generalize e8 : rd 1 r7.2 = r8 at *
    generalize e9 : rd (val r8.1).toNat r8.2 = r9 at *
    obtain ⟨b9, a9⟩ := rd_back' e9 hb
    obtain ⟨b8, a8⟩ := rd_back' e8 b9
    obtain ⟨b7, a7⟩ := rd_back' e7 b8
    obtain ⟨b6, a6⟩ := rd_back' e6 b7
    obtain ⟨b5, a5⟩ := rd_back' e5 b6
    obtain ⟨b4, a4⟩ := rd_back' e4 b5
    obtain ⟨b3, a3⟩ := rd_back' e3 b4
    obtain ⟨b2, a2⟩ := rd_back' e2 b3
    obtain ⟨b1, a1⟩ := rd_back' e1 b2
    obtain ⟨_, a0⟩ := rd_back' e0 b1
    have v4 := rd_val' e4
    have v8 := rd_val' e8
    have l9 := rd_len' e9
    have c8 := be_rd' e8
    rw [be_1 (by simpa using v8)] at c8
    have hs : (⟨r9.1.toArray⟩ : ByteArray).size = (val r8.1).toNat := by show r9.1.toArray.size = _; simpa using l9
    simp only at a0
    refine ⟨?_, by omega, by omega⟩
    rw [a0, a1, a2, a3, a4, a5, a6, a7, a8, a9, hr, h1]
    have c9 : UInt8.ofNat (val r8.1).toNat :: r9.1 = r8.1 ++ r9.1 := congrArg (· ++ r9.1) c8
    simp only [hs, ByteArray.toList_eq, be_rd' e1, be_rd' e2, be_rd' e3, be_rd' e4, be_rd' e5, be_rd' e6, be_rd' e7]
    rw [c9]
    simp
  · simp [decC, go, go2, go3, go4, go5, decF, decO, setNum, zero] at hb hr ⊢
    rw [enc_3 rfl]
    generalize e1 : rd 4 r0.2 = r1 at *
    generalize e2 : rd 4 r1.2 = r2 at *
    generalize e3 : rd 4 r2.2 = r3 at *
    generalize e4 : rd 1 r3.2 = r4 at *
    obtain ⟨b4, a4⟩ := rd_back' e4 hb.1
    obtain ⟨b3, a3⟩ := rd_back' e3 b4
    obtain ⟨b2, a2⟩ := rd_back' e2 b3
    obtain ⟨b1, a1⟩ := rd_back' e1 b2
    obtain ⟨_, a0⟩ := rd_back' e0 b1
    have v4 := rd_val' e4
    have c4 := be_rd' e4
    rw [be_1 (by simpa using v4)] at c4
    have hv : val r4.1 = 0 ∨ val r4.1 = 1 := by omega
    simp only at a0
    rw [a0, a1, a2, a3, a4, hr, h1]
    rcases hv with hv | hv <;> rw [hv] at c4 ⊢ <;> simp [be_rd' e1, be_rd' e2, be_rd' e3, ← c4]
  · simp [decC, go, go2, go3, go4, go5, decF, setNum, zero] at hb hr ⊢
    rw [enc_0 (show ¬ (4 : Int) = 1 by decide) (show ¬ (4 : Int) = 2 by decide) (show ¬ (4 : Int) = 3 by decide)]
    generalize e1 : rd 4 r0.2 = r1 at *
    generalize e2 : rd 4 r1.2 = r2 at *
    obtain ⟨b2, a2⟩ := rd_back' e2 hb
    obtain ⟨b1, a1⟩ := rd_back' e1 b2
    obtain ⟨_, a0⟩ := rd_back' e0 b1
    simp only at a0
    rw [a0, a1, a2, hr, h1]
    simp [be_rd' e1, be_rd' e2]
  · simp [decC, go, go2, go3, go4, go5, decF, setNum, zero] at hb hr ⊢
    rw [enc_0 (show ¬ (5 : Int) = 1 by decide) (show ¬ (5 : Int) = 2 by decide) (show ¬ (5 : Int) = 3 by decide)]
    generalize e1 : rd 4 r0.2 = r1 at *
    generalize e2 : rd 4 r1.2 = r2 at *
    obtain ⟨b2, a2⟩ := rd_back' e2 hb
    obtain ⟨b1, a1⟩ := rd_back' e1 b2
    obtain ⟨_, a0⟩ := rd_back' e0 b1
    simp only at a0
    rw [a0, a1, a2, hr, h1]
    simp [be_rd' e1, be_rd' e2]

/-- Bytes are a message just if they are those of a right one. -/
theorem bad_enc {m : Msg} (h : right m = true) (ha : 0 ≤ m.addr ∧ m.addr ≤ 4294967295) : bad (enc m) = false := by
  have := dec1_enc h ha []
  rw [List.append_nil] at this
  unfold bad; rw [this]; simp [h]
theorem not_bad {bs : List UInt8} (h : bad bs = false) : right (dec1 bs).1 = true ∧ enc (dec1 bs).1 = bs ∧ (0 ≤ (dec1 bs).1.addr ∧ (dec1 bs).1.addr ≤ 4294967295) := by
  unfold bad at h
  simp only [Bool.or_eq_false_iff, decide_eq_false_iff_not, Bool.not_eq_false'] at h
  obtain ⟨⟨h1, h2⟩, h3⟩ := h
  have hr : (dec1 bs).2.1 = [] := List.eq_nil_of_length_eq_zero (by omega)
  exact ⟨h3, enc_dec1 h1 hr h3⟩
theorem dec1_of_enc {m : Msg} (h : right m = true) (ha : 0 ≤ m.addr ∧ m.addr ≤ 4294967295) : (dec1 (enc m)).1 = m := by
  have := dec1_enc h ha []
  rw [List.append_nil] at this; rw [this]
theorem bad_more {m : Msg} (h : right m = true) (ha : 0 ≤ m.addr ∧ m.addr ≤ 4294967295) {t : List UInt8} (ht : t ≠ []) : bad (enc m ++ t) = true := by
  have hl : 0 < t.length := List.length_pos_iff.2 ht
  unfold bad; rw [dec1_enc h ha t]; simp; omega
theorem bad_less {m : Msg} (h : right m = true) (ha : 0 ≤ m.addr ∧ m.addr ≤ 4294967295) {l t : List UInt8} (ht : t ≠ []) (he : enc m = l ++ t) : bad l = true := by
  cases hb : bad l with
  | true => rfl
  | false =>
    obtain ⟨h1, h2, h3⟩ := not_bad hb
    have := bad_more h1 h3 ht
    rw [h2, ← he, bad_enc h ha] at this; cases this
theorem enc_inj {m n : Msg} (h : right m = true) (ha : 0 ≤ m.addr ∧ m.addr ≤ 4294967295) (h' : right n = true) (ha' : 0 ≤ n.addr ∧ n.addr ≤ 4294967295) (he : enc m = enc n) : m = n := by
  have := dec1_of_enc h ha
  rw [he, dec1_of_enc h' ha'] at this; exact this.symm
end Msg
end Go.K
