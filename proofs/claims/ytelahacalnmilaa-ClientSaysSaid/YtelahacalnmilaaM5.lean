/- Readers of bytes: what the walks of layer 4's decoders need.
Conditions: none; no program in sight. -/
import Derived.Test.YtelahacalnmilaaM4
set_option linter.unusedSimpArgs false
namespace Go.K
section
variable {V : Vw} {H : Hp}

theorem Ex.nilseg {C : Cx} {L : Sl} {Q : Exit → Act → World → Prop} {e : Exit} (k : Ex C V ([] :: H) L Q e) : Ex C V H L Q e := fun a w i => k a w ⟨i.1, i.2.recut (by simp)⟩
theorem Rd.zeros {b : Nat} {e : TypeId} {n : Nat} (i : Nat) (hi : H[i]? = some [(b, .cells (rep (Value.int .u8 0).cells.toList n).toArray e (0, 0))]) : Rd V H 1 (.slice (some ⟨b, 0, none⟩) n n) n ((List.replicate n 0).map byteV) := by
  have e1 : rep (Value.int .u8 0).cells.toList n = (List.replicate n (0 : UInt8)).map byteV := by
    show rep [Value.int .u8 0] n = _
    rw [Msg.rep_one, List.map_replicate]; rfl
  have h := Rd.one (V := V) (H := H) (k := 1) (n := n) (Kn.at i hi) (by simp [length_rep, Value.cells])
  simp only [List.toList_toArray] at h
  rwa [e1] at h
theorem Rd.congr {k : Nat} {v : Value} {n : Nat} {xs ys : List Value} (h : Rd V H k v n xs) (e : xs = ys) : Rd V H k v n ys := e ▸ h
theorem Rd.resize {k : Nat} {v : Value} {n m : Nat} {xs : List Value} (h : Rd V H k v n xs) (e : n = m) : Rd V H k v m xs := e ▸ h

theorem rd_head {p : Option Addr} {c n : Nat} {rest : List UInt8} {b : Bool} (hv : Rd V [] 1 (.slice p rest.length c) rest.length (rest.map byteV)) (h : n ≤ rest.length) :
    Rd V H 1 (.slice (if c = 0 then p else p.map (·.add (0 * 1))) (n - 0) (c - 0)) n ((Msg.rd n (rest, b)).1.map byteV) := by
  have := (hv.slice 0 n (by omega) h).of_nil (H := H)
  refine Rd.congr (Rd.resize this (by omega)) ?_
  unfold Msg.rd; rw [if_neg (by show ¬ rest.length < n; omega)]
  simp
theorem rd_tail {p : Option Addr} {c n : Nat} {rest : List UInt8} {b : Bool} (hv : Rd V [] 1 (.slice p rest.length c) rest.length (rest.map byteV)) (h : n ≤ rest.length) :
    Rd V [] 1 (.slice (if c = n then p else p.map (·.add (n * 1))) (rest.length - n) (c - n)) (Msg.rd n (rest, b)).2.1.length ((Msg.rd n (rest, b)).2.1.map byteV) := by
  have := hv.slice n rest.length h (Nat.le_refl _)
  have e : (Msg.rd n (rest, b)).2.1 = rest.drop n := by unfold Msg.rd; rw [if_neg (by show ¬ rest.length < n; omega)]
  refine Rd.congr (Rd.resize this (by rw [e]; simp)) ?_
  rw [e, Nat.mul_one, Nat.mul_one, ← List.map_drop, ← List.map_take]
  rw [List.take_of_length_le (by simp)]
theorem rd_few {n : Nat} {rest : List UInt8} {b : Bool} (h : ¬ n ≤ rest.length) : Msg.rd n (rest, b) = (List.replicate n 0, ([], true)) := by
  unfold Msg.rd; rw [if_pos (by show rest.length < n; omega)]
theorem rd_enough {n : Nat} {rest : List UInt8} {b : Bool} (h : n ≤ rest.length) : (Msg.rd n (rest, b)).2.2 = b := by
  unfold Msg.rd; rw [if_neg (by show ¬ rest.length < n; omega)]
theorem rd_le (n : Nat) (s : Msg.Rs) : (Msg.rd n s).2.1.length ≤ s.1.length := by
  unfold Msg.rd; split <;> simp
theorem Rd.cap {k : Nat} {p : Option Addr} {n c : Nat} {xs : List Value} (h : Rd V H k (.slice p n c) n xs) : n ≤ c := by
  obtain ⟨_, _, _, e, h, _⟩ := h; cases e; exact h

theorem pow_le256 {a b : Nat} (h : a ≤ b) : (256 : Int) ^ a ≤ 256 ^ b := by
  have := Nat.pow_le_pow_right (n := 256) (by decide) h
  have e : ∀ k : Nat, (256 : Int) ^ k = ((256 ^ k : Nat) : Int) := fun k => by rw [Int.natCast_pow]; rfl
  rw [e, e]; exact Int.ofNat_le.2 this
theorem val_small {l : List UInt8} (h : l.length ≤ 6) : 0 ≤ val l ∧ val l ≤ 281474976710655 := by
  obtain ⟨h1, h2⟩ := val_bounds l
  have h3 : (256 : Int) ^ l.length ≤ 256 ^ 6 := pow_le256 h
  have h4 : (256 : Int) ^ 6 = 281474976710656 := rfl
  omega
theorem or_byte {a c : Int} (h0 : 0 ≤ a) (h1 : a ≤ 281474976710655) (c0 : 0 ≤ c) (c1 : c ≤ 255) :
    IntKind.i64.wrap ((BitVec.ofInt IntKind.i64.bits (a * 256) ||| BitVec.ofInt IntKind.i64.bits c).toNat : Int) = a * 256 + c := by
  obtain ⟨n, rfl⟩ := Int.eq_ofNat_of_zero_le h0
  obtain ⟨d, rfl⟩ := Int.eq_ofNat_of_zero_le c0
  have hb : IntKind.i64.bits = 64 := rfl
  rw [hb, BitVec.toNat_or, BitVec.toNat_ofInt, BitVec.toNat_ofInt]
  have e1 : (((n : Int) * 256) % ((2 ^ 64 : Nat) : Int)).toNat = 2 ^ 8 * n := by
    have : ((2 ^ 64 : Nat) : Int) = 18446744073709551616 := rfl
    rw [this]; omega
  have e2 : ((d : Int) % ((2 ^ 64 : Nat) : Int)).toNat = d := by
    have : ((2 ^ 64 : Nat) : Int) = 18446744073709551616 := rfl
    rw [this]; omega
  rw [e1, e2, ← Nat.two_pow_add_eq_or_of_lt (by omega)]
  rw [wrap_i64 (by omega)]; omega
theorem shl_byte {a : Int} (h0 : 0 ≤ a) (h1 : a ≤ 281474976710655) : IntKind.i64.wrap (a * 2 ^ min (8 : Int).toNat IntKind.i64.bits) = a * 256 := by
  have e : (2 : Int) ^ min (8 : Int).toNat IntKind.i64.bits = 256 := rfl
  rw [e, wrap_i64 (by omega)]
theorem val_take {l : List UInt8} {i : Nat} (h : i < l.length) : val (l.take (i + 1)) = val (l.take i) * 256 + ((l.getD i 0).toNat : Int) := by
  rw [take_succ_getD l i 0 h, val_snoc]
end

namespace Msg
/-- The byte in place i. -/
def by_ (l : List UInt8) (i : Nat) : Int := ((l.getD i 0).toNat : Int)
def sl (l : List UInt8) (a b : Nat) : List UInt8 := (l.drop a).take (b - a)
def pad (bs : List UInt8) : List UInt8 := bs.drop 9 ++ List.replicate 30 0
def parse0 (bs : List UInt8) : Msg := { zero with kind := by_ bs 0, life := val (sl bs 1 5), seen := val (sl bs 5 9) }
/-- What the reference reads of nine bytes or more. -/
def parse (bs : List UInt8) : Msg :=
  if by_ bs 0 = 1 then { parse0 bs with xid := val (sl (pad bs) 0 4), state := by_ (pad bs) 4 }
  else if by_ bs 0 = 3 then { parse0 bs with xid := val (sl (pad bs) 0 4), ok := by_ (pad bs) 4 == 1 }
  else if by_ bs 0 = 2 then { parse0 bs with xid := val (sl (pad bs) 0 4), addr := val (sl (pad bs) 4 8), bind := by_ (pad bs) 8, pot := val (sl (pad bs) 9 15), at_ := val (sl (pad bs) 15 21), client := ⟨(sl (pad bs) 22 (22 + min (by_ (pad bs) 21).toNat ((pad bs).length - 22))).toArray⟩ }
  else parse0 bs
theorem parse_enc {m : Msg} (h : right m = true) (ha : 0 ≤ m.addr ∧ m.addr ≤ 4294967295) : parse (enc m) = m := by
  have hb := right_bounds h
  have hr := (right_iff m).1 h
  obtain ⟨kind, life, seen, xid, state, addr, bind, client, pot, at_, ok⟩ := m
  simp only at hb hr ha
  obtain ⟨b1, b2, b3, b4, b5, b6, b7, b8, b9⟩ := hb
  have v1 : val (be 4 life) = life := val_be (by omega) (by omega)
  have v2 : val (be 4 seen) = seen := val_be (by omega) (by omega)
  have v3 : val (be 4 xid) = xid := val_be (by omega) (by omega)
  have v4 : val (be 1 state) = state := val_be (by omega) (by omega)
  have v5 : val (be 4 addr) = addr := val_be (by omega) (by omega)
  have v6 : val (be 1 bind) = bind := val_be (by omega) (by omega)
  have v7 : val (be 6 pot) = pot := val_be (by omega) (by omega)
  have v8 : val (be 6 at_) = at_ := val_be (by omega) (by omega)
  simp only [be] at v1 v2 v3 v4 v5 v6 v7 v8
  rw [val_one] at v4 v6
  obtain ⟨_, _, hk | hk | hk | hk⟩ := hr
  · obtain ⟨rfl, _, _, rfl, rfl, rfl, rfl, rfl, rfl⟩ := hk
    rw [enc_1 rfl]
    simp only [be, List.cons_append, List.nil_append]
    simp only [parse, parse0, by_, sl, Msg.pad, zero, List.getD_cons_zero, List.getD_cons_succ, List.drop_succ_cons, List.drop_zero, List.take_succ_cons, List.take_zero, List.cons_append, List.nil_append, Nat.reduceSub, v1, v2, v3, v4]
    rfl
  · obtain ⟨rfl, _, rfl, _, _, _, _, rfl⟩ := hk
    rw [enc_2 rfl]
    simp only [be, List.cons_append, List.nil_append]
    simp only [parse, parse0, by_, sl, Msg.pad, zero, List.getD_cons_zero, List.getD_cons_succ, List.drop_succ_cons, List.drop_zero, List.take_succ_cons, List.take_zero, List.cons_append, List.nil_append, Nat.reduceSub, v1, v2, v3, v5, v6, v7, v8]
    have e1 : ((UInt8.ofNat client.size).toNat : Int) = client.size := by rw [UInt8.toNat_ofNat']; omega
    rw [e1]
    have e2 : min ((client.size : Int)).toNat ((client.toList ++ List.replicate 30 (0 : UInt8)).length) = client.size := by
      rw [ByteArray.toList_eq]; simp
    simp [ByteArray.toList_eq]
  · obtain ⟨rfl, _, rfl, rfl, rfl, rfl, rfl, rfl⟩ := hk
    rw [enc_3 rfl]
    simp only [be, List.cons_append, List.nil_append]
    simp only [parse, parse0, by_, sl, Msg.pad, zero, List.getD_cons_zero, List.getD_cons_succ, List.drop_succ_cons, List.drop_zero, List.take_succ_cons, List.take_zero, List.cons_append, List.nil_append, Nat.reduceSub, v1, v2, v3]
    cases ok <;> rfl
  · obtain ⟨h45, rfl, rfl, rfl, rfl, rfl, rfl, rfl, rfl⟩ := hk
    rcases h45 with rfl | rfl
    · rw [enc_0 (show ¬ (4 : Int) = 1 by decide) (show ¬ (4 : Int) = 2 by decide) (show ¬ (4 : Int) = 3 by decide)]
      simp only [be, List.cons_append, List.nil_append]
      simp only [parse, parse0, by_, sl, Msg.pad, zero, List.getD_cons_zero, List.getD_cons_succ, List.drop_succ_cons, List.drop_zero, List.take_succ_cons, List.take_zero, List.cons_append, List.nil_append, Nat.reduceSub, v1, v2]
      rfl
    · rw [enc_0 (show ¬ (5 : Int) = 1 by decide) (show ¬ (5 : Int) = 2 by decide) (show ¬ (5 : Int) = 3 by decide)]
      simp only [be, List.cons_append, List.nil_append]
      simp only [parse, parse0, by_, sl, Msg.pad, zero, List.getD_cons_zero, List.getD_cons_succ, List.drop_succ_cons, List.drop_zero, List.take_succ_cons, List.take_zero, List.cons_append, List.nil_append, Nat.reduceSub, v1, v2]
      rfl
theorem enc_bounds {m : Msg} (h : right m = true) : 9 ≤ (enc m).length ∧ (enc m).length ≤ 100 := by
  have hb := right_bounds h
  rcases right_kind h with h | h | h | h | h
  · rw [enc_1 h]; simp [be_length]
  · rw [enc_2 h]; simp [be_length, ByteArray.toList_eq]; omega
  · rw [enc_3 h]; simp [be_length]
  · rw [enc_0 (by omega) (by omega) (by omega)]; simp [be_length]
  · rw [enc_0 (by omega) (by omega) (by omega)]; simp [be_length]
/-- The reference refuses. -/
def rbad (bs : List UInt8) : Bool := !(decide (9 ≤ bs.length ∧ bs.length ≤ 100) && (right (parse bs) && decide (enc (parse bs) = bs)))
theorem parse_addr (bs : List UInt8) : 0 ≤ (parse bs).addr ∧ (parse bs).addr ≤ 4294967295 := by
  have hv : ∀ l : List UInt8, 0 ≤ val (sl l 4 8) ∧ val (sl l 4 8) ≤ 4294967295 := fun l => by
    obtain ⟨h1, h2⟩ := val_bounds (sl l 4 8)
    have h3 : (256 : Int) ^ (sl l 4 8).length ≤ 256 ^ 4 := pow_le256 (by unfold sl; simp; omega)
    have h4 : (256 : Int) ^ 4 = 4294967296 := rfl
    omega
  unfold parse
  split
  · simp [parse0, zero]
  · split
    · simp [parse0, zero]
    · split
      · exact hv _
      · simp [parse0, zero]
theorem rbad_eq (bs : List UInt8) : rbad bs = bad bs := by
  cases hb : bad bs with
  | false =>
    obtain ⟨h1, h2, h3⟩ := not_bad hb
    unfold rbad
    rw [← h2, parse_enc h1 h3, h1]
    have := enc_bounds h1
    simp [this]
  | true =>
    cases hr : rbad bs with
    | true => rfl
    | false =>
      unfold rbad at hr
      simp only [Bool.not_eq_false', Bool.and_eq_true, decide_eq_true_eq] at hr
      have := bad_enc hr.2.1 (parse_addr bs)
      rw [hr.2.2, hb] at this; cases this
theorem parse_dec {bs : List UInt8} (h : bad bs = false) : parse bs = (dec1 bs).1 := by
  obtain ⟨h1, h2, h3⟩ := not_bad h
  rw [← h2, parse_enc h1 h3, h2]
end Msg
end Go.K
