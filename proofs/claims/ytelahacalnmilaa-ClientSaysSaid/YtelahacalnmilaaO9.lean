/- A packet's bytes, read back: facts.
Conditions: none; no program in sight. -/
import Derived.Test.YtelahacalnmilaaO8
set_option linter.unusedSimpArgs false
namespace Go.K
theorem at1j {cs : Array Value} {off n i : Nat} {xs : List Value} {v : Value} {j : Int} (h : ∀ j, j < n * 1 → cs[off + j]? = xs[j]?) (hj : j = (i : Int)) (hi : i < n) (hx : xs[i]? = some v) : cs[off + j.toNat * 1]? = some v := by subst hj; exact at1 h hi hx
/-- The loop of Decode. -/
structure Dl where
  V : Vw
  L : List Opn
  p : Option Addr
  n : Nat
  k : Nat
  q : Sg
  i : Nat
namespace Oc
theorem tot_ge : ∀ l : List Oc, 2 * l.length ≤ tot l
  | [] => by simp [tot]
  | o :: l => by have := tot_ge l; simp only [tot, List.length_cons]; omega
theorem byte_code {l : List Oc} {bs : List UInt8} (hb : bs = encO l) (hany : l.any odd = false) {i : Nat} (hk : i < l.length) : byteV (bs.getD (tot (l.take i)) 0) = .int .u8 (l.getD i dflt).code := by
  have h := fine_of hany hk
  rw [hb, encO_code hk]; unfold byteV; rw [bc_val (by omega)]
theorem byte_size {l : List Oc} {bs : List UInt8} (hb : bs = encO l) (hany : l.any odd = false) {i : Nat} (hk : i < l.length) : byteV (bs.getD (tot (l.take i) + 1) 0) = .int .u8 ((l.getD i dflt).d.length : Int) := by
  have h := fine_of hany hk
  rw [hb, encO_size hk]; unfold byteV; rw [bc_val (by omega)]
theorem byte_end {l : List Oc} {bs : List UInt8} (hb : bs = encO l) : byteV (bs.getD (tot l) 0) = .int .u8 255 := by rw [hb, encO_end]; rfl
end Oc
namespace Pc
def bare (p : Pc) : Pc := { p with os := [] }
theorem bare_right {p : Pc} (h : p.right = true) : (bare p).right = true := by
  have h2 := right_facts h
  unfold Pc.right
  simp only [Bool.and_eq_true, Bool.or_eq_true, decide_eq_true_eq, beq_iff_eq]
  exact ⟨h2.1, h2.2.1.1, h2.2.1.2, h2.2.2.1.1, h2.2.2.1.2, h2.2.2.2.1.1, h2.2.2.2.1.2, rfl⟩
theorem bare_few {p : Pc} (h : p.few = true) : (bare p).few = true := by
  simp only [Pc.few, Bool.and_eq_true] at h ⊢
  exact ⟨rfl, h.2⟩
theorem bare_head (p : Pc) : encH (bare p) = encH p := rfl
def asked (p : Pc) : Int := if (Oc.fd 50 p.os).length = 4 then val (Oc.fd 50 p.os) else p.ci
def asks (p : Pc) : Int := if (Oc.fd 51 p.os).length = 4 then val (Oc.fd 51 p.os) else 0
def client (p : Pc) : ByteArray := if 1 ≤ (Oc.fd 61 p.os).length ∧ (Oc.fd 61 p.os).length ≤ 32 then ⟨(Oc.fd 61 p.os).toArray⟩ else ⟨p.hw.toArray⟩
theorem v_xid {p : Pc} {bs : List UInt8} (hb : bs = encP p) (h : 0 ≤ p.xid ∧ p.xid ≤ 4294967295) : val (Msg.sl bs 4 8) = p.xid := by rw [hb, p_xid]; exact Msg.val_be h.1 (by have : (256 : Int) ^ 4 = 4294967296 := rfl; omega)
theorem v_secs {p : Pc} {bs : List UInt8} (hb : bs = encP p) (h : 0 ≤ p.secs ∧ p.secs ≤ 65535) : val (Msg.sl bs 8 10) = p.secs := by rw [hb, p_secs]; exact Msg.val_be h.1 (by have : (256 : Int) ^ 2 = 65536 := rfl; omega)
theorem v_flags {p : Pc} {bs : List UInt8} (hb : bs = encP p) (h : 0 ≤ p.flags ∧ p.flags ≤ 65535) : val (Msg.sl bs 10 12) = p.flags := by rw [hb, p_flags]; exact Msg.val_be h.1 (by have : (256 : Int) ^ 2 = 65536 := rfl; omega)
theorem v_ci {p : Pc} {bs : List UInt8} (hb : bs = encP p) (h : 0 ≤ p.ci ∧ p.ci ≤ 4294967295) : val (Msg.sl bs 12 16) = p.ci := by rw [hb, p_ci]; exact Msg.val_be h.1 (by have : (256 : Int) ^ 4 = 4294967296 := rfl; omega)
theorem v_yi {p : Pc} {bs : List UInt8} (hb : bs = encP p) (h : 0 ≤ p.yi ∧ p.yi ≤ 4294967295) : val (Msg.sl bs 16 20) = p.yi := by rw [hb, p_yi]; exact Msg.val_be h.1 (by have : (256 : Int) ^ 4 = 4294967296 := rfl; omega)
theorem v_si {p : Pc} {bs : List UInt8} (hb : bs = encP p) (h : 0 ≤ p.si ∧ p.si ≤ 4294967295) : val (Msg.sl bs 20 24) = p.si := by rw [hb, p_si]; exact Msg.val_be h.1 (by have : (256 : Int) ^ 4 = 4294967296 := rfl; omega)
theorem v_gi {p : Pc} {bs : List UInt8} (hb : bs = encP p) (h : 0 ≤ p.gi ∧ p.gi ≤ 4294967295) : val (Msg.sl bs 24 28) = p.gi := by rw [hb, p_gi]; exact Msg.val_be h.1 (by have : (256 : Int) ^ 4 = 4294967296 := rfl; omega)
theorem v_0 {p : Pc} {bs : List UInt8} (hb : bs = encP p) (h : p.op = 1 ∨ p.op = 2) : byteV (bs.getD 0 0) = .int .u8 p.op := by rw [hb, (p_0 p).1]; unfold byteV; rw [Oc.bc_val (by omega)]
theorem v_2 {p : Pc} {bs : List UInt8} (hb : bs = encP p) (h : p.hw.length ≤ 16) : byteV (bs.getD 2 0) = .int .u8 (p.hw.length : Int) := by rw [hb, (p_0 p).2]; unfold byteV; rw [Oc.bc_val (by omega)]
end Pc
/-! ### what a client says -/
namespace Cli
theorem fd_says (c : Cli) (k : Int) : Oc.fd 61 (says c k).os = c.name.toList ∧ Oc.fd 53 (says c k).os = [UInt8.ofNat (k % 256).toNat] ∧ Oc.fd 50 (says c k).os = [] := ⟨rfl, rfl, rfl⟩
variable {n : Int} {c : Cli}
theorem right_says (h : Inv n c) {k : Int} : (says c k).right = true := by
  have h1 := h.hw
  have h2 := h.name
  have hl := size_list c.name
  have o1 : Oc.odd ⟨53, [UInt8.ofNat (k % 256).toNat]⟩ = false := Oc.odd_no (by decide) (by decide) (show 1 ≤ 255 by decide)
  have o2 : Oc.odd ⟨61, c.name.toList⟩ = false := Oc.odd_no (by decide) (by decide) (by omega)
  have he : Oc.encE (says c k).os = 0 := Oc.encE_ok (by simp only [says, List.any_cons, List.any_nil, Bool.or_false]; rw [o1, o2]; rfl) (by simp only [says, Oc.tot, List.length_cons, List.length_nil]; omega)
  unfold Pc.right
  simp only [Bool.and_eq_true, Bool.or_eq_true, decide_eq_true_eq, beq_iff_eq]
  exact ⟨.inl rfl, h1.1, h1.2, (show (0 : Int) ≤ 0 by decide), (show (0 : Int) ≤ 65535 by decide), (show (0 : Int) ≤ 0 by decide), (show (0 : Int) ≤ 65535 by decide), he⟩
theorem right_sayP (h : Inv n c) : (sayP c).right = true := by
  unfold sayP; split
  · exact right_says h
  · split
    · have h1 := h.hw
      have h2 := h.name
      have hl := size_list c.name
      have o1 : Oc.odd ⟨53, [UInt8.ofNat ((3 : Int) % 256).toNat]⟩ = false := Oc.odd_no (by decide) (by decide) (show 1 ≤ 255 by decide)
      have o2 : Oc.odd ⟨61, c.name.toList⟩ = false := Oc.odd_no (by decide) (by decide) (by omega)
      have o3 : Oc.odd ⟨50, Msg.be 4 c.addr⟩ = false := Oc.odd_no (by decide) (by decide) (by rw [Msg.be_length]; decide)
      have o4 : Oc.odd ⟨54, Msg.be 4 c.server⟩ = false := Oc.odd_no (by decide) (by decide) (by rw [Msg.be_length]; decide)
      have he : Oc.encE ({ says c 3 with os := (says c 3).os ++ [⟨50, Msg.be 4 c.addr⟩, ⟨54, Msg.be 4 c.server⟩] } : Pc).os = 0 := Oc.encE_ok (by simp only [says, List.cons_append, List.nil_append, List.any_cons, List.any_nil, Bool.or_false]; rw [o1, o2, o3, o4]; rfl) (by simp only [says, List.cons_append, List.nil_append, Oc.tot, List.length_cons, List.length_nil, Msg.be_length]; omega)
      unfold Pc.right
      simp only [Bool.and_eq_true, Bool.or_eq_true, decide_eq_true_eq, beq_iff_eq]
      exact ⟨.inl rfl, h1.1, h1.2, (show (0 : Int) ≤ 0 by decide), (show (0 : Int) ≤ 65535 by decide), (show (0 : Int) ≤ 0 by decide), (show (0 : Int) ≤ 65535 by decide), he⟩
    · exact right_says h (k := 3)
theorem byteArray_of (s : ByteArray) : (⟨s.toList.toArray⟩ : ByteArray) = s := by simp [ByteArray.toList_eq]
/-- What is read off what a client said. -/
theorem told (h : Inv n c) : (sayP c).client = c.name ∧ (sayP c).kind = (if c.state = 1 then 1 else 3) ∧ (¬ c.state = 1 → (sayP c).asked = c.addr) ∧ (0 ≤ (sayP c).ci ∧ (sayP c).ci ≤ 4294967295) ∧ (sayP c).gi = 0 := by
  have h2 := h.name
  have hl := size_list c.name
  have hc : ∀ p : Pc, Oc.fd 61 p.os = c.name.toList → p.client = c.name := fun p hp => by
    unfold Pc.client; rw [hp, if_pos (by omega), byteArray_of]
  have hk : ∀ (p : Pc) (k : Int), (0 ≤ k ∧ k ≤ 255) → Oc.fd 53 p.os = [UInt8.ofNat (k % 256).toNat] → p.kind = k := fun p k hk hp => by
    have h := kind_says c k hk
    unfold Pc.kind at h ⊢
    rw [hp]; rw [(fd_says c k).2.1] at h; exact h
  by_cases h1 : c.state = 1
  · rw [sayP_1 h1, if_pos h1]
    exact ⟨hc _ rfl, hk _ 1 (by decide) rfl, fun e => absurd h1 e, (show (0 : Int) ≤ 0 ∧ (0 : Int) ≤ 4294967295 by decide), rfl⟩
  · by_cases h3 : c.state = 2
    · rw [sayP_2 h1 h3, if_neg h1]
      refine ⟨hc _ rfl, hk _ 3 (by decide) rfl, fun _ => ?_, (show (0 : Int) ≤ 0 ∧ (0 : Int) ≤ 4294967295 by decide), rfl⟩
      have e : Oc.fd 50 ({ says c 3 with os := (says c 3).os ++ [⟨50, Msg.be 4 c.addr⟩, ⟨54, Msg.be 4 c.server⟩] } : Pc).os = Msg.be 4 c.addr := rfl
      unfold Pc.asked
      rw [e, if_pos (Msg.be_length _ _)]
      exact Msg.val_be h.addr.1 (by have : (256 : Int) ^ 4 = 4294967296 := rfl; have := h.addr.2; omega)
    · rw [sayP_d h1 h3, if_neg h1]
      refine ⟨hc _ rfl, hk _ 3 (by decide) rfl, fun _ => ?_, h.addr, rfl⟩
      have e : Oc.fd 50 ({ says c 3 with ci := c.addr } : Pc).os = [] := rfl
      unfold Pc.asked
      rw [e, if_neg (by decide)]
theorem says_all (h : Inv n c) {now : Int} {q : Pc} {l : List Pc} (ht : tickP c now = q :: l) : q.client = c.name ∧ q.kind = (if (tickC c now).state = 1 then 1 else 3) ∧ (¬ (tickC c now).state = 1 → q.asked = (tickC c now).addr) ∧ (0 ≤ q.ci ∧ q.ci ≤ 4294967295) ∧ (0 ≤ q.gi ∧ q.gi ≤ 4294967295) ∧ q.right = true := by
  rcases tickP_of c now with e | ⟨e, hm, hd⟩
  · rw [e] at ht; cases ht
  · rw [e] at ht
    obtain ⟨rfl, _⟩ := List.cons.inj ht
    have hit := h.turn ((Con.moment_iff now).1 hm)
    have h6 : ¬ c.state = 6 := fun h6 => by
      have := (tick_6 (c := c) hm h6).2.2
      rw [e] at this; cases this
    have ec : tickC c now = sayC (turn c now) now := (tick_y hm h6 hd).1
    obtain ⟨t1, t2, t3, t4, t5⟩ := told hit
    rw [ec]
    exact ⟨t1.trans (turn_same c now).2, t2, t3, t4, by rw [t5]; decide, right_sayP hit⟩
theorem val4 {l : List UInt8} (h : l.length = 4) : 0 ≤ val l ∧ val l ≤ 4294967295 := by
  have := val_bounds l
  rw [h] at this
  have h4 : (256 : Int) ^ 4 = 4294967296 := rfl
  omega
end Cli
end Go.K
