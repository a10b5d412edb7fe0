/- A packet's bytes: plain facts.
Conditions: none; no program in sight. -/
import Derived.Test.YtelahacalnmilaaO6
import Derived.Test.YtelahacalnmilaaM7
set_option linter.unusedSimpArgs false
namespace Go.K
theorem sl_mid (a m b : List UInt8) {i j : Nat} (hi : i = a.length) (hj : j = a.length + m.length) : Msg.sl (a ++ (m ++ b)) i j = m := by
  subst hi hj
  unfold Msg.sl
  rw [List.drop_left, Nat.add_sub_cancel_left, List.take_left]
theorem getD_mid (a : List UInt8) (x : UInt8) (b : List UInt8) {i : Nat} (hi : i = a.length) : (a ++ (x :: b)).getD i 0 = x := by
  subst hi
  rw [List.getD_eq_getElem?_getD, List.getElem?_append_right (Nat.le_refl _)]
  simp
namespace Oc
def bc (n : Int) : UInt8 := UInt8.ofNat (n % 256).toNat
theorem bc_row (n : Int) : Value.int .u8 (n % 256) = byteV (bc n) := (byteV_of (by omega)).symm
def encL : List Oc → List UInt8
  | [] => []
  | o :: l => bc o.code :: bc (o.d.length : Int) :: (o.d ++ encL l)
def encO (l : List Oc) : List UInt8 := encL l ++ [255]
theorem encL_len : ∀ l, (encL l).length = tot l
  | [] => rfl
  | o :: l => by simp only [encL, tot, List.length_cons, List.length_append, encL_len l]; omega
theorem encL_append : ∀ a b, encL (a ++ b) = encL a ++ encL b
  | [], b => rfl
  | o :: a, b => by simp only [List.cons_append, encL, encL_append a b, List.append_assoc]
theorem encL_take {L : List Opn} {i : Nat} (h : i < L.length) : encL ((L.map Opn.c).take (i + 1)) = encL ((L.map Opn.c).take i) ++ (bc (L.getD i Opn.dflt).code :: bc ((L.getD i Opn.dflt).d.length : Int) :: (L.getD i Opn.dflt).d) := by
  rw [take_succ_getD (L.map Opn.c) i dflt (by simpa using h), encL_append, getD_c]
  simp [encL, Opn.c]
theorem encO_len (l : List Oc) : (encO l).length = tot l + 1 := by simp [encO, encL_len]
/-- The bytes, parted at an option. -/
theorem encO_at {l : List Oc} {k : Nat} (h : k < l.length) : encO l = encL (l.take k) ++ (bc (l.getD k dflt).code :: (bc ((l.getD k dflt).d.length : Int) :: ((l.getD k dflt).d ++ (encL (l.drop (k + 1)) ++ [255])))) := by
  have e : l = l.take k ++ (l.getD k dflt :: l.drop (k + 1)) := by
    conv => lhs; rw [← List.take_append_drop k l]
    rw [List.drop_eq_getElem_cons h, List.getD_eq_getElem?_getD, List.getElem?_eq_getElem h]; rfl
  unfold encO
  conv => lhs; rw [e]
  rw [encL_append]
  simp only [encL, List.append_assoc, List.cons_append]
theorem encO_code {l : List Oc} {k : Nat} (h : k < l.length) : (encO l).getD (tot (l.take k)) 0 = bc (l.getD k dflt).code := by rw [encO_at h]; exact getD_mid _ _ _ (encL_len _).symm
theorem encO_size {l : List Oc} {k : Nat} (h : k < l.length) : (encO l).getD (tot (l.take k) + 1) 0 = bc ((l.getD k dflt).d.length : Int) := by
  rw [encO_at h, show encL (l.take k) ++ (bc (l.getD k dflt).code :: (bc ((l.getD k dflt).d.length : Int) :: ((l.getD k dflt).d ++ (encL (l.drop (k + 1)) ++ [255])))) = (encL (l.take k) ++ [bc (l.getD k dflt).code]) ++ (bc ((l.getD k dflt).d.length : Int) :: ((l.getD k dflt).d ++ (encL (l.drop (k + 1)) ++ [255]))) from by simp]
  exact getD_mid _ _ _ (by simp [encL_len])
theorem encO_data {l : List Oc} {k : Nat} (h : k < l.length) : Msg.sl (encO l) (tot (l.take k) + 2) (tot (l.take k) + 2 + (l.getD k dflt).d.length) = (l.getD k dflt).d := by
  rw [encO_at h, show encL (l.take k) ++ (bc (l.getD k dflt).code :: (bc ((l.getD k dflt).d.length : Int) :: ((l.getD k dflt).d ++ (encL (l.drop (k + 1)) ++ [255])))) = (encL (l.take k) ++ [bc (l.getD k dflt).code, bc ((l.getD k dflt).d.length : Int)]) ++ ((l.getD k dflt).d ++ (encL (l.drop (k + 1)) ++ [255])) from by simp]
  exact sl_mid _ _ _ (by simp [encL_len]) (by simp [encL_len])
theorem encO_end (l : List Oc) : (encO l).getD (tot l) 0 = 255 := getD_mid _ _ _ (encL_len _).symm
theorem fine_of {l : List Oc} (h : l.any odd = false) {k : Nat} (hk : k < l.length) : 1 ≤ (l.getD k dflt).code ∧ (l.getD k dflt).code ≤ 254 ∧ (l.getD k dflt).d.length ≤ 255 := by
  have := List.any_eq_false.1 h (l.getD k dflt) (getD_mem hk dflt)
  unfold odd at this
  simp only [Bool.or_eq_true, decide_eq_true_eq] at this
  omega
theorem tot_at {l : List Oc} {k : Nat} (h : k < l.length) : tot (l.take (k + 1)) = tot (l.take k) + (2 + (l.getD k dflt).d.length) := by
  rw [take_succ_getD l k dflt h, tot_append]; simp [tot]
theorem bc_val {n : Int} (h : 0 ≤ n ∧ n ≤ 255) : ((bc n).toNat : Int) = n := by
  unfold bc
  have : n % 256 = n := by omega
  rw [this]
  have h2 : n.toNat < 256 := by omega
  simp only [UInt8.toNat_ofNat']
  omega
end Oc
namespace Pc
def zeros (n : Nat) : List UInt8 := List.replicate n 0
def encH (p : Pc) : List UInt8 := [Oc.bc p.op, 1, Oc.bc (p.hw.length : Int), 0] ++ (Msg.be 4 p.xid ++ (Msg.be 2 p.secs ++ (Msg.be 2 p.flags ++ (Msg.be 4 p.ci ++ (Msg.be 4 p.yi ++ (Msg.be 4 p.si ++ (Msg.be 4 p.gi ++ (p.hw ++ (zeros (208 - p.hw.length) ++ [99, 130, 83, 99])))))))))
def encP (p : Pc) : List UInt8 := encH p ++ Oc.encO p.os
theorem encH_len {p : Pc} (h : p.hw.length ≤ 16) : (encH p).length = 240 := by
  simp only [encH, List.length_append, Msg.be_length, zeros, List.length_replicate, List.length_cons, List.length_nil]; omega
theorem encP_len {p : Pc} (h : p.hw.length ≤ 16) : (encP p).length = 240 + (Oc.tot p.os + 1) := by rw [encP, List.length_append, encH_len h, Oc.encO_len]
theorem part {p : Pc} {a m b : List UInt8} {i j : Nat} (h : encP p = a ++ (m ++ b)) (hi : i = a.length) (hj : j = a.length + m.length) : Msg.sl (encP p) i j = m := by rw [h]; exact sl_mid a m b hi hj
theorem p_xid (p : Pc) : Msg.sl (encP p) 4 8 = Msg.be 4 p.xid := part (a := [Oc.bc p.op, 1, Oc.bc (p.hw.length : Int), 0]) (b := _) (by simp only [encP, encH, List.append_assoc]; rfl) rfl (by rw [Msg.be_length]; rfl)
theorem p_secs (p : Pc) : Msg.sl (encP p) 8 10 = Msg.be 2 p.secs := part (a := [Oc.bc p.op, 1, Oc.bc (p.hw.length : Int), 0] ++ Msg.be 4 p.xid) (b := _) (by simp only [encP, encH, List.append_assoc]; rfl) (by simp [Msg.be_length]) (by simp [Msg.be_length])
theorem p_flags (p : Pc) : Msg.sl (encP p) 10 12 = Msg.be 2 p.flags := part (a := [Oc.bc p.op, 1, Oc.bc (p.hw.length : Int), 0] ++ (Msg.be 4 p.xid ++ Msg.be 2 p.secs)) (b := _) (by simp only [encP, encH, List.append_assoc]; rfl) (by simp [Msg.be_length]) (by simp [Msg.be_length])
theorem p_ci (p : Pc) : Msg.sl (encP p) 12 16 = Msg.be 4 p.ci := part (a := [Oc.bc p.op, 1, Oc.bc (p.hw.length : Int), 0] ++ (Msg.be 4 p.xid ++ (Msg.be 2 p.secs ++ Msg.be 2 p.flags))) (b := _) (by simp only [encP, encH, List.append_assoc]; rfl) (by simp [Msg.be_length]) (by simp [Msg.be_length])
theorem p_yi (p : Pc) : Msg.sl (encP p) 16 20 = Msg.be 4 p.yi := part (a := [Oc.bc p.op, 1, Oc.bc (p.hw.length : Int), 0] ++ (Msg.be 4 p.xid ++ (Msg.be 2 p.secs ++ (Msg.be 2 p.flags ++ Msg.be 4 p.ci)))) (b := _) (by simp only [encP, encH, List.append_assoc]; rfl) (by simp [Msg.be_length]) (by simp [Msg.be_length])
theorem p_si (p : Pc) : Msg.sl (encP p) 20 24 = Msg.be 4 p.si := part (a := [Oc.bc p.op, 1, Oc.bc (p.hw.length : Int), 0] ++ (Msg.be 4 p.xid ++ (Msg.be 2 p.secs ++ (Msg.be 2 p.flags ++ (Msg.be 4 p.ci ++ Msg.be 4 p.yi))))) (b := _) (by simp only [encP, encH, List.append_assoc]; rfl) (by simp [Msg.be_length]) (by simp [Msg.be_length])
theorem p_gi (p : Pc) : Msg.sl (encP p) 24 28 = Msg.be 4 p.gi := part (a := [Oc.bc p.op, 1, Oc.bc (p.hw.length : Int), 0] ++ (Msg.be 4 p.xid ++ (Msg.be 2 p.secs ++ (Msg.be 2 p.flags ++ (Msg.be 4 p.ci ++ (Msg.be 4 p.yi ++ Msg.be 4 p.si)))))) (b := _) (by simp only [encP, encH, List.append_assoc]; rfl) (by simp [Msg.be_length]) (by simp [Msg.be_length])
theorem p_hw (p : Pc) : Msg.sl (encP p) 28 (28 + p.hw.length) = p.hw := part (a := [Oc.bc p.op, 1, Oc.bc (p.hw.length : Int), 0] ++ (Msg.be 4 p.xid ++ (Msg.be 2 p.secs ++ (Msg.be 2 p.flags ++ (Msg.be 4 p.ci ++ (Msg.be 4 p.yi ++ (Msg.be 4 p.si ++ Msg.be 4 p.gi))))))) (b := _) (by simp only [encP, encH, List.append_assoc]; rfl) (by simp [Msg.be_length]) (by simp [Msg.be_length])
theorem p_head {p : Pc} (h : p.hw.length ≤ 16) : Msg.sl (encP p) 0 240 = encH p := part (a := []) (b := Oc.encO p.os) rfl rfl (by rw [encH_len h]; rfl)
theorem p_opts {p : Pc} (h : p.hw.length ≤ 16) : Msg.sl (encP p) 240 (240 + (Oc.tot p.os + 1)) = Oc.encO p.os := part (a := encH p) (b := []) (by simp [encP]) (by rw [encH_len h]) (by rw [encH_len h, Oc.encO_len])
theorem p_0 (p : Pc) : (encP p).getD 0 0 = Oc.bc p.op ∧ (encP p).getD 2 0 = Oc.bc (p.hw.length : Int) := ⟨rfl, rfl⟩
end Pc
end Go.K
