/- The library's Len, nextPowerOfTwo and random numbers, walked.
Conditions: as each theorem names them. -/
import Derived.Test.YtjfacdepgkdoeaaProg
import Derived.Test.YtjfacdepgkdoeaaSA
set_option linter.unusedSimpArgs false
set_option linter.unusedVariables false
set_option maxRecDepth 4000
namespace Go.Proofs.Ytjfacdepgkdoeaa
open Go Go.K
attribute [local irreducible] Code.wp wpList Calls wpQuiet
theorem Sortnum_it189_5 : intT Try.prog 189 5 = some .u8 := by kernel_rfl
theorem Sortnum_st9 : strT Try.prog 9 = true := by kernel_rfl
theorem Sortnum_it5_3 : intT Try.prog 5 3 = some .i64 := by kernel_rfl
theorem Sortnum_it3_148 : intT Try.prog 3 148 = some .u64 := by kernel_rfl
theorem Sortnum_mo : Try.prog.follows .mixedOrders = true := by kernel_rfl
theorem Sortnum_ts202 : scal Try.prog 202 = true := by kernel_rfl
theorem Sortnum_sz202 : sizeT Try.prog 202 = some 1 := by kernel_rfl

open Go.Sort
def tabL : ByteArray := ⟨#[0, 1, 2, 2, 3, 3, 3, 3, 4, 4, 4, 4, 4, 4, 4, 4, 5, 5, 5, 5, 5, 5, 5, 5, 5, 5, 5, 5, 5, 5, 5, 5, 6, 6, 6, 6, 6, 6, 6, 6, 6, 6, 6, 6, 6, 6, 6, 6, 6, 6, 6, 6, 6, 6, 6, 6, 6, 6, 6, 6, 6, 6, 6, 6, 7, 7, 7, 7, 7, 7, 7, 7, 7, 7, 7, 7, 7, 7, 7, 7, 7, 7, 7, 7, 7, 7, 7, 7, 7, 7, 7, 7, 7, 7, 7, 7, 7, 7, 7, 7, 7, 7, 7, 7, 7, 7, 7, 7, 7, 7, 7, 7, 7, 7, 7, 7, 7, 7, 7, 7, 7, 7, 7, 7, 7, 7, 7, 7, 8, 8, 8, 8, 8, 8, 8, 8, 8, 8, 8, 8, 8, 8, 8, 8, 8, 8, 8, 8, 8, 8, 8, 8, 8, 8, 8, 8, 8, 8, 8, 8, 8, 8, 8, 8, 8, 8, 8, 8, 8, 8, 8, 8, 8, 8, 8, 8, 8, 8, 8, 8, 8, 8, 8, 8, 8, 8, 8, 8, 8, 8, 8, 8, 8, 8, 8, 8, 8, 8, 8, 8, 8, 8, 8, 8, 8, 8, 8, 8, 8, 8, 8, 8, 8, 8, 8, 8, 8, 8, 8, 8, 8, 8, 8, 8, 8, 8, 8, 8, 8, 8, 8, 8, 8, 8, 8, 8, 8, 8, 8, 8, 8, 8, 8, 8, 8, 8, 8, 8, 8, 8, 8, 8, 8, 8, 8, 8]⟩
def tabN (i : Nat) : Nat := (tabL.data.toList.getD i 0).toNat
theorem tabN_all : ((List.range 256).all fun i => decide (tabN i ≤ 8) && (decide (i = 0) || decide (2 ^ tabN i ≤ 2 * i))) = true := by decide +kernel
theorem tabN_le {i : Nat} (h : i ≤ 255) : tabN i ≤ 8 ∧ (0 < i → 2 ^ tabN i ≤ 2 * i) := by
  have := List.all_eq_true.1 tabN_all i (List.mem_range.2 (by omega))
  simp only [Bool.and_eq_true, Bool.or_eq_true, decide_eq_true_eq] at this
  exact ⟨this.1, fun h => this.2.resolve_left (by omega)⟩
theorem tab_at {C : Cx} {V : Vw} {H : Hp} {L : Sl} {ty : TypeId} {y : Operand} {t : TypeId} {i : Nat} (hy : ev L y = some (.int .u8 (i : Int))) (hs : strT C.P t = true) (h : i ≤ 255) : Yl C V H L (.index t (.const (.string tabL)) y) ty (.int .u8 ((tabN i : Nat) : Int)) := by
  have h2 : tabL.size = 256 := by decide +kernel
  have := Y.idxStr (C := C) (V := V) (H := H) (L := L) (ty := ty) (x := .const (.string tabL)) rfl hy hs (by omega) (by rw [h2]; omega)
  rw [show (tabL.toList.getD (Int.toNat (i : Int)) 0) = tabL.data.toList.getD i 0 by rw [ByteArray.toList_eq]; rfl] at this
  exact this
theorem len_of {s m : Nat} (q : Nat) (hq : q * 2 ^ s ≤ m) (h : q ≤ 255) (h0 : 0 < m → 0 < q) (hs : s ≤ 24) : s + tabN q ≤ 40 ∧ (0 < m → 2 ^ (s + tabN q) ≤ 2 * m) :=
  ⟨by have := (tabN_le h).1; omega, fun hm => len_bound hq ((tabN_le h).2 (h0 hm))⟩

theorem len64_0 {V : Vw} {m : Nat} (hm : m ≤ 1073741824)  : Does Try.prog 130 [.int .u64 ((m : Nat) : Int)] V [] (fun v V' H' => V' = V ∧ (∃ k : Nat, v = .int .i64 (k : Int) ∧ k ≤ 40 ∧ (0 < m → 2 ^ k ≤ 2 * m)) ∧ H' = []) := by
 refine Does.intro Try.func130 rfl rfl (le rfl) (fun B => ?_)
 refine Tr.seq ?_
 refine Tr.region ?_
 refine Run.val (lt rfl) (Y.assign rfl) ?_
 refine Run.to_end ?_
 refine Ex.go ?_
 refine Tr.seq ?_
 refine Tr.seq ?_
 refine Tr.region ?_
 refine Run.val (lt rfl) (Y.move rfl) ?_
 refine Run.val (lt rfl) (Y.int rfl rfl rfl) ?_
 refine Run.to_end ?_
 refine Ex.go ?_
 rcases Bool.eq_false_or_eq_true (decide (((m : Nat) : Int) ≥ 4294967296)) with h1 | h1
 ·have g1 := h1
  try simp only [kb] at g1
  omega
 ·have g1 := h1
  try simp only [kb] at g1
  refine Tr.cond_f rfl h1 ?_
  refine Tr.to_end ?_
  refine Ex.go ?_
  refine Tr.seq ?_
  refine Tr.seq ?_
  refine Tr.region ?_
  refine Run.val (lt rfl) (Y.move rfl) ?_
  refine Run.val (lt rfl) (Y.int rfl rfl rfl) ?_
  refine Run.to_end ?_
  refine Ex.go ?_
  rcases Bool.eq_false_or_eq_true (decide (((m : Nat) : Int) ≥ 65536)) with h2 | h2
  ·have g2 := h2
   try simp only [kb] at g2
   refine Tr.cond_t rfl h2 ?_
   refine Tr.seq ?_
   refine Tr.region ?_
   refine Run.val (lt rfl) (Y.move rfl) ?_
   refine Run.val (lt rfl) (Y.shrN (m := m) (q := 65536) rfl rfl (by decide) (by decide)) ?_
   refine Run.val (lt rfl) (Y.assign rfl) ?_
   refine Run.to_end ?_
   refine Ex.go ?_
   refine Tr.region ?_
   refine Run.val (lt rfl) (Y.move rfl) ?_
   refine Run.val (lt rfl) (Y.addN ((0 + 16 : Nat) : Int) rfl rfl (by omega) (by omega)) ?_
   refine Run.val (lt rfl) (Y.assign rfl) ?_
   refine Run.to_end ?_
   refine Ex.go ?_
   refine Tr.seq ?_
   refine Tr.seq ?_
   refine Tr.region ?_
   refine Run.val (lt rfl) (Y.move rfl) ?_
   refine Run.val (lt rfl) (Y.int rfl rfl rfl) ?_
   refine Run.to_end ?_
   refine Ex.go ?_
   rcases Bool.eq_false_or_eq_true (decide (((m / 65536 : Nat) : Int) ≥ 256)) with h3 | h3
   ·have g3 := h3
    try simp only [kb] at g3
    refine Tr.cond_t rfl h3 ?_
    refine Tr.seq ?_
    refine Tr.region ?_
    refine Run.val (lt rfl) (Y.move rfl) ?_
    refine Run.val (lt rfl) (Y.shrN (m := m / 65536) (q := 256) rfl rfl (by decide) (by decide)) ?_
    refine Run.val (lt rfl) (Y.assign rfl) ?_
    refine Run.to_end ?_
    refine Ex.go ?_
    refine Tr.region ?_
    refine Run.val (lt rfl) (Y.move rfl) ?_
    refine Run.val (lt rfl) (Y.addN (((0 + 16) + 8 : Nat) : Int) rfl rfl (by omega) (by omega)) ?_
    refine Run.val (lt rfl) (Y.assign rfl) ?_
    refine Run.to_end ?_
    refine Ex.go ?_
    refine Tr.seq ?_
    refine Tr.region ?_
    refine Run.val (lt rfl) (Y.move rfl) ?_
    refine Run.val (lt rfl) (Y.move rfl) ?_
    refine Run.val (lt rfl) (Y.conv ((((m / 65536) / 256 : Nat) : Int)) rfl Sortnum_it189_5 (wrap_u8 (by omega))) ?_
    refine Run.val (lt rfl) (tab_at (i := (m / 65536) / 256) rfl Sortnum_st9 (by omega)) ?_
    have ht := tabN_le (i := (m / 65536) / 256) (by omega)
    refine Run.val (lt rfl) (Y.conv (((tabN ((m / 65536) / 256) : Nat) : Int)) rfl Sortnum_it5_3 (wrap_i64 (by omega))) ?_
    refine Run.val (lt rfl) (Y.addN ((((0 + 16) + 8) + (tabN ((m / 65536) / 256)) : Nat) : Int) rfl rfl (by omega) (by omega)) ?_
    refine Run.val (lt rfl) (Y.assign rfl) ?_
    refine Run.to_end ?_
    refine Ex.go ?_
    refine Tr.to_ret ?_
    refine Ex.keep [] ?_
    exact Ex.ret1 rfl rfl  ⟨rfl, ⟨_, rfl, by have := len_of (s := 24) (m := m) ((m / 65536) / 256) (by omega) (by omega) (by omega) (by omega); first | exact this | simpa using this⟩, rfl⟩
   ·have g3 := h3
    try simp only [kb] at g3
    refine Tr.cond_f rfl h3 ?_
    refine Tr.to_end ?_
    refine Ex.go ?_
    refine Tr.seq ?_
    refine Tr.region ?_
    refine Run.val (lt rfl) (Y.move rfl) ?_
    refine Run.val (lt rfl) (Y.move rfl) ?_
    refine Run.val (lt rfl) (Y.conv (((m / 65536 : Nat) : Int)) rfl Sortnum_it189_5 (wrap_u8 (by omega))) ?_
    refine Run.val (lt rfl) (tab_at (i := m / 65536) rfl Sortnum_st9 (by omega)) ?_
    have ht := tabN_le (i := m / 65536) (by omega)
    refine Run.val (lt rfl) (Y.conv (((tabN (m / 65536) : Nat) : Int)) rfl Sortnum_it5_3 (wrap_i64 (by omega))) ?_
    refine Run.val (lt rfl) (Y.addN (((0 + 16) + (tabN (m / 65536)) : Nat) : Int) rfl rfl (by omega) (by omega)) ?_
    refine Run.val (lt rfl) (Y.assign rfl) ?_
    refine Run.to_end ?_
    refine Ex.go ?_
    refine Tr.to_ret ?_
    refine Ex.keep [] ?_
    exact Ex.ret1 rfl rfl  ⟨rfl, ⟨_, rfl, by have := len_of (s := 16) (m := m) (m / 65536) (by omega) (by omega) (by omega) (by omega); first | exact this | simpa using this⟩, rfl⟩
  ·have g2 := h2
   try simp only [kb] at g2
   refine Tr.cond_f rfl h2 ?_
   refine Tr.to_end ?_
   refine Ex.go ?_
   refine Tr.seq ?_
   refine Tr.seq ?_
   refine Tr.region ?_
   refine Run.val (lt rfl) (Y.move rfl) ?_
   refine Run.val (lt rfl) (Y.int rfl rfl rfl) ?_
   refine Run.to_end ?_
   refine Ex.go ?_
   rcases Bool.eq_false_or_eq_true (decide (((m : Nat) : Int) ≥ 256)) with h4 | h4
   ·have g4 := h4
    try simp only [kb] at g4
    refine Tr.cond_t rfl h4 ?_
    refine Tr.seq ?_
    refine Tr.region ?_
    refine Run.val (lt rfl) (Y.move rfl) ?_
    refine Run.val (lt rfl) (Y.shrN (m := m) (q := 256) rfl rfl (by decide) (by decide)) ?_
    refine Run.val (lt rfl) (Y.assign rfl) ?_
    refine Run.to_end ?_
    refine Ex.go ?_
    refine Tr.region ?_
    refine Run.val (lt rfl) (Y.move rfl) ?_
    refine Run.val (lt rfl) (Y.addN ((0 + 8 : Nat) : Int) rfl rfl (by omega) (by omega)) ?_
    refine Run.val (lt rfl) (Y.assign rfl) ?_
    refine Run.to_end ?_
    refine Ex.go ?_
    refine Tr.seq ?_
    refine Tr.region ?_
    refine Run.val (lt rfl) (Y.move rfl) ?_
    refine Run.val (lt rfl) (Y.move rfl) ?_
    refine Run.val (lt rfl) (Y.conv (((m / 256 : Nat) : Int)) rfl Sortnum_it189_5 (wrap_u8 (by omega))) ?_
    refine Run.val (lt rfl) (tab_at (i := m / 256) rfl Sortnum_st9 (by omega)) ?_
    have ht := tabN_le (i := m / 256) (by omega)
    refine Run.val (lt rfl) (Y.conv (((tabN (m / 256) : Nat) : Int)) rfl Sortnum_it5_3 (wrap_i64 (by omega))) ?_
    refine Run.val (lt rfl) (Y.addN (((0 + 8) + (tabN (m / 256)) : Nat) : Int) rfl rfl (by omega) (by omega)) ?_
    refine Run.val (lt rfl) (Y.assign rfl) ?_
    refine Run.to_end ?_
    refine Ex.go ?_
    refine Tr.to_ret ?_
    refine Ex.keep [] ?_
    exact Ex.ret1 rfl rfl  ⟨rfl, ⟨_, rfl, by have := len_of (s := 8) (m := m) (m / 256) (by omega) (by omega) (by omega) (by omega); first | exact this | simpa using this⟩, rfl⟩
   ·have g4 := h4
    try simp only [kb] at g4
    refine Tr.cond_f rfl h4 ?_
    refine Tr.to_end ?_
    refine Ex.go ?_
    refine Tr.seq ?_
    refine Tr.region ?_
    refine Run.val (lt rfl) (Y.move rfl) ?_
    refine Run.val (lt rfl) (Y.move rfl) ?_
    refine Run.val (lt rfl) (Y.conv (((m : Nat) : Int)) rfl Sortnum_it189_5 (wrap_u8 (by omega))) ?_
    refine Run.val (lt rfl) (tab_at (i := m) rfl Sortnum_st9 (by omega)) ?_
    have ht := tabN_le (i := m) (by omega)
    refine Run.val (lt rfl) (Y.conv (((tabN m : Nat) : Int)) rfl Sortnum_it5_3 (wrap_i64 (by omega))) ?_
    refine Run.val (lt rfl) (Y.addN ((0 + (tabN m) : Nat) : Int) rfl rfl (by omega) (by omega)) ?_
    refine Run.val (lt rfl) (Y.assign rfl) ?_
    refine Run.to_end ?_
    refine Ex.go ?_
    refine Tr.to_ret ?_
    refine Ex.keep [] ?_
    exact Ex.ret1 rfl rfl  ⟨rfl, ⟨_, rfl, by have := len_of (s := 0) (m := m) (m) (by omega) (by omega) (by omega) (by omega); first | exact this | simpa using this⟩, rfl⟩

theorem len_0 {V : Vw} {m : Nat} (hm : m ≤ 1073741824)  : Does Try.prog 94 [.int .u64 ((m : Nat) : Int)] V [] (fun v V' H' => V' = V ∧ (∃ k : Nat, v = .int .i64 (k : Int) ∧ k ≤ 40 ∧ (0 < m → 2 ^ k ≤ 2 * m)) ∧ H' = []) := by
 refine Does.intro Try.func94 rfl rfl (le rfl) (fun B => ?_)
 refine Tr.seq ?_
 refine Tr.region ?_
 refine Run.val (lt rfl) (Y.assign rfl) ?_
 refine Run.to_end ?_
 refine Ex.go ?_
 refine Tr.seq ?_
 refine Tr.cond_f rfl rfl ?_
 refine Tr.to_end ?_
 refine Ex.go ?_
 refine Tr.seq ?_
 refine Tr.region ?_
 refine Run.val (lt rfl) (Y.move rfl) ?_
 refine Run.call [] (l := [.tmp 6]) rfl rfl rfl (lt rfl) (len64_0 hm) (fun v V2 H2 hle hR => ?_)
 obtain ⟨hV, ⟨k, rfl, hk1, hk2⟩, rfl⟩ := hR; replace hV := hV.symm; subst hV
 refine Run.val (lt rfl) (Y.assign rfl) ?_
 refine Run.to_end ?_
 refine Ex.go ?_
 refine Tr.to_ret ?_
 refine Ex.keep [] ?_
 exact Ex.ret1 rfl rfl  ⟨rfl, ⟨k, rfl, hk1, hk2⟩, rfl⟩

theorem npow_0 {V : Vw} {m : Nat} (h8 : 1 ≤ m) (hm : m ≤ 1073741824)  : Does Try.prog 151 [.int .i64 ((m : Nat) : Int)] V [] (fun v V' H' => V' = V ∧ (∃ q : Nat, v = .int .u64 (q : Int) ∧ 1 ≤ q ∧ q ≤ 2 * m) ∧ H' = []) := by
 refine Does.intro Try.func151 rfl rfl (le rfl) (fun B => ?_)
 refine Tr.seq ?_
 refine Tr.region ?_
 refine Run.val (lt rfl) (Y.assign rfl) ?_
 refine Run.to_end ?_
 refine Ex.go ?_
 refine Tr.seq ?_
 refine Tr.region ?_
 refine Run.val (lt rfl) (Y.move rfl) ?_
 refine Run.val (lt rfl) (Y.conv (((m : Nat) : Int)) rfl Sortnum_it3_148 (wrap_u64 (by omega))) ?_
 refine Run.call [] (l := [.tmp 4]) rfl rfl rfl (lt rfl) (len_0 (m := m) (by omega)) (fun v V2 H2 hle hR => ?_)
 obtain ⟨hV, ⟨k1, rfl, hk1, hk2⟩, rfl⟩ := hR; replace hV := hV.symm; subst hV
 refine Run.heapTo (H' := []) rfl ?_
 refine Run.val (lt rfl) (Y.shl (((2 ^ k1 : Nat) : Int)) rfl rfl (by omega) (shl_one (by omega))) ?_
 refine Run.val (lt rfl) (Y.assign rfl) ?_
 refine Run.to_end ?_
 refine Ex.go ?_
 refine Tr.to_ret ?_
 refine Ex.keep [] ?_
 exact Ex.ret1 rfl rfl  ⟨rfl, ⟨_, rfl, Nat.one_le_two_pow, hk2 (by omega)⟩, rfl⟩

theorem next_0 {V : Vw} {bx e : Nat} {r : Int}  : Does Try.prog 152 [.pointer (some ⟨bx, 0, none⟩)] V [[(bx, .cells #[.int .u64 r] e (0, 0))]] (fun v V' H' => V' = V ∧ ∃ r' : Int, v = .int .u64 r' ∧ H' = [[(bx, .cells #[.int .u64 r'] e (0, 0))]]) := by
 refine Does.intro Try.func152 rfl rfl (le rfl) (fun B => ?_)
 refine Tr.seq ?_
 refine Tr.region ?_
 refine Run.val (lt rfl) (Y.assign rfl) ?_
 refine Run.to_end ?_
 refine Ex.go ?_
 refine Tr.seq ?_
 refine Tr.tail 9 Sortnum_mo (by kernel_rfl) ?_
 refine RunQ.val (lt rfl) (Y.move rfl) ?_
 refine RunQ.val (lt rfl) (Y.nilCheck rfl) ?_
 refine RunQ.val (lt rfl) (Y.load rfl Sortnum_ts202 (Kn.at 0 rfl) rfl) ?_
 refine RunQ.val (lt rfl) (Y.move rfl) ?_
 refine RunQ.val (lt rfl) (Y.nilCheck rfl) ?_
 refine RunQ.val (lt rfl) (Y.load rfl Sortnum_ts202 (Kn.at 0 rfl) rfl) ?_
 refine RunQ.val (lt rfl) (Y.shl (shlU r 13) rfl rfl (by decide) rfl) ?_
 refine RunQ.val (lt rfl) (Y.int (r := .int .u64 (xorU r (shlU r 13))) rfl rfl rfl) ?_
 refine RunQ.val (lt rfl) (Y.nilCheck rfl) ?_
 refine RunQ.nil_run ?_
 refine Run.store (s := [(bx, .cells #[.int .u64 (xorU r (shlU r 13))] e (0, 0))]) rfl rfl Sortnum_sz202 (i := 0) rfl rfl (le rfl) rfl rfl ?_
 refine Run.to_end ?_
 refine Ex.go ?_
 refine Tr.seq ?_
 refine Tr.tail 9 Sortnum_mo (by kernel_rfl) ?_
 obtain ⟨ra, hra⟩ : ∃ z, xorU r (shlU r 13) = z := ⟨_, rfl⟩
 rw [hra]
 refine RunQ.val (lt rfl) (Y.move rfl) ?_
 refine RunQ.val (lt rfl) (Y.nilCheck rfl) ?_
 refine RunQ.val (lt rfl) (Y.load rfl Sortnum_ts202 (Kn.at 0 rfl) rfl) ?_
 refine RunQ.val (lt rfl) (Y.move rfl) ?_
 refine RunQ.val (lt rfl) (Y.nilCheck rfl) ?_
 refine RunQ.val (lt rfl) (Y.load rfl Sortnum_ts202 (Kn.at 0 rfl) rfl) ?_
 refine RunQ.val (lt rfl) (Y.shr (shrU ra 7) rfl rfl (by decide) rfl) ?_
 refine RunQ.val (lt rfl) (Y.int (r := .int .u64 (xorU ra (shrU ra 7))) rfl rfl rfl) ?_
 refine RunQ.val (lt rfl) (Y.nilCheck rfl) ?_
 refine RunQ.nil_run ?_
 refine Run.store (s := [(bx, .cells #[.int .u64 (xorU ra (shrU ra 7))] e (0, 0))]) rfl rfl Sortnum_sz202 (i := 0) rfl rfl (le rfl) rfl rfl ?_
 refine Run.to_end ?_
 refine Ex.go ?_
 refine Tr.seq ?_
 refine Tr.tail 9 Sortnum_mo (by kernel_rfl) ?_
 obtain ⟨rb, hrb⟩ : ∃ z, xorU ra (shrU ra 7) = z := ⟨_, rfl⟩
 rw [hrb]
 refine RunQ.val (lt rfl) (Y.move rfl) ?_
 refine RunQ.val (lt rfl) (Y.nilCheck rfl) ?_
 refine RunQ.val (lt rfl) (Y.load rfl Sortnum_ts202 (Kn.at 0 rfl) rfl) ?_
 refine RunQ.val (lt rfl) (Y.move rfl) ?_
 refine RunQ.val (lt rfl) (Y.nilCheck rfl) ?_
 refine RunQ.val (lt rfl) (Y.load rfl Sortnum_ts202 (Kn.at 0 rfl) rfl) ?_
 refine RunQ.val (lt rfl) (Y.shl (shlU rb 17) rfl rfl (by decide) rfl) ?_
 refine RunQ.val (lt rfl) (Y.int (r := .int .u64 (xorU rb (shlU rb 17))) rfl rfl rfl) ?_
 refine RunQ.val (lt rfl) (Y.nilCheck rfl) ?_
 refine RunQ.nil_run ?_
 refine Run.store (s := [(bx, .cells #[.int .u64 (xorU rb (shlU rb 17))] e (0, 0))]) rfl rfl Sortnum_sz202 (i := 0) rfl rfl (le rfl) rfl rfl ?_
 refine Run.to_end ?_
 refine Ex.go ?_
 refine Tr.seq ?_
 refine Tr.region ?_
 obtain ⟨rc, hrc⟩ : ∃ z, xorU rb (shlU rb 17) = z := ⟨_, rfl⟩
 rw [hrc]
 refine Run.val (lt rfl) (Y.move rfl) ?_
 refine Run.val (lt rfl) (Y.nilCheck rfl) ?_
 refine Run.val (lt rfl) (Y.load rfl Sortnum_ts202 (Kn.at 0 rfl) rfl) ?_
 refine Run.val (lt rfl) (Y.assign rfl) ?_
 refine Run.to_end ?_
 refine Ex.go ?_
 refine Tr.to_ret ?_
 refine Ex.keep [0] ?_
 exact Ex.ret1 rfl rfl  ⟨rfl, _, rfl, rfl⟩
end Go.Proofs.Ytjfacdepgkdoeaa
