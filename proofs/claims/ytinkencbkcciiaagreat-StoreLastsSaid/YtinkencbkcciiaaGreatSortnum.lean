/- The library's Len, nextPowerOfTwo and random numbers, walked.
Conditions: as each theorem names them. -/
import Derived.Test.YtinkencbkcciiaaGreatProg
import Derived.Test.YtinkencbkcciiaaGreatSA
import Derived.Test.YtinkencbkcciiaaGreatZG
set_option linter.unusedSimpArgs false
set_option linter.unusedVariables false
set_option maxRecDepth 4000
namespace Go.Proofs.YtinkencbkcciiaaGreat
open Go Go.K
attribute [local irreducible] Code.wp wpList Calls wpQuiet
theorem Sortnum_it288_5 : intT Tryz.prog 288 5 = some .u8 := by kernel_rfl
theorem Sortnum_st9 : strT Tryz.prog 9 = true := by kernel_rfl
theorem Sortnum_it5_3 : intT Tryz.prog 5 3 = some .i64 := by kernel_rfl
theorem Sortnum_it3_191 : intT Tryz.prog 3 191 = some .u64 := by kernel_rfl
theorem Sortnum_mo : Tryz.prog.follows .mixedOrders = true := by kernel_rfl
theorem Sortnum_ts295 : scal Tryz.prog 295 = true := by kernel_rfl
theorem Sortnum_sz295 : sizeT Tryz.prog 295 = some 1 := by kernel_rfl
open Go.Sort
def tabL : ByteArray := ⟨#[0,1,2,2,3,3,3,3,4,4,4,4,4,4,4,4,5,5,5,5,5,5,5,5,5,5,5,5,5,5,5,5,6,6,6,6,6,6,6,6,6,6,6,6,6,6,6,6,6,6,6,6,6,6,6,6,6,6,6,6,6,6,6,6,7,7,7,7,7,7,7,7,7,7,7,7,7,7,7,7,7,7,7,7,7,7,7,7,7,7,7,7,7,7,7,7,7,7,7,7,7,7,7,7,7,7,7,7,7,7,7,7,7,7,7,7,7,7,7,7,7,7,7,7,7,7,7,7,8,8,8,8,8,8,8,8,8,8,8,8,8,8,8,8,8,8,8,8,8,8,8,8,8,8,8,8,8,8,8,8,8,8,8,8,8,8,8,8,8,8,8,8,8,8,8,8,8,8,8,8,8,8,8,8,8,8,8,8,8,8,8,8,8,8,8,8,8,8,8,8,8,8,8,8,8,8,8,8,8,8,8,8,8,8,8,8,8,8,8,8,8,8,8,8,8,8,8,8,8,8,8,8,8,8,8,8,8,8,8,8,8,8,8,8,8,8,8,8,8,8,8,8,8,8,8,8]⟩
def tabN (i : Nat) : Nat := (tabL.data.toList.getD i 0).toNat
theorem tabN_all : ((List.range 256).all fun i => decide (tabN i ≤ 8) && (decide (i = 0) || decide (2 ^ tabN i ≤ 2 * i))) = true := by decide +kernel
theorem tabN_le {i : Nat} (h : i ≤ 255) : tabN i ≤ 8 ∧ (0 < i → 2 ^ tabN i ≤ 2 * i) := by
  have := List.all_eq_true.1 tabN_all i (List.mem_range.2 W)
  simp only [Bool.and_eq_true,Bool.or_eq_true,decide_eq_true_eq] at this
  exact ⟨this.1,fun h => this.2.resolve_left W⟩
theorem tab_at {C : Cx} {V : Vw} {H : Hp} {L : Sl} {ty : TypeId} {y : Operand} {t : TypeId} {i : Nat} (hy : ev L y = some (.int .u8 (i : Int))) (hs : strT C.P t = true) (h : i ≤ 255) : Yl C V H L (.index t (.const (.string tabL)) y) ty (.int .u8 ((tabN i : Nat) : Int)) := by
  have h2 : tabL.size = 256 := by decide +kernel
  have := Y.idxStr (C := C) (V := V) (H := H) (L := L) (ty := ty) (x := .const (.string tabL)) rfl hy hs W (by rw [h2]; omega)
  rw [show (tabL.toList.getD (Int.toNat (i : Int)) 0) = tabL.data.toList.getD i 0 by rw [ByteArray.toList_eq]; rfl] at this
  exact this
theorem len_of {s m : Nat} (q : Nat) (hq : q * 2 ^ s ≤ m) (h : q ≤ 255) (h0 : 0 < m → 0 < q) (hs : s ≤ 24) : s + tabN q ≤ 40 ∧ (0 < m → 2 ^ (s + tabN q) ≤ 2 * m) :=
  ⟨by have := (tabN_le h).1; omega,fun hm => len_bound hq ((tabN_le h).2 (h0 hm))⟩
theorem len64_0 {V : Vw} {m : Nat} (hm : m ≤ 1073741824)  : Does Tryz.prog 279 [.int .u64 ((m : Nat) : Int)] V [] (fun v V' H' => V' = V ∧ (∃ k : Nat,v = .int .i64 (k : Int) ∧ k ≤ 40 ∧ (0 < m → 2 ^ k ≤ 2 * m)) ∧ H' = []) := by
 refine Does.intro Tryz.func279 rfl rfl (le rfl) (fun B => ?_)
 refine Zs<|Zr<|Za Z<|Ze<|Zg<|Zs<|Zs<|Zr<|Zm Z<|Zv (Y.int Z Z Z)<|Ze<|Zg<|?_
 rcases Zsplit (decide (((m : Nat) : Int) ≥ 4294967296)) with ⟨h1,g1⟩ | ⟨h1,g1⟩ <;> try simp only [kb] at g1
 ·omega
 ·refine Tr.cond_f Z h1<|Zt<|Zg<|Zs<|Zs<|Zr<|Zm Z<|Zv (Y.int Z Z Z)<|Ze<|Zg<|?_
  rcases Zsplit (decide (((m : Nat) : Int) ≥ 65536)) with ⟨h2,g2⟩ | ⟨h2,g2⟩ <;> try simp only [kb] at g2
  ·refine Tr.cond_t Z h2<|Zs<|Zr<|Zm Z<|Zv (Y.shrN (m := m) (q := 65536) Z Z WD WD)<|Za Z<|Ze<|Zg<|Zr<|Zm Z<|Zv (Y.addN ((0 + 16 : Nat) : Int) rfl rfl W W)<|Za Z<|Ze<|Zg<|Zs<|Zs<|?_
   refine Zr<|Zm Z<|Zv (Y.int Z Z Z)<|Ze<|Zg<|?_
   rcases Zsplit (decide (((m / 65536 : Nat) : Int) ≥ 256)) with ⟨h3,g3⟩ | ⟨h3,g3⟩ <;> try simp only [kb] at g3
   ·refine Tr.cond_t Z h3<|Zs<|Zr<|Zm Z<|Zv (Y.shrN (m := m / 65536) (q := 256) Z Z WD WD)<|Za Z<|Ze<|Zg<|Zr<|Zm Z<|Zv (Y.addN (((0 + 16) + 8 : Nat) : Int) rfl rfl W W)<|Za Z<|Ze<|Zg<|Zs<|Zr<|?_
    refine Zm Z<|Zm Z<|Zv (Y.conv ((((m / 65536) / 256 : Nat) : Int)) rfl Sortnum_it288_5 (wrap_u8 W))<|Zv (tab_at (i := (m / 65536) / 256) rfl Sortnum_st9 W)<|?_
    have ht := tabN_le (i := (m / 65536) / 256) W
    refine Zv (Y.conv (((tabN ((m / 65536) / 256) : Nat) : Int)) rfl Sortnum_it5_3 (wrap_i64 W))<|Zv (Y.addN ((((0 + 16) + 8) + (tabN ((m / 65536) / 256)) : Nat) : Int) rfl rfl W W)<|Za Z<|Ze<|Zg<|Zu<|Ex.keep []<|?_
    exact Ex.ret1 rfl rfl  ⟨rfl,⟨_,rfl,by have := len_of (s := 24) (m := m) ((m / 65536) / 256) W W W W; first | exact this | simpa using this⟩,rfl⟩
   ·refine Tr.cond_f Z h3<|Zt<|Zg<|Zs<|Zr<|Zm Z<|Zm Z<|Zv (Y.conv (((m / 65536 : Nat) : Int)) rfl Sortnum_it288_5 (wrap_u8 W))<|Zv (tab_at (i := m / 65536) Z Sortnum_st9 W)<|?_
    have ht := tabN_le (i := m / 65536) W
    refine Zv (Y.conv (((tabN (m / 65536) : Nat) : Int)) rfl Sortnum_it5_3 (wrap_i64 W))<|Zv (Y.addN (((0 + 16) + (tabN (m / 65536)) : Nat) : Int) rfl rfl W W)<|Za Z<|Ze<|Zg<|Zu<|Ex.keep []<|?_
    exact Ex.ret1 rfl rfl  ⟨rfl,⟨_,rfl,by have := len_of (s := 16) (m := m) (m / 65536) W W W W; first | exact this | simpa using this⟩,rfl⟩
  ·refine Tr.cond_f Z h2<|Zt<|Zg<|Zs<|Zs<|Zr<|Zm Z<|Zv (Y.int Z Z Z)<|Ze<|Zg<|?_
   rcases Zsplit (decide (((m : Nat) : Int) ≥ 256)) with ⟨h4,g4⟩ | ⟨h4,g4⟩ <;> try simp only [kb] at g4
   ·refine Tr.cond_t Z h4<|Zs<|Zr<|Zm Z<|Zv (Y.shrN (m := m) (q := 256) Z Z WD WD)<|Za Z<|Ze<|Zg<|Zr<|Zm Z<|Zv (Y.addN ((0 + 8 : Nat) : Int) rfl rfl W W)<|Za Z<|Ze<|Zg<|Zs<|Zr<|?_
    refine Zm Z<|Zm Z<|Zv (Y.conv (((m / 256 : Nat) : Int)) rfl Sortnum_it288_5 (wrap_u8 W))<|Zv (tab_at (i := m / 256) Z Sortnum_st9 W)<|?_
    have ht := tabN_le (i := m / 256) W
    refine Zv (Y.conv (((tabN (m / 256) : Nat) : Int)) rfl Sortnum_it5_3 (wrap_i64 W))<|Zv (Y.addN (((0 + 8) + (tabN (m / 256)) : Nat) : Int) rfl rfl W W)<|Za Z<|Ze<|Zg<|Zu<|Ex.keep []<|?_
    exact Ex.ret1 rfl rfl  ⟨rfl,⟨_,rfl,by have := len_of (s := 8) (m := m) (m / 256) W W W W; first | exact this | simpa using this⟩,rfl⟩
   ·refine Tr.cond_f Z h4<|Zt<|Zg<|Zs<|Zr<|Zm Z<|Zm Z<|Zv (Y.conv (((m : Nat) : Int)) rfl Sortnum_it288_5 (wrap_u8 W))<|Zv (tab_at (i := m) Z Sortnum_st9 W)<|?_
    have ht := tabN_le (i := m) W
    refine Zv (Y.conv (((tabN m : Nat) : Int)) rfl Sortnum_it5_3 (wrap_i64 W))<|Zv (Y.addN ((0 + (tabN m) : Nat) : Int) rfl rfl W W)<|Za Z<|Ze<|Zg<|Zu<|Ex.keep []<|?_
    exact Ex.ret1 rfl rfl  ⟨rfl,⟨_,rfl,by have := len_of (s := 0) (m := m) (m) W W W W; first | exact this | simpa using this⟩,rfl⟩
theorem len_0 {V : Vw} {m : Nat} (hm : m ≤ 1073741824)  : Does Tryz.prog 261 [.int .u64 ((m : Nat) : Int)] V [] (fun v V' H' => V' = V ∧ (∃ k : Nat,v = .int .i64 (k : Int) ∧ k ≤ 40 ∧ (0 < m → 2 ^ k ≤ 2 * m)) ∧ H' = []) := by
 refine Does.intro Tryz.func261 rfl rfl (le rfl) (fun B => ?_)
 refine Zs<|Zr<|Za Z<|Ze<|Zg<|Zs<|Tr.cond_f Z Z<|Zt<|Zg<|Zs<|Zr<|Zm Z<|?_
 refine Run.call [] (l := [.tmp 6]) rfl rfl rfl (lt rfl) (len64_0 hm) (fun v V2 H2 hle hR => ?_)
 obtain ⟨hV,⟨k,rfl,hk1,hk2⟩,rfl⟩ := hR; replace hV := hV.symm; subst hV
 refine Za Z<|Ze<|Zg<|Zu<|Ex.keep []<|?_
 exact Ex.ret1 rfl rfl  ⟨rfl,⟨k,rfl,hk1,hk2⟩,rfl⟩
theorem npow_0 {V : Vw} {m : Nat} (h8 : 1 ≤ m) (hm : m ≤ 1073741824)  : Does Tryz.prog 290 [.int .i64 ((m : Nat) : Int)] V [] (fun v V' H' => V' = V ∧ (∃ q : Nat,v = .int .u64 (q : Int) ∧ 1 ≤ q ∧ q ≤ 2 * m) ∧ H' = []) := by
 refine Does.intro Tryz.func290 rfl rfl (le rfl) (fun B => ?_)
 refine Zs<|Zr<|Za Z<|Ze<|Zg<|Zs<|Zr<|Zm Z<|Zv (Y.conv (((m : Nat) : Int)) rfl Sortnum_it3_191 (wrap_u64 W))<|?_
 refine Run.call [] (l := [.tmp 4]) rfl rfl rfl (lt rfl) (len_0 (m := m) W) (fun v V2 H2 hle hR => ?_)
 obtain ⟨hV,⟨k1,rfl,hk1,hk2⟩,rfl⟩ := hR; replace hV := hV.symm; subst hV
 refine Run.heapTo (H' := []) Z<|Zv (Y.shl (((2 ^ k1 : Nat) : Int)) rfl rfl W (shl_one W))<|Za Z<|Ze<|Zg<|Zu<|Ex.keep []<|?_
 exact Ex.ret1 rfl rfl  ⟨rfl,⟨_,rfl,Nat.one_le_two_pow,hk2 W⟩,rfl⟩
theorem next_0 {V : Vw} {bx e : Nat} {r : Int}  : Does Tryz.prog 291 [.pointer (some ⟨bx,0,none⟩)] V [[(bx,.cells #[.int .u64 r] e (0,0))]] (fun v V' H' => V' = V ∧ ∃ r' : Int,v = .int .u64 r' ∧ H' = [[(bx,.cells #[.int .u64 r'] e (0,0))]]) := by
 refine Does.intro Tryz.func291 rfl rfl (le rfl) (fun B => ?_)
 refine Zs<|Zr<|Za Z<|Ze<|Zg<|Zs<|Tr.tail 9 Sortnum_mo WK<|ZM Z<|ZV (Y.nilCheck Z)<|ZV (Y.load Z Sortnum_ts295 (Kn.at 0 Z) Z)<|ZM Z<|ZV (Y.nilCheck Z)<|ZV (Y.load Z Sortnum_ts295 (Kn.at 0 Z) Z)<|ZV (Y.shl (shlU r 13) rfl rfl WD rfl)<|ZV (Y.int (r := .int .u64 (xorU r (shlU r 13))) Z Z Z)<|ZV (Y.nilCheck Z)<|?_
 refine RunQ.nil_run<|Run.store (s := [(bx,.cells #[.int .u64 (xorU r (shlU r 13))] e (0,0))]) Z Z Sortnum_sz295 (i := 0) Z Z (le Z) Z Z<|Ze<|Zg<|Zs<|Tr.tail 9 Sortnum_mo WK<|?_
 obtain ⟨ra,hra⟩ : ∃ z,xorU r (shlU r 13) = z := ⟨_,rfl⟩
 rw [hra]
 refine ZM Z<|ZV (Y.nilCheck Z)<|ZV (Y.load Z Sortnum_ts295 (Kn.at 0 Z) Z)<|ZM Z<|ZV (Y.nilCheck Z)<|ZV (Y.load Z Sortnum_ts295 (Kn.at 0 Z) Z)<|ZV (Y.shr (shrU ra 7) rfl rfl WD rfl)<|ZV (Y.int (r := .int .u64 (xorU ra (shrU ra 7))) Z Z Z)<|ZV (Y.nilCheck Z)<|RunQ.nil_run<|Run.store (s := [(bx,.cells #[.int .u64 (xorU ra (shrU ra 7))] e (0,0))]) Z Z Sortnum_sz295 (i := 0) Z Z (le Z) Z Z<|Ze<|Zg<|Zs<|Tr.tail 9 Sortnum_mo WK<|?_
 obtain ⟨rb,hrb⟩ : ∃ z,xorU ra (shrU ra 7) = z := ⟨_,rfl⟩
 rw [hrb]
 refine ZM Z<|ZV (Y.nilCheck Z)<|ZV (Y.load Z Sortnum_ts295 (Kn.at 0 Z) Z)<|ZM Z<|ZV (Y.nilCheck Z)<|ZV (Y.load Z Sortnum_ts295 (Kn.at 0 Z) Z)<|ZV (Y.shl (shlU rb 17) rfl rfl WD rfl)<|ZV (Y.int (r := .int .u64 (xorU rb (shlU rb 17))) Z Z Z)<|ZV (Y.nilCheck Z)<|RunQ.nil_run<|Run.store (s := [(bx,.cells #[.int .u64 (xorU rb (shlU rb 17))] e (0,0))]) Z Z Sortnum_sz295 (i := 0) Z Z (le Z) Z Z<|Ze<|Zg<|Zs<|Zr<|?_
 obtain ⟨rc,hrc⟩ : ∃ z,xorU rb (shlU rb 17) = z := ⟨_,rfl⟩
 rw [hrc]
 refine Zm Z<|Zv (Y.nilCheck Z)<|Zv (Y.load Z Sortnum_ts295 (Kn.at 0 Z) Z)<|Za Z<|Ze<|Zg<|Zu<|Ex.keep [0]<|?_
 exact Ex.ret1 rfl rfl  ⟨rfl,_,rfl,rfl⟩
end Go.Proofs.YtinkencbkcciiaaGreat
