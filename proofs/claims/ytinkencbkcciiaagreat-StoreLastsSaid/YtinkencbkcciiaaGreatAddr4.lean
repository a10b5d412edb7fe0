/- The reference's pools of addresses, walked.
Conditions: as each theorem names them. -/
import Derived.Test.YtinkencbkcciiaaGreatProg
import Derived.Test.YtinkencbkcciiaaGreatRC
import Derived.Test.YtinkencbkcciiaaGreatLaw01
import Derived.Test.YtinkencbkcciiaaGreatZG
set_option linter.unusedSimpArgs false
set_option linter.unusedVariables false
set_option maxRecDepth 4000
namespace Go.Proofs.YtinkencbkcciiaaGreat
open Go Go.K
attribute [local irreducible] Code.wp wpList Calls wpQuiet
theorem Addr4_es23 : elemS Tryz.prog 23 = some (101,2) := by kernel_rfl
theorem Addr4_mo : Tryz.prog.follows .mixedOrders = true := by kernel_rfl
theorem Addr4_fo101_1 : fieldOff Tryz.prog 101 1 = some 1 := by kernel_rfl
theorem Addr4_ts47 : scal Tryz.prog 47 = true := by kernel_rfl
theorem Addr4_it47_3 : intT Tryz.prog 47 3 = some .i64 := by kernel_rfl
theorem Addr4_fo101_0 : fieldOff Tryz.prog 101 0 = some 0 := by kernel_rfl
theorem Addr4_it3_47 : intT Tryz.prog 3 47 = some .u32 := by kernel_rfl
theorem Addr4_zo101 : zeroOf Tryz.prog 101 = some (.agg #[.int .u32 0,.int .u32 0]) := by kernel_rfl
theorem Addr4_pl101 : placesS Tryz.prog 101 = some [(0,1),(1,1)] := by kernel_rfl
theorem Addr4_zi101 : zeroInfo Tryz.prog 101 = some (2,8,.agg #[.int .u32 0,.int .u32 0]) := by kernel_rfl
theorem rcount_c {V : Vw} {H : Hp} {l : List Rg} {p : Option Addr} {c : Nat} (hv : Rd V H 2 (.slice p l.length c) l.length (l.flatMap Rg.cells)) (hlm : l.length ≤ 1000) (hok : Rg.Oks l)  : Does Tryz.prog 147 [.slice p l.length c] V H (Pv (.int .i64 (Rg.cnt l)) V H) := by
 refine Does.intro Tryz.func147 rfl rfl (le rfl) (fun B => ?_)
 refine Zs<|Zr<|Za Z<|Ze<|Zg<|Zs<|Zr<|Za Z<|Ze<|Zg<|Zs<|Zs<|Zr<|Za Z<|Ze<|Zg<|?_
 refine Zb ?_
 refine ZL (X := Nat) (fun z0 => V) (fun z0 => H) (fun z0 => [(0,.slice p l.length c),(3,.int .i64 (Rg.cnt (l.take z0))),(4,.int .i64 (z0 : Int))]) (fun z0 => z0 ≤ l.length) (fun z0 => l.length - z0) (0 : Nat) (Nat.zero_le _) ?_
 rintro i1 hi
 have hcb := Rg.cnt_bd (hok.take i1)
 rw [List.length_take] at hcb
 have hbd := hok.bd i1
 have hsd : Rg.size (l.getD i1 Rg.dflt) = (l.getD i1 Rg.dflt).high - (l.getD i1 Rg.dflt).low + 1 := rfl
 refine Zs<|Zs<|Zr<|Zm Z<|Zm Z<|Zv (Y.lenSl Z Addr4_es23)<|Zv (Y.int Z Z Z)<|Ze<|Zg<|?_
 rcases Zsplit (decide ((i1 : Int) < ((l.length : Nat) : Int))) with ⟨h1,g1⟩ | ⟨h1,g1⟩ <;> try simp only [kb] at g1
 ·refine Tr.cond_t Z h1<|Zt<|Zg<|Zs<|Zb<|Tr.quiet Addr4_mo WK<|ZM Z<|ZM Z<|ZM Z<|ZV (Y.idxR i1 Z Z Addr4_es23 hv W W)<|ZV (Y.fieldR Z Addr4_fo101_1 hv W)<|ZV (Y.ldR Z Addr4_ts47 hv (flatm_at Rg.len W Rg.dflt WD rfl))<|ZV (Y.conv ((l.getD i1 Rg.dflt).high) rfl Addr4_it47_3 (wrap_i64 W))<|ZV (Y.add Z Z W)<|ZM Z<|ZM Z<|?_
  refine ZV (Y.idxR i1 Z Z Addr4_es23 hv W W)<|ZV (Y.fieldR Z Addr4_fo101_0 hv W)<|ZV (Y.ldR Z Addr4_ts47 hv (flatm_at Rg.len W Rg.dflt WD rfl))<|ZV (Y.conv ((l.getD i1 Rg.dflt).low) rfl Addr4_it47_3 (wrap_i64 W))<|ZV (Y.sub Z Z W)<|ZV (Y.add Z Z W)<|ZA Z<|ZE<|Zc<|Zg<|Zr<|Zm Z<|Zv (Y.add Z Z W)<|Za Z<|Ze<|?_
  have er := Rg.cnt_take (l := l) (i := i1) W
  exact ZR (i1 + 1 : Nat) W W (by repeat (first | exact subB_nil _ | refine subB_cons (by first | rfl | exact congrArg (fun z => some (Value.int _ z)) W | exact congrArg (fun z => some (Value.int _ z)) W) ?_))
 ·refine Tr.cond_f Z h1<|Zx<|Zy<|Zy<|Zi<|Zg<|Zs<|Zr<|Zm Z<|Za Z<|Ze<|Zg<|Zu<|?_
  exact Ex.ret1 rfl rfl  ⟨congrArg (Value.int _) (by rw [List.take_of_length_le W]),rfl,rfl⟩
theorem rat_c {V : Vw} {H : Hp} {l : List Rg} {p : Option Addr} {c : Nat} (hv : Rd V H 2 (.slice p l.length c) l.length (l.flatMap Rg.cells)) (hlm : l.length ≤ 1000) (hok : Rg.Oks l) (hlh : ∀ r,r ∈ l → r.low ≤ r.high) {n : Int} (hn : -9223372036854775808 ≤ n ∧ n ≤ 9223372036854775807)  : Does Tryz.prog 148 [.slice p l.length c,.int .i64 n] V H (Pv (.tuple #[.int .u32 ((Rg.at_ (Rg.adr l) n).1),.int .i64 ((Rg.at_ (Rg.adr l) n).2)]) V H) := by
 refine Does.intro Tryz.func148 rfl rfl (le rfl) (fun B => ?_)
 refine Zs<|Zr<|Za Z<|Za Z<|Ze<|Zg<|Zs<|Zs<|Zr<|Za Z<|Ze<|Zg<|Zb<|?_
 refine ZL (X := Nat) (fun z0 => V) (fun z0 => H) (fun z0 => [(0,.slice p l.length c),(1,.int .i64 (n - (((Rg.adr (l.take z0)).length : Nat) : Int))),(6,.int .i64 (z0 : Int))]) (fun z0 => z0 ≤ l.length ∧ (z0 = 0 ∨ 0 ≤ n - (((Rg.adr (l.take z0)).length : Nat) : Int))) (fun z0 => l.length - z0) (0 : Nat) ⟨Nat.zero_le _,.inl rfl⟩ ?_ (by repeat (first | exact subB_nil _ | refine subB_cons (by first | rfl | exact congrArg (fun z => some (Value.int _ z)) W | exact congrArg (fun z => some (Value.int _ z)) (Int.sub_zero n).symm) ?_))
 rintro i1 ⟨hi,hz⟩
 have hal := Rg.adr_len_le (hok.take i1)
 rw [List.length_take] at hal
 have ha0 : i1 = 0 → (Rg.adr (l.take i1)).length = 0 := fun h => by subst h; rfl
 have hbd := hok.bd i1
 have hsd : Rg.size (l.getD i1 Rg.dflt) = (l.getD i1 Rg.dflt).high - (l.getD i1 Rg.dflt).low + 1 := rfl
 refine Zs<|Zs<|Zr<|Zm Z<|Zm Z<|Zv (Y.lenSl Z Addr4_es23)<|Zv (Y.int Z Z Z)<|Zm Z<|?_
 rcases Zsplit (decide ((i1 : Int) < ((l.length : Nat) : Int))) with ⟨h1,g1⟩ | ⟨h1,g1⟩ <;> try simp only [kb] at g1
 ·refine Zp h1<|Zm Z<|Zp h1<|Zv (Y.int Z Z Z)<|Zv (Y.pick_t Z h1 Z)<|Ze<|Zg<|?_
  rcases Zsplit (decide ((n - (((Rg.adr (l.take i1)).length : Nat) : Int)) ≥ 0)) with ⟨h2,g2⟩ | ⟨h2,g2⟩ <;> try simp only [kb] at g2
  ·refine Tr.cond_t Z h2<|Zt<|Zg<|Zs<|Zb<|Zs<|Tr.quiet Addr4_mo WK<|?_
   have hlo := hlh (l.getD i1 Rg.dflt) (getD_mem' W _)
   refine ZM Z<|ZM Z<|ZV (Y.idxR i1 Z Z Addr4_es23 hv W W)<|ZV (Y.fieldR Z Addr4_fo101_1 hv W)<|ZV (Y.ldR Z Addr4_ts47 hv (flatm_at Rg.len W Rg.dflt WD rfl))<|ZV (Y.conv ((l.getD i1 Rg.dflt).high) rfl Addr4_it47_3 (wrap_i64 W))<|ZM Z<|ZM Z<|ZV (Y.idxR i1 Z Z Addr4_es23 hv W W)<|ZV (Y.fieldR Z Addr4_fo101_0 hv W)<|ZV (Y.ldR Z Addr4_ts47 hv (flatm_at Rg.len W Rg.dflt WD rfl))<|?_
   refine ZV (Y.conv ((l.getD i1 Rg.dflt).low) rfl Addr4_it47_3 (wrap_i64 W))<|ZV (Y.sub Z Z W)<|ZV (Y.add Z Z W)<|ZA Z<|ZE<|Zg<|Zs<|Zs<|Zr<|Zm Z<|Zm Z<|Zv (Y.int Z Z Z)<|Ze<|Zg<|?_
   rcases Zsplit (decide ((n - (((Rg.adr (l.take i1)).length : Nat) : Int)) < ((((l.getD i1 Rg.dflt).high) - ((l.getD i1 Rg.dflt).low)) + 1))) with ⟨h3,g3⟩ | ⟨h3,g3⟩ <;> try simp only [kb] at g3
   ·refine Tr.cond_t Z h3<|Zs<|Zr<|Zm Z<|Zm Z<|Zv (Y.idxR i1 Z Z Addr4_es23 hv W W)<|Zv (Y.fieldR Z Addr4_fo101_0 hv W)<|Zv (Y.ldR Z Addr4_ts47 hv (flatm_at Rg.len W Rg.dflt WD rfl))<|Zm Z<|Zv (Y.conv (n - (((Rg.adr (l.take i1)).length : Nat) : Int)) rfl Addr4_it3_47 (wrap_u32 W))<|Zv (Y.int (r := .int .u32 ((l.getD i1 Rg.dflt).low + (n - (((Rg.adr (l.take i1)).length : Nat) : Int)))) rfl rfl (by simp only [intRes]; rw [wrap_u32 W]))<|?_
    refine Za Z<|Za Z<|Ze<|Zg<|Zu<|Zn<|Zk<|Zn<|Zn<|Zk<|Zn<|?_
    exact Ex.ret2 rfl rfl rfl  ⟨by rw [Rg.at_at2 (l := l) (i := i1) (n := n) W W W],rfl,rfl⟩
   ·refine Tr.cond_f Z h3<|Zt<|Zg<|Zr<|Zm Z<|Zm Z<|Zv (Y.sub Z Z W)<|Za Z<|Ze<|Zc<|Zg<|Zr<|Zm Z<|Zv (Y.add Z Z W)<|Za Z<|Ze<|?_
    have el := Rg.adr_len_take (l := l) (i := i1) W
    exact ZR (i1 + 1 : Nat) ⟨by omega,.inr W⟩ W (by repeat (first | exact subB_nil _ | refine subB_cons (by first | rfl | exact congrArg (fun z => some (Value.int _ z)) W | exact congrArg (fun z => some (Value.int _ z)) (by (try dsimp only); omega)) ?_))
  ·refine Tr.cond_f Z h2<|Zx<|Zy<|Zy<|Zi<|Zg<|Zs<|Zr<|Za Z<|Za Z<|Ze<|Zg<|Zu<|?_
   have hfl : i1 = l.length → (Rg.adr (l.take i1)).length = (Rg.adr l).length := fun h => by rw [h,List.take_length]
   exact Ex.ret2 rfl rfl rfl  ⟨by rw [Rg.at_out (n := n) (by by_cases hq : n < 0; (left; exact hq); (right; have := hfl W; omega))],rfl,rfl⟩
 ·refine Zo h1 Z<|Zo h1 Z<|Zv (Y.pick_f Z h1 Z)<|Ze<|Zg<|Tr.cond_f Z Z<|Zx<|Zy<|Zy<|Zi<|Zg<|Zs<|Zr<|Za Z<|Za Z<|Ze<|?_
  refine Zg<|Zu<|?_
  have hfl : i1 = l.length → (Rg.adr (l.take i1)).length = (Rg.adr l).length := fun h => by rw [h,List.take_length]
  exact Ex.ret2 rfl rfl rfl  ⟨by rw [Rg.at_out (n := n) (by by_cases hq : n < 0; (left; exact hq); (right; have := hfl W; omega))],rfl,rfl⟩
theorem rnext_c {V : Vw} {H : Hp} {l : List Rg} {p : Option Addr} {c : Nat} (hv : Rd V H 2 (.slice p l.length c) l.length (l.flatMap Rg.cells)) (hlm : l.length ≤ 1000) (hok : Rg.Oks l) {a : Int} (ha : 0 ≤ a ∧ a ≤ 4294967296)  : Does Tryz.prog 207 [.slice p l.length c,.int .i64 a] V H (Pv (.int .i64 (Rg.nx l a)) V H) := by
 refine Does.intro Tryz.func207 rfl rfl (le rfl) (fun B => ?_)
 refine Zs<|Zr<|Za Z<|Ze<|Zg<|Zs<|Zr<|Za Z<|Ze<|Zg<|Zs<|Zs<|Zr<|Za Z<|Ze<|Zg<|?_
 refine Zb ?_
 refine ZL (X := Nat) (fun z0 => V) (fun z0 => H) (fun z0 => [(0,.slice p l.length c),(1,.int .i64 a),(5,.int .i64 (Rg.nx (l.take z0) a)),(6,.int .i64 (z0 : Int))]) (fun z0 => z0 ≤ l.length) (fun z0 => l.length - z0) (0 : Nat) (Nat.zero_le _) ?_
 rintro i1 hi
 have hbd := hok.bd i1
 have hsd : Rg.size (l.getD i1 Rg.dflt) = (l.getD i1 Rg.dflt).high - (l.getD i1 Rg.dflt).low + 1 := rfl
 refine Zs<|Zs<|Zr<|Zm Z<|Zm Z<|Zv (Y.lenSl Z Addr4_es23)<|Zv (Y.int Z Z Z)<|Ze<|Zg<|?_
 rcases Zsplit (decide ((i1 : Int) < ((l.length : Nat) : Int))) with ⟨h1,g1⟩ | ⟨h1,g1⟩ <;> try simp only [kb] at g1
 ·refine Tr.cond_t Z h1<|Zt<|Zg<|Zs<|Zb<|Zs<|Zr<|Zm Z<|Zm Z<|Zv (Y.idxR i1 Z Z Addr4_es23 hv W W)<|Zv (Y.fieldR Z Addr4_fo101_0 hv W)<|Zv (Y.ldR Z Addr4_ts47 hv (flatm_at Rg.len W Rg.dflt WD rfl))<|Zv (Y.conv ((l.getD i1 Rg.dflt).low) rfl Addr4_it47_3 (wrap_i64 W))<|Zm Z<|Zv (Y.max2 Z Z)<|Za Z<|?_
  refine Ze<|Zg<|Zs<|Zr<|Zm Z<|Zm Z<|Zm Z<|Zv (Y.idxR i1 Z Z Addr4_es23 hv W W)<|Zv (Y.fieldR Z Addr4_fo101_1 hv W)<|Zv (Y.ldR Z Addr4_ts47 hv (flatm_at Rg.len W Rg.dflt WD rfl))<|Zv (Y.conv ((l.getD i1 Rg.dflt).high) rfl Addr4_it47_3 (wrap_i64 W))<|Zv (Y.int Z Z Z)<|Zm Z<|?_
  rcases Zsplit (decide ((max ((l.getD i1 Rg.dflt).low) a) ≤ ((l.getD i1 Rg.dflt).high))) with ⟨h2,g2⟩ | ⟨h2,g2⟩ <;> try simp only [kb] at g2
  ·refine Zp h2<|Zm Z<|Zp h2<|Zv (Y.int Z Z Z)<|Zp h2<|Zm Z<|?_
   rcases Zsplit (decide ((Rg.nx (l.take i1) a) < 0)) with ⟨h3,g3⟩ | ⟨h3,g3⟩ <;> try simp only [kb] at g3
   ·refine Zo h3 Z<|Zo h3 Z<|Zo h3 Z<|Zp h2<|Zv (Y.pick_t Z h3 Z)<|Zv (Y.pick_t Z h2 Z)<|Ze<|Zg<|Tr.cond_t Z Z<|Zr<|Zm Z<|Za Z<|Ze<|Zc<|Zg<|Zr<|?_
    refine Zm Z<|Zv (Y.add Z Z W)<|Za Z<|Ze<|?_
    have en := Rg.nx_take (l := l) (i := i1) (a := a) W
    rw [Rg.nx_yes W W] at en
    exact ZR (i1 + 1 : Nat) W W (by repeat (first | exact subB_nil _ | refine subB_cons (by first | rfl | exact congrArg (fun z => some (Value.int _ z)) W | exact congrArg (fun z => some (Value.int _ z)) (by (try dsimp only); omega)) ?_))
   ·refine Zp h3<|Zm Z<|Zp h3<|Zm Z<|Zp h3<|Zv (Y.int Z Z Z)<|Zp h2<|Zv (Y.pick_f Z h3 Z)<|Zv (Y.pick_t Z h2 Z)<|Ze<|Zg<|?_
    rcases Zsplit (decide ((max ((l.getD i1 Rg.dflt).low) a) < (Rg.nx (l.take i1) a))) with ⟨h4,g4⟩ | ⟨h4,g4⟩ <;> try simp only [kb] at g4
    ·refine Tr.cond_t Z h4<|Zr<|Zm Z<|Za Z<|Ze<|Zc<|Zg<|Zr<|Zm Z<|Zv (Y.add Z Z W)<|Za Z<|Ze<|?_
     have en := Rg.nx_take (l := l) (i := i1) (a := a) W
     rw [Rg.nx_yes W W] at en
     exact ZR (i1 + 1 : Nat) W W (by repeat (first | exact subB_nil _ | refine subB_cons (by first | rfl | exact congrArg (fun z => some (Value.int _ z)) W | exact congrArg (fun z => some (Value.int _ z)) (by (try dsimp only); omega)) ?_))
    ·refine Tr.cond_f Z h4<|Zt<|Zc<|Zg<|Zr<|Zm Z<|Zv (Y.add Z Z W)<|Za Z<|Ze<|?_
     have en := Rg.nx_take (l := l) (i := i1) (a := a) W
     rw [Rg.nx_no (by first | (left; omega) | (right; omega))] at en
     exact ZR (i1 + 1 : Nat) W W (by repeat (first | exact subB_nil _ | refine subB_cons (by first | rfl | exact congrArg (fun z => some (Value.int _ z)) W | exact congrArg (fun z => some (Value.int _ z)) (by (try dsimp only); omega)) ?_))
  ·refine Zo h2 Z<|Zo h2 Z<|Zo h2 Z<|Run.off_u Z Z Z Z (lt Z)<|Run.off_u Z Z Z Z (lt Z)<|Run.off_u Z Z Z Z (lt Z)<|Zo h2 Z<|Zv (Y.pick_f Z h2 Z)<|Ze<|Zg<|Tr.cond_f Z Z<|Zt<|Zc<|Zg<|Zr<|Zm Z<|?_
   refine Zv (Y.add Z Z W)<|Za Z<|Ze<|?_
   have en := Rg.nx_take (l := l) (i := i1) (a := a) W
   rw [Rg.nx_no (by first | (left; omega) | (right; omega))] at en
   exact ZR (i1 + 1 : Nat) W W (by repeat (first | exact subB_nil _ | refine subB_cons (by first | rfl | exact congrArg (fun z => some (Value.int _ z)) W | exact congrArg (fun z => some (Value.int _ z)) (by (try dsimp only); omega)) ?_))
 ·refine Tr.cond_f Z h1<|Zx<|Zy<|Zy<|Zi<|Zg<|Zs<|Zr<|Zm Z<|Za Z<|Ze<|Zg<|Zu<|?_
  exact Ex.ret1 rfl rfl  ⟨congrArg (Value.int _) (by rw [List.take_of_length_le W]),rfl,rfl⟩
theorem rhas_c {V : Vw} {H : Hp} {l : List Rg} {p : Option Addr} {c : Nat} (hv : Rd V H 2 (.slice p l.length c) l.length (l.flatMap Rg.cells)) (hlm : l.length ≤ 1000) (hok : Rg.Oks l) {a : Int} (ha : 0 ≤ a ∧ a ≤ 4294967296)  : Does Tryz.prog 208 [.slice p l.length c,.int .i64 a] V H (Pv (.bool (Rg.hasB l a)) V H) := by
 refine Does.intro Tryz.func208 rfl rfl (le rfl) (fun B => ?_)
 refine Zs<|Zr<|Za Z<|Ze<|Zg<|Zs<|Zs<|Zr<|Za Z<|Ze<|Zg<|Zb<|?_
 refine ZL (X := Nat) (fun z0 => V) (fun z0 => H) (fun z0 => [(0,.slice p l.length c),(1,.int .i64 a),(5,.int .i64 (z0 : Int))]) (fun z0 => z0 ≤ l.length ∧ ∀ j,j < z0 → ¬ ((l.getD j Rg.dflt).low ≤ a ∧ a ≤ (l.getD j Rg.dflt).high)) (fun z0 => l.length - z0) (0 : Nat) ⟨Nat.zero_le _,fun j hj => absurd hj (Nat.not_lt_zero j)⟩ ?_
 rintro i1 ⟨hi,hno⟩
 have hbd := hok.bd i1
 have hsd : Rg.size (l.getD i1 Rg.dflt) = (l.getD i1 Rg.dflt).high - (l.getD i1 Rg.dflt).low + 1 := rfl
 refine Zs<|Zs<|Zr<|Zm Z<|Zm Z<|Zv (Y.lenSl Z Addr4_es23)<|Zv (Y.int Z Z Z)<|Ze<|Zg<|?_
 rcases Zsplit (decide ((i1 : Int) < ((l.length : Nat) : Int))) with ⟨h1,g1⟩ | ⟨h1,g1⟩ <;> try simp only [kb] at g1
 ·refine Tr.cond_t Z h1<|Zt<|Zg<|Zs<|Zb<|Zs<|Zr<|Zm Z<|Zm Z<|Zm Z<|Zv (Y.idxR i1 Z Z Addr4_es23 hv W W)<|Zv (Y.fieldR Z Addr4_fo101_0 hv W)<|Zv (Y.ldR Z Addr4_ts47 hv (flatm_at Rg.len W Rg.dflt WD rfl))<|Zv (Y.conv ((l.getD i1 Rg.dflt).low) rfl Addr4_it47_3 (wrap_i64 W))<|Zv (Y.int Z Z Z)<|Zm Z<|?_
  rcases Zsplit (decide (a ≥ ((l.getD i1 Rg.dflt).low))) with ⟨h2,g2⟩ | ⟨h2,g2⟩ <;> try simp only [kb] at g2
  ·refine Zp h2<|Zm Z<|Zp h2<|Zm Z<|Zp h2<|Zm Z<|Zp h2<|Zv (Y.idxR i1 Z Z Addr4_es23 hv W W)<|Zp h2<|Zv (Y.fieldR Z Addr4_fo101_1 hv W)<|Zp h2<|Zv (Y.ldR Z Addr4_ts47 hv (flatm_at Rg.len W Rg.dflt WD rfl))<|Zp h2<|Zv (Y.conv ((l.getD i1 Rg.dflt).high) rfl Addr4_it47_3 (wrap_i64 W))<|Zp h2<|Zv (Y.int Z Z Z)<|?_
   refine Zv (Y.pick_t Z h2 Z)<|Ze<|Zg<|?_
   rcases Zsplit (decide (a ≤ ((l.getD i1 Rg.dflt).high))) with ⟨h3,g3⟩ | ⟨h3,g3⟩ <;> try simp only [kb] at g3
   ·refine Tr.cond_t Z h3<|Zs<|Zr<|Za Z<|Ze<|Zg<|Zu<|Zk<|Zn<|Zn<|Zk<|Zn<|?_
    exact Ex.ret1 rfl rfl  ⟨congrArg Value.bool (Rg.hasB_yes (j := i1) W W W).symm,rfl,rfl⟩
   ·refine Tr.cond_f Z h3<|Zt<|Zc<|Zg<|Zr<|Zm Z<|Zv (Y.add Z Z W)<|Za Z<|Ze<|?_
    exact ZR (i1 + 1 : Nat) ⟨by omega,upto_succ hno W⟩ W
  ·refine Zo h2 Z<|Zo h2 Z<|Zo h2 Z<|Zo h2 Z<|Zo h2 Z<|Zo h2 Z<|Zo h2 Z<|Zo h2 Z<|Zv (Y.pick_f Z h2 Z)<|Ze<|Zg<|Tr.cond_f Z Z<|Zt<|Zc<|Zg<|Zr<|?_
   refine Zm Z<|Zv (Y.add Z Z W)<|Za Z<|Ze<|?_
   exact ZR (i1 + 1 : Nat) ⟨by omega,upto_succ hno W⟩ W
 ·refine Tr.cond_f Z h1<|Zx<|Zy<|Zy<|Zi<|Zg<|Zs<|Zr<|Za Z<|Ze<|Zg<|Zu<|?_
  exact Ex.ret1 rfl rfl  ⟨congrArg Value.bool (Rg.hasB_no fun j hj => hno j W).symm,rfl,rfl⟩
theorem rcount_h {V : Vw} {H : Hp} {l : List Rg} {v : Value}  (hv : Rd V H 2 v l.length (l.flatMap Rg.cells)) (hlm : l.length ≤ 1000) (hok : Rg.Oks l) : Does Tryz.prog 147 [v] V H (Pv (.int .i64 (Rg.cnt l)) V H) := by
  obtain ⟨p,c,rfl,_⟩ := hv.form
  exact rcount_c hv hlm hok
theorem rat_h {V : Vw} {H : Hp} {l : List Rg} {v : Value} {n : Int} (hn : -9223372036854775808 ≤ n ∧ n ≤ 9223372036854775807) (hlh : ∀ r,r ∈ l → r.low ≤ r.high) (hv : Rd V H 2 v l.length (l.flatMap Rg.cells)) (hlm : l.length ≤ 1000) (hok : Rg.Oks l) : Does Tryz.prog 148 [v,.int .i64 n] V H (Pv (.tuple #[.int .u32 ((Rg.at_ (Rg.adr l) n).1),.int .i64 ((Rg.at_ (Rg.adr l) n).2)]) V H) := by
  obtain ⟨p,c,rfl,_⟩ := hv.form
  exact rat_c hv hlm hok hlh hn
theorem rnext_h {V : Vw} {H : Hp} {l : List Rg} {v : Value} {a : Int} (ha : 0 ≤ a ∧ a ≤ 4294967296) (hv : Rd V H 2 v l.length (l.flatMap Rg.cells)) (hlm : l.length ≤ 1000) (hok : Rg.Oks l) : Does Tryz.prog 207 [v,.int .i64 a] V H (Pv (.int .i64 (Rg.nx l a)) V H) := by
  obtain ⟨p,c,rfl,_⟩ := hv.form
  exact rnext_c hv hlm hok ha
theorem rhas_h {V : Vw} {H : Hp} {l : List Rg} {v : Value} {a : Int} (ha : 0 ≤ a ∧ a ≤ 4294967296) (hv : Rd V H 2 v l.length (l.flatMap Rg.cells)) (hlm : l.length ≤ 1000) (hok : Rg.Oks l) : Does Tryz.prog 208 [v,.int .i64 a] V H (Pv (.bool (Rg.hasB l a)) V H) := by
  obtain ⟨p,c,rfl,_⟩ := hv.form
  exact rhas_c hv hlm hok ha
theorem rpool_c {V : Vw} {l : List Rg} {p : Option Addr} {c : Nat} (hv : Rd V [] 2 (.slice p l.length c) l.length (l.flatMap Rg.cells)) (hlm : l.length ≤ 1000) (hok : Rg.Oks l)  : Does Tryz.prog 124 [.slice p l.length c] V [] (fun v V' H' => V.le V' ∧ H' = [] ∧ ∃ w,v = .tuple #[w,.int .i64 (Rg.pool l).2] ∧ Rd V' [] 2 w (Rg.pool l).1.length ((Rg.pool l).1.flatMap Rg.cells)) := by
 refine Does.intro Tryz.func124 rfl rfl (le rfl) (fun B => ?_)
 refine Zs<|Zr<|Za Z<|Za Z<|Ze<|Zg<|Zs<|Zs<|Zr<|Za Z<|Ze<|Zg<|Zb<|?_
 refine ZL (X := Nat) (fun z0 => V) (fun z0 => []) (fun z0 => [(0,.slice p l.length c),(4,.int .i64 (z0 : Int))]) (fun z0 => z0 ≤ l.length ∧ ∀ j,j < z0 → ¬ (l.getD j Rg.dflt).high < (l.getD j Rg.dflt).low) (fun z0 => l.length - z0) (0 : Nat) ⟨Nat.zero_le _,fun j hj => absurd hj (Nat.not_lt_zero j)⟩ ?_
 rintro i1 ⟨hi,hno⟩
 have hbd := hok.bd i1
 have hsd : Rg.size (l.getD i1 Rg.dflt) = (l.getD i1 Rg.dflt).high - (l.getD i1 Rg.dflt).low + 1 := rfl
 refine Zs<|Zs<|Zr<|Zm Z<|Zm Z<|Zv (Y.lenSl Z Addr4_es23)<|Zv (Y.int Z Z Z)<|Ze<|Zg<|?_
 rcases Zsplit (decide ((i1 : Int) < ((l.length : Nat) : Int))) with ⟨h1,g1⟩ | ⟨h1,g1⟩ <;> try simp only [kb] at g1
 ·refine Tr.cond_t Z h1<|Zt<|Zg<|Zs<|Zb<|Zs<|Tr.quiet Addr4_mo WK<|ZM Z<|ZM Z<|ZV (Y.idxR i1 Z Z Addr4_es23 hv.of_nil W W)<|ZV (Y.fieldR Z Addr4_fo101_1 hv.of_nil W)<|ZV (Y.ldR Z Addr4_ts47 hv.of_nil (flatm_at Rg.len W Rg.dflt WD rfl))<|ZM Z<|ZM Z<|ZV (Y.idxR i1 Z Z Addr4_es23 hv.of_nil W W)<|ZV (Y.fieldR Z Addr4_fo101_0 hv.of_nil W)<|?_
  refine ZV (Y.ldR Z Addr4_ts47 hv.of_nil (flatm_at Rg.len W Rg.dflt WD rfl))<|ZV (Y.int Z Z Z)<|ZE<|Zg<|?_
  rcases Zsplit (decide (((l.getD i1 Rg.dflt).high) < ((l.getD i1 Rg.dflt).low))) with ⟨h2,g2⟩ | ⟨h2,g2⟩ <;> try simp only [kb] at g2
  ·refine Tr.cond_t Z h2<|Zs<|Zr<|Za Z<|Za Z<|Ze<|Zg<|Zu<|Zk<|Zn<|Zn<|Zk<|Zn<|Ex.keep []<|?_
   exact Ex.ret2 rfl rfl rfl  ⟨Vw.le_refl _,rfl,_,by rw [Rg.pool_odd (Rg.odd_at (l := l) (i := i1) W W)],by rw [Rg.pool_odd (Rg.odd_at (l := l) (i := i1) W W)]; exact Rd.nil _ _ _⟩
  ·refine Tr.cond_f Z h2<|Zt<|Zc<|Zg<|Zr<|Zm Z<|Zv (Y.add Z Z W)<|Za Z<|Ze<|?_
   exact ZR (i1 + 1 : Nat) ⟨by omega,upto_succ hno W⟩ W
 ·refine Tr.cond_f Z h1<|Zx<|Zy<|Zy<|Zi<|Zg<|Zs<|Zr<|?_
  have hod := Rg.odd_none (l := l) fun j hj => hno j W
  have hsp := Rg.can_spec (Rg.odd_all hod)
  have hco := Rg.can_ok hok
  have hcl := Rg.can_len l
  refine Run.nilseg<|Za Z<|Ze<|Zg<|Zs<|Zr<|Za Z<|Ze<|Zg<|Zs<|Zr<|Zm Z<|?_
  have hnx : Rg.nx l (0) = Rg.lowk (Rg.can l) 0 := Rg.nx_first hsp.1 hsp.2 hco
  refine Run.call0 (l := [.tmp 26,.const (.int .i64 0)]) rfl rfl rfl (lt rfl) (show Does Tryz.prog 207 [_,.int .i64 (0)] _ _ (Pv (.int .i64 (Rg.lowk (Rg.can l) 0)) _ _) from by have h := rnext_h (H := [[]]) (a := 0) W hv.of_nil W hok; rw [hnx] at h; exact h)<|Run.heapTo (H' := [[]]) Z<|Za Z<|Ze<|Zg<|Zs<|Zb<|?_
  refine ZL (X := Nat × Option Addr × Nat × Nat × Sg) (fun z0 => V) (fun z0 => [z0.2.2.2.2]) (fun z0 => [(0,.slice p l.length c),(5,.slice z0.2.1 z0.2.2.1 z0.2.2.2.1),(6,.int .i64 (Rg.cnt ((Rg.can l).take z0.1))),(7,.int .i64 (Rg.lowk (Rg.can l) z0.1))]) (fun z0 => Ow 101 2 (.slice z0.2.1 z0.2.2.1 z0.2.2.2.1) z0.2.2.1 (((Rg.can l).take z0.1).flatMap Rg.cells) z0.2.2.2.2 ∧ z0.2.2.1 = ((Rg.can l).take z0.1).length ∧ z0.1 ≤ (Rg.can l).length ∧ Rg.cnt ((Rg.can l).take z0.1) ≤ 256) (fun z0 => (Rg.can l).length - z0.1) (⟨0,none,0,0,[]⟩ : Nat × Option Addr × Nat × Nat × Sg) ⟨Ow.nil _ _,rfl,Nat.zero_le _,(show (0 : Int) ≤ 256 by decide)⟩ ?_
  rintro ⟨k1,p1,n1,c1,q1⟩ ⟨how,hn,hk,hc⟩
  try dsimp only at how hn hk hc ⊢
  have hlw := Rg.lowk_nn hco k1
  have hcn := Rg.cnt_nn hsp.1 k1
  have hbk := hco.bd k1
  have hn9 : n1 ≤ k1 := by rw [hn,List.length_take]; omega
  refine Zs<|Zs<|Zr<|Zm Z<|Zv (Y.int Z Z Z)<|Ze<|Zg<|?_
  rcases Zsplit (decide ((Rg.lowk (Rg.can l) k1) ≥ 0)) with ⟨h3,g3⟩ | ⟨h3,g3⟩ <;> try simp only [kb] at g3
  ·refine Tr.cond_t Z h3<|Zt<|Zg<|Zb<|Zs<|Zr<|?_
   obtain ⟨_,hkl,hlk⟩ : Rg.lowk (Rg.can l) k1 ≥ 0 ∧ k1 < (Rg.can l).length ∧ Rg.lowk (Rg.can l) k1 = ((Rg.can l).getD k1 Rg.dflt).low := by omega
   have hlh := Rg.can_lh hsp.1 hkl
   refine Zm Z<|Za Z<|Ze<|Zg<|Zs<|Zr<|Zm Z<|Zv (Y.add Z Z W)<|Za Z<|Ze<|Zg<|Zs<|Zb<|?_
   refine ZL (X := Int) (fun z0 => V) (fun z0 => [q1]) (fun z0 => [(0,.slice p l.length c),(5,.slice p1 n1 c1),(6,.int .i64 (Rg.cnt ((Rg.can l).take k1) + (z0 - Rg.lowk (Rg.can l) k1 + 1))),(7,.int .i64 (Rg.lowk (Rg.can l) k1)),(8,.int .i64 z0)]) (fun z0 => ((Rg.can l).getD k1 Rg.dflt).low ≤ z0 ∧ z0 ≤ ((Rg.can l).getD k1 Rg.dflt).high ∧ Rg.cnt ((Rg.can l).take k1) + (z0 - Rg.lowk (Rg.can l) k1 + 1) ≤ 257) (fun z0 => (((Rg.can l).getD k1 Rg.dflt).high - z0).toNat) (Rg.lowk (Rg.can l) k1 : Int) ⟨by omega,by omega,by omega⟩ ?_
   rintro h1 ⟨hh1,hh2,hh3⟩
   refine Zs<|Zs<|Zr<|Zm Z<|Zm Z<|Zv (Y.add Z Z W)<|Run.call0 (l := [.tmp 33,.tmp 35]) rfl rfl rfl (lt rfl) (rhas_h (a := h1 + 1) W hv.of_nil W hok)<|Zm Z<|?_
   rcases Zsplit (Rg.hasB l (h1 + 1)) with ⟨h4,g4⟩ | ⟨h4,g4⟩ <;> try simp only [kb] at g4
   ·refine Zp h4<|Zm Z<|Zp h4<|Zv (Y.int Z Z Z)<|Zv (Y.pick_t Z h4 Z)<|Ze<|Zg<|?_
    rcases Zsplit (decide ((Rg.cnt ((Rg.can l).take k1) + (h1 - Rg.lowk (Rg.can l) k1 + 1)) ≤ 256)) with ⟨h5,g5⟩ | ⟨h5,g5⟩ <;> try simp only [kb] at g5
    ·refine Tr.cond_t Z h5<|Zt<|Zg<|Zb<|Zs<|Zr<|Zm Z<|Zv (Y.add Z Z W)<|Za Z<|Ze<|Zg<|Zr<|Zm Z<|Zv (Y.add Z Z W)<|Za Z<|Ze<|?_
     refine Zc ?_
     have hne : h1 ≠ ((Rg.can l).getD k1 Rg.dflt).high := fun he => by have := Rg.has_behind hsp.1 hsp.2 hkl; rw [← he,h4] at this; cases this
     exact ZR (h1 + 1 : Int) ⟨by omega,by omega,by omega⟩ W (by repeat (first | exact subB_nil _ | refine subB_cons (by first | rfl | exact congrArg (fun z => some (Value.int _ z)) W | exact congrArg (fun z => some (Value.int _ z)) (by (try dsimp only); omega)) ?_))
    ·refine Tr.cond_f Z h5<|Zx<|Zy<|Zy<|Zi<|Zg<|Zs<|Zs<|Zr<|Zm Z<|Zv (Y.int Z Z Z)<|Ze<|Zg<|?_
     rcases Zsplit (decide ((Rg.cnt ((Rg.can l).take k1) + (h1 - Rg.lowk (Rg.can l) k1 + 1)) > 256)) with ⟨h6,g6⟩ | ⟨h6,g6⟩ <;> try simp only [kb] at g6
     ·refine Tr.cond_t Z h6<|Zs<|Zr<|Za Z<|Za Z<|Ze<|Zg<|Zu<|Zn<|Zk<|Zn<|Zk<|Zn<|Ex.keep []<|?_
      have hge := Rg.cnt_ge hsp.1 (k1 + 1)
      have ec := Rg.cnt_take (l := (Rg.can l)) (i := k1) W
      have hsz : Rg.size ((Rg.can l).getD k1 Rg.dflt) = ((Rg.can l).getD k1 Rg.dflt).high - ((Rg.can l).getD k1 Rg.dflt).low + 1 := rfl
      exact Ex.ret2 rfl rfl rfl  ⟨Vw.le_refl _,rfl,_,by rw [Rg.pool_full hod W],by rw [Rg.pool_full hod W]; exact Rd.nil _ _ _⟩
     ·refine Tr.cond_f Z h6<|Zt<|Zg<|Zs<|Zr<|?_
      have heq : h1 = ((Rg.can l).getD k1 Rg.dflt).high := Int.le_antisymm hh2 (Int.not_lt.1 fun hcq => by have := Rg.has_inside hsp.2 hkl hh1 hcq; omega)
      refine Zm Z<|Zm Z<|Zv (Y.conv (Rg.lowk (Rg.can l) k1) rfl Addr4_it3_47 (wrap_u32 W))<|Zm Z<|Zv (Y.conv (h1) rfl Addr4_it3_47 (wrap_u32 W))<|Zv (Y.buildS (l := [(0,.tmp 49),(1,.tmp 51)]) Addr4_zo101 Addr4_pl101 Z Z)<|?_
      refine Run.buildSlice (l := [(0,.tmp 52)]) Addr4_es23 Addr4_zo101 rfl WD rfl rfl WD (lt rfl) (fun b7 => ?_)
      refine Run.append (n := n1) (m := 1) (xs := ((Rg.can l).take k1).flatMap Rg.cells) (ys := [.int .u32 (Rg.lowk (Rg.can l) k1),.int .u32 h1]) rfl rfl Addr4_es23 Addr4_zi101 WD (j := 1) rfl how (Src.of_rd Addr4_es23 (Rd.one (Kn.at 0 rfl) rfl)) W W rfl (lt rfl) (fun v8 s9 ho10 hf => ?_)
      obtain ⟨p8,c8,rfl⟩ := hf
      replace ho10 := Ow.app1 (f := Rg.cells) (l := (Rg.can l).take k1) (x := (⟨Rg.lowk (Rg.can l) k1,h1⟩ : Rg)) ho10
      refine Za Z<|Ze<|Zg<|Zr<|Zm Z<|Zm Z<|Zv (Y.add Z Z W)<|?_
      have hnx : Rg.nx l (h1 + 1) = Rg.lowk (Rg.can l) (k1 + 1) := by rw [heq]; exact Rg.nx_next hsp.1 hsp.2 hco W
      refine Run.call0 (l := [.tmp 55,.tmp 57]) rfl rfl rfl (lt rfl) (show Does Tryz.prog 207 [_,.int .i64 (h1 + 1)] _ _ (Pv (.int .i64 (Rg.lowk (Rg.can l) (k1 + 1))) _ _) from by have h := rnext_h (H := [[(b7,.cells #[.int .u32 (Rg.lowk (Rg.can l) k1),.int .u32 h1] 101 (0,0))],s9]) (a := h1 + 1) W hv.of_nil W hok; rw [hnx] at h; exact h)<|Run.heapTo (H' := [[(b7,.cells #[.int .u32 (Rg.lowk (Rg.can l) k1),.int .u32 h1] 101 (0,0))],s9]) Z<|?_
      refine Za Z<|Ze<|Zc<|Ex.keep [1]<|?_
      have ec := Rg.cnt_take (l := (Rg.can l)) (i := k1) W
      have et := take_succ_getD (Rg.can l) k1 Rg.dflt W
      have hsz : Rg.size ((Rg.can l).getD k1 Rg.dflt) = ((Rg.can l).getD k1 Rg.dflt).high - ((Rg.can l).getD k1 Rg.dflt).low + 1 := rfl
      have hoz := ho10
      rw [heq,hlk] at hoz
      exact ZR (⟨k1 + 1,p8,(n1 + 1),c8,s9⟩ : Nat × Option Addr × Nat × Nat × Sg) ⟨by rw [et]; exact hoz,by (try dsimp only); rw [et,List.length_append,List.length_singleton]; omega,by omega,by dsimp only; omega⟩ (by dsimp only; omega) (by repeat (first | exact subB_nil _ | refine subB_cons (by first | rfl | exact congrArg (fun z => some (Value.int _ z)) W | exact congrArg (fun z => some (Value.int _ z)) (by (try dsimp only); omega)) ?_))
   ·refine Zo h4 Z<|Zo h4 Z<|Zv (Y.pick_f Z h4 Z)<|Ze<|Zg<|Tr.cond_f Z Z<|Zx<|Zy<|Zy<|Zi<|Zg<|Zs<|Zs<|Zr<|Zm Z<|Zv (Y.int Z Z Z)<|?_
    refine Ze<|Zg<|?_
    rcases Zsplit (decide ((Rg.cnt ((Rg.can l).take k1) + (h1 - Rg.lowk (Rg.can l) k1 + 1)) > 256)) with ⟨h11,g11⟩ | ⟨h11,g11⟩ <;> try simp only [kb] at g11
    ·refine Tr.cond_t Z h11<|Zs<|Zr<|Za Z<|Za Z<|Ze<|Zg<|Zu<|Zn<|Zk<|Zn<|Zk<|Zn<|Ex.keep []<|?_
     have hge := Rg.cnt_ge hsp.1 (k1 + 1)
     have ec := Rg.cnt_take (l := (Rg.can l)) (i := k1) W
     have hsz : Rg.size ((Rg.can l).getD k1 Rg.dflt) = ((Rg.can l).getD k1 Rg.dflt).high - ((Rg.can l).getD k1 Rg.dflt).low + 1 := rfl
     exact Ex.ret2 rfl rfl rfl  ⟨Vw.le_refl _,rfl,_,by rw [Rg.pool_full hod W],by rw [Rg.pool_full hod W]; exact Rd.nil _ _ _⟩
    ·refine Tr.cond_f Z h11<|Zt<|Zg<|Zs<|Zr<|?_
     have heq : h1 = ((Rg.can l).getD k1 Rg.dflt).high := Int.le_antisymm hh2 (Int.not_lt.1 fun hcq => by have := Rg.has_inside hsp.2 hkl hh1 hcq; rw [h4] at this; cases this)
     refine Zm Z<|Zm Z<|Zv (Y.conv (Rg.lowk (Rg.can l) k1) rfl Addr4_it3_47 (wrap_u32 W))<|Zm Z<|Zv (Y.conv (h1) rfl Addr4_it3_47 (wrap_u32 W))<|Zv (Y.buildS (l := [(0,.tmp 49),(1,.tmp 51)]) Addr4_zo101 Addr4_pl101 Z Z)<|?_
     refine Run.buildSlice (l := [(0,.tmp 52)]) Addr4_es23 Addr4_zo101 rfl WD rfl rfl WD (lt rfl) (fun b12 => ?_)
     refine Run.append (n := n1) (m := 1) (xs := ((Rg.can l).take k1).flatMap Rg.cells) (ys := [.int .u32 (Rg.lowk (Rg.can l) k1),.int .u32 h1]) rfl rfl Addr4_es23 Addr4_zi101 WD (j := 1) rfl how (Src.of_rd Addr4_es23 (Rd.one (Kn.at 0 rfl) rfl)) W W rfl (lt rfl) (fun v13 s14 ho15 hf => ?_)
     obtain ⟨p13,c13,rfl⟩ := hf
     replace ho15 := Ow.app1 (f := Rg.cells) (l := (Rg.can l).take k1) (x := (⟨Rg.lowk (Rg.can l) k1,h1⟩ : Rg)) ho15
     refine Za Z<|Ze<|Zg<|Zr<|Zm Z<|Zm Z<|Zv (Y.add Z Z W)<|?_
     have hnx : Rg.nx l (h1 + 1) = Rg.lowk (Rg.can l) (k1 + 1) := by rw [heq]; exact Rg.nx_next hsp.1 hsp.2 hco W
     refine Run.call0 (l := [.tmp 55,.tmp 57]) rfl rfl rfl (lt rfl) (show Does Tryz.prog 207 [_,.int .i64 (h1 + 1)] _ _ (Pv (.int .i64 (Rg.lowk (Rg.can l) (k1 + 1))) _ _) from by have h := rnext_h (H := [[(b12,.cells #[.int .u32 (Rg.lowk (Rg.can l) k1),.int .u32 h1] 101 (0,0))],s14]) (a := h1 + 1) W hv.of_nil W hok; rw [hnx] at h; exact h)<|Run.heapTo (H' := [[(b12,.cells #[.int .u32 (Rg.lowk (Rg.can l) k1),.int .u32 h1] 101 (0,0))],s14]) Z<|?_
     refine Za Z<|Ze<|Zc<|Ex.keep [1]<|?_
     have ec := Rg.cnt_take (l := (Rg.can l)) (i := k1) W
     have et := take_succ_getD (Rg.can l) k1 Rg.dflt W
     have hsz : Rg.size ((Rg.can l).getD k1 Rg.dflt) = ((Rg.can l).getD k1 Rg.dflt).high - ((Rg.can l).getD k1 Rg.dflt).low + 1 := rfl
     have hoz := ho15
     rw [heq,hlk] at hoz
     exact ZR (⟨k1 + 1,p13,(n1 + 1),c13,s14⟩ : Nat × Option Addr × Nat × Nat × Sg) ⟨by rw [et]; exact hoz,by (try dsimp only); rw [et,List.length_append,List.length_singleton]; omega,by omega,by dsimp only; omega⟩ (by dsimp only; omega) (by repeat (first | exact subB_nil _ | refine subB_cons (by first | rfl | exact congrArg (fun z => some (Value.int _ z)) W | exact congrArg (fun z => some (Value.int _ z)) (by (try dsimp only); omega)) ?_))
  ·refine Tr.cond_f Z h3<|Zx<|Zy<|Zy<|Zi<|Zg<|Zs<|Zr<|Zm Z<|Za Z<|Za Z<|Ze<|Zg<|Zu<|?_
   have ek : k1 = (Rg.can l).length := by omega
   rw [ek,List.take_length] at how hn hc; subst hn
   refine Ex.show (fun V2 hle2 hsh2 => ?_)
   exact Ex.ret2 rfl rfl rfl  ⟨hle2,rfl,_,by rw [Rg.pool_ok hod W],by rw [Rg.pool_ok hod W]; exact how.show hsh2⟩
theorem rpool_h {V : Vw} {l : List Rg} {v : Value} (hv : Rd V [] 2 v l.length (l.flatMap Rg.cells)) (hlm : l.length ≤ 1000) (hok : Rg.Oks l) : Does Tryz.prog 124 [v] V [] (fun v V' H' => V.le V' ∧ H' = [] ∧ ∃ w,v = .tuple #[w,.int .i64 (Rg.pool l).2] ∧ Rd V' [] 2 w (Rg.pool l).1.length ((Rg.pool l).1.flatMap Rg.cells)) := by
  obtain ⟨p,c,rfl,_⟩ := hv.form
  exact rpool_c hv hlm hok
end Go.Proofs.YtinkencbkcciiaaGreat
