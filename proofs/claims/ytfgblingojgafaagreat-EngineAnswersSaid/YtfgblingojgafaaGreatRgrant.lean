/- The reference's pools of addresses, walked.
Conditions: as each theorem names them. -/
import Derived.Test.YtfgblingojgafaaGreatFx
import Derived.Test.YtfgblingojgafaaGreatProg
import Derived.Test.YtfgblingojgafaaGreatEB
import Derived.Test.YtfgblingojgafaaGreatEngine4
import Derived.Test.YtfgblingojgafaaGreatBucket
import Derived.Test.YtfgblingojgafaaGreatRA
import Derived.Test.YtfgblingojgafaaGreatKD
import Derived.Test.YtfgblingojgafaaGreatTable5
import Derived.Test.YtfgblingojgafaaGreatSA
set_option linter.unusedSimpArgs false
set_option linter.unusedVariables false
set_option maxRecDepth 4000
namespace Go.Proofs.YtfgblingojgafaaGreat
open Go Go.K
attribute [local irreducible] Code.wp wpList Calls wpQuiet
theorem rcount_c {V : Vw} {H : Hp} {l : List Rg} {p : Option Addr} {c : Nat} (hv : Rd V H 2 (.slice p l.length c) l.length (l.flatMap Rg.cells)) (hlm : l.length <= 1000) (hok : Rg.Oks l)  : Does Tryz.prog 86 [.slice p l.length c] V H (Pv (.int .i64 (Rg.cnt l)) V H) := by
 refine Does.intro Tryz.func86 rfl rfl (le rfl) (fun B => ?_)
 refine Zs<|Zr<|Za Z<|Ze<|Zg<|Zs<|Zr<|Za Z<|Ze<|Zg<|Zs<|Zs<|Zr<|Za Z<|Ze<|Zg<|?_
 refine Zb ?_
 refine ZL (X := Nat) (fun z0 => V) (fun z0 => H) (fun z0 => [(0,.slice p l.length c),(3,.int .i64 (Rg.cnt (l.take z0))),(4,.int .i64 (z0 : Int))]) (fun z0 => z0 <= l.length) (fun z0 => l.length - z0) (0 : Nat) (Nat.zero_le _) ?_
 rintro i1 hi
 have hcb := Rg.cnt_bd (hok.take i1)
 rw [List.length_take] at hcb
 have hbd := hok.bd i1
 have hsd : Rg.size (l.getD i1 Rg.dflt) = (l.getD i1 Rg.dflt).high - (l.getD i1 Rg.dflt).low + 1 := rfl
 refine Zs<|Zs<|Zr<|Zm Z<|Zm Z<|Zv (Y.lenSl Z xes33)<|Zv (Y.int Z Z Z)<|Ze<|Zg<|?_
 refine Zq (decide ((i1 : Int) < ((l.length : Nat) : Int))) (fun h1 g1 => ?_) fun h1 g1 => ?_
 ·refine Tr.cond_t Z h1<|Zt<|Zg<|Zs<|Zb<|Tr.quiet xmo WK<|ZM Z<|ZM Z<|ZM Z<|ZV (Y.idxR i1 Z Z xes33 hv W W)<|ZV (Y.fieldR Z xfo66_1 hv W)<|ZV (Y.ldR Z xts24 hv (flatm_at Rg.len W Rg.dflt WD rfl))<|ZV (Y.conv ((l.getD i1 Rg.dflt).high) rfl xit24_3 (wrap_i64 W))<|ZV (Y.add Z Z W)<|ZM Z<|ZM Z<|?_
  refine ZV (Y.idxR i1 Z Z xes33 hv W W)<|ZV (Y.fieldR Z xfo66_0 hv W)<|ZV (Y.ldR Z xts24 hv (flatm_at Rg.len W Rg.dflt WD rfl))<|ZV (Y.conv ((l.getD i1 Rg.dflt).low) rfl xit24_3 (wrap_i64 W))<|ZV (Y.sub Z Z W)<|ZV (Y.add Z Z W)<|ZA Z<|ZE<|Zc<|Zg<|Zr<|Zm Z<|Zv (Y.add Z Z W)<|Za Z<|Ze<|?_
  have er := Rg.cnt_take (l := l) (i := i1) W
  exact ZR (i1 + 1 : Nat) W W (by repeat (first | exact subB_nil _ | refine subB_cons (by first | rfl | exact congrArg (fun z => some (Value.int _ z)) W | exact congrArg (fun z => some (Value.int _ z)) W) ?_))
 refine Tr.cond_f Z h1<|Zx<|Zy<|Zy<|Zi<|Zg<|Zs<|Zr<|Zm Z<|Za Z<|Ze<|Zg<|Zu<|?_
 exact Ex.ret1 rfl rfl  ⟨congrArg (Value.int _) (by rw [List.take_of_length_le W]),rfl,rfl⟩
theorem rat_c {V : Vw} {H : Hp} {l : List Rg} {p : Option Addr} {c : Nat} (hv : Rd V H 2 (.slice p l.length c) l.length (l.flatMap Rg.cells)) (hlm : l.length <= 1000) (hok : Rg.Oks l) (hlh : ∀ r,r ∈ l -> r.low <= r.high) {n : Int} (hn : -9223372036854775808 <= n /\ n <= 9223372036854775807)  : Does Tryz.prog 87 [.slice p l.length c,.int .i64 n] V H (Pv (.tuple #[.int .u32 ((Rg.at_ (Rg.adr l) n).1),.int .i64 ((Rg.at_ (Rg.adr l) n).2)]) V H) := by
 refine Does.intro Tryz.func87 rfl rfl (le rfl) (fun B => ?_)
 refine Zs<|Zr<|Za Z<|Za Z<|Ze<|Zg<|Zs<|Zs<|Zr<|Za Z<|Ze<|Zg<|Zb<|?_
 refine ZL (X := Nat) (fun z0 => V) (fun z0 => H) (fun z0 => [(0,.slice p l.length c),(1,.int .i64 (n - (((Rg.adr (l.take z0)).length : Nat) : Int))),(6,.int .i64 (z0 : Int))]) (fun z0 => z0 <= l.length /\ (z0 = 0 \/ 0 <= n - (((Rg.adr (l.take z0)).length : Nat) : Int))) (fun z0 => l.length - z0) (0 : Nat) ⟨Nat.zero_le _,.inl rfl⟩ ?_ (by repeat (first | exact subB_nil _ | refine subB_cons (by first | rfl | exact congrArg (fun z => some (Value.int _ z)) W | exact congrArg (fun z => some (Value.int _ z)) (Int.sub_zero n).symm) ?_))
 rintro i1 ⟨hi,hz⟩
 have hal := Rg.adr_len_le (hok.take i1)
 rw [List.length_take] at hal
 have ha0 : i1 = 0 -> (Rg.adr (l.take i1)).length = 0 := fun h => by subst h; rfl
 have hbd := hok.bd i1
 have hsd : Rg.size (l.getD i1 Rg.dflt) = (l.getD i1 Rg.dflt).high - (l.getD i1 Rg.dflt).low + 1 := rfl
 refine Zs<|Zs<|Zr<|Zm Z<|Zm Z<|Zv (Y.lenSl Z xes33)<|Zv (Y.int Z Z Z)<|Zm Z<|?_
 refine Zq (decide ((i1 : Int) < ((l.length : Nat) : Int))) (fun h1 g1 => ?_) fun h1 g1 => ?_
 ·refine Zp h1<|Zm Z<|Zp h1<|Zv (Y.int Z Z Z)<|Zv (Y.pick_t Z h1 Z)<|Ze<|Zg<|?_
  refine Zq (decide ((n - (((Rg.adr (l.take i1)).length : Nat) : Int)) >= 0)) (fun h2 g2 => ?_) fun h2 g2 => ?_
  ·refine Tr.cond_t Z h2<|Zt<|Zg<|Zs<|Zb<|Zs<|Tr.quiet xmo WK<|?_
   have hlo := hlh (l.getD i1 Rg.dflt) (getD_mem' W _)
   refine ZM Z<|ZM Z<|ZV (Y.idxR i1 Z Z xes33 hv W W)<|ZV (Y.fieldR Z xfo66_1 hv W)<|ZV (Y.ldR Z xts24 hv (flatm_at Rg.len W Rg.dflt WD rfl))<|ZV (Y.conv ((l.getD i1 Rg.dflt).high) rfl xit24_3 (wrap_i64 W))<|ZM Z<|ZM Z<|ZV (Y.idxR i1 Z Z xes33 hv W W)<|ZV (Y.fieldR Z xfo66_0 hv W)<|ZV (Y.ldR Z xts24 hv (flatm_at Rg.len W Rg.dflt WD rfl))<|?_
   refine ZV (Y.conv ((l.getD i1 Rg.dflt).low) rfl xit24_3 (wrap_i64 W))<|ZV (Y.sub Z Z W)<|ZV (Y.add Z Z W)<|ZA Z<|ZE<|Zg<|Zs<|Zs<|Zr<|Zm Z<|Zm Z<|Zv (Y.int Z Z Z)<|Ze<|Zg<|?_
   refine Zq (decide ((n - (((Rg.adr (l.take i1)).length : Nat) : Int)) < ((((l.getD i1 Rg.dflt).high) - ((l.getD i1 Rg.dflt).low)) + 1))) (fun h3 g3 => ?_) fun h3 g3 => ?_
   ·refine Tr.cond_t Z h3<|Zs<|Zr<|Zm Z<|Zm Z<|Zv (Y.idxR i1 Z Z xes33 hv W W)<|Zv (Y.fieldR Z xfo66_0 hv W)<|Zv (Y.ldR Z xts24 hv (flatm_at Rg.len W Rg.dflt WD rfl))<|Zm Z<|Zv (Y.conv (n - (((Rg.adr (l.take i1)).length : Nat) : Int)) rfl xit3_24 (wrap_u32 W))<|Zv (Y.int (r := .int .u32 ((l.getD i1 Rg.dflt).low + (n - (((Rg.adr (l.take i1)).length : Nat) : Int)))) rfl rfl (by simp only [intRes]; rw [wrap_u32 W]))<|?_
    refine Za Z<|Za Z<|Ze<|Zg<|Zu<|Zn<|Zk<|Zn<|Zn<|Zk<|Zn<|?_
    exact Ex.ret2 rfl rfl rfl  ⟨by rw [Rg.at_at2 (l := l) (i := i1) (n := n) W W W],rfl,rfl⟩
   refine Tr.cond_f Z h3<|Zt<|Zg<|Zr<|Zm Z<|Zm Z<|Zv (Y.sub Z Z W)<|Za Z<|Ze<|Zc<|Zg<|Zr<|Zm Z<|Zv (Y.add Z Z W)<|Za Z<|Ze<|?_
   have el := Rg.adr_len_take (l := l) (i := i1) W
   exact ZR (i1 + 1 : Nat) ⟨by omega,.inr W⟩ W (by repeat (first | exact subB_nil _ | refine subB_cons (by first | rfl | exact congrArg (fun z => some (Value.int _ z)) W | exact congrArg (fun z => some (Value.int _ z)) (by (try dsimp only); omega)) ?_))
  refine Tr.cond_f Z h2<|Zx<|Zy<|Zy<|Zi<|Zg<|Zs<|Zr<|Za Z<|Za Z<|Ze<|Zg<|Zu<|?_
  have hfl : i1 = l.length -> (Rg.adr (l.take i1)).length = (Rg.adr l).length := fun h => by rw [h,List.take_length]
  exact Ex.ret2 rfl rfl rfl  ⟨by rw [Rg.at_out (n := n) (by by_cases hq : n < 0; (left; exact hq); (right; have := hfl W; omega))],rfl,rfl⟩
 refine Zo h1 Z<|Zo h1 Z<|Zv (Y.pick_f Z h1 Z)<|Ze<|Zg<|Tr.cond_f Z Z<|Zx<|Zy<|Zy<|Zi<|Zg<|Zs<|Zr<|Za Z<|Za Z<|Ze<|?_
 refine Zg<|Zu<|?_
 have hfl : i1 = l.length -> (Rg.adr (l.take i1)).length = (Rg.adr l).length := fun h => by rw [h,List.take_length]
 exact Ex.ret2 rfl rfl rfl  ⟨by rw [Rg.at_out (n := n) (by by_cases hq : n < 0; (left; exact hq); (right; have := hfl W; omega))],rfl,rfl⟩
theorem rnext_c {V : Vw} {H : Hp} {l : List Rg} {p : Option Addr} {c : Nat} (hv : Rd V H 2 (.slice p l.length c) l.length (l.flatMap Rg.cells)) (hlm : l.length <= 1000) (hok : Rg.Oks l) {a : Int} (ha : 0 <= a /\ a <= 4294967296)  : Does Tryz.prog 130 [.slice p l.length c,.int .i64 a] V H (Pv (.int .i64 (Rg.nx l a)) V H) := by
 refine Does.intro Tryz.func130 rfl rfl (le rfl) (fun B => ?_)
 refine Zs<|Zr<|Za Z<|Ze<|Zg<|Zs<|Zr<|Za Z<|Ze<|Zg<|Zs<|Zs<|Zr<|Za Z<|Ze<|Zg<|?_
 refine Zb ?_
 refine ZL (X := Nat) (fun z0 => V) (fun z0 => H) (fun z0 => [(0,.slice p l.length c),(1,.int .i64 a),(5,.int .i64 (Rg.nx (l.take z0) a)),(6,.int .i64 (z0 : Int))]) (fun z0 => z0 <= l.length) (fun z0 => l.length - z0) (0 : Nat) (Nat.zero_le _) ?_
 rintro i1 hi
 have hbd := hok.bd i1
 have hsd : Rg.size (l.getD i1 Rg.dflt) = (l.getD i1 Rg.dflt).high - (l.getD i1 Rg.dflt).low + 1 := rfl
 refine Zs<|Zs<|Zr<|Zm Z<|Zm Z<|Zv (Y.lenSl Z xes33)<|Zv (Y.int Z Z Z)<|Ze<|Zg<|?_
 refine Zq (decide ((i1 : Int) < ((l.length : Nat) : Int))) (fun h1 g1 => ?_) fun h1 g1 => ?_
 ·refine Tr.cond_t Z h1<|Zt<|Zg<|Zs<|Zb<|Zs<|Zr<|Zm Z<|Zm Z<|Zv (Y.idxR i1 Z Z xes33 hv W W)<|Zv (Y.fieldR Z xfo66_0 hv W)<|Zv (Y.ldR Z xts24 hv (flatm_at Rg.len W Rg.dflt WD rfl))<|Zv (Y.conv ((l.getD i1 Rg.dflt).low) rfl xit24_3 (wrap_i64 W))<|Zm Z<|Zv (Y.max2 Z Z)<|Za Z<|?_
  refine Ze<|Zg<|Zs<|Zr<|Zm Z<|Zm Z<|Zm Z<|Zv (Y.idxR i1 Z Z xes33 hv W W)<|Zv (Y.fieldR Z xfo66_1 hv W)<|Zv (Y.ldR Z xts24 hv (flatm_at Rg.len W Rg.dflt WD rfl))<|Zv (Y.conv ((l.getD i1 Rg.dflt).high) rfl xit24_3 (wrap_i64 W))<|Zv (Y.int Z Z Z)<|Zm Z<|?_
  refine Zq (decide ((max ((l.getD i1 Rg.dflt).low) a) <= ((l.getD i1 Rg.dflt).high))) (fun h2 g2 => ?_) fun h2 g2 => ?_
  ·refine Zp h2<|Zm Z<|Zp h2<|Zv (Y.int Z Z Z)<|Zp h2<|Zm Z<|?_
   refine Zq (decide ((Rg.nx (l.take i1) a) < 0)) (fun h3 g3 => ?_) fun h3 g3 => ?_
   ·refine Zo h3 Z<|Zo h3 Z<|Zo h3 Z<|Zp h2<|Zv (Y.pick_t Z h3 Z)<|Zv (Y.pick_t Z h2 Z)<|Ze<|Zg<|Tr.cond_t Z Z<|Zr<|Zm Z<|Za Z<|Ze<|Zc<|Zg<|Zr<|?_
    refine Zm Z<|Zv (Y.add Z Z W)<|Za Z<|Ze<|?_
    have en := Rg.nx_take (l := l) (i := i1) (a := a) W
    rw [Rg.nx_yes W W] at en
    exact ZR (i1 + 1 : Nat) W W (by repeat (first | exact subB_nil _ | refine subB_cons (by first | rfl | exact congrArg (fun z => some (Value.int _ z)) W | exact congrArg (fun z => some (Value.int _ z)) (by (try dsimp only); omega)) ?_))
   refine Zp h3<|Zm Z<|Zp h3<|Zm Z<|Zp h3<|Zv (Y.int Z Z Z)<|Zp h2<|Zv (Y.pick_f Z h3 Z)<|Zv (Y.pick_t Z h2 Z)<|Ze<|Zg<|?_
   refine Zq (decide ((max ((l.getD i1 Rg.dflt).low) a) < (Rg.nx (l.take i1) a))) (fun h4 g4 => ?_) fun h4 g4 => ?_
   ·refine Tr.cond_t Z h4<|Zr<|Zm Z<|Za Z<|Ze<|Zc<|Zg<|Zr<|Zm Z<|Zv (Y.add Z Z W)<|Za Z<|Ze<|?_
    have en := Rg.nx_take (l := l) (i := i1) (a := a) W
    rw [Rg.nx_yes W W] at en
    exact ZR (i1 + 1 : Nat) W W (by repeat (first | exact subB_nil _ | refine subB_cons (by first | rfl | exact congrArg (fun z => some (Value.int _ z)) W | exact congrArg (fun z => some (Value.int _ z)) (by (try dsimp only); omega)) ?_))
   refine Tr.cond_f Z h4<|Zt<|Zc<|Zg<|Zr<|Zm Z<|Zv (Y.add Z Z W)<|Za Z<|Ze<|?_
   have en := Rg.nx_take (l := l) (i := i1) (a := a) W
   rw [Rg.nx_no (by first | (left; omega) | (right; omega))] at en
   exact ZR (i1 + 1 : Nat) W W (by repeat (first | exact subB_nil _ | refine subB_cons (by first | rfl | exact congrArg (fun z => some (Value.int _ z)) W | exact congrArg (fun z => some (Value.int _ z)) (by (try dsimp only); omega)) ?_))
  refine Zo h2 Z<|Zo h2 Z<|Zo h2 Z<|Run.off_u Z Z Z Z (lt Z)<|Run.off_u Z Z Z Z (lt Z)<|Run.off_u Z Z Z Z (lt Z)<|Zo h2 Z<|Zv (Y.pick_f Z h2 Z)<|Ze<|Zg<|Tr.cond_f Z Z<|Zt<|Zc<|Zg<|Zr<|Zm Z<|?_
  refine Zv (Y.add Z Z W)<|Za Z<|Ze<|?_
  have en := Rg.nx_take (l := l) (i := i1) (a := a) W
  rw [Rg.nx_no (by first | (left; omega) | (right; omega))] at en
  exact ZR (i1 + 1 : Nat) W W (by repeat (first | exact subB_nil _ | refine subB_cons (by first | rfl | exact congrArg (fun z => some (Value.int _ z)) W | exact congrArg (fun z => some (Value.int _ z)) (by (try dsimp only); omega)) ?_))
 refine Tr.cond_f Z h1<|Zx<|Zy<|Zy<|Zi<|Zg<|Zs<|Zr<|Zm Z<|Za Z<|Ze<|Zg<|Zu<|?_
 exact Ex.ret1 rfl rfl  ⟨congrArg (Value.int _) (by rw [List.take_of_length_le W]),rfl,rfl⟩
theorem rhas_c {V : Vw} {H : Hp} {l : List Rg} {p : Option Addr} {c : Nat} (hv : Rd V H 2 (.slice p l.length c) l.length (l.flatMap Rg.cells)) (hlm : l.length <= 1000) (hok : Rg.Oks l) {a : Int} (ha : 0 <= a /\ a <= 4294967296)  : Does Tryz.prog 131 [.slice p l.length c,.int .i64 a] V H (Pv (.bool (Rg.hasB l a)) V H) := by
 refine Does.intro Tryz.func131 rfl rfl (le rfl) (fun B => ?_)
 refine Zs<|Zr<|Za Z<|Ze<|Zg<|Zs<|Zs<|Zr<|Za Z<|Ze<|Zg<|Zb<|?_
 refine ZL (X := Nat) (fun z0 => V) (fun z0 => H) (fun z0 => [(0,.slice p l.length c),(1,.int .i64 a),(5,.int .i64 (z0 : Int))]) (fun z0 => z0 <= l.length /\ ∀ j,j < z0 -> ¬ ((l.getD j Rg.dflt).low <= a /\ a <= (l.getD j Rg.dflt).high)) (fun z0 => l.length - z0) (0 : Nat) ⟨Nat.zero_le _,fun j hj => absurd hj (Nat.not_lt_zero j)⟩ ?_
 rintro i1 ⟨hi,hno⟩
 have hbd := hok.bd i1
 have hsd : Rg.size (l.getD i1 Rg.dflt) = (l.getD i1 Rg.dflt).high - (l.getD i1 Rg.dflt).low + 1 := rfl
 refine Zs<|Zs<|Zr<|Zm Z<|Zm Z<|Zv (Y.lenSl Z xes33)<|Zv (Y.int Z Z Z)<|Ze<|Zg<|?_
 refine Zq (decide ((i1 : Int) < ((l.length : Nat) : Int))) (fun h1 g1 => ?_) fun h1 g1 => ?_
 ·refine Tr.cond_t Z h1<|Zt<|Zg<|Zs<|Zb<|Zs<|Zr<|Zm Z<|Zm Z<|Zm Z<|Zv (Y.idxR i1 Z Z xes33 hv W W)<|Zv (Y.fieldR Z xfo66_0 hv W)<|Zv (Y.ldR Z xts24 hv (flatm_at Rg.len W Rg.dflt WD rfl))<|Zv (Y.conv ((l.getD i1 Rg.dflt).low) rfl xit24_3 (wrap_i64 W))<|Zv (Y.int Z Z Z)<|Zm Z<|?_
  refine Zq (decide (a >= ((l.getD i1 Rg.dflt).low))) (fun h2 g2 => ?_) fun h2 g2 => ?_
  ·refine Zp h2<|Zm Z<|Zp h2<|Zm Z<|Zp h2<|Zm Z<|Zp h2<|Zv (Y.idxR i1 Z Z xes33 hv W W)<|Zp h2<|Zv (Y.fieldR Z xfo66_1 hv W)<|Zp h2<|Zv (Y.ldR Z xts24 hv (flatm_at Rg.len W Rg.dflt WD rfl))<|Zp h2<|Zv (Y.conv ((l.getD i1 Rg.dflt).high) rfl xit24_3 (wrap_i64 W))<|Zp h2<|Zv (Y.int Z Z Z)<|?_
   refine Zv (Y.pick_t Z h2 Z)<|Ze<|Zg<|?_
   refine Zq (decide (a <= ((l.getD i1 Rg.dflt).high))) (fun h3 g3 => ?_) fun h3 g3 => ?_
   ·refine Tr.cond_t Z h3<|Zs<|Zr<|Za Z<|Ze<|Zg<|Zu<|Zk<|Zn<|Zn<|Zk<|Zn<|?_
    exact Ex.ret1 rfl rfl  ⟨congrArg Value.bool (Rg.hasB_yes (j := i1) W W W).symm,rfl,rfl⟩
   refine Tr.cond_f Z h3<|Zt<|Zc<|Zg<|Zr<|Zm Z<|Zv (Y.add Z Z W)<|Za Z<|Ze<|?_
   exact ZR (i1 + 1 : Nat) ⟨by omega,upto_succ hno W⟩ W
  refine Zo h2 Z<|Zo h2 Z<|Zo h2 Z<|Zo h2 Z<|Zo h2 Z<|Zo h2 Z<|Zo h2 Z<|Zo h2 Z<|Zv (Y.pick_f Z h2 Z)<|Ze<|Zg<|Tr.cond_f Z Z<|Zt<|Zc<|Zg<|Zr<|?_
  refine Zm Z<|Zv (Y.add Z Z W)<|Za Z<|Ze<|?_
  exact ZR (i1 + 1 : Nat) ⟨by omega,upto_succ hno W⟩ W
 refine Tr.cond_f Z h1<|Zx<|Zy<|Zy<|Zi<|Zg<|Zs<|Zr<|Za Z<|Ze<|Zg<|Zu<|?_
 exact Ex.ret1 rfl rfl  ⟨congrArg Value.bool (Rg.hasB_no fun j hj => hno j W).symm,rfl,rfl⟩
theorem rcount_h {V : Vw} {H : Hp} {l : List Rg} {v : Value}  (hv : Rd V H 2 v l.length (l.flatMap Rg.cells)) (hlm : l.length <= 1000) (hok : Rg.Oks l) : Does Tryz.prog 86 [v] V H (Pv (.int .i64 (Rg.cnt l)) V H) := by
  obtain ⟨p,c,rfl,_⟩ := hv.form
  exact rcount_c hv hlm hok
theorem rat_h {V : Vw} {H : Hp} {l : List Rg} {v : Value} {n : Int} (hn : -9223372036854775808 <= n /\ n <= 9223372036854775807) (hlh : ∀ r,r ∈ l -> r.low <= r.high) (hv : Rd V H 2 v l.length (l.flatMap Rg.cells)) (hlm : l.length <= 1000) (hok : Rg.Oks l) : Does Tryz.prog 87 [v,.int .i64 n] V H (Pv (.tuple #[.int .u32 ((Rg.at_ (Rg.adr l) n).1),.int .i64 ((Rg.at_ (Rg.adr l) n).2)]) V H) := by
  obtain ⟨p,c,rfl,_⟩ := hv.form
  exact rat_c hv hlm hok hlh hn
theorem rnext_h {V : Vw} {H : Hp} {l : List Rg} {v : Value} {a : Int} (ha : 0 <= a /\ a <= 4294967296) (hv : Rd V H 2 v l.length (l.flatMap Rg.cells)) (hlm : l.length <= 1000) (hok : Rg.Oks l) : Does Tryz.prog 130 [v,.int .i64 a] V H (Pv (.int .i64 (Rg.nx l a)) V H) := by
  obtain ⟨p,c,rfl,_⟩ := hv.form
  exact rnext_c hv hlm hok ha
theorem rhas_h {V : Vw} {H : Hp} {l : List Rg} {v : Value} {a : Int} (ha : 0 <= a /\ a <= 4294967296) (hv : Rd V H 2 v l.length (l.flatMap Rg.cells)) (hlm : l.length <= 1000) (hok : Rg.Oks l) : Does Tryz.prog 131 [v,.int .i64 a] V H (Pv (.bool (Rg.hasB l a)) V H) := by
  obtain ⟨p,c,rfl,_⟩ := hv.form
  exact rhas_c hv hlm hok ha
theorem rpool_c {V : Vw} {l : List Rg} {p : Option Addr} {c : Nat} (hv : Rd V [] 2 (.slice p l.length c) l.length (l.flatMap Rg.cells)) (hlm : l.length <= 1000) (hok : Rg.Oks l)  : Does Tryz.prog 67 [.slice p l.length c] V [] (fun v V' H' => V.le V' /\ H' = [] /\ ∃ w,v = .tuple #[w,.int .i64 (Rg.pool l).2] /\ Rd V' [] 2 w (Rg.pool l).1.length ((Rg.pool l).1.flatMap Rg.cells)) := by
 refine Does.intro Tryz.func67 rfl rfl (le rfl) (fun B => ?_)
 refine Zs<|Zr<|Za Z<|Za Z<|Ze<|Zg<|Zs<|Zs<|Zr<|Za Z<|Ze<|Zg<|Zb<|?_
 refine ZL (X := Nat) (fun z0 => V) (fun z0 => []) (fun z0 => [(0,.slice p l.length c),(4,.int .i64 (z0 : Int))]) (fun z0 => z0 <= l.length /\ ∀ j,j < z0 -> ¬ (l.getD j Rg.dflt).high < (l.getD j Rg.dflt).low) (fun z0 => l.length - z0) (0 : Nat) ⟨Nat.zero_le _,fun j hj => absurd hj (Nat.not_lt_zero j)⟩ ?_
 rintro i1 ⟨hi,hno⟩
 have hbd := hok.bd i1
 have hsd : Rg.size (l.getD i1 Rg.dflt) = (l.getD i1 Rg.dflt).high - (l.getD i1 Rg.dflt).low + 1 := rfl
 refine Zs<|Zs<|Zr<|Zm Z<|Zm Z<|Zv (Y.lenSl Z xes33)<|Zv (Y.int Z Z Z)<|Ze<|Zg<|?_
 refine Zq (decide ((i1 : Int) < ((l.length : Nat) : Int))) (fun h1 g1 => ?_) fun h1 g1 => ?_
 ·refine Tr.cond_t Z h1<|Zt<|Zg<|Zs<|Zb<|Zs<|Tr.quiet xmo WK<|ZM Z<|ZM Z<|ZV (Y.idxR i1 Z Z xes33 hv.of_nil W W)<|ZV (Y.fieldR Z xfo66_1 hv.of_nil W)<|ZV (Y.ldR Z xts24 hv.of_nil (flatm_at Rg.len W Rg.dflt WD rfl))<|ZM Z<|ZM Z<|ZV (Y.idxR i1 Z Z xes33 hv.of_nil W W)<|ZV (Y.fieldR Z xfo66_0 hv.of_nil W)<|?_
  refine ZV (Y.ldR Z xts24 hv.of_nil (flatm_at Rg.len W Rg.dflt WD rfl))<|ZV (Y.int Z Z Z)<|ZE<|Zg<|?_
  refine Zq (decide (((l.getD i1 Rg.dflt).high) < ((l.getD i1 Rg.dflt).low))) (fun h2 g2 => ?_) fun h2 g2 => ?_
  ·refine Tr.cond_t Z h2<|Zs<|Zr<|Za Z<|Za Z<|Ze<|Zg<|Zu<|Zk<|Zn<|Zn<|Zk<|Zn<|Ex.keep []<|?_
   exact Ex.ret2 rfl rfl rfl  ⟨Vw.le_refl _,rfl,_,by rw [Rg.pool_odd (Rg.odd_at (l := l) (i := i1) W W)],by rw [Rg.pool_odd (Rg.odd_at (l := l) (i := i1) W W)]; exact Rd.nil _ _ _⟩
  refine Tr.cond_f Z h2<|Zt<|Zc<|Zg<|Zr<|Zm Z<|Zv (Y.add Z Z W)<|Za Z<|Ze<|?_
  exact ZR (i1 + 1 : Nat) ⟨by omega,upto_succ hno W⟩ W
 refine Tr.cond_f Z h1<|Zx<|Zy<|Zy<|Zi<|Zg<|Zs<|Zr<|?_
 have hod := Rg.odd_none (l := l) fun j hj => hno j W
 have hsp := Rg.can_spec (Rg.odd_all hod)
 have hco := Rg.can_ok hok
 have hcl := Rg.can_len l
 refine Run.nilseg<|Za Z<|Ze<|Zg<|Zs<|Zr<|Za Z<|Ze<|Zg<|Zs<|Zr<|Zm Z<|?_
 have hnx : Rg.nx l (0) = Rg.lowk (Rg.can l) 0 := Rg.nx_first hsp.1 hsp.2 hco
 refine Yc Z Z Z (show Does Tryz.prog 130 [_,.int .i64 (0)] _ _ (Pv (.int .i64 (Rg.lowk (Rg.can l) 0)) _ _) from by have h := rnext_h (H := [[]]) (a := 0) W hv.of_nil W hok; rw [hnx] at h; exact h)<|Run.heapTo (H' := [[]]) Z<|Za Z<|Ze<|Zg<|Zs<|Zb<|?_
 refine ZL (X := Nat × Option Addr × Nat × Nat × Sg) (fun z0 => V) (fun z0 => [z0.2.2.2.2]) (fun z0 => [(0,.slice p l.length c),(5,.slice z0.2.1 z0.2.2.1 z0.2.2.2.1),(6,.int .i64 (Rg.cnt ((Rg.can l).take z0.1))),(7,.int .i64 (Rg.lowk (Rg.can l) z0.1))]) (fun z0 => Ow 66 2 (.slice z0.2.1 z0.2.2.1 z0.2.2.2.1) z0.2.2.1 (((Rg.can l).take z0.1).flatMap Rg.cells) z0.2.2.2.2 /\ z0.2.2.1 = ((Rg.can l).take z0.1).length /\ z0.1 <= (Rg.can l).length /\ Rg.cnt ((Rg.can l).take z0.1) <= 256) (fun z0 => (Rg.can l).length - z0.1) (⟨0,none,0,0,[]⟩ : Nat × Option Addr × Nat × Nat × Sg) ⟨Ow.nil _ _,rfl,Nat.zero_le _,(show (0 : Int) <= 256 by decide)⟩ ?_
 rintro ⟨k1,p1,n1,c1,q1⟩ ⟨how,hn,hk,hc⟩
 try dsimp only at how hn hk hc ⊢
 have hlw := Rg.lowk_nn hco k1
 have hcn := Rg.cnt_nn hsp.1 k1
 have hbk := hco.bd k1
 have hn9 : n1 <= k1 := by rw [hn,List.length_take]; omega
 refine Zs<|Zs<|Zr<|Zm Z<|Zv (Y.int Z Z Z)<|Ze<|Zg<|?_
 refine Zq (decide ((Rg.lowk (Rg.can l) k1) >= 0)) (fun h3 g3 => ?_) fun h3 g3 => ?_
 ·refine Tr.cond_t Z h3<|Zt<|Zg<|Zb<|Zs<|Zr<|?_
  obtain ⟨_,hkl,hlk⟩ : Rg.lowk (Rg.can l) k1 >= 0 /\ k1 < (Rg.can l).length /\ Rg.lowk (Rg.can l) k1 = ((Rg.can l).getD k1 Rg.dflt).low := by omega
  have hlh := Rg.can_lh hsp.1 hkl
  refine Zm Z<|Za Z<|Ze<|Zg<|Zs<|Zr<|Zm Z<|Zv (Y.add Z Z W)<|Za Z<|Ze<|Zg<|Zs<|Zb<|?_
  refine ZL (X := Int) (fun z0 => V) (fun z0 => [q1]) (fun z0 => [(0,.slice p l.length c),(5,.slice p1 n1 c1),(6,.int .i64 (Rg.cnt ((Rg.can l).take k1) + (z0 - Rg.lowk (Rg.can l) k1 + 1))),(7,.int .i64 (Rg.lowk (Rg.can l) k1)),(8,.int .i64 z0)]) (fun z0 => ((Rg.can l).getD k1 Rg.dflt).low <= z0 /\ z0 <= ((Rg.can l).getD k1 Rg.dflt).high /\ Rg.cnt ((Rg.can l).take k1) + (z0 - Rg.lowk (Rg.can l) k1 + 1) <= 257) (fun z0 => (((Rg.can l).getD k1 Rg.dflt).high - z0).toNat) (Rg.lowk (Rg.can l) k1 : Int) ⟨by omega,by omega,by omega⟩ ?_
  rintro h1 ⟨hh1,hh2,hh3⟩
  refine Zs<|Zs<|Zr<|Zm Z<|Zm Z<|Zv (Y.add Z Z W)<|Yc Z Z Z (rhas_h (a := h1 + 1) W hv.of_nil W hok)<|Zm Z<|?_
  refine Zq (Rg.hasB l (h1 + 1)) (fun h4 g4 => ?_) fun h4 g4 => ?_
  ·refine Zp h4<|Zm Z<|Zp h4<|Zv (Y.int Z Z Z)<|Zv (Y.pick_t Z h4 Z)<|Ze<|Zg<|?_
   refine Zq (decide ((Rg.cnt ((Rg.can l).take k1) + (h1 - Rg.lowk (Rg.can l) k1 + 1)) <= 256)) (fun h5 g5 => ?_) fun h5 g5 => ?_
   ·refine Tr.cond_t Z h5<|Zt<|Zg<|Zb<|Zs<|Zr<|Zm Z<|Zv (Y.add Z Z W)<|Za Z<|Ze<|Zg<|Zr<|Zm Z<|Zv (Y.add Z Z W)<|Za Z<|Ze<|?_
    refine Zc ?_
    have hne : h1 ≠ ((Rg.can l).getD k1 Rg.dflt).high := fun he => by have := Rg.has_behind hsp.1 hsp.2 hkl; rw [<- he,h4] at this; cases this
    exact ZR (h1 + 1 : Int) ⟨by omega,by omega,by omega⟩ W (by repeat (first | exact subB_nil _ | refine subB_cons (by first | rfl | exact congrArg (fun z => some (Value.int _ z)) W | exact congrArg (fun z => some (Value.int _ z)) (by (try dsimp only); omega)) ?_))
   refine Tr.cond_f Z h5<|Zx<|Zy<|Zy<|Zi<|Zg<|Zs<|Zs<|Zr<|Zm Z<|Zv (Y.int Z Z Z)<|Ze<|Zg<|?_
   refine Zq (decide ((Rg.cnt ((Rg.can l).take k1) + (h1 - Rg.lowk (Rg.can l) k1 + 1)) > 256)) (fun h6 g6 => ?_) fun h6 g6 => ?_
   ·refine Tr.cond_t Z h6<|Zs<|Zr<|Za Z<|Za Z<|Ze<|Zg<|Zu<|Zn<|Zk<|Zn<|Zk<|Zn<|Ex.keep []<|?_
    have hge := Rg.cnt_ge hsp.1 (k1 + 1)
    have ec := Rg.cnt_take (l := (Rg.can l)) (i := k1) W
    have hsz : Rg.size ((Rg.can l).getD k1 Rg.dflt) = ((Rg.can l).getD k1 Rg.dflt).high - ((Rg.can l).getD k1 Rg.dflt).low + 1 := rfl
    exact Ex.ret2 rfl rfl rfl  ⟨Vw.le_refl _,rfl,_,by rw [Rg.pool_full hod W],by rw [Rg.pool_full hod W]; exact Rd.nil _ _ _⟩
   refine Tr.cond_f Z h6<|Zt<|Zg<|Zs<|Zr<|?_
   have heq : h1 = ((Rg.can l).getD k1 Rg.dflt).high := Int.le_antisymm hh2 (Int.not_lt.1 fun hcq => by have := Rg.has_inside hsp.2 hkl hh1 hcq; omega)
   refine Zm Z<|Zm Z<|Zv (Y.conv (Rg.lowk (Rg.can l) k1) rfl xit3_24 (wrap_u32 W))<|Zm Z<|Zv (Y.conv (h1) rfl xit3_24 (wrap_u32 W))<|Zv (Y.buildS (l := [(0,.tmp 49),(1,.tmp 51)]) xzo66 xpl66 Z Z)<|?_
   refine Run.buildSlice (l := [(0,.tmp 52)]) xes33 xzo66 rfl WD rfl rfl WD (lt rfl) (fun b7 => ?_)
   refine Run.append (n := n1) (m := 1) (xs := ((Rg.can l).take k1).flatMap Rg.cells) (ys := [.int .u32 (Rg.lowk (Rg.can l) k1),.int .u32 h1]) rfl rfl xes33 xzi66 WD (j := 1) rfl how (Src.of_rd xes33 (Rd.one (Kn.at 0 rfl) rfl)) W W rfl (lt rfl) (fun v8 s9 ho10 hf => ?_)
   obtain ⟨p8,c8,rfl⟩ := hf
   replace ho10 := Ow.app1 (f := Rg.cells) (l := (Rg.can l).take k1) (x := (⟨Rg.lowk (Rg.can l) k1,h1⟩ : Rg)) ho10
   refine Za Z<|Ze<|Zg<|Zr<|Zm Z<|Zm Z<|Zv (Y.add Z Z W)<|?_
   have hnx : Rg.nx l (h1 + 1) = Rg.lowk (Rg.can l) (k1 + 1) := by rw [heq]; exact Rg.nx_next hsp.1 hsp.2 hco W
   refine Yc Z Z Z (show Does Tryz.prog 130 [_,.int .i64 (h1 + 1)] _ _ (Pv (.int .i64 (Rg.lowk (Rg.can l) (k1 + 1))) _ _) from by have h := rnext_h (H := [[(b7,.cells #[.int .u32 (Rg.lowk (Rg.can l) k1),.int .u32 h1] 66 (0,0))],s9]) (a := h1 + 1) W hv.of_nil W hok; rw [hnx] at h; exact h)<|Run.heapTo (H' := [[(b7,.cells #[.int .u32 (Rg.lowk (Rg.can l) k1),.int .u32 h1] 66 (0,0))],s9]) Z<|?_
   refine Za Z<|Ze<|Zc<|Ex.keep [1]<|?_
   have ec := Rg.cnt_take (l := (Rg.can l)) (i := k1) W
   have et := take_succ_getD (Rg.can l) k1 Rg.dflt W
   have hsz : Rg.size ((Rg.can l).getD k1 Rg.dflt) = ((Rg.can l).getD k1 Rg.dflt).high - ((Rg.can l).getD k1 Rg.dflt).low + 1 := rfl
   have hoz := ho10
   rw [heq,hlk] at hoz
   exact ZR (⟨k1 + 1,p8,(n1 + 1),c8,s9⟩ : Nat × Option Addr × Nat × Nat × Sg) ⟨by rw [et]; exact hoz,by (try dsimp only); rw [et,List.length_append,List.length_singleton]; omega,by omega,by dsimp only; omega⟩ (by dsimp only; omega) (by repeat (first | exact subB_nil _ | refine subB_cons (by first | rfl | exact congrArg (fun z => some (Value.int _ z)) W | exact congrArg (fun z => some (Value.int _ z)) (by (try dsimp only); omega)) ?_))
  refine Zo h4 Z<|Zo h4 Z<|Zv (Y.pick_f Z h4 Z)<|Ze<|Zg<|Tr.cond_f Z Z<|Zx<|Zy<|Zy<|Zi<|Zg<|Zs<|Zs<|Zr<|Zm Z<|Zv (Y.int Z Z Z)<|?_
  refine Ze<|Zg<|?_
  refine Zq (decide ((Rg.cnt ((Rg.can l).take k1) + (h1 - Rg.lowk (Rg.can l) k1 + 1)) > 256)) (fun h11 g11 => ?_) fun h11 g11 => ?_
  ·refine Tr.cond_t Z h11<|Zs<|Zr<|Za Z<|Za Z<|Ze<|Zg<|Zu<|Zn<|Zk<|Zn<|Zk<|Zn<|Ex.keep []<|?_
   have hge := Rg.cnt_ge hsp.1 (k1 + 1)
   have ec := Rg.cnt_take (l := (Rg.can l)) (i := k1) W
   have hsz : Rg.size ((Rg.can l).getD k1 Rg.dflt) = ((Rg.can l).getD k1 Rg.dflt).high - ((Rg.can l).getD k1 Rg.dflt).low + 1 := rfl
   exact Ex.ret2 rfl rfl rfl  ⟨Vw.le_refl _,rfl,_,by rw [Rg.pool_full hod W],by rw [Rg.pool_full hod W]; exact Rd.nil _ _ _⟩
  refine Tr.cond_f Z h11<|Zt<|Zg<|Zs<|Zr<|?_
  have heq : h1 = ((Rg.can l).getD k1 Rg.dflt).high := Int.le_antisymm hh2 (Int.not_lt.1 fun hcq => by have := Rg.has_inside hsp.2 hkl hh1 hcq; rw [h4] at this; cases this)
  refine Zm Z<|Zm Z<|Zv (Y.conv (Rg.lowk (Rg.can l) k1) rfl xit3_24 (wrap_u32 W))<|Zm Z<|Zv (Y.conv (h1) rfl xit3_24 (wrap_u32 W))<|Zv (Y.buildS (l := [(0,.tmp 49),(1,.tmp 51)]) xzo66 xpl66 Z Z)<|?_
  refine Run.buildSlice (l := [(0,.tmp 52)]) xes33 xzo66 rfl WD rfl rfl WD (lt rfl) (fun b12 => ?_)
  refine Run.append (n := n1) (m := 1) (xs := ((Rg.can l).take k1).flatMap Rg.cells) (ys := [.int .u32 (Rg.lowk (Rg.can l) k1),.int .u32 h1]) rfl rfl xes33 xzi66 WD (j := 1) rfl how (Src.of_rd xes33 (Rd.one (Kn.at 0 rfl) rfl)) W W rfl (lt rfl) (fun v13 s14 ho15 hf => ?_)
  obtain ⟨p13,c13,rfl⟩ := hf
  replace ho15 := Ow.app1 (f := Rg.cells) (l := (Rg.can l).take k1) (x := (⟨Rg.lowk (Rg.can l) k1,h1⟩ : Rg)) ho15
  refine Za Z<|Ze<|Zg<|Zr<|Zm Z<|Zm Z<|Zv (Y.add Z Z W)<|?_
  have hnx : Rg.nx l (h1 + 1) = Rg.lowk (Rg.can l) (k1 + 1) := by rw [heq]; exact Rg.nx_next hsp.1 hsp.2 hco W
  refine Yc Z Z Z (show Does Tryz.prog 130 [_,.int .i64 (h1 + 1)] _ _ (Pv (.int .i64 (Rg.lowk (Rg.can l) (k1 + 1))) _ _) from by have h := rnext_h (H := [[(b12,.cells #[.int .u32 (Rg.lowk (Rg.can l) k1),.int .u32 h1] 66 (0,0))],s14]) (a := h1 + 1) W hv.of_nil W hok; rw [hnx] at h; exact h)<|Run.heapTo (H' := [[(b12,.cells #[.int .u32 (Rg.lowk (Rg.can l) k1),.int .u32 h1] 66 (0,0))],s14]) Z<|?_
  refine Za Z<|Ze<|Zc<|Ex.keep [1]<|?_
  have ec := Rg.cnt_take (l := (Rg.can l)) (i := k1) W
  have et := take_succ_getD (Rg.can l) k1 Rg.dflt W
  have hsz : Rg.size ((Rg.can l).getD k1 Rg.dflt) = ((Rg.can l).getD k1 Rg.dflt).high - ((Rg.can l).getD k1 Rg.dflt).low + 1 := rfl
  have hoz := ho15
  rw [heq,hlk] at hoz
  exact ZR (⟨k1 + 1,p13,(n1 + 1),c13,s14⟩ : Nat × Option Addr × Nat × Nat × Sg) ⟨by rw [et]; exact hoz,by (try dsimp only); rw [et,List.length_append,List.length_singleton]; omega,by omega,by dsimp only; omega⟩ (by dsimp only; omega) (by repeat (first | exact subB_nil _ | refine subB_cons (by first | rfl | exact congrArg (fun z => some (Value.int _ z)) W | exact congrArg (fun z => some (Value.int _ z)) (by (try dsimp only); omega)) ?_))
 refine Tr.cond_f Z h3<|Zx<|Zy<|Zy<|Zi<|Zg<|Zs<|Zr<|Zm Z<|Za Z<|Za Z<|Ze<|Zg<|Zu<|?_
 have ek : k1 = (Rg.can l).length := by omega
 rw [ek,List.take_length] at how hn hc; subst hn
 refine Ex.show (fun V2 hle2 hsh2 => ?_)
 exact Ex.ret2 rfl rfl rfl  ⟨hle2,rfl,_,by rw [Rg.pool_ok hod W],by rw [Rg.pool_ok hod W]; exact how.show hsh2⟩
theorem rpool_h {V : Vw} {l : List Rg} {v : Value} (hv : Rd V [] 2 v l.length (l.flatMap Rg.cells)) (hlm : l.length <= 1000) (hok : Rg.Oks l) : Does Tryz.prog 67 [v] V [] (fun v V' H' => V.le V' /\ H' = [] /\ ∃ w,v = .tuple #[w,.int .i64 (Rg.pool l).2] /\ Rd V' [] 2 w (Rg.pool l).1.length ((Rg.pool l).1.flatMap Rg.cells)) := by
  obtain ⟨p,c,rfl,_⟩ := hv.form
  exact rpool_c hv hlm hok
end Go.Proofs.YtfgblingojgafaaGreat
namespace Go.Proofs.YtfgblingojgafaaGreat
open Go Go.K
attribute [local irreducible] Code.wp wpList Calls wpQuiet
theorem rfind_c {V : Vw} {l : List Le} {rx : Nat} {pl : Option Addr} {cl : Nat} {ql : Sg} (hl : Ow 43 8 (.slice pl l.length cl) l.length (l.flatMap Le.cells) ql) (hlm : l.length <= 256) {a : Int}  : Does Tryz.prog 89 [(pZ rx),.int .u32 a] V [[(rx,.cells #[.slice pl l.length cl] 128 (0,0))],ql] (fun v V' H' => V' = V /\ H' = [[(rx,.cells #[.slice pl l.length cl] 128 (0,0))],ql] /\ ∃ k : Int,v = .int .i64 k /\ (k = -1 /\ Le.get l a = none \/ ∃ i : Nat,k = (i : Int) /\ i < l.length /\ (l.getD i Le.dflt).addr = a /\ Le.get l a = some (l.getD i Le.dflt))) := by
 have hcl := hl.cap
 refine Does.intro Tryz.func89 rfl rfl (le rfl) (fun B => ?_)
 refine Zs<|Zr<|Za Z<|Ze<|Zg<|Zs<|Zs<|Zr<|Za Z<|Ze<|Zg<|Zb<|?_
 refine ZL (X := Nat) (fun z0 => V) (fun z0 => [[(rx,.cells #[.slice pl l.length cl] 128 (0,0))],ql]) (fun z0 => [(0,(pZ rx)),(1,.int .u32 a),(5,.int .i64 (z0 : Int))]) (fun z0 => z0 <= l.length /\ ∀ j,j < z0 -> (l.getD j Le.dflt).addr ≠ a) (fun z0 => l.length - z0) (0 : Nat) ⟨Nat.zero_le _,fun j hj => absurd hj (Nat.not_lt_zero j)⟩ ?_
 rintro i1 ⟨hi,hno⟩
 refine Zs<|Zs<|Zr<|Zm Z<|Zm Z<|Zv (Y.nilCheck Z)<|Zv (Y.fieldAddr Z xfo128_0)<|Zv (Y.load Z xts22 (Kn.at 0 Z) Z)<|Zv (Y.lenSl Z xes22)<|Zv (Y.int Z Z Z)<|Ze<|Zg<|?_
 refine Zq (decide ((i1 : Int) < ((l.length : Nat) : Int))) (fun h1 g1 => ?_) fun h1 g1 => ?_
 ·refine Tr.cond_t Z h1<|Zt<|Zg<|Zs<|Zb<|Zs<|Zr<|Zm Z<|Zv (Y.nilCheck Z)<|Zv (Y.fieldAddr Z xfo128_0)<|Zv (Y.load Z xts22 (Kn.at 0 Z) Z)<|Zm Z<|Zv (Y.idxR i1 Z Z xes22 (hl.rd 1 rfl) W W)<|Zv (Y.fieldR Z xfo43_0 (hl.rd 1 rfl) W)<|Zv (Y.ldR Z xts24 (hl.rd 1 rfl) (flatm_at Le.len W Le.dflt WD rfl))<|Zm Z<|?_
  refine Zv (Y.int Z Z Z)<|Ze<|Zg<|?_
  refine Zq (((l.getD i1 Le.dflt).addr) == a) (fun h2 g2 => ?_) fun h2 g2 => ?_
  ·refine Tr.cond_t Z h2<|Zs<|Zr<|Zm Z<|Za Z<|Ze<|Zg<|Zu<|Zk<|Zn<|Zn<|Zk<|Zn<|Ex.keep [0,0]<|?_
   exact Ex.ret1 rfl rfl  ⟨rfl,rfl,_,rfl,.inr ⟨i1,rfl,by omega,by omega,Le.get_at hno W W⟩⟩
  refine Tr.cond_f Z h2<|Zt<|Zc<|Zg<|Zr<|Zm Z<|Zv (Y.add Z Z W)<|Za Z<|Ze<|Ex.keep [0,0]<|?_
  exact ZR (i1 + 1 : Nat) ⟨by omega,upto_succ hno W⟩ W
 refine Tr.cond_f Z h1<|Zx<|Zy<|Zy<|Zi<|Zg<|Zs<|Zr<|Za Z<|Ze<|Zg<|Zu<|Ex.keep [0,0]<|?_
 exact Ex.ret1 rfl rfl  ⟨rfl,rfl,_,rfl,.inl ⟨rfl,Le.get_no fun j hj => hno j W⟩⟩
theorem rget_c {V : Vw} {l : List Le} {rx : Nat} {pl : Option Addr} {cl : Nat} {ql : Sg} (hl : Ow 43 8 (.slice pl l.length cl) l.length (l.flatMap Le.cells) ql) (hlm : l.length <= 256) {a : Int}  : Does Tryz.prog 63 [(pZ rx),.int .u32 a] V [[(rx,.cells #[.slice pl l.length cl] 128 (0,0))],ql] (Pv (.tuple #[.agg (Le.getE l a).1.cells.toArray,.int .i64 (Le.getE l a).2]) V [[(rx,.cells #[.slice pl l.length cl] 128 (0,0))],ql]) := by
 have hcl := hl.cap
 refine Does.intro Tryz.func63 rfl rfl (le rfl) (fun B => ?_)
 refine Zs<|Zr<|?_
 refine Run.alloc xzo43 (lt rfl) (fun b1 => ?_)
 refine Za Z<|Ze<|Zg<|Zs<|Zr<|Zm Z<|Zm Z<|?_
 refine Yk [1,1] Z Z Z (rfind_c (a := a) hl hlm) (fun v9 V9 H9 hle9 hR => ?_)
 obtain ⟨hV,rfl,k,rfl,hk⟩ := hR; replace hV := hV.symm; subst hV
 refine Run.heapTo (H' := [[(b1,.cells #[.int .u32 0,.int .i64 0,.string ⟨#[]⟩,.int .i64 0,.int .i64 0,.int .i64 0,.int .i64 0,.int .i64 0] 43 (0,0))],[(rx,.cells #[.slice pl l.length cl] 128 (0,0))],ql]) Z<|Run.heapTo (H' := [[(b1,.cells #[.int .u32 0,.int .i64 0,.string ⟨#[]⟩,.int .i64 0,.int .i64 0,.int .i64 0,.int .i64 0,.int .i64 0] 43 (0,0))],[(rx,.cells #[.slice pl l.length cl] 128 (0,0))],ql]) Z<|?_
 refine Za Z<|Ze<|Zg<|Zs<|Zs<|Zr<|?_
 rcases hk with ⟨rfl,hg⟩ | ⟨i1,rfl,hi1,ha,hg⟩
 ·refine Zm Z<|Zv (Y.int (r := .bool true) Z Z Z)<|Ze<|Zg<|Tr.cond_t Z Z<|Zs<|Zr<|Zv (Y.buildS (l := []) xzo43 xpl43 Z Z)<|Run.store (s := [(b1,.cells #[.int .u32 0,.int .i64 0,.string ⟨#[]⟩,.int .i64 0,.int .i64 0,.int .i64 0,.int .i64 0,.int .i64 0] 43 (0,0))]) Z Z xsz43 (i := 0) Z Z (le Z) Z Z<|Za Z<|Ze<|Zg<|Zu<|Zn<|?_
  exact Ex.retCell2 [1,1] rfl rfl rfl xag43 (Kn.at 0 rfl) rfl ⟨by unfold Le.getE; rw [hg]; rfl,rfl,rfl⟩
 refine Zm Z<|Zv (Y.int Z Z Z)<|Ze<|Zg<|Tr.cond_f rfl (decide_eq_false W)<|Zt<|Zg<|Zs<|Zr<|Zm Z<|Zv (Y.nilCheck Z)<|Zv (Y.fieldAddr Z xfo128_0)<|Zv (Y.load Z xts22 (Kn.at 1 Z) Z)<|Zm Z<|Zv (Y.idxR i1 Z Z xes22 (hl.rd 2 rfl) W W)<|Zv (Y.ldRA (vs := [.int .u32 ((l.getD i1 Le.dflt).addr),.int .i64 ((l.getD i1 Le.dflt).bind),.string ((l.getD i1 Le.dflt).client),.int .i64 ((l.getD i1 Le.dflt).till),.int .i64 ((l.getD i1 Le.dflt).acked),.int .i64 ((l.getD i1 Le.dflt).told),.int .i64 ((l.getD i1 Le.dflt).at_),.int .i64 ((l.getD i1 Le.dflt).ver)]) rfl xag43 (hl.rd 2 rfl) rfl WD (fun o ho => flatm_atA Le.len W Le.dflt o ho))<|?_
 refine Run.store (s := [(b1,.cells #[.int .u32 ((l.getD i1 Le.dflt).addr),.int .i64 ((l.getD i1 Le.dflt).bind),.string ((l.getD i1 Le.dflt).client),.int .i64 ((l.getD i1 Le.dflt).till),.int .i64 ((l.getD i1 Le.dflt).acked),.int .i64 ((l.getD i1 Le.dflt).told),.int .i64 ((l.getD i1 Le.dflt).at_),.int .i64 ((l.getD i1 Le.dflt).ver)] 43 (0,0))]) Z Z xsz43 (i := 0) Z Z (le Z) Z Z<|Za Z<|Ze<|Zg<|Zu<|?_
 exact Ex.retCell2 [1,1] rfl rfl rfl xag43 (Kn.at 0 rfl) rfl ⟨by unfold Le.getE; rw [hg]; rfl,rfl,rfl⟩
theorem rset_c {V : Vw} {l : List Le} {rx : Nat} {pl : Option Addr} {cl : Nat} {ql : Sg} (hl : Ow 43 8 (.slice pl l.length cl) l.length (l.flatMap Le.cells) ql) (hlm : l.length <= 256) (hr : Le.Ris l) {q : Le} (hs : q.client.size <= 9223372036854775807)  : Does Tryz.prog 36 [(pZ rx),.agg #[.int .u32 q.addr,.int .i64 q.bind,.string q.client,.int .i64 q.till,.int .i64 q.acked,.int .i64 q.told,.int .i64 q.at_,.int .i64 q.ver]] V [[(rx,.cells #[.slice pl l.length cl] 128 (0,0))],ql] (fun v V' H' => V' = V /\ v = .int .i64 (Le.setE l q).1 /\ ∃ q2,Ow 43 8 (.slice pl (Le.setE l q).2.length cl) (Le.setE l q).2.length ((Le.setE l q).2.flatMap Le.cells) q2 /\ H' = [[(rx,.cells #[.slice pl (Le.setE l q).2.length cl] 128 (0,0))],q2]) := by
 have hcl := hl.cap
 refine Does.intro Tryz.func36 rfl rfl (le rfl) (fun B => ?_)
 refine Zs<|Zr<|?_
 refine Run.box rfl (lt rfl) (fun b1 => ?_)
 refine Za Z<|Ze<|Zg<|Zs<|Zr<|Zv (Y.loadAgg Z xag43 (Kn.at 0 Z) Z)<|Yc Z Z Z (rright11_h (q := q) hs)<|Za Z<|Ze<|Zg<|Zs<|Zs<|Zr<|Zm Z<|Zv (Y.not Z)<|Ze<|?_
 refine Zg ?_
 refine Zq (Le.right q) (fun h2 g2 => ?_) fun h2 g2 => ?_
 ·refine Tr.cond_f Z (congrArg Bool.not h2)<|Zt<|Zg<|Zs<|Zr<|Zm Z<|Zv (Y.fieldAddr Z xfo43_0)<|Zv (Y.load Z xts24 (Kn.at 0 Z) Z)<|?_
  refine Yk [1,1] Z Z Z (rfind_c (a := q.addr) hl hlm) (fun v9 V9 H9 hle9 hR => ?_)
  obtain ⟨hV,rfl,k,rfl,hk⟩ := hR; replace hV := hV.symm; subst hV
  refine Run.heapTo (H' := [[(b1,.cells #[.int .u32 q.addr,.int .i64 q.bind,.string q.client,.int .i64 q.till,.int .i64 q.acked,.int .i64 q.told,.int .i64 q.at_,.int .i64 q.ver] 43 (0,0))],[(rx,.cells #[.slice pl l.length cl] 128 (0,0))],ql]) Z<|Run.heapTo (H' := [[(b1,.cells #[.int .u32 q.addr,.int .i64 q.bind,.string q.client,.int .i64 q.till,.int .i64 q.acked,.int .i64 q.told,.int .i64 q.at_,.int .i64 q.ver] 43 (0,0))],[(rx,.cells #[.slice pl l.length cl] 128 (0,0))],ql]) Z<|?_
  refine Za Z<|Ze<|Zg<|Zs<|Zs<|Zr<|?_
  rcases hk with ⟨rfl,hg⟩ | ⟨i1,rfl,hi1,ha,hg⟩
  ·refine Zm Z<|Zv (Y.int (r := .bool true) Z Z Z)<|Ze<|Zg<|Tr.cond_t Z Z<|Zs<|Zr<|Za Z<|Ze<|Zg<|Zu<|Zn<|Ex.keepTo (H' := [[(rx,.cells #[.slice pl l.length cl] 128 (0,0))],ql]) [1,1] Z<|?_
   exact Ex.ret1 rfl rfl  ⟨rfl,by rw [Le.setE_none h2 hg],_,by rw [Le.setE_none h2 hg]; exact hl,by rw [Le.setE_none h2 hg]⟩
  refine Zm Z<|Zv (Y.int Z Z Z)<|Ze<|Zg<|Tr.cond_f rfl (decide_eq_false W)<|Zt<|Zg<|Zs<|Tr.anyL [(rx,.cells #[.slice pl l.length cl] 128 (0,0)),(b1,.cells #[.int .u32 q.addr,.int .i64 q.bind,.string q.client,.int .i64 q.till,.int .i64 q.acked,.int .i64 q.told,.int .i64 q.at_,.int .i64 q.ver] 43 (0,0))] 7 xmo<|Zh 0 Z (fun _ => (Y.move rfl))<|Zh 1 Z (fun _ => (Y.nilCheck rfl))<|Zh 2 Z (fun _ => (Y.fieldAddr rfl xfo128_0))<|?_
  refine ZH 3 0 Z Z (fun _ => (Y.load rfl xts22 Kn.vk1 rfl))<|Zh 4 Z (fun _ => (Y.move rfl))<|ZH 5 1 Z Z (fun _ => (Y.loadAgg rfl xag43 Kn.vk1 rfl))<|Zh 6 Z (fun _ => (Y.idxO i1 rfl rfl xes22 hl W W))<|?_
  refine RunL.one (i := 7) WK rfl  ?_
  refine Run.stOA (u := q) (i := i1) (j := 2) Le.enc1 WD rfl rfl xsz43 hl rfl W rfl (fun s3 ho4 => ?_)
  refine Run.heapTo (H' := [[(b1,.cells #[.int .u32 q.addr,.int .i64 q.bind,.string q.client,.int .i64 q.till,.int .i64 q.acked,.int .i64 q.told,.int .i64 q.at_,.int .i64 q.ver] 43 (0,0))],[(rx,.cells #[.slice pl l.length cl] 128 (0,0))],s3]) Z<|Ze<|Ex.anyLz Z<|RunL.done WK<|Zg<|Zs<|Zr<|Za Z<|Ze<|Zg<|Zu<|Ex.keepTo (H' := [[(rx,.cells #[.slice pl l.length cl] 128 (0,0))],s3]) [1,1] Z<|?_
  have e9 : (Le.setE l q).2 = l.set i1 q := by rw [Le.setE_ok h2 hg]; exact (Le.put_at hr hi1 ha).symm
  have n9 : (Le.setE l q).2.length = l.length := Le.setE_len l q
  exact Ex.ret1 rfl rfl  ⟨rfl,by rw [Le.setE_ok h2 hg],_,by rw [n9,e9]; exact ho4,by rw [n9]⟩
 refine Tr.cond_t Z (congrArg Bool.not h2)<|Zs<|Zr<|Za Z<|Ze<|Zg<|Zu<|Zn<|Ex.keepTo (H' := [[(rx,.cells #[.slice pl l.length cl] 128 (0,0))],ql]) [1,1] Z<|?_
 exact Ex.ret1 rfl rfl  ⟨rfl,by rw [Le.setE_wrong h2],_,by rw [Le.setE_wrong h2]; exact hl,by rw [Le.setE_wrong h2]⟩
theorem rnew12_c {V : Vw} {rs : List Rg} {p : Option Addr} {c : Nat} (hv : Rd V [] 2 (.slice p rs.length c) rs.length (rs.flatMap Rg.cells)) (hlm : rs.length <= 1000) (hok : Rg.Oks rs)  : Does Tryz.prog 35 [.slice p rs.length c] V [] (fun v V' H' => V.le V' /\ ((Rg.pool rs).2 ≠ 0 /\ v = .tuple #[.pointer none,.int .i64 (Rg.pool rs).2] /\ H' = [] \/ (Rg.pool rs).2 = 0 /\ ∃ rx pl cl ql,v = .tuple #[(pZ rx),.int .i64 0] /\ Ow 43 8 (.slice pl (Le.new (Rg.adr (Rg.pool rs).1)).length cl) (Le.new (Rg.adr (Rg.pool rs).1)).length ((Le.new (Rg.adr (Rg.pool rs).1)).flatMap Le.cells) ql /\ H' = [[(rx,.cells #[.slice pl (Le.new (Rg.adr (Rg.pool rs).1)).length cl] 128 (0,0))],ql])) := by
 refine Does.intro Tryz.func35 rfl rfl (le rfl) (fun B => ?_)
 refine Zs<|Zr<|Za Z<|Za Z<|Ze<|Zg<|Zs<|Zr<|Zm Z<|?_
 refine Yk [] Z Z Z (rpool_h hv hlm hok) (fun v3 V3 H3 hle3 hR => ?_)
 obtain ⟨hle3b,rfl,w3,rfl,hp3⟩ := hR
 obtain ⟨pp,pc,rfl,_⟩ := hp3.form
 have hpl := Rg.pool_len rs
 have hpo := Rg.pool_oks hok
 refine Run.heapTo (H' := []) Z<|Run.heapTo (H' := []) Z<|Zm Z<|Zv (Y.extract Z Z)<|Zv (Y.extract Z Z)<|Za Z<|Za Z<|Ze<|Zg<|Zs<|Zs<|Zr<|Zm Z<|Zv (Y.int Z Z Z)<|Ze<|Zg<|?_
 refine Zq (((Rg.pool rs).2) != 0) (fun h1 g1 => ?_) fun h1 g1 => ?_
 ·refine Tr.cond_t Z h1<|Zs<|Zr<|Zm Z<|Za Z<|Za Z<|Ze<|Zg<|Zu<|Zn<|Ex.keep []<|?_
  exact Ex.ret2 rfl rfl rfl  ⟨hle3b,.inl ⟨by omega,rfl,rfl⟩⟩
 refine Tr.cond_f Z h1<|Zt<|Zg<|Zs<|Zr<|?_
 have hp0 : (Rg.pool rs).2 = 0 := by omega
 obtain ⟨hcan,hcnt⟩ := Rg.pool_can hp0
 have hup := Rg.adr_up hcan
 have hce := Rg.cnt_adr hcan.1
 have hc256 : (Rg.adr (Rg.pool rs).1).length <= 256 := by omega
 refine Run.nilseg<|Zv (Y.buildS (l := []) xzo128 xpl128 Z Z)<|?_
 refine Run.box rfl (lt rfl) (fun b2 => ?_)
 refine Za Z<|Ze<|Zg<|Zs<|Zs<|Zr<|Run.keepTo (H' := [[(b2,.cells #[.slice none 0 0] 128 (0,0))],[]]) [0,0] Z<|Za Z<|Ze<|Zg<|Zb<|?_
 refine ZL (X := Nat × Option Addr × Nat × Nat × Sg) (fun z0 => V3) (fun z0 => [[(b2,.cells #[.slice z0.2.1 z0.2.2.1 z0.2.2.2.1] 128 (0,0))],z0.2.2.2.2]) (fun z0 => [(4,.slice pp (Rg.pool rs).1.length pc),(6,(pZ b2)),(7,.int .i64 (z0.1 : Int))]) (fun z0 => Ow 43 8 (.slice z0.2.1 z0.2.2.1 z0.2.2.2.1) z0.2.2.1 ((Le.new ((Rg.adr (Rg.pool rs).1).take z0.1)).flatMap Le.cells) z0.2.2.2.2 /\ z0.2.2.1 = (Le.new ((Rg.adr (Rg.pool rs).1).take z0.1)).length /\ z0.1 <= (Rg.adr (Rg.pool rs).1).length) (fun z0 => (Rg.adr (Rg.pool rs).1).length - z0.1) (⟨0,none,0,0,[]⟩ : Nat × Option Addr × Nat × Nat × Sg) ⟨Ow.nil _ _,rfl,Nat.zero_le _⟩ ?_
 rintro ⟨i1,p1,n1,k1,q1⟩ ⟨how,hn,hi⟩
 try dsimp only at how hn hi ⊢
 have hnl : (Le.new ((Rg.adr (Rg.pool rs).1).take i1)).length = i1 := by rw [Le.new_len,List.length_take]; omega
 have hcp := how.cap
 refine Zs<|Zs<|Zr<|Zm Z<|Zm Z<|Yc Z Z Z (rcount_h hp3.of_nil W hpo)<|Zv (Y.int Z Z Z)<|Ze<|Zg<|?_
 refine Zq (decide ((i1 : Int) < (Rg.cnt (Rg.pool rs).1))) (fun h3 g3 => ?_) fun h3 g3 => ?_
 ·refine Tr.cond_t Z h3<|Zt<|Zg<|Zs<|Zb<|Zs<|Zr<|Zm Z<|Zm Z<|Yc Z Z Z (rat_h (n := (i1 : Int)) W hcan.1 hp3.of_nil W hpo)<|Zm Z<|Zv (Y.extract Z Z)<|Zv (Y.extract Z Z)<|Za Z<|?_
  have hat := Rg.at_in2 (i := i1) (show i1 < (Rg.adr (Rg.pool rs).1).length by omega)
  rw [hat]
  refine Za Z<|Ze<|Zg<|Tr.anyL [(b2,.cells #[.slice p1 n1 k1] 128 (0,0))] 11 xmo<|Zh 0 Z (fun _ => (Y.move rfl))<|Zh 1 Z (fun _ => (Y.move rfl))<|Zh 2 Z (fun _ => (Y.nilCheck rfl))<|Zh 3 Z (fun _ => (Y.fieldAddr rfl xfo128_0))<|ZH 4 0 Z Z (fun _ => (Y.load rfl xts22 Kn.vk1 rfl))<|Zh 5 Z (fun _ => (Y.move rfl))<|?_
  refine RunL.one (i := 6) WK rfl  ?_
  refine Yc Z Z Z rbare_c_h<|Ze<|ZF<|?_
  refine RunL.one (i := 7) WK rfl  ?_
  refine Run.buildSlice (l := [(0,.tmp 38)]) (r := [.int .u32 ((Rg.adr (Rg.pool rs).1).getD i1 0),.int .i64 0,.string ⟨#[]⟩,.int .i64 0,.int .i64 0,.int .i64 0,.int .i64 0,.int .i64 0]) xes22 xzo43 rfl WD rfl rfl WD (lt rfl) (fun b4 => ?_)
  refine Ze<|ZF<|?_
  refine RunL.one (i := 8) WK rfl  ?_
  refine Run.append (n := n1) (m := 1) (xs := (Le.new ((Rg.adr (Rg.pool rs).1).take i1)).flatMap Le.cells) (ys := [.int .u32 ((Rg.adr (Rg.pool rs).1).getD i1 0),.int .i64 0,.string ⟨#[]⟩,.int .i64 0,.int .i64 0,.int .i64 0,.int .i64 0,.int .i64 0]) rfl rfl xes22 xzi43 WD (j := 2) rfl how (Src.of_rd xes22 (Rd.one (Kn.at 0 rfl) rfl)) W W rfl (lt rfl) (fun v5 s6 ho7 hf => ?_)
  obtain ⟨p5,c5,rfl⟩ := hf
  replace ho7 := Ow.app1 (f := Le.cells) (l := Le.new ((Rg.adr (Rg.pool rs).1).take i1)) (x := (⟨(Rg.adr (Rg.pool rs).1).getD i1 0,0,⟨#[]⟩,0,0,0,0,0⟩ : Le)) ho7
  refine Ze<|ZF<|?_
  refine RunL.one (i := 9) WK rfl  ?_
  refine Zv (Y.nilCheck Z)<|Ze<|ZF<|Zh 10 Z (fun _ => (Y.fieldAddr rfl xfo128_0))<|?_
  refine RunL.one (i := 11) WK rfl  ?_
  refine Run.store (s := [(b2,.cells #[.slice p5 (n1 + 1) c5] 128 (0,0))]) Z Z xsz22 (i := 1) Z Z (le Z) Z Z<|Ze<|Ex.anyLz Z<|RunL.done WK<|Zc<|Zg<|Zr<|Zm Z<|Zv (Y.add Z Z W)<|Za Z<|Ze<|Ex.keep [1,1]<|?_
  exact ZR (⟨i1 + 1,p5,(n1 + 1),c5,s6⟩ : Nat × Option Addr × Nat × Nat × Sg) ⟨by rw [Le.new_take W]; exact ho7,by rw [Le.new_take W,List.length_append,List.length_singleton]; (try dsimp only); omega,by omega⟩ (by dsimp only; omega)
 refine Tr.cond_f Z h3<|Zx<|Zy<|Zy<|Zi<|Zg<|Zs<|Zr<|Zm Z<|Za Z<|Za Z<|Ze<|Zg<|Zu<|?_
 obtain rfl : i1 = (Rg.adr (Rg.pool rs).1).length := by omega
 rw [List.take_length] at how hn
 refine Ex.keepTo (H' := [[(b2,.cells #[.slice p1 n1 k1] 128 (0,0))],q1]) [0,0] Z ?_
 exact Ex.ret2 rfl rfl rfl  ⟨hle3b,.inr ⟨hp0,b2,_,_,q1,rfl,by rw [<- hn]; exact how,by rw [<- hn]⟩⟩
end Go.Proofs.YtfgblingojgafaaGreat
namespace Go.Proofs.YtfgblingojgafaaGreat
open Go Go.K
attribute [local irreducible] Code.wp wpList Calls wpQuiet
theorem site20_c {V : Vw} {id : Int}  : Does Tryz.prog 10 [.int .i64 id] V [] (fun u V' H' => V.le V' /\ H' = [] /\ ∃ pv,u = .agg ((Eg.si id).cells pv) /\ Rd V' [] 2 pv 1 ([(⟨1,6⟩ : Rg)].flatMap Rg.cells)) := by
 refine Does.intro Tryz.func10 rfl rfl (le rfl) (fun B => ?_)
 refine Zs<|Zr<|?_
 refine Run.alloc xzo35 (lt rfl) (fun b1 => ?_)
 refine Ze<|Zg<|Zs<|Zr<|Zm Z<|Zv (Y.buildS (l := [(0,.const (.int .u32 1)),(1,.const (.int .u32 6))]) xzo66 xpl66 Z Z)<|?_
 refine Run.buildSlice (l := [(0,.tmp 4)]) xes33 xzo66 rfl WD rfl rfl WD (lt rfl) (fun b2 => ?_)
 refine Zv (Y.buildS (l := [(0,.tmp 3),(1,.const (.int .i64 10)),(2,.const (.int .i64 4)),(3,.const (.int .u32 9)),(4,.const (.int .i64 100)),(5,.const (.int .i64 1000)),(6,.const (.int .i64 256)),(7,.const (.float .f64 4602678819172646912)),(8,.const (.float .f64 4591870180066957722)),(9,.const (.float .f64 4602678819172646912)),(10,.const (.float .f64 4606056518893174784)),(11,.tmp 5),(12,.const (.int .i64 10000))]) (r := [.int .i64 id,.int .i64 10,.int .i64 4,.int .u32 9,.int .i64 100,.int .i64 1000,.int .i64 256,.float .f64 4602678819172646912,.float .f64 4591870180066957722,.float .f64 4602678819172646912,.float .f64 4606056518893174784,.slice (some ⟨b2,0,none⟩) 1 1,.int .i64 10000]) xzo35 xpl35 rfl WK) ?_
 refine Run.stAll (l2 := [.int .i64 id,.int .i64 10,.int .i64 4,.int .u32 9,.int .i64 100,.int .i64 1000,.int .i64 256,.float .f64 4602678819172646912,.float .f64 4591870180066957722,.float .f64 4602678819172646912,.float .f64 4606056518893174784,.slice (some ⟨b2,0,none⟩) 1 1,.int .i64 10000]) (j := 1) Z Z xsz35 Z Z Z Z<|Run.heapTo (H' := [[(b2,.cells #[.int .u32 1,.int .u32 6] 66 (0,0))],[(b1,.cells #[.int .i64 id,.int .i64 10,.int .i64 4,.int .u32 9,.int .i64 100,.int .i64 1000,.int .i64 256,.float .f64 4602678819172646912,.float .f64 4591870180066957722,.float .f64 4602678819172646912,.float .f64 4606056518893174784,.slice (some ⟨b2,0,none⟩) 1 1,.int .i64 10000] 35 (0,0))]]) Z<|?_
 refine Ze<|Zg<|Zu<|Ex.keepTo (H' := [[(b2,.cells #[.int .u32 1,.int .u32 6] 66 (0,0))],[(b1,.cells #[.int .i64 id,.int .i64 10,.int .i64 4,.int .u32 9,.int .i64 100,.int .i64 1000,.int .i64 256,.float .f64 4602678819172646912,.float .f64 4591870180066957722,.float .f64 4602678819172646912,.float .f64 4606056518893174784,.slice (some ⟨b2,0,none⟩) 1 1,.int .i64 10000] 35 (0,0))]]) [0,0] Z<|?_
 refine Ex.show (fun V3 hleV3 hshV3 => ?_)
 have hpo := (Ow.lit (e := 66) (k := 2) (b := b2) (n := 1) (cur := #[.int .u32 1,.int .u32 6]) rfl WD).shows _ hshV3
 have hVle := hleV3
 exact Ex.retCell [] rfl rfl xag35 (Kn.at 0 rfl) rfl ⟨hVle,rfl,.slice (some ⟨b2,0,none⟩) 1 1,rfl,hpo⟩
theorem long20_c {V : Vw} {x : Si} {pp : Option Addr} {cp : Nat} {c : Eg.Cs} {ls : List Le} {p2 : Option Addr} {c2 : Nat} (hv2 : Rd V [] 8 (.slice p2 ls.length c2) ls.length (ls.flatMap Le.cells)) (hl9 : ls.length <= 9223372036854775807) (hw9 : Rd V [] 1 c.hv c.p.hw.length (c.p.hw.map byteV)) (ho9 : Pc.Rs V c.ov c.p.os)  : Does Tryz.prog 11 [.agg (x.cells (.slice pp x.pool.length cp)),.slice p2 ls.length c2,.agg c.cells] V [] (Pv (.bool (Eg.long c.p ls x.pool.length)) V []) := by
 refine Does.intro Tryz.func11 rfl rfl (le rfl) (fun B => ?_)
 refine Zs<|Zr<|?_
 refine Run.box rfl (lt rfl) (fun b1 => ?_)
 refine Run.box rfl (lt rfl) (fun b2 => ?_)
 refine Za Z<|Ze<|Zg<|Zs<|Zr<|Zv (Y.fieldAddr Z xfo30_3)<|Zv (Y.loadAgg Z xag28 (Kn.at 0 Z) Z)<|Yc Z Z Z (few_h hw9 ho9)<|Za Z<|Ze<|Zg<|Zs<|Zs<|Zr<|Za Z<|Ze<|?_
 refine Zg<|Zb<|?_
 refine ZL (X := Nat) (fun z0 => V) (fun z0 => [[(b2,.cells (Eg.Cs.cells c) 30 (0,0))],[(b1,.cells (Si.cells x (.slice pp x.pool.length cp)) 35 (0,0))]]) (fun z0 => [(1,.slice p2 ls.length c2),(3,(pZ b1)),(7,.bool (Pc.few c.p)),(8,.int .i64 (z0 : Int))]) (fun z0 => z0 <= ls.length /\ ∀ j,j < z0 -> ¬ (ls.getD j Le.dflt).client.size > 100) (fun z0 => ls.length - z0) (0 : Nat) ⟨Nat.zero_le _,fun j hj => absurd hj (Nat.not_lt_zero j)⟩ ?_
 rintro i1 ⟨hi,hno⟩
 refine Zs<|Zs<|Zr<|Zm Z<|Zm Z<|Zv (Y.lenSl Z xes22)<|Zv (Y.int Z Z Z)<|Ze<|Zg<|?_
 refine Zq (decide ((i1 : Int) < ((ls.length : Nat) : Int))) (fun h3 g3 => ?_) fun h3 g3 => ?_
 ·refine Tr.cond_t Z h3<|Zt<|Zg<|Zs<|Zb<|Zs<|Zr<|Zm Z<|Zm Z<|Zv (Y.idxR i1 Z Z xes22 hv2.of_nil W W)<|Zv (Y.fieldR Z xfo43_2 hv2.of_nil W)<|Zv (Y.ldR Z xts9 hv2.of_nil (flatm_at Le.len W Le.dflt WD rfl))<|Zv (Y.lenStr Z xst9)<|Zv (Y.int Z Z Z)<|Ze<|Zg<|?_
  refine Zq (decide ((((ls.getD i1 Le.dflt).client).size : Int) > 100)) (fun h4 g4 => ?_) fun h4 g4 => ?_
  ·refine Tr.cond_t Z h4<|Zs<|Zr<|Za Z<|Ze<|Zg<|Zu<|Zk<|Zn<|Zn<|Zk<|Zn<|Ex.keep []<|?_
   exact Ex.ret1 rfl rfl  ⟨by rw [Eg.long_at (i := i1) W W],rfl,rfl⟩
  refine Tr.cond_f Z h4<|Zt<|Zc<|Zg<|Zr<|Zm Z<|Zv (Y.add Z Z W)<|Za Z<|Ze<|?_
  exact ZR (i1 + 1 : Nat) ⟨by omega,upto_succ hno W⟩ W
 refine Tr.cond_f Z h3<|Zx<|Zy<|Zy<|Zi<|Zg<|Zs<|Zr<|Zm Z<|Zv (Y.not Z)<|Zm Z<|?_
 refine Zq (Pc.few c.p) (fun h5 g5 => ?_) fun h5 g5 => ?_
 ·refine Zp (congrArg Bool.not h5)<|Zm Z<|Zp (congrArg Bool.not h5)<|Zv (Y.lenSl Z xes22)<|Zp (congrArg Bool.not h5)<|Zv (Y.int Z Z Z)<|Zv (Y.pick_f Z (congrArg Bool.not h5) Z)<|Zm Z<|?_
  refine Zq (decide (((ls.length : Nat) : Int) > 100)) (fun h6 g6 => ?_) fun h6 g6 => ?_
  ·refine Zo h6 Z<|Zo h6 Z<|Zo h6 Z<|Zo h6 Z<|Zv (Y.pick_t Z h6 Z)<|Za Z<|Ze<|Zg<|Zu<|Ex.keep []<|?_
   exact Ex.ret1 rfl rfl  ⟨congrArg Value.bool (by rw [Eg.long_no fun j hj => hno j W,decide_eq_true (p := ls.length > 100) W,h5]; rfl),rfl,rfl⟩
  refine Zp h6<|Zv (Y.fieldAddr Z xfo35_11)<|Zp h6<|Zv (Y.load Z xts33 (Kn.at 1 Z) Z)<|Zp h6<|Zv (Y.lenSl Z xes33)<|Zp h6<|Zv (Y.int Z Z Z)<|Zv (Y.pick_f Z h6 Z)<|Za Z<|Ze<|Zg<|Zu<|Ex.keep []<|?_
  exact Ex.ret1 rfl rfl  ⟨congrArg Value.bool (by rw [Eg.long_no fun j hj => hno j W,decide_eq_false (p := ls.length > 100) W,h5,show (decide (((x.pool.length : Nat) : Int) > 20)) = decide (x.pool.length > 20) from decide_eq_decide.2 W]; rfl),rfl,rfl⟩
 refine Zo (congrArg Bool.not h5) Z<|Zo (congrArg Bool.not h5) Z<|Zo (congrArg Bool.not h5) Z<|Zv (Y.pick_t Z (congrArg Bool.not h5) Z)<|Zm Z<|Zo Z Z<|Zo Z Z<|Zo Z Z<|Zo Z Z<|Zv (Y.pick_t Z Z Z)<|Za Z<|Ze<|Zg<|Zu<|Ex.keep []<|?_
 exact Ex.ret1 rfl rfl  ⟨congrArg Value.bool (by rw [Eg.long_no fun j hj => hno j W,h5]; rfl),rfl,rfl⟩
theorem made20_c {V : Vw} {x : Si} {pp : Option Addr} {cp : Nat} (hv : Rd V [] 2 (.slice pp x.pool.length cp) x.pool.length (x.pool.flatMap Rg.cells)) (hlm : x.pool.length <= 1000) (hpk : Rg.Oks x.pool) {ls : List Le} {p2 : Option Addr} {c2 : Nat} (hv2 : Rd V [] 8 (.slice p2 ls.length c2) ls.length (ls.flatMap Le.cells)) (hl9 : ls.length <= 9223372036854775807) (hcs : ∀ x,x ∈ ls -> x.client.size <= 9223372036854775807)  : Does Tryz.prog 12 [.agg (x.cells (.slice pp x.pool.length cp)),.slice p2 ls.length c2] V [] (fun v V' H' => V.le V' /\ ((Rg.pool x.pool).2 ≠ 0 /\ v = .tuple #[.pointer none,.pointer none] /\ H' = [] \/ (Rg.pool x.pool).2 = 0 /\ ∃ l tx rx s pl cl ql,v = .tuple #[(pZ tx),(pZ rx)] /\ Le.In 99 l tx s /\ Ow 43 8 (.slice pl l.length cl) l.length (l.flatMap Le.cells) ql /\ l.map Le.addr = Rg.adr (Rg.pool x.pool).1 /\ Eg.Ab l /\ H' = [s,[(rx,.cells #[.slice pl l.length cl] 128 (0,0))],ql])) := by
 refine Does.intro Tryz.func12 rfl rfl (le rfl) (fun B => ?_)
 refine Zs<|Zr<|?_
 refine Run.box rfl (lt rfl) (fun b1 => ?_)
 refine Za Z<|Za Z<|Ze<|Zg<|Zs<|Zr<|?_
 by_cases hp0 : (Rg.pool x.pool).2 = 0
 ·refine Zv (Y.fieldAddr Z xfo35_11)<|Zv (Y.load Z xts33 (Kn.at 0 Z) Z)<|?_
  refine Yk [] Z Z Z (new_t (rs := x.pool) hv hlm hpk) (fun v2 V2 H2 hle2 hR2 => ?_)
  rcases hR2 with ⟨_,⟨hpn,_⟩ | ⟨_,tx,s0,rfl,hin0,rfl⟩⟩
  · exact absurd hp0 hpn
  replace hv := hv.le hle2
  replace hv2 := hv2.le hle2
  have hVle := hle2
  refine Run.heapTo (H' := [[(b1,.cells (Si.cells x (.slice pp x.pool.length cp)) 35 (0,0))],s0]) Z<|Run.heapTo (H' := [[(b1,.cells (Si.cells x (.slice pp x.pool.length cp)) 35 (0,0))],s0]) Z<|?_
  refine Zm Z<|Zv (Y.extract Z Z)<|Zv (Y.extract Z Z)<|Za Z<|Za Z<|Ze<|Zg<|Zs<|Zr<|Zv (Y.fieldAddr Z xfo35_11)<|Zv (Y.load Z xts33 (Kn.at 0 Z) Z)<|?_
  refine Yk [] Z Z Z (rnew12_c (rs := x.pool) hv hlm hpk) (fun v3 V3 H3 hle3 hR3 => ?_)
  rcases hR3 with ⟨_,⟨hpn,_⟩ | ⟨_,rx,pl,cl,ql0,rfl,hl0,rfl⟩⟩
  · exact absurd hp0 hpn
  replace hv := hv.le hle3
  replace hv2 := hv2.le hle3
  replace hVle := Vw.le_trans hVle hle3
  refine Run.heapTo (H' := [[(b1,.cells (Si.cells x (.slice pp x.pool.length cp)) 35 (0,0))],s0,[(rx,.cells #[.slice pl (Le.new (Rg.adr (Rg.pool x.pool).1)).length cl] 128 (0,0))],ql0]) Z ?_
  refine Zm Z<|Zv (Y.extract Z Z)<|Zv (Y.extract Z Z)<|Za Z<|Za Z<|Ze<|Zg<|Zs<|Zs<|Zr<|Run.keepTo (H' := [s0,[(rx,.cells #[.slice pl (Le.new (Rg.adr (Rg.pool x.pool).1)).length cl] 128 (0,0))],ql0]) [1,1,1] Z<|Za Z<|Ze<|Zg<|Zb<|?_
  refine ZL (X := Nat × List Le × Sg × Sg) (fun z0 => V3) (fun z0 => [z0.2.2.1,[(rx,.cells #[.slice pl z0.2.1.length cl] 128 (0,0))],z0.2.2.2]) (fun z0 => [(1,.slice p2 ls.length c2),(6,(pZ tx)),(8,(pZ rx)),(10,.int .i64 (z0.1 : Int))]) (fun z0 => Le.In 99 z0.2.1 tx z0.2.2.1 /\ Ow 43 8 (.slice pl z0.2.1.length cl) z0.2.1.length (z0.2.1.flatMap Le.cells) z0.2.2.2 /\ z0.2.1.map Le.addr = Rg.adr (Rg.pool x.pool).1 /\ Eg.Ab z0.2.1 /\ z0.1 <= ls.length) (fun z0 => ls.length - z0.1) (⟨0,Le.new (Rg.adr (Rg.pool x.pool).1),s0,ql0⟩ : Nat × List Le × Sg × Sg) ⟨hin0,hl0,Eg.new_addrs _,Eg.new_ab _,Nat.zero_le _⟩ ?_
  rintro ⟨i1,l,s1,ql⟩ ⟨hin,hl,had,hab,hi⟩
  try dsimp only at hin hl had hab hi ⊢
  refine Zs<|Zs<|Zr<|Zm Z<|Zm Z<|Zv (Y.lenSl Z xes22)<|Zv (Y.int Z Z Z)<|Zm Z<|?_
  refine Zq (decide ((i1 : Int) < ((ls.length : Nat) : Int))) (fun h4 g4 => ?_) fun h4 g4 => ?_
  ·refine Zp h4<|Zm Z<|Zp h4<|Zv (Y.neNil Z Z xpt38)<|Zv (Y.pick_t Z h4 Z)<|Zm Z<|Zp Z<|Zm Z<|Zp Z<|Zv (Y.neNil Z Z xpt39)<|Zv (Y.pick_t Z Z Z)<|Ze<|Zg<|Tr.cond_t Z Z<|Zt<|Zg<|?_
   refine Zs<|Zb<|Zs<|Zr<|?_
   obtain ⟨hr,hlm2,_⟩ := id hin
   refine Zm Z<|Zm Z<|Zm Z<|Zv (Y.idxR i1 Z Z xes22 hv2.of_nil W W)<|Zv (Y.ldRA (vs := Le.cells (ls.getD i1 Le.dflt)) rfl xag43 hv2.of_nil rfl WD (fun o ho => flatm_atA Le.len W Le.dflt o ho))<|?_
   refine Yk [0] Z Z Z (set_o (q := (ls.getD i1 Le.dflt)) hin (hcs _ (Le.mem_getD W))) (fun v5 V5 H5 hle5 hR5 => ?_)
   obtain ⟨hV,rfl,sb5,hin5,rfl⟩ := hR5; replace hV := hV.symm; subst hV
   refine Run.heapTo (H' := [[(rx,.cells #[.slice pl l.length cl] 128 (0,0))],ql,sb5]) Z<|Run.heapTo (H' := [[(rx,.cells #[.slice pl l.length cl] 128 (0,0))],ql,sb5]) Z<|Ze<|Zg<|Zr<|Zm Z<|Zm Z<|Zm Z<|Zv (Y.idxR i1 Z Z xes22 hv2.of_nil W W)<|Zv (Y.ldRA (vs := Le.cells (ls.getD i1 Le.dflt)) rfl xag43 hv2.of_nil rfl WD (fun o ho => flatm_atA Le.len W Le.dflt o ho))<|?_
   refine Yk [0,0] Z Z Z (rset_c (q := (ls.getD i1 Le.dflt)) hl hlm2 hr (hcs _ (Le.mem_getD W))) (fun v6 V6 H6 hle6 hR6 => ?_)
   obtain ⟨hV,rfl,q6,ho6,rfl⟩ := hR6; replace hV := hV.symm; subst hV
   refine Run.heapTo (H' := [sb5,[(rx,.cells #[.slice pl (Le.setE l (ls.getD i1 Le.dflt)).2.length cl] 128 (0,0))],q6]) Z<|Run.heapTo (H' := [sb5,[(rx,.cells #[.slice pl (Le.setE l (ls.getD i1 Le.dflt)).2.length cl] 128 (0,0))],q6]) Z<|Ze<|Zc<|Zg<|Zr<|Zm Z<|Zv (Y.add Z Z W)<|Za Z<|Ze<|Ex.keep [0,0,0]<|?_
   exact ZR (⟨i1 + 1,(Le.setE l (ls.getD i1 Le.dflt)).2,sb5,q6⟩ : Nat × List Le × Sg × Sg) ⟨hin5,ho6,(Eg.setE_addrs _ _).trans had,Eg.setE_ab hab _,by omega⟩ (by dsimp only; omega)
  refine Zo h4 Z<|Zo h4 Z<|Zv (Y.pick_f Z h4 Z)<|Zm Z<|Zo Z Z<|Zo Z Z<|Zv (Y.pick_f Z Z Z)<|Ze<|Zg<|Tr.cond_f Z Z<|Zx<|Zy<|Zy<|Zi<|Zg<|Zs<|?_
  refine Zr<|Zm Z<|Zm Z<|Za Z<|Za Z<|Ze<|Zg<|Zu<|Ex.keepTo (H' := [s1,[(rx,.cells #[.slice pl l.length cl] 128 (0,0))],ql]) [0,0,0] Z<|?_
  exact Ex.ret2 rfl rfl rfl  ⟨hVle,.inr ⟨hp0,l,tx,rx,s1,pl,cl,ql,rfl,hin,hl,had,hab,rfl⟩⟩
 refine Zv (Y.fieldAddr Z xfo35_11)<|Zv (Y.load Z xts33 (Kn.at 0 Z) Z)<|?_
 refine Yk [] Z Z Z (new_t (rs := x.pool) hv hlm hpk) (fun v7 V7 H7 hle7 hR7 => ?_)
 obtain ⟨_,rfl,rfl⟩ := hR7.2.resolve_right fun h9 => hp0 h9.1
 replace hv := hv.le hle7
 replace hv2 := hv2.le hle7
 have hVle := hle7
 refine Run.heapTo (H' := [[(b1,.cells (Si.cells x (.slice pp x.pool.length cp)) 35 (0,0))]]) Z<|Run.heapTo (H' := [[(b1,.cells (Si.cells x (.slice pp x.pool.length cp)) 35 (0,0))]]) Z<|?_
 refine Zm Z<|Zv (Y.extract Z Z)<|Zv (Y.extract Z Z)<|Za Z<|Za Z<|Ze<|Zg<|Zs<|Zr<|Zv (Y.fieldAddr Z xfo35_11)<|Zv (Y.load Z xts33 (Kn.at 0 Z) Z)<|?_
 refine Yk [] Z Z Z (rnew12_c (rs := x.pool) hv hlm hpk) (fun v8 V8 H8 hle8 hR8 => ?_)
 obtain ⟨_,rfl,rfl⟩ := hR8.2.resolve_right fun h9 => hp0 h9.1
 replace hv := hv.le hle8
 replace hv2 := hv2.le hle8
 replace hVle := Vw.le_trans hVle hle8
 refine Run.heapTo (H' := [[(b1,.cells (Si.cells x (.slice pp x.pool.length cp)) 35 (0,0))]]) Z<|Run.heapTo (H' := [[(b1,.cells (Si.cells x (.slice pp x.pool.length cp)) 35 (0,0))]]) Z<|?_
 refine Zm Z<|Zv (Y.extract Z Z)<|Zv (Y.extract Z Z)<|Za Z<|Za Z<|Ze<|Zg<|Zs<|Zs<|Zr<|Run.keepTo (H' := []) [] Z<|Za Z<|Ze<|Zg<|Zb<|?_
 refine ZL (X := Nat) (fun z0 => V8) (fun z0 => []) (fun z0 => [(1,.slice p2 ls.length c2),(6,.pointer none),(8,.pointer none),(10,.int .i64 (z0 : Int))]) (fun z0 => z0 = 0) (fun z0 => ls.length - z0) (0 : Nat) rfl ?_
 rintro i1 hi
 refine Zs<|Zs<|Zr<|Zm Z<|Zm Z<|Zv (Y.lenSl Z xes22)<|Zv (Y.int Z Z Z)<|Zm Z<|?_
 refine Zq (decide ((i1 : Int) < ((ls.length : Nat) : Int))) (fun h9 g9 => ?_) fun h9 g9 => ?_
 ·refine Zp h9<|Zm Z<|Zp h9<|Zv (Y.neNil Z Z xpt38)<|Zv (Y.pick_t Z h9 Z)<|Zm Z<|Zo Z Z<|Zo Z Z<|Zv (Y.pick_f Z Z Z)<|Ze<|Zg<|Tr.cond_f Z Z<|Zx<|Zy<|Zy<|Zi<|?_
  refine Zg<|Zs<|Zr<|Zm Z<|Zm Z<|Za Z<|Za Z<|Ze<|Zg<|Zu<|Ex.keep []<|?_
  exact Ex.ret2 rfl rfl rfl  ⟨hVle,.inl ⟨hp0,rfl,rfl⟩⟩
 refine Zo h9 Z<|Zo h9 Z<|Zv (Y.pick_f Z h9 Z)<|Zm Z<|Zo Z Z<|Zo Z Z<|Zv (Y.pick_f Z Z Z)<|Ze<|Zg<|Tr.cond_f Z Z<|Zx<|Zy<|Zy<|Zi<|Zg<|Zs<|?_
 refine Zr<|Zm Z<|Zm Z<|Za Z<|Za Z<|Ze<|Zg<|Zu<|Ex.keep []<|?_
 exact Ex.ret2 rfl rfl rfl  ⟨hVle,.inl ⟨hp0,rfl,rfl⟩⟩
set_option maxHeartbeats 1000000 in
theorem awake20_c  {V : Vw} : Does Tryz.prog 9 [] V [] (fun v V' H' => V.le V' /\ H' = [] /\ v = .bool true) := by
 refine Does.intro Tryz.func9 rfl rfl (le rfl) (fun B => ?_)
 refine Zs<|Zr<|Za Z<|Ze<|Zg<|Zs<|Zr<|?_
 refine Yk [] Z Z Z (site20_c (id := 0)) (fun v1 V1 H1 hle1 hR1 => ?_)
 obtain ⟨_,rfl,pv1,rfl,hpv1⟩ := hR1; obtain ⟨pp1,cp1,rfl,_⟩ := hpv1.form
 have hVle := hle1
 refine Run.heapTo (H' := []) Z<|Run.heapTo (H' := []) Z<|Zv (Y.field Z xfs35_11 Z)<|?_
 refine Yk [] Z Z Z (new_t (rs := [⟨1,6⟩]) hpv1 (Nat.le_of_ble_eq_true rfl) Eg.oks6) (fun v2 V2 H2 hle2 hR2 => ?_)
 rw [Eg.pool6] at hR2; dsimp only at hR2; rw [Eg.adr6] at hR2
 rcases hR2 with ⟨_,⟨hpn,_⟩ | ⟨_,tx,sb,rfl,hin,rfl⟩⟩
 · exact absurd rfl hpn
 replace hpv1 := hpv1.le hle2
 replace hVle := Vw.le_trans hVle hle2
 refine Run.heapTo (H' := [sb]) Z<|Run.heapTo (H' := [sb]) Z<|Zm Z<|Zv (Y.extract Z Z)<|Zv (Y.extract Z Z)<|Za Z<|Za Z<|Ze<|Zg<|Zs<|Zs<|Zr<|Zm Z<|Zv (Y.int (r := .bool false) Z Z Z)<|Zm Z<|Zp Z<|?_
 refine Zm Z<|Zp Z<|Zv (Y.eqNil Z Z xpt38)<|Zv (Y.pick_f Z Z Z)<|Ze<|Zg<|Tr.cond_f Z Z<|Zt<|Zg<|Zs<|Zr<|?_
 refine Run.buildSlice (l := [(0,.const (.int .u8 3))]) xes25 xzo5 rfl WD rfl rfl WD (lt rfl) (fun b3 => ?_)
 refine Run.buildSlice (l := [(0,.const (.int .u8 1))]) xes25 xzo5 rfl WD rfl rfl WD (lt rfl) (fun b4 => ?_)
 refine Zv (Y.buildS (l := [(0,.const (.int .i64 53)),(1,.tmp 18)]) xzo81 xpl81 Z Z) ?_
 refine Run.buildSlice (l := [(0,.tmp 19)]) xes26 xzo81 rfl WD rfl rfl WD (lt rfl) (fun b5 => ?_)
 refine Zv (Y.buildS (l := [(0,.const (.int .i64 1)),(1,.const (.int .u32 7)),(8,.tmp 17),(9,.tmp 20)]) xzo28 xpl28 Z Z) ?_
 refine Run.alloc xzo28 (lt rfl) (fun b6 => ?_)
 refine Run.keepTo (H' := [[(b3,.cells #[.int .u8 3] 5 (0,0))],[(b6,.cells #[.int .i64 0,.int .u32 0,.int .i64 0,.int .i64 0,.int .u32 0,.int .u32 0,.int .u32 0,.int .u32 0,.slice none 0 0,.slice none 0 0] 28 (0,0))],[(b5,.cells #[.int .i64 53,.slice (some ⟨b4,0,none⟩) 1 1] 81 (0,0))],[(b4,.cells #[.int .u8 1] 5 (0,0))],sb]) [3,0,0,0,0] Z ?_
 refine Run.show (fun V7 hleV7 hshV7 => ?_)
 have hhw := (Ow.lit (e := 5) (k := 1) (b := b3) (n := 1) (cur := #[.int .u8 3]) rfl WD).shows _ hshV7
 replace hpv1 := hpv1.le hleV7
 replace hVle := Vw.le_trans hVle hleV7
 refine Run.keepTo (H' := [[(b4,.cells #[.int .u8 1] 5 (0,0))],[(b6,.cells #[.int .i64 0,.int .u32 0,.int .i64 0,.int .i64 0,.int .u32 0,.int .u32 0,.int .u32 0,.int .u32 0,.slice none 0 0,.slice none 0 0] 28 (0,0))],[(b5,.cells #[.int .i64 53,.slice (some ⟨b4,0,none⟩) 1 1] 81 (0,0))],sb]) [2,0,0,0] Z ?_
 refine Run.show (fun V8 hleV8 hshV8 => ?_)
 have hdd := (Ow.lit (e := 5) (k := 1) (b := b4) (n := 1) (cur := #[.int .u8 1]) rfl WD).shows _ hshV8
 replace hpv1 := hpv1.le hleV8
 replace hhw := hhw.le hleV8
 replace hVle := Vw.le_trans hVle hleV8
 refine Run.keepTo (H' := [[(b5,.cells #[.int .i64 53,.slice (some ⟨b4,0,none⟩) 1 1] 81 (0,0))],[(b6,.cells #[.int .i64 0,.int .u32 0,.int .i64 0,.int .i64 0,.int .u32 0,.int .u32 0,.int .u32 0,.int .u32 0,.slice none 0 0,.slice none 0 0] 28 (0,0))],sb]) [1,0,0] Z ?_
 refine Run.show (fun V9 hleV9 hshV9 => ?_)
 have hoo := (Ow.lit (e := 81) (k := 2) (b := b5) (n := 1) (cur := #[.int .i64 53,.slice (some ⟨b4,0,none⟩) 1 1]) rfl WD).shows _ hshV9
 replace hpv1 := hpv1.le hleV9
 replace hhw := hhw.le hleV9
 replace hdd := hdd.le hleV9
 replace hVle := Vw.le_trans hVle hleV9
 have hpa : Pc.R V9 Eg.pa (.slice (some ⟨b3,0,none⟩) 1 1) (.slice (some ⟨b5,0,none⟩) 1 1) := ⟨hhw,Pc.rs_of (L := [(⟨53,.slice (some ⟨b4,0,none⟩) 1 1,[1]⟩ : Opn)]) hoo (Opn.Rds.one hdd) rfl,by decide,by decide,by decide⟩
 refine Run.store (s := [(b6,.cells #[.int .i64 1,.int .u32 7,.int .i64 0,.int .i64 0,.int .u32 0,.int .u32 0,.int .u32 0,.int .u32 0,.slice (some ⟨b3,0,none⟩) 1 1,.slice (some ⟨b5,0,none⟩) 1 1] 28 (0,0))]) Z Z xsz28 (i := 0) Z Z (le Z) Z Z<|Ze<|Zg<|Zs<|Tr.anyD [(b6,.cells #[.int .i64 1,.int .u32 7,.int .i64 0,.int .i64 0,.int .u32 0,.int .u32 0,.int .u32 0,.int .u32 0,.slice (some ⟨b3,0,none⟩) 1 1,.slice (some ⟨b5,0,none⟩) 1 1] 28 (0,0))] xmo<|?_
 refine Zd 1 Z (fun _ => (Y.move rfl))<|ZD 2 0 Z Z (fun _ => (Y.loadAgg rfl xag28 Kn.vk1 rfl))<|?_
 refine RunD.two (i := 0) (j := 4) WK rfl rfl  ?_ ?_
 ·refine Yk [] Z Z Z (site20_c (id := 0)) (fun v10 V10 H10 hle10 hR10 => ?_)
  obtain ⟨_,rfl,pv10,rfl,hpv10⟩ := hR10; obtain ⟨pp10,cp10,rfl,_⟩ := hpv10.form
  replace hpv1 := hpv1.le hle10
  replace hpa := hpa.le hle10
  replace hVle := Vw.le_trans hVle hle10
  refine Run.heapTo (H' := [[(b6,.cells #[.int .i64 1,.int .u32 7,.int .i64 0,.int .i64 0,.int .u32 0,.int .u32 0,.int .u32 0,.int .u32 0,.slice (some ⟨b3,0,none⟩) 1 1,.slice (some ⟨b5,0,none⟩) 1 1] 28 (0,0))],sb]) Z<|Run.heapTo (H' := [[(b6,.cells #[.int .i64 1,.int .u32 7,.int .i64 0,.int .i64 0,.int .u32 0,.int .u32 0,.int .u32 0,.int .u32 0,.slice (some ⟨b3,0,none⟩) 1 1,.slice (some ⟨b5,0,none⟩) 1 1] 28 (0,0))],sb]) Z<|?_
  refine Ze<|Zf<|?_
  refine RunD.two (i := 3) (j := 4) WK rfl rfl  ?_ ?_
  ·refine Yk [1] Z Z Z (answer_t (x := Eg.si 0) (p := Eg.pa) (l := Le.new [1,2,3,4,5,6]) (state := 1) (now := 5) (entry := 0) hpv10 (Nat.le_of_ble_eq_true rfl) Eg.oks6 hpa Eg.pa_few WD WD hin (fun y hy => by have := Eg.la6 (Eg.new_addrs _) y hy; omega)) (fun v11 V11 H11 hle11 hR11 => ?_)
   obtain ⟨_,rfl,hv11,ov11,rfl,hRa⟩ := hR11
   replace hpv1 := hpv1.le hle11
   replace hpa := hpa.le hle11
   replace hpv10 := hpv10.le hle11
   replace hVle := Vw.le_trans hVle hle11
   obtain ⟨⟨pg11,cg11,rfl⟩,pk11,nk11,ck11,rfl⟩ := hRa.forms
   generalize hA : Eg.ans (Eg.si 0) (Le.new [1,2,3,4,5,6]) 1 5 0 Eg.pa = A at hRa ⊢
   replace hA := hA.symm
   refine Run.heapTo (H' := [[(b6,.cells #[.int .i64 1,.int .u32 7,.int .i64 0,.int .i64 0,.int .u32 0,.int .u32 0,.int .u32 0,.int .u32 0,.slice (some ⟨b3,0,none⟩) 1 1,.slice (some ⟨b5,0,none⟩) 1 1] 28 (0,0))],sb]) Z<|Run.heapTo (H' := [[(b6,.cells #[.int .i64 1,.int .u32 7,.int .i64 0,.int .i64 0,.int .u32 0,.int .u32 0,.int .u32 0,.int .u32 0,.slice (some ⟨b3,0,none⟩) 1 1,.slice (some ⟨b5,0,none⟩) 1 1] 28 (0,0))],sb]) Z<|?_
   refine Ze<|Zf<|?_
   refine RunD.one (i := 4) WK rfl  ?_
   refine Run.alloc xzo45 (lt rfl) (fun b12 => ?_)
   refine Ze<|Zf<|?_
   refine RunD.one (i := 5) WK rfl  ?_
   refine Run.stAll (l2 := (An.cells A (.slice pg11 A.reply.hw.length cg11) (.slice pk11 nk11 ck11)).toList) (j := 0) Z Z xsz45 Z Z Z Z ?_
   refine Run.heapTo (H' := [[(b12,.cells (An.cells A (.slice pg11 A.reply.hw.length cg11) (.slice pk11 nk11 ck11)) 45 (0,0))],[(b6,.cells #[.int .i64 1,.int .u32 7,.int .i64 0,.int .i64 0,.int .u32 0,.int .u32 0,.int .u32 0,.int .u32 0,.slice (some ⟨b3,0,none⟩) 1 1,.slice (some ⟨b5,0,none⟩) 1 1] 28 (0,0))],sb]) Z ?_
   refine Ze<|Zf<|RunD.done WK<|Zg<|Zs<|Zr<|?_
   have hA1 : A.send = true := by rw [hA]; exact Eg.aw_send
   have hA2 : (A.reply.yi == 1) = true := by rw [hA]; exact beq_iff_eq.2 Eg.aw_yi
   have hA3 : (Pc.kind A.reply == 2) = true := by rw [hA]; exact beq_iff_eq.2 Eg.aw_kind
   have hA4 : A.change = false := by rw [hA]; exact Eg.aw_change
   refine Zv (Y.fieldAddr Z xfo45_0)<|Zv (Y.load Z xts4 (Kn.at 0 Z) Z)<|Zm Z<|Zp hA1<|Zv (Y.fieldAddr Z xfo45_1)<|Zp hA1<|Zv (Y.fieldAddr Z xfo28_5)<|Zp hA1<|Zv (Y.load Z xts24 (Kn.at 0 Z) Z)<|Zp hA1<|Zv (Y.int Z Z Z)<|Zv (Y.pick_t Z hA1 Z)<|Zm Z<|Zp hA2<|Zv (Y.fieldAddr Z xfo45_1)<|Zp hA2<|?_
   refine Zv (Y.loadAgg Z xag28 (Kn.at 0 Z) Z)<|Zp hA2<|Yc Z Z Z (kind_h hRa (by rw [hA]; exact Eg.aw_few))<|Zp hA2<|Zv (Y.int Z Z Z)<|Zv (Y.pick_t Z hA2 Z)<|Zm Z<|Zp hA3<|Zv (Y.fieldAddr Z xfo45_2)<|Zp hA3<|Zv (Y.load Z xts4 (Kn.at 0 Z) Z)<|Zp hA3<|Zv (Y.not Z)<|Zv (Y.pick_t Z hA3 Z)<|Za Z<|Ze<|?_
   refine Zg<|Zu<|Ex.keep []<|?_
   exact Ex.ret1 rfl rfl  ⟨hVle,rfl,congrArg Value.bool (congrArg Bool.not hA4)⟩
  refine Run.alloc xzo45 (lt rfl) (fun b13 => ?_)
  refine Ze<|Zf<|?_
  refine RunD.one (i := 3) WK rfl  ?_
  refine Yk [2] Z Z Z (answer_t (x := Eg.si 0) (p := Eg.pa) (l := Le.new [1,2,3,4,5,6]) (state := 1) (now := 5) (entry := 0) hpv10 (Nat.le_of_ble_eq_true rfl) Eg.oks6 hpa Eg.pa_few WD WD hin (fun y hy => by have := Eg.la6 (Eg.new_addrs _) y hy; omega)) (fun v14 V14 H14 hle14 hR14 => ?_)
  obtain ⟨_,rfl,hv14,ov14,rfl,hRa⟩ := hR14
  replace hpv1 := hpv1.le hle14
  replace hpa := hpa.le hle14
  replace hpv10 := hpv10.le hle14
  replace hVle := Vw.le_trans hVle hle14
  obtain ⟨⟨pg14,cg14,rfl⟩,pk14,nk14,ck14,rfl⟩ := hRa.forms
  generalize hA : Eg.ans (Eg.si 0) (Le.new [1,2,3,4,5,6]) 1 5 0 Eg.pa = A at hRa ⊢
  replace hA := hA.symm
  refine Run.heapTo (H' := [[(b13,.cells an0 45 (0,0))],[(b6,.cells #[.int .i64 1,.int .u32 7,.int .i64 0,.int .i64 0,.int .u32 0,.int .u32 0,.int .u32 0,.int .u32 0,.slice (some ⟨b3,0,none⟩) 1 1,.slice (some ⟨b5,0,none⟩) 1 1] 28 (0,0))],sb]) Z ?_
  refine Ze<|Zf<|?_
  refine RunD.one (i := 5) WK rfl  ?_
  refine Run.stAll (l2 := (An.cells A (.slice pg14 A.reply.hw.length cg14) (.slice pk14 nk14 ck14)).toList) (j := 0) Z Z xsz45 Z Z Z Z ?_
  refine Run.heapTo (H' := [[(b13,.cells (An.cells A (.slice pg14 A.reply.hw.length cg14) (.slice pk14 nk14 ck14)) 45 (0,0))],[(b6,.cells #[.int .i64 1,.int .u32 7,.int .i64 0,.int .i64 0,.int .u32 0,.int .u32 0,.int .u32 0,.int .u32 0,.slice (some ⟨b3,0,none⟩) 1 1,.slice (some ⟨b5,0,none⟩) 1 1] 28 (0,0))],sb]) Z ?_
  refine Ze<|Zf<|RunD.done WK<|Zg<|Zs<|Zr<|?_
  have hA1 : A.send = true := by rw [hA]; exact Eg.aw_send
  have hA2 : (A.reply.yi == 1) = true := by rw [hA]; exact beq_iff_eq.2 Eg.aw_yi
  have hA3 : (Pc.kind A.reply == 2) = true := by rw [hA]; exact beq_iff_eq.2 Eg.aw_kind
  have hA4 : A.change = false := by rw [hA]; exact Eg.aw_change
  refine Zv (Y.fieldAddr Z xfo45_0)<|Zv (Y.load Z xts4 (Kn.at 0 Z) Z)<|Zm Z<|Zp hA1<|Zv (Y.fieldAddr Z xfo45_1)<|Zp hA1<|Zv (Y.fieldAddr Z xfo28_5)<|Zp hA1<|Zv (Y.load Z xts24 (Kn.at 0 Z) Z)<|Zp hA1<|Zv (Y.int Z Z Z)<|Zv (Y.pick_t Z hA1 Z)<|Zm Z<|Zp hA2<|Zv (Y.fieldAddr Z xfo45_1)<|Zp hA2<|?_
  refine Zv (Y.loadAgg Z xag28 (Kn.at 0 Z) Z)<|Zp hA2<|Yc Z Z Z (kind_h hRa (by rw [hA]; exact Eg.aw_few))<|Zp hA2<|Zv (Y.int Z Z Z)<|Zv (Y.pick_t Z hA2 Z)<|Zm Z<|Zp hA3<|Zv (Y.fieldAddr Z xfo45_2)<|Zp hA3<|Zv (Y.load Z xts4 (Kn.at 0 Z) Z)<|Zp hA3<|Zv (Y.not Z)<|Zv (Y.pick_t Z hA3 Z)<|Za Z<|Ze<|?_
  refine Zg<|Zu<|Ex.keep []<|?_
  exact Ex.ret1 rfl rfl  ⟨hVle,rfl,congrArg Value.bool (congrArg Bool.not hA4)⟩
 refine Run.alloc xzo45 (lt rfl) (fun b15 => ?_)
 refine Ze<|Zf<|?_
 refine RunD.one (i := 0) WK rfl  ?_
 refine Yk [] Z Z Z (site20_c (id := 0)) (fun v16 V16 H16 hle16 hR16 => ?_)
 obtain ⟨_,rfl,pv16,rfl,hpv16⟩ := hR16; obtain ⟨pp16,cp16,rfl,_⟩ := hpv16.form
 replace hpv1 := hpv1.le hle16
 replace hpa := hpa.le hle16
 replace hVle := Vw.le_trans hVle hle16
 refine Run.heapTo (H' := [[(b15,.cells an0 45 (0,0))],[(b6,.cells #[.int .i64 1,.int .u32 7,.int .i64 0,.int .i64 0,.int .u32 0,.int .u32 0,.int .u32 0,.int .u32 0,.slice (some ⟨b3,0,none⟩) 1 1,.slice (some ⟨b5,0,none⟩) 1 1] 28 (0,0))],sb]) Z ?_
 refine Ze<|Zf<|?_
 refine RunD.one (i := 3) WK rfl  ?_
 refine Yk [2] Z Z Z (answer_t (x := Eg.si 0) (p := Eg.pa) (l := Le.new [1,2,3,4,5,6]) (state := 1) (now := 5) (entry := 0) hpv16 (Nat.le_of_ble_eq_true rfl) Eg.oks6 hpa Eg.pa_few WD WD hin (fun y hy => by have := Eg.la6 (Eg.new_addrs _) y hy; omega)) (fun v17 V17 H17 hle17 hR17 => ?_)
 obtain ⟨_,rfl,hv17,ov17,rfl,hRa⟩ := hR17
 replace hpv1 := hpv1.le hle17
 replace hpa := hpa.le hle17
 replace hpv16 := hpv16.le hle17
 replace hVle := Vw.le_trans hVle hle17
 obtain ⟨⟨pg17,cg17,rfl⟩,pk17,nk17,ck17,rfl⟩ := hRa.forms
 generalize hA : Eg.ans (Eg.si 0) (Le.new [1,2,3,4,5,6]) 1 5 0 Eg.pa = A at hRa ⊢
 replace hA := hA.symm
 refine Run.heapTo (H' := [[(b15,.cells an0 45 (0,0))],[(b6,.cells #[.int .i64 1,.int .u32 7,.int .i64 0,.int .i64 0,.int .u32 0,.int .u32 0,.int .u32 0,.int .u32 0,.slice (some ⟨b3,0,none⟩) 1 1,.slice (some ⟨b5,0,none⟩) 1 1] 28 (0,0))],sb]) Z ?_
 refine Ze<|Zf<|?_
 refine RunD.one (i := 5) WK rfl  ?_
 refine Run.stAll (l2 := (An.cells A (.slice pg17 A.reply.hw.length cg17) (.slice pk17 nk17 ck17)).toList) (j := 0) Z Z xsz45 Z Z Z Z ?_
 refine Run.heapTo (H' := [[(b15,.cells (An.cells A (.slice pg17 A.reply.hw.length cg17) (.slice pk17 nk17 ck17)) 45 (0,0))],[(b6,.cells #[.int .i64 1,.int .u32 7,.int .i64 0,.int .i64 0,.int .u32 0,.int .u32 0,.int .u32 0,.int .u32 0,.slice (some ⟨b3,0,none⟩) 1 1,.slice (some ⟨b5,0,none⟩) 1 1] 28 (0,0))],sb]) Z ?_
 refine Ze<|Zf<|RunD.done WK<|Zg<|Zs<|Zr<|?_
 have hA1 : A.send = true := by rw [hA]; exact Eg.aw_send
 have hA2 : (A.reply.yi == 1) = true := by rw [hA]; exact beq_iff_eq.2 Eg.aw_yi
 have hA3 : (Pc.kind A.reply == 2) = true := by rw [hA]; exact beq_iff_eq.2 Eg.aw_kind
 have hA4 : A.change = false := by rw [hA]; exact Eg.aw_change
 refine Zv (Y.fieldAddr Z xfo45_0)<|Zv (Y.load Z xts4 (Kn.at 0 Z) Z)<|Zm Z<|Zp hA1<|Zv (Y.fieldAddr Z xfo45_1)<|Zp hA1<|Zv (Y.fieldAddr Z xfo28_5)<|Zp hA1<|Zv (Y.load Z xts24 (Kn.at 0 Z) Z)<|Zp hA1<|Zv (Y.int Z Z Z)<|Zv (Y.pick_t Z hA1 Z)<|Zm Z<|Zp hA2<|Zv (Y.fieldAddr Z xfo45_1)<|Zp hA2<|?_
 refine Zv (Y.loadAgg Z xag28 (Kn.at 0 Z) Z)<|Zp hA2<|Yc Z Z Z (kind_h hRa (by rw [hA]; exact Eg.aw_few))<|Zp hA2<|Zv (Y.int Z Z Z)<|Zv (Y.pick_t Z hA2 Z)<|Zm Z<|Zp hA3<|Zv (Y.fieldAddr Z xfo45_2)<|Zp hA3<|Zv (Y.load Z xts4 (Kn.at 0 Z) Z)<|Zp hA3<|Zv (Y.not Z)<|Zv (Y.pick_t Z hA3 Z)<|Za Z<|Ze<|?_
 refine Zg<|Zu<|Ex.keep []<|?_
 exact Ex.ret1 rfl rfl  ⟨hVle,rfl,congrArg Value.bool (congrArg Bool.not hA4)⟩
end Go.Proofs.YtfgblingojgafaaGreat
namespace Go.Proofs.YtfgblingojgafaaGreat
open Go Go.K
attribute [local irreducible] Code.wp wpList Calls wpQuiet
end Go.Proofs.YtfgblingojgafaaGreat
namespace Go.Proofs.YtfgblingojgafaaGreat
open Go Go.K
attribute [local irreducible] Code.wp wpList Calls wpQuiet
theorem rbd15_c {V : Vw} {n : Int}  : Does Tryz.prog 168 [.int .i64 n] V [] (Pv (.int .i64 (Ck.add n 0)) V []) := by
 refine Does.intro Tryz.func168 rfl rfl (le rfl) (fun B => ?_)
 refine Zs<|Zr<|Za Z<|Ze<|Zg<|Zs<|Zr<|Zm Z<|Yc Z Z Z (radd_c_h (t := n) (d := 0))<|Za Z<|Ze<|Zg<|Zu<|Ex.keep []<|?_
 exact Ex.ret1 rfl rfl  ⟨rfl,rfl,rfl⟩
theorem rown_c {V : Vw} {r : Rul}  : Does Tryz.prog 164 [.agg #[.int .i64 r.id,.int .i64 r.lead,.int .i64 r.guard]] V [] (Pv (.int .i64 r.own) V []) := by
 refine Does.intro Tryz.func164 rfl rfl (le rfl) (fun B => ?_)
 refine Zs<|Zr<|?_
 refine Run.box rfl (lt rfl) (fun b1 => ?_)
 refine Za Z<|Ze<|Zg<|Zs<|Zs<|Zr<|Zv (Y.fieldAddr Z xfo162_0)<|Zv (Y.load Z xts3 (Kn.at 0 Z) Z)<|Zv (Y.int Z Z Z)<|Ze<|Zg<|?_
 refine Zq (r.id == 0) (fun h2 g2 => ?_) fun h2 g2 => ?_
 ·refine Tr.cond_t Z h2<|Zs<|Zr<|Za Z<|Ze<|Zg<|Zu<|Zn<|Ex.keep []<|?_
  exact Ex.ret1 rfl rfl  ⟨congrArg (Value.int _) (by unfold Rul.own; rw [if_pos W]),rfl,rfl⟩
 refine Tr.cond_f Z h2<|Zt<|Zg<|Zs<|Zr<|Za Z<|Ze<|Zg<|Zu<|Ex.keep []<|?_
 exact Ex.ret1 rfl rfl  ⟨congrArg (Value.int _) (by unfold Rul.own; rw [if_neg W]),rfl,rfl⟩
theorem runtil_c {V : Vw} {r : Rul} {now want acked : Int}  : Does Tryz.prog 162 [.agg #[.int .i64 r.id,.int .i64 r.lead,.int .i64 r.guard],.int .i64 now,.int .i64 want,.int .i64 acked] V [] (Pv (.int .i64 (r.until_ now want acked)) V []) := by
 refine Does.intro Tryz.func162 rfl rfl (le rfl) (fun B => ?_)
 refine Zs<|Zr<|?_
 refine Run.box rfl (lt rfl) (fun b1 => ?_)
 refine Za Z<|Ze<|Zg<|Zs<|Zr<|Zm Z<|Zm Z<|Zv (Y.max2 Z Z)<|Yc Z Z Z (radd_c_h (t := now) (d := max want 0))<|Za Z<|Ze<|Zg<|Zs<|Tr.anyD [(b1,.cells #[.int .i64 r.id,.int .i64 r.lead,.int .i64 r.guard] 162 (0,0))] xmo<|Zd 0 Z (fun _ => (Y.move rfl))<|Zd 2 Z (fun _ => (Y.move rfl))<|?_
 refine Zd 5 Z (fun _ => (Y.fieldAddr rfl xfo162_1))<|ZD 6 0 Z Z (fun _ => (Y.load rfl xts3 Kn.vk1 rfl))<|Zd 7 Z (fun _ => (Y.max2 rfl rfl))<|?_
 refine RunD.one (i := 1) WK rfl  ?_
 refine Yc Z Z Z ((rbd15_c (n := now)).frame)<|Ze<|Zf<|?_
 refine RunD.one (i := 3) WK rfl  ?_
 refine Yc Z Z Z ((rbd15_c (n := acked)).frame)<|Ze<|Zf<|Zd 4 Z (fun _ => (Y.max2 rfl rfl))<|?_
 refine RunD.one (i := 8) WK rfl  ?_
 refine Yc Z Z Z (radd_c_h (t := max (Ck.add now 0) (Ck.add acked 0)) (d := max r.lead 0))<|Ze<|Zf<|Zd 9 Z (fun _ => (Y.assign rfl))<|RunD.done WK<|Zg<|Zs<|Zr<|Zm Z<|Zm Z<|Zv (Y.min2 Z Z)<|Za Z<|Ze<|Zg<|Zu<|Ex.keep []<|?_
 exact Ex.ret1 rfl rfl  ⟨congrArg (Value.int _) (Rul.until_eq r now want acked),rfl,rfl⟩
theorem rpot_c {V : Vw} {r : Rul} {l : Le} {now want : Int}  : Does Tryz.prog 128 [.agg #[.int .i64 r.id,.int .i64 r.lead,.int .i64 r.guard],.agg #[.int .u32 l.addr,.int .i64 l.bind,.string l.client,.int .i64 l.till,.int .i64 l.acked,.int .i64 l.told,.int .i64 l.at_,.int .i64 l.ver],.int .i64 now,.int .i64 want] V [] (Pv (.int .i64 (Rul.potential l now want)) V []) := by
 refine Does.intro Tryz.func128 rfl rfl (le rfl) (fun B => ?_)
 refine Zs<|Zr<|?_
 refine Run.box rfl (lt rfl) (fun b1 => ?_)
 refine Run.box rfl (lt rfl) (fun b2 => ?_)
 refine Za Z<|Ze<|Zg<|Zs<|Tr.anyD [(b2,.cells #[.int .u32 l.addr,.int .i64 l.bind,.string l.client,.int .i64 l.till,.int .i64 l.acked,.int .i64 l.told,.int .i64 l.at_,.int .i64 l.ver] 43 (0,0))] xmo<|Zd 0 Z (fun _ => (Y.fieldAddr rfl xfo43_3))<|ZD 1 0 Z Z (fun _ => (Y.load rfl xts3 Kn.vk1 rfl))<|Zd 2 Z (fun _ => (Y.move rfl))<|Zd 3 Z (fun _ => (Y.move rfl))<|Zd 4 Z (fun _ => (Y.max2 rfl rfl))<|?_
 refine RunD.one (i := 5) WK rfl  ?_
 refine Yc Z Z Z (radd_c_h (t := now) (d := max want 0))<|Ze<|Zf<|Zd 6 Z (fun _ => (Y.max2 rfl rfl))<|Zd 7 Z (fun _ => (Y.assign rfl))<|RunD.done WK<|Zg<|Zu<|Ex.keep []<|?_
 exact Ex.ret1 rfl rfl  ⟨rfl,rfl,rfl⟩
theorem rserves_c {V : Vw} {n : Int}  : Does Tryz.prog 56 [.int .i64 n] V [] (Pv (.bool (Rul.serves n)) V []) := by
 refine Does.intro Tryz.func56 rfl rfl (le rfl) (fun B => ?_)
 refine Zs<|Zr<|Za Z<|Ze<|Zg<|Zs<|Zr<|Zm Z<|Zv (Y.int Z Z Z)<|Zm Z<|?_
 refine Zq (n == 1) (fun h1 g1 => ?_) fun h1 g1 => ?_
 ·refine Zo h1 Z<|Zo h1 Z<|Zv (Y.pick_t Z h1 Z)<|Zm Z<|Zo Z Z<|Zo Z Z<|Zv (Y.pick_t Z Z Z)<|Za Z<|Ze<|Zg<|Zu<|Ex.keep []<|?_
  exact Ex.ret1 rfl rfl  ⟨congrArg Value.bool (Rul.serves_a W),rfl,rfl⟩
 refine Zp h1<|Zm Z<|Zp h1<|Zv (Y.int Z Z Z)<|Zv (Y.pick_f Z h1 Z)<|Zm Z<|?_
 refine Zq (n == 2) (fun h2 g2 => ?_) fun h2 g2 => ?_
 ·refine Zo h2 Z<|Zo h2 Z<|Zv (Y.pick_t Z h2 Z)<|Za Z<|Ze<|Zg<|Zu<|Ex.keep []<|?_
  exact Ex.ret1 rfl rfl  ⟨congrArg Value.bool (Rul.serves_a W),rfl,rfl⟩
 refine Zp h2<|Zm Z<|Zp h2<|Zv (Y.int Z Z Z)<|Zv (Y.pick_f Z h2 Z)<|Za Z<|Ze<|Zg<|Zu<|Ex.keep []<|?_
 exact Ex.ret1 rfl rfl  ⟨congrArg Value.bool (Rul.serves_b W W),rfl,rfl⟩
theorem rglease_c {V : Vw} {r : Rul} {l : Le} {client : ByteArray} {now want : Int}  : Does Tryz.prog 127 [.agg #[.int .i64 r.id,.int .i64 r.lead,.int .i64 r.guard],.agg #[.int .u32 l.addr,.int .i64 l.bind,.string l.client,.int .i64 l.till,.int .i64 l.acked,.int .i64 l.told,.int .i64 l.at_,.int .i64 l.ver],.string client,.int .i64 now,.int .i64 want] V [] (Pv (.agg (r.lease l client now want).cells.toArray) V []) := by
 refine Does.intro Tryz.func127 rfl rfl (le rfl) (fun B => ?_)
 refine Zs<|Zr<|?_
 refine Run.box rfl (lt rfl) (fun b1 => ?_)
 refine Run.box rfl (lt rfl) (fun b2 => ?_)
 refine Run.alloc xzo43 (lt rfl) (fun b3 => ?_)
 refine Ze<|Zg<|Zs<|Zs<|Zr<|Zv (Y.fieldAddr Z xfo43_1)<|Zv (Y.load Z xts3 (Kn.at 1 Z) Z)<|Zv (Y.int Z Z Z)<|Zm Z<|?_
 refine Zq (l.bind == 2) (fun h4 g4 => ?_) fun h4 g4 => ?_
 ·refine Zp h4<|Zv (Y.fieldAddr Z xfo43_2)<|Zp h4<|Zv (Y.load Z xts9 (Kn.at 1 Z) Z)<|Zp h4<|Zm Z<|Zp h4<|Zv (Y.eqStr Z Z)<|Zv (Y.pick_t Z h4 Z)<|Ze<|Zg<|?_
  refine Zq (l.client.toList == client.toList) (fun h5 g5 => ?_) fun h5 g5 => ?_
  ·refine Tr.cond_t Z h5<|Zs<|Tr.anyL [(b1,.cells #[.int .i64 r.id,.int .i64 r.lead,.int .i64 r.guard] 162 (0,0)),(b2,.cells #[.int .u32 l.addr,.int .i64 l.bind,.string l.client,.int .i64 l.till,.int .i64 l.acked,.int .i64 l.told,.int .i64 l.at_,.int .i64 l.ver] 43 (0,0))] 10 xmo<|Zh 0 Z (fun _ => (Y.fieldAddr rfl xfo43_3))<|ZH 1 1 Z Z (fun _ => (Y.load rfl xts3 Kn.vk1 rfl))<|ZH 2 0 Z Z (fun _ => (Y.loadAgg rfl xag162 Kn.vk1 rfl))<|?_
   refine Zh 3 Z (fun _ => (Y.move rfl))<|Zh 4 Z (fun _ => (Y.move rfl))<|Zh 5 Z (fun _ => (Y.fieldAddr rfl xfo43_4))<|ZH 6 1 Z Z (fun _ => (Y.load rfl xts3 Kn.vk1 rfl))<|?_
   refine RunL.one (i := 7) WK rfl  ?_
   refine Yc Z Z Z ((runtil_c (r := r) (now := now) (want := want) (acked := l.acked)).frame)<|Ze<|ZF<|Zh 8 Z (fun _ => (Y.max2 rfl rfl))<|Zh 9 Z (fun _ => (Y.fieldAddr rfl xfo43_3))<|?_
   refine RunL.one (i := 10) WK rfl  ?_
   refine Run.store (s := [(b2,.cells #[.int .u32 l.addr,.int .i64 l.bind,.string l.client,.int .i64 (max l.till (r.until_ now want l.acked)),.int .i64 l.acked,.int .i64 l.told,.int .i64 l.at_,.int .i64 l.ver] 43 (0,0))]) Z Z xsz3 (i := 1) Z Z (le Z) Z Z<|Ze<|Ex.anyLz Z<|RunL.done WK<|Zg<|Zs<|Zr<|Zm Z<|Yc Z Z Z ((rbd15_c (n := now)).frame)<|Zv (Y.fieldAddr Z xfo43_6)<|Run.store (s := [(b2,.cells #[.int .u32 l.addr,.int .i64 l.bind,.string l.client,.int .i64 (max l.till (r.until_ now want l.acked)),.int .i64 l.acked,.int .i64 l.told,.int .i64 (Ck.add now 0),.int .i64 l.ver] 43 (0,0))]) Z Z xsz3 (i := 1) Z Z (le Z) Z Z<|?_
   refine Ze<|Zg<|Zs<|Zr<|Zv (Y.loadAgg Z xag43 (Kn.at 1 Z) Z)<|Run.store (s := [(b3,.cells #[.int .u32 l.addr,.int .i64 l.bind,.string l.client,.int .i64 (max l.till (r.until_ now want l.acked)),.int .i64 l.acked,.int .i64 l.told,.int .i64 (Ck.add now 0),.int .i64 l.ver] 43 (0,0))]) Z Z xsz43 (i := 0) Z Z (le Z) Z Z<|Ze<|Zg<|Zu<|Zn<|?_
   exact Ex.retCell [] rfl rfl xag43 (Kn.at 0 rfl) rfl ⟨congrArg Value.agg (by rw [Rul.lease_same2 W h5] <;> rfl),rfl,rfl⟩
  refine Tr.cond_f Z h5<|Zt<|Zg<|Zs<|Zr<|Zv (Y.fieldAddr Z xfo43_7)<|Zv (Y.load Z xts3 (Kn.at 1 Z) Z)<|Za Z<|Ze<|Zg<|Zs<|Zs<|Tr.anyD [(b1,.cells #[.int .i64 r.id,.int .i64 r.lead,.int .i64 r.guard] 162 (0,0)),(b2,.cells #[.int .u32 l.addr,.int .i64 l.bind,.string l.client,.int .i64 l.till,.int .i64 l.acked,.int .i64 l.told,.int .i64 l.at_,.int .i64 l.ver] 43 (0,0))] xmo<|Zd 0 Z (fun _ => (Y.fieldAddr rfl xfo43_1))<|?_
  refine ZD 1 1 Z Z (fun _ => (Y.load rfl xts3 Kn.vk1 rfl))<|ZD 2 0 Z Z (fun _ => (Y.loadAgg rfl xag162 Kn.vk1 rfl))<|?_
  refine RunD.one (i := 3) WK rfl  ?_
  refine Yc Z Z Z ((rown_c (r := r)).frame)<|Ze<|Zf<|Zd 4 Z (fun _ => (Y.int rfl rfl rfl))<|RunD.done WK<|Zg<|?_
  refine Zq (l.bind != r.own) (fun h6 g6 => ?_) fun h6 g6 => ?_
  ·refine Tr.cond_t Z h6<|Zr<|Zm Z<|Yc Z Z Z (radd_c_h (t := l.ver) (d := 1))<|Za Z<|Ze<|Zg<|Zs<|Tr.anyL [(b1,.cells #[.int .i64 r.id,.int .i64 r.lead,.int .i64 r.guard] 162 (0,0)),(b2,.cells #[.int .u32 l.addr,.int .i64 l.bind,.string l.client,.int .i64 l.till,.int .i64 l.acked,.int .i64 l.told,.int .i64 l.at_,.int .i64 l.ver] 43 (0,0))] 11 xmo<|Zh 0 Z (fun _ => (Y.fieldAddr rfl xfo43_0))<|ZH 1 1 Z Z (fun _ => (Y.load rfl xts24 Kn.vk1 rfl))<|?_
   refine Zh 2 Z (fun _ => (Y.move rfl))<|ZH 3 0 Z Z (fun _ => (Y.loadAgg rfl xag162 Kn.vk1 rfl))<|Zh 4 Z (fun _ => (Y.move rfl))<|Zh 5 Z (fun _ => (Y.move rfl))<|Zh 7 Z (fun _ => (Y.move rfl))<|Zh 9 Z (fun _ => (Y.move rfl))<|?_
   refine RunL.one (i := 6) WK rfl  ?_
   refine Yc Z Z Z ((runtil_c (r := r) (now := now) (want := want) (acked := 0)).frame)<|Ze<|ZF<|?_
   refine RunL.one (i := 8) WK rfl  ?_
   refine Yc Z Z Z ((rbd15_c (n := now)).frame)<|Ze<|ZF<|Zh 10 Z (fun _ => (Y.buildS (l := [(0,.tmp 45),(1,.const (.int .i64 2)),(2,.tmp 46),(3,.tmp 50),(6,.tmp 52),(7,.tmp 53)]) xzo43 xpl43 rfl rfl))<|?_
   refine RunL.one (i := 11) WK rfl  ?_
   refine Run.store (s := [(b3,.cells #[.int .u32 l.addr,.int .i64 2,.string client,.int .i64 (r.until_ now want 0),.int .i64 0,.int .i64 0,.int .i64 (Ck.add now 0),.int .i64 (Ck.add l.ver 1)] 43 (0,0))]) Z Z xsz43 (i := 0) Z Z (le Z) Z Z<|Ze<|Ex.anyLz Z<|RunL.done WK<|Zg<|Zu<|?_
   exact Ex.retCell [] rfl rfl xag43 (Kn.at 0 rfl) rfl ⟨congrArg Value.agg (by rw [Rul.lease_new2 (.inr h5),if_pos W] <;> rfl),rfl,rfl⟩
  refine Tr.cond_f Z h6<|Zt<|Zg<|Zs<|Tr.anyL [(b1,.cells #[.int .i64 r.id,.int .i64 r.lead,.int .i64 r.guard] 162 (0,0)),(b2,.cells #[.int .u32 l.addr,.int .i64 l.bind,.string l.client,.int .i64 l.till,.int .i64 l.acked,.int .i64 l.told,.int .i64 l.at_,.int .i64 l.ver] 43 (0,0))] 11 xmo<|Zh 0 Z (fun _ => (Y.fieldAddr rfl xfo43_0))<|ZH 1 1 Z Z (fun _ => (Y.load rfl xts24 Kn.vk1 rfl))<|Zh 2 Z (fun _ => (Y.move rfl))<|?_
  refine ZH 3 0 Z Z (fun _ => (Y.loadAgg rfl xag162 Kn.vk1 rfl))<|Zh 4 Z (fun _ => (Y.move rfl))<|Zh 5 Z (fun _ => (Y.move rfl))<|Zh 7 Z (fun _ => (Y.move rfl))<|Zh 9 Z (fun _ => (Y.move rfl))<|?_
  refine RunL.one (i := 6) WK rfl  ?_
  refine Yc Z Z Z ((runtil_c (r := r) (now := now) (want := want) (acked := 0)).frame)<|Ze<|ZF<|?_
  refine RunL.one (i := 8) WK rfl  ?_
  refine Yc Z Z Z ((rbd15_c (n := now)).frame)<|Ze<|ZF<|Zh 10 Z (fun _ => (Y.buildS (l := [(0,.tmp 45),(1,.const (.int .i64 2)),(2,.tmp 46),(3,.tmp 50),(6,.tmp 52),(7,.tmp 53)]) xzo43 xpl43 rfl rfl))<|?_
  refine RunL.one (i := 11) WK rfl  ?_
  refine Run.store (s := [(b3,.cells #[.int .u32 l.addr,.int .i64 2,.string client,.int .i64 (r.until_ now want 0),.int .i64 0,.int .i64 0,.int .i64 (Ck.add now 0),.int .i64 l.ver] 43 (0,0))]) Z Z xsz43 (i := 0) Z Z (le Z) Z Z<|Ze<|Ex.anyLz Z<|RunL.done WK<|Zg<|Zu<|?_
  exact Ex.retCell [] rfl rfl xag43 (Kn.at 0 rfl) rfl ⟨congrArg Value.agg (by rw [Rul.lease_new2 (.inr h5),if_neg W] <;> rfl),rfl,rfl⟩
 refine Zo h4 Z<|Zo h4 Z<|Zo h4 Z<|Zo h4 Z<|Zv (Y.pick_f Z h4 Z)<|Ze<|Zg<|Tr.cond_f Z Z<|Zt<|Zg<|Zs<|Zr<|Zv (Y.fieldAddr Z xfo43_7)<|Zv (Y.load Z xts3 (Kn.at 1 Z) Z)<|Za Z<|Ze<|?_
 refine Zg<|Zs<|Zs<|Tr.anyD [(b1,.cells #[.int .i64 r.id,.int .i64 r.lead,.int .i64 r.guard] 162 (0,0)),(b2,.cells #[.int .u32 l.addr,.int .i64 l.bind,.string l.client,.int .i64 l.till,.int .i64 l.acked,.int .i64 l.told,.int .i64 l.at_,.int .i64 l.ver] 43 (0,0))] xmo<|Zd 0 Z (fun _ => (Y.fieldAddr rfl xfo43_1))<|ZD 1 1 Z Z (fun _ => (Y.load rfl xts3 Kn.vk1 rfl))<|ZD 2 0 Z Z (fun _ => (Y.loadAgg rfl xag162 Kn.vk1 rfl))<|?_
 refine RunD.one (i := 3) WK rfl  ?_
 refine Yc Z Z Z ((rown_c (r := r)).frame)<|Ze<|Zf<|Zd 4 Z (fun _ => (Y.int rfl rfl rfl))<|RunD.done WK<|Zg<|?_
 refine Zq (l.bind != r.own) (fun h7 g7 => ?_) fun h7 g7 => ?_
 ·refine Tr.cond_t Z h7<|Zr<|Zm Z<|Yc Z Z Z (radd_c_h (t := l.ver) (d := 1))<|Za Z<|Ze<|Zg<|Zs<|Tr.anyL [(b1,.cells #[.int .i64 r.id,.int .i64 r.lead,.int .i64 r.guard] 162 (0,0)),(b2,.cells #[.int .u32 l.addr,.int .i64 l.bind,.string l.client,.int .i64 l.till,.int .i64 l.acked,.int .i64 l.told,.int .i64 l.at_,.int .i64 l.ver] 43 (0,0))] 11 xmo<|Zh 0 Z (fun _ => (Y.fieldAddr rfl xfo43_0))<|ZH 1 1 Z Z (fun _ => (Y.load rfl xts24 Kn.vk1 rfl))<|?_
  refine Zh 2 Z (fun _ => (Y.move rfl))<|ZH 3 0 Z Z (fun _ => (Y.loadAgg rfl xag162 Kn.vk1 rfl))<|Zh 4 Z (fun _ => (Y.move rfl))<|Zh 5 Z (fun _ => (Y.move rfl))<|Zh 7 Z (fun _ => (Y.move rfl))<|Zh 9 Z (fun _ => (Y.move rfl))<|?_
  refine RunL.one (i := 6) WK rfl  ?_
  refine Yc Z Z Z ((runtil_c (r := r) (now := now) (want := want) (acked := 0)).frame)<|Ze<|ZF<|?_
  refine RunL.one (i := 8) WK rfl  ?_
  refine Yc Z Z Z ((rbd15_c (n := now)).frame)<|Ze<|ZF<|Zh 10 Z (fun _ => (Y.buildS (l := [(0,.tmp 45),(1,.const (.int .i64 2)),(2,.tmp 46),(3,.tmp 50),(6,.tmp 52),(7,.tmp 53)]) xzo43 xpl43 rfl rfl))<|?_
  refine RunL.one (i := 11) WK rfl  ?_
  refine Run.store (s := [(b3,.cells #[.int .u32 l.addr,.int .i64 2,.string client,.int .i64 (r.until_ now want 0),.int .i64 0,.int .i64 0,.int .i64 (Ck.add now 0),.int .i64 (Ck.add l.ver 1)] 43 (0,0))]) Z Z xsz43 (i := 0) Z Z (le Z) Z Z<|Ze<|Ex.anyLz Z<|RunL.done WK<|Zg<|Zu<|?_
  exact Ex.retCell [] rfl rfl xag43 (Kn.at 0 rfl) rfl ⟨congrArg Value.agg (by rw [Rul.lease_new2 (.inl W),if_pos W] <;> rfl),rfl,rfl⟩
 refine Tr.cond_f Z h7<|Zt<|Zg<|Zs<|Tr.anyL [(b1,.cells #[.int .i64 r.id,.int .i64 r.lead,.int .i64 r.guard] 162 (0,0)),(b2,.cells #[.int .u32 l.addr,.int .i64 l.bind,.string l.client,.int .i64 l.till,.int .i64 l.acked,.int .i64 l.told,.int .i64 l.at_,.int .i64 l.ver] 43 (0,0))] 11 xmo<|Zh 0 Z (fun _ => (Y.fieldAddr rfl xfo43_0))<|ZH 1 1 Z Z (fun _ => (Y.load rfl xts24 Kn.vk1 rfl))<|Zh 2 Z (fun _ => (Y.move rfl))<|?_
 refine ZH 3 0 Z Z (fun _ => (Y.loadAgg rfl xag162 Kn.vk1 rfl))<|Zh 4 Z (fun _ => (Y.move rfl))<|Zh 5 Z (fun _ => (Y.move rfl))<|Zh 7 Z (fun _ => (Y.move rfl))<|Zh 9 Z (fun _ => (Y.move rfl))<|?_
 refine RunL.one (i := 6) WK rfl  ?_
 refine Yc Z Z Z ((runtil_c (r := r) (now := now) (want := want) (acked := 0)).frame)<|Ze<|ZF<|?_
 refine RunL.one (i := 8) WK rfl  ?_
 refine Yc Z Z Z ((rbd15_c (n := now)).frame)<|Ze<|ZF<|Zh 10 Z (fun _ => (Y.buildS (l := [(0,.tmp 45),(1,.const (.int .i64 2)),(2,.tmp 46),(3,.tmp 50),(6,.tmp 52),(7,.tmp 53)]) xzo43 xpl43 rfl rfl))<|?_
 refine RunL.one (i := 11) WK rfl  ?_
 refine Run.store (s := [(b3,.cells #[.int .u32 l.addr,.int .i64 2,.string client,.int .i64 (r.until_ now want 0),.int .i64 0,.int .i64 0,.int .i64 (Ck.add now 0),.int .i64 l.ver] 43 (0,0))]) Z Z xsz43 (i := 0) Z Z (le Z) Z Z<|Ze<|Ex.anyLz Z<|RunL.done WK<|Zg<|Zu<|?_
 exact Ex.retCell [] rfl rfl xag43 (Kn.at 0 rfl) rfl ⟨congrArg Value.agg (by rw [Rul.lease_new2 (.inl W),if_neg W] <;> rfl),rfl,rfl⟩
theorem rover_c {V : Vw} {l : Le}  : Does Tryz.prog 167 [.agg #[.int .u32 l.addr,.int .i64 l.bind,.string l.client,.int .i64 l.till,.int .i64 l.acked,.int .i64 l.told,.int .i64 l.at_,.int .i64 l.ver]] V [] (Pv (.int .i64 (max l.till l.told)) V []) := by
 refine Does.intro Tryz.func167 rfl rfl (le rfl) (fun B => ?_)
 refine Zs<|Zr<|?_
 refine Run.box rfl (lt rfl) (fun b1 => ?_)
 refine Za Z<|Ze<|Zg<|Zs<|Zr<|Zv (Y.fieldAddr Z xfo43_3)<|Zv (Y.load Z xts3 (Kn.at 0 Z) Z)<|Zv (Y.fieldAddr Z xfo43_5)<|Zv (Y.load Z xts3 (Kn.at 0 Z) Z)<|Zv (Y.max2 Z Z)<|Za Z<|Ze<|Zg<|Zu<|Ex.keep []<|?_
 exact Ex.ret1 rfl rfl  ⟨rfl,rfl,rfl⟩
theorem rmay_c {V : Vw} {r : Rul} {l : Le} {state now entry : Int}  : Does Tryz.prog 126 [.agg #[.int .i64 r.id,.int .i64 r.lead,.int .i64 r.guard],.agg #[.int .u32 l.addr,.int .i64 l.bind,.string l.client,.int .i64 l.till,.int .i64 l.acked,.int .i64 l.told,.int .i64 l.at_,.int .i64 l.ver],.int .i64 state,.int .i64 now,.int .i64 entry] V [] (Pv (.bool (r.may l state now entry)) V []) := by
 refine Does.intro Tryz.func126 rfl rfl (le rfl) (fun B => ?_)
 refine Zs<|Zr<|?_
 refine Run.box rfl (lt rfl) (fun b1 => ?_)
 refine Run.box rfl (lt rfl) (fun b2 => ?_)
 refine Za Z<|Ze<|Zg<|Zs<|Zs<|Zr<|Zm Z<|Yc Z Z Z ((rserves_c (n := state)).frame)<|Zv (Y.not Z)<|Ze<|Zg<|?_
 refine Zq (Rul.serves state) (fun h3 g3 => ?_) fun h3 g3 => ?_
 ·refine Tr.cond_f Z (congrArg Bool.not h3)<|Zt<|Zg<|Zs<|Zs<|Tr.anyD [(b1,.cells #[.int .i64 r.id,.int .i64 r.lead,.int .i64 r.guard] 162 (0,0)),(b2,.cells #[.int .u32 l.addr,.int .i64 l.bind,.string l.client,.int .i64 l.till,.int .i64 l.acked,.int .i64 l.told,.int .i64 l.at_,.int .i64 l.ver] 43 (0,0))] xmo<|Zd 0 Z (fun _ => (Y.fieldAddr rfl xfo43_1))<|ZD 1 1 Z Z (fun _ => (Y.load rfl xts3 Kn.vk1 rfl))<|?_
  refine ZD 2 0 Z Z (fun _ => (Y.loadAgg rfl xag162 Kn.vk1 rfl)) ?_
  refine RunD.one (i := 3) WK rfl  ?_
  refine Yc Z Z Z ((rown_c (r := r)).frame)<|Ze<|Zf<|Zd 4 Z (fun _ => (Y.int rfl rfl rfl))<|RunD.done WK<|Zg<|?_
  refine Zq (l.bind == r.own) (fun h4 g4 => ?_) fun h4 g4 => ?_
  ·refine Tr.cond_t Z h4<|Zs<|Zr<|Za Z<|Ze<|Zg<|Zu<|Zn<|Ex.keep []<|?_
   exact Ex.ret1 rfl rfl  ⟨congrArg Value.bool (Rul.may_own h3 W).symm,rfl,rfl⟩
  refine Tr.cond_f Z h4<|Zt<|Zg<|Zs<|Zr<|Zv (Y.fieldAddr Z xfo162_1)<|Zv (Y.load Z xts3 (Kn.at 1 Z) Z)<|Zv (Y.max2 Z Z)<|Zv (Y.fieldAddr Z xfo162_2)<|Zv (Y.load Z xts3 (Kn.at 1 Z) Z)<|Zv (Y.max2 Z Z)<|Yc Z Z Z (radd_c_h (t := max r.lead 0) (d := max r.guard 0))<|Za Z<|Ze<|Zg<|Zs<|?_
  refine Zr<|Zm Z<|Zv (Y.int Z Z Z)<|Zm Z<|?_
  refine Zq (state == 3) (fun h5 g5 => ?_) fun h5 g5 => ?_
  ·refine Zp h5<|Zv (Y.fieldAddr Z xfo43_1)<|Zp h5<|Zv (Y.load Z xts3 (Kn.at 0 Z) Z)<|Zp h5<|Zv (Y.int Z Z Z)<|Zv (Y.pick_t Z h5 Z)<|Zm Z<|?_
   refine Zq (l.bind != 5) (fun h6 g6 => ?_) fun h6 g6 => ?_
   ·refine Zp h6<|Zm Z<|Zp h6<|Zm Z<|Zp h6<|Zv (Y.loadAgg Z xag43 (Kn.at 0 Z) Z)<|Zp h6<|Yc Z Z Z ((rover_c (l := l)).frame)<|Zp h6<|Zv (Y.max2 Z Z)<|Zp h6<|Zm Z<|Zp h6<|Yc Z Z Z (rpast_c_h (now := now) (til := max entry (max l.till l.told)) (grd := Ck.add (max r.lead 0) (max r.guard 0)))<|Zv (Y.pick_t Z h6 Z)<|Za Z<|?_
    refine Ze<|Zg<|Zu<|Ex.keep []<|?_
    exact Ex.ret1 rfl rfl  ⟨congrArg Value.bool (Rul.may_past2 h3 W W).symm,rfl,rfl⟩
   refine Zo h6 Z<|Zo h6 Z<|Zo h6 Z<|Zo h6 Z<|Zo h6 Z<|Zo h6 Z<|Zo h6 Z<|Zv (Y.pick_f Z h6 Z)<|Za Z<|Ze<|Zg<|Zu<|Ex.keep []<|?_
   exact Ex.ret1 rfl rfl  ⟨congrArg Value.bool (Rul.may_nor h3 W W).symm,rfl,rfl⟩
  refine Zo h5 Z<|Zo h5 Z<|Zo h5 Z<|Zv (Y.pick_f Z h5 Z)<|Zm Z<|Zo Z Z<|Zo Z Z<|Zo Z Z<|Zo Z Z<|Zo Z Z<|Zo Z Z<|Zo Z Z<|Zv (Y.pick_f Z Z Z)<|Za Z<|Ze<|Zg<|?_
  refine Zu<|Ex.keep []<|?_
  exact Ex.ret1 rfl rfl  ⟨congrArg Value.bool (Rul.may_nor h3 W W).symm,rfl,rfl⟩
 refine Tr.cond_t Z (congrArg Bool.not h3)<|Zs<|Zr<|Za Z<|Ze<|Zg<|Zu<|Zn<|Ex.keep []<|?_
 exact Ex.ret1 rfl rfl  ⟨congrArg Value.bool (Rul.may_no h3).symm,rfl,rfl⟩
end Go.Proofs.YtfgblingojgafaaGreat
