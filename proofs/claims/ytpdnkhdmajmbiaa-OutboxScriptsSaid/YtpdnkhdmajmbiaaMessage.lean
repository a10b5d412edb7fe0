/- What the functions of the package message do.
Conditions: as each theorem names them. -/
import Derived.Test.YtpdnkhdmajmbiaaProg
import Derived.Test.YtpdnkhdmajmbiaaMB
import Derived.Test.YtpdnkhdmajmbiaaKA
import Derived.Test.YtpdnkhdmajmbiaaZG
set_option linter.unusedSimpArgs false
set_option linter.unusedVariables false
set_option maxRecDepth 4000
namespace Go.Proofs.Ytpdnkhdmajmbiaa
open Go Go.K
attribute [local irreducible] Code.wp wpList Calls wpQuiet
theorem Message_es150 : elemS Try.prog 150 = some (3, 1) := by kernel_rfl
theorem Message_ts3 : scal Try.prog 3 = true := by kernel_rfl
theorem Message_fo35_1 : fieldOff Try.prog 35 1 = some 1 := by kernel_rfl
theorem Message_zo145 : zeroOf Try.prog 145 = some (.agg #[.pointer none, .int .i64 0, .int .i64 0, .int .i64 0]) := by kernel_rfl
theorem Message_pl145 : placesS Try.prog 145 = some [(0, 1), (1, 1), (2, 1), (3, 1)] := by kernel_rfl
theorem Message_fo35_2 : fieldOff Try.prog 35 2 = some 2 := by kernel_rfl
theorem Message_fo35_0 : fieldOff Try.prog 35 0 = some 0 := by kernel_rfl
theorem Message_zo3 : zeroOf Try.prog 3 = some (.int .i64 0) := by kernel_rfl
theorem Message_fo35_3 : fieldOff Try.prog 35 3 = some 3 := by kernel_rfl
theorem Message_fo35_4 : fieldOff Try.prog 35 4 = some 4 := by kernel_rfl
theorem Message_fo35_6 : fieldOff Try.prog 35 6 = some 6 := by kernel_rfl
theorem Message_fo35_8 : fieldOff Try.prog 35 8 = some 8 := by kernel_rfl
theorem Message_fo35_9 : fieldOff Try.prog 35 9 = some 9 := by kernel_rfl
theorem Message_fo145_0 : fieldOff Try.prog 145 0 = some 0 := by kernel_rfl
theorem Message_ts143 : scal Try.prog 143 = true := by kernel_rfl
theorem Message_sz3 : sizeT Try.prog 3 = some 1 := by kernel_rfl
theorem Message_fo35_10 : fieldOff Try.prog 35 10 = some 10 := by kernel_rfl
theorem Message_ts4 : scal Try.prog 4 = true := by kernel_rfl
theorem Message_sz4 : sizeT Try.prog 4 = some 1 := by kernel_rfl
theorem Message_zo35 : zeroOf Try.prog 35 = some (.agg #[.int .i64 0, .int .i64 0, .int .i64 0, .int .i64 0, .int .i64 0, .int .u32 0, .int .i64 0, .string ⟨#[]⟩, .int .i64 0, .int .i64 0, .bool false]) := by kernel_rfl
theorem Message_fo35_5 : fieldOff Try.prog 35 5 = some 5 := by kernel_rfl
theorem Message_sz30 : sizeT Try.prog 30 = some 1 := by kernel_rfl
theorem Message_fo35_7 : fieldOff Try.prog 35 7 = some 7 := by kernel_rfl
theorem Message_sz9 : sizeT Try.prog 9 = some 1 := by kernel_rfl
theorem Message_ag35 : aggsz Try.prog 35 = some 11 := by kernel_rfl
theorem Message_sz35 : sizeT Try.prog 35 = some 11 := by kernel_rfl
theorem Message_mo : Try.prog.follows .mixedOrders = true := by kernel_rfl
theorem Message_fo145_2 : fieldOff Try.prog 145 2 = some 2 := by kernel_rfl
theorem Message_fo145_3 : fieldOff Try.prog 145 3 = some 3 := by kernel_rfl
theorem Message_ts9 : scal Try.prog 9 = true := by kernel_rfl
theorem Message_st9 : strT Try.prog 9 = true := by kernel_rfl
theorem Message_zo4 : zeroOf Try.prog 4 = some (.bool false) := by kernel_rfl
theorem Message_pl35 : placesS Try.prog 35 = some [(0, 1), (1, 1), (2, 1), (3, 1), (4, 1), (5, 1), (6, 1), (7, 1), (8, 1), (9, 1), (10, 1)] := by kernel_rfl
theorem Message_tgs35 : tags Try.prog 35 = some [(0, .i64), (0, .i64), (0, .i64), (0, .i64), (0, .i64), (0, .u32), (0, .i64), (2, .i64), (0, .i64), (0, .i64), (1, .i64)] := by kernel_rfl

theorem within_c0 {n lo hi : Int} {V : Vw} : Does Try.prog 80 [.int .i64 n, .int .i64 lo, .int .i64 hi] V [] (Pv (.bool (Msg.within n lo hi)) V []) := by
 refine Does.intro Try.func80 rfl rfl (le rfl) (fun B => ?_)
 refine Zs<|Zr<|Za Z<|Ze<|Zg<|Zs<|Zr<|Zm Z<|Zm Z<|Zv (Y.int Z Z Z)<|Zm Z<|?_
 rcases Zsplit (decide (n ≥ lo)) with ⟨h1, g1⟩ | ⟨h1, g1⟩ <;> try simp only [kb] at g1
 ·refine Zp h1<|Zm Z<|Zp h1<|Zm Z<|Zp h1<|Zv (Y.int Z Z Z)<|Zv (Y.pick_t Z h1 Z)<|Za Z<|Ze<|Zg<|Zu<|?_
  exact Ex.ret1 rfl rfl  ⟨by unfold Msg.within; simp_all <;> omega, rfl, rfl⟩
 ·refine Zo h1 Z<|Zo h1 Z<|Zo h1 Z<|Zv (Y.pick_f Z h1 Z)<|Za Z<|Ze<|Zg<|Zu<|?_
  exact Ex.ret1 rfl rfl  ⟨by unfold Msg.within; simp_all <;> omega, rfl, rfl⟩

theorem within_c0_h {n lo hi : Int} {V : Vw} {H : Hp} : Does Try.prog 80 [.int .i64 n, .int .i64 lo, .int .i64 hi] V H (Pv (.bool (Msg.within n lo hi)) V H) := within_c0.frame

theorem of_c {V : Vw} {H : Hp} {k : Int} {l : List Int} {p : Option Addr} {c : Nat} (hrd : Rd V H 1 (.slice p l.length c) l.length (l.map (Value.int .i64))) (hl : l.length ≤ 9223372036854775806)  : Does Try.prog 77 [.int .i64 k, .slice p l.length c] V H (Pv (.bool (l.contains k)) V H) := by
 refine Does.intro Try.func77 rfl rfl (le rfl) (fun B => ?_)
 refine Zs<|Zr<|Za Z<|Ze<|Zg<|Zs<|Zs<|Zr<|Zm Z<|Zv (Y.lenSl Z Message_es150)<|Zm Z<|Ze<|Zg<|Zb<|?_
 refine ZL (X := Nat) (fun i => V) (fun i => H) (fun i => [(0, .int .i64 k), (7, .slice p l.length c), (8, .int .i64 ((l.length : Nat) : Int)), (9, .int .i64 (i : Int))]) (fun i => i ≤ l.length ∧ (l.take i).contains k = false) (fun i => l.length - i) 0 ⟨by omega, by simp⟩ ?_
 rintro i ⟨hi, hno⟩
 refine Zs<|Zr<|Zv (Y.int Z Z Z)<|Ze<|Zg<|Zs<|?_
 rcases Zsplit (decide ((i : Int) < ((l.length : Nat) : Int))) with ⟨h1, g1⟩ | ⟨h1, g1⟩ <;> try simp only [kb] at g1
 ·obtain ⟨b, off, c2, cs, e, fz, hv, hc, hk, hcs⟩ := hrd.opened W
  obtain ⟨rfl, rfl⟩ : p = some ⟨b, off, none⟩ ∧ c = c2 := by cases hv; exact ⟨rfl, rfl⟩
  clear hv
  refine Tr.cond_t Z h1<|Zt<|Zg<|Zs<|Zb<|Zs<|Zr<|Zv (Y.idxAddr Z Z Message_es150 W W)<|Zv (Y.load Z Message_ts3 hk (at1 hcs W (map_at _ 0 W)))<|Za Z<|Ze<|Zg<|Zs<|Zr<|Zm Z<|Zm Z<|?_
  refine Zv (Y.int Z Z Z)<|Ze<|Zg<|?_
  rcases Zsplit ((l.getD i 0) == k) with ⟨h2, g2⟩ | ⟨h2, g2⟩ <;> try simp only [kb] at g2
  ·refine Tr.cond_t Z h2<|Zs<|Zr<|Za Z<|Ze<|Zg<|Zu<|Zk<|Zn<|Zn<|Zk<|Zn<|?_
   exact Ex.ret1 rfl rfl  ⟨by rw [contains_here W g2], rfl, rfl⟩
  ·refine Tr.cond_f Z h2<|Zt<|Zc<|Zg<|Zr<|Zv (Y.add Z Z W)<|Zm Z<|Ze<|?_
   exact ZR (i + 1) ⟨by omega, contains_step W hno g2⟩ W
 ·refine Tr.cond_f Z h1<|Zx<|Zy<|Zy<|Zi<|Zg<|Zs<|Zr<|Za Z<|Ze<|Zg<|Zu<|?_
  exact Ex.ret1 rfl rfl  ⟨by rw [contains_none W hno], rfl, rfl⟩

theorem walk_c {X G : Type} {fn fo : Nat} {c1 c2 : List Value} {Hx : X → Hp} {bm : Nat} {kind : Int} {V : Vw} (g : X → G) (f : Nat → Int → Int → Int → G → G) (o : G → G) (P : G → Prop)
    (hm : ∀ x, ∃ cs e fz, Kn V (Hx x) bm (.cells cs e fz) ∧ cs[0]? = some (.int .i64 kind))
    (hn : ∀ x j n lo hi, (j, n, lo, hi) ∈ Msg.flds → P (g x) → Does Try.prog fn (.agg #[.pointer (some ⟨bm, j, none⟩), .int .i64 n, .int .i64 lo, .int .i64 hi] :: c1) V (Hx x) (fun _ V' H' => V' = V ∧ ∃ y, g y = f j n lo hi (g x) ∧ H' = Hx y))
    (ho : ∀ x, P (g x) → Does Try.prog fo c2 V (Hx x) (fun _ V' H' => V' = V ∧ ∃ y, g y = o (g x) ∧ H' = Hx y)) (x0 : X)
    (hP : P (g x0) ∧ P (f 1 4 1 536870912 (g x0)) ∧ P (Msg.go2 f (g x0)) ∧ P (Msg.go3 kind f (g x0)) ∧ P (Msg.go4 kind f (g x0)) ∧ P (Msg.go5 kind f o (g x0)) ∧ P (f 6 1 0 5 (Msg.go5 kind f o (g x0))) ∧ P (f 8 6 0 1099511627776 (f 6 1 0 5 (Msg.go5 kind f o (g x0)))))  : Does Try.prog 78 [.pointer (some ⟨bm, 0, none⟩), .func (.func fn) #[] c1.toArray, .func (.func fo) #[] c2.toArray] V (Hx x0) (fun _ V' H' => V' = V ∧ ∃ y, g y = Msg.go kind f o (g x0) ∧ H' = Hx y) := by
 refine Does.intro Try.func78 rfl rfl (le rfl) (fun B => ?_)
 refine Zs<|Zr<|Zm Z<|Zm Z<|Zv (Y.nilCheck Z)<|Zv (Y.fieldAddr Z Message_fo35_1)<|Zv (Y.buildS (l := [(0, .tmp 9), (1, .const (.int .i64 4)), (2, .const (.int .i64 1)), (3, .const (.int .i64 536870912))]) Message_zo145 Message_pl145 Z Z)<|?_
 refine Run.callW (l := [.tmp 10]) rfl rfl rfl (lt rfl) (hn x0 1 4 1 536870912 (by simp [Msg.flds]) (by simp only [hP])) (fun vx1 V2 H2 _ hR => ?_)
 obtain ⟨hV, x1, qx1, rfl⟩ := hR; replace hV := hV.symm; subst hV
 refine Ze<|Zg<|?_
 refine Tr.cutx (X := X) (fun x => V) (fun x => (Hx x)) (fun x => [(0, .pointer (some ⟨bm, 0, none⟩)), (1, .func (.func fn) #[] c1.toArray), (2, .func (.func fo) #[] c2.toArray)]) (fun x => g x = Msg.go2 f (g x0)) ?_ ?_
 ·refine Zr<|Zm Z<|Zm Z<|Zv (Y.nilCheck Z)<|Zv (Y.fieldAddr Z Message_fo35_2)<|Zv (Y.buildS (l := [(0, .tmp 15), (1, .const (.int .i64 4)), (2, .const (.int .i64 0)), (3, .const (.int .i64 536870912))]) Message_zo145 Message_pl145 Z Z)<|?_
  refine Run.callW (l := [.tmp 16]) rfl rfl rfl (lt rfl) (hn x1 2 4 0 536870912 (by simp [Msg.flds]) (by simp only [qx1]; simp only [hP])) (fun vx2 V2 H2 _ hR => ?_)
  obtain ⟨hV, x2, qx2, rfl⟩ := hR; replace hV := hV.symm; subst hV
  refine Ze ?_
  exact ZX x2 (by simp only [Msg.go2, qx1, qx2])
 ·rintro x hx
  refine Tr.cutx (X := X) (fun x => V) (fun x => (Hx x)) (fun x => [(0, .pointer (some ⟨bm, 0, none⟩)), (1, .func (.func fn) #[] c1.toArray), (2, .func (.func fo) #[] c2.toArray)]) (fun x => g x = Msg.go3 kind f (g x0)) ?_ ?_
  ·refine Zs<|Zr<|Zm Z<|Zv (Y.nilCheck Z)<|Zv (Y.fieldAddr Z Message_fo35_0)<|?_
   obtain ⟨csk3, ek3, fzk3, hkk3, hck3⟩ := hm x
   refine Zv (Y.load Z Message_ts3 hkk3 hck3) ?_
   refine Run.buildSlice (l := [(0, .const (.int .i64 1)), (1, .const (.int .i64 3)), (2, .const (.int .i64 2))]) Message_es150 Message_zo3 rfl WD rfl rfl WD (lt rfl) (fun b4 => ?_)
   refine Run.call0 (l := [.tmp 21, .tmp 22]) rfl rfl rfl (lt rfl) (of_c (l := [1, 3, 2]) (Rd.one (Kn.at 0 rfl) rfl) WD)<|Run.drop<|Run.sub [(0, .pointer (some ⟨bm, 0, none⟩)), (1, .func (.func fn) #[] c1.toArray), (2, .func (.func fo) #[] c2.toArray), (23, .bool ([1, 3, 2].contains kind))] (subB_cons (by first | rfl | exact congrArg (fun z => some (Value.int _ z)) W) (subB_cons (by first | rfl | exact congrArg (fun z => some (Value.int _ z)) W) (subB_cons (by first | rfl | exact congrArg (fun z => some (Value.int _ z)) W) (subB_cons (by first | rfl | exact congrArg (fun z => some (Value.int _ z)) W) (subB_nil _)))))<|?_
   refine Ze<|Zg<|?_
   rcases Zsplit ([1, 3, 2].contains kind) with ⟨h5, g5⟩ | ⟨h5, g5⟩ <;> try simp only [kb] at g5
   ·refine Tr.cond_t Z h5<|Zr<|Zm Z<|Zm Z<|Zv (Y.nilCheck Z)<|Zv (Y.fieldAddr Z Message_fo35_3)<|Zv (Y.buildS (l := [(0, .tmp 27), (1, .const (.int .i64 4)), (2, .const (.int .i64 1)), (3, .const (.int .i64 1073741824))]) Message_zo145 Message_pl145 Z Z)<|?_
    refine Run.callW (l := [.tmp 28]) rfl rfl rfl (lt rfl) (hn x 3 4 1 1073741824 (by simp [Msg.flds]) (by simp only [hx]; simp only [hP])) (fun vx6 V2 H2 _ hR => ?_)
    obtain ⟨hV, x6, qx6, rfl⟩ := hR; replace hV := hV.symm; subst hV
    refine Ze ?_
    exact ZX x6 (by simp only [Msg.go3, h5, qx6, hx, if_true, Bool.false_eq_true, if_false])
   ·refine Tr.cond_f Z h5<|Zt<|?_
    exact ZX x (by simp only [Msg.go3, h5, hx, hx, if_true, Bool.false_eq_true, if_false])
  ·rintro x hx
   refine Tr.cutx (X := X) (fun x => V) (fun x => (Hx x)) (fun x => [(0, .pointer (some ⟨bm, 0, none⟩)), (1, .func (.func fn) #[] c1.toArray), (2, .func (.func fo) #[] c2.toArray)]) (fun x => g x = Msg.go4 kind f (g x0)) ?_ ?_
   ·refine Zs<|Zr<|Zm Z<|Zv (Y.nilCheck Z)<|Zv (Y.fieldAddr Z Message_fo35_0)<|?_
    obtain ⟨csk7, ek7, fzk7, hkk7, hck7⟩ := hm x
    refine Zv (Y.load Z Message_ts3 hkk7 hck7) ?_
    refine Run.buildSlice (l := [(0, .const (.int .i64 1))]) Message_es150 Message_zo3 rfl WD rfl rfl WD (lt rfl) (fun b8 => ?_)
    refine Run.call0 (l := [.tmp 33, .tmp 34]) rfl rfl rfl (lt rfl) (of_c (l := [1]) (Rd.one (Kn.at 0 rfl) rfl) WD)<|Run.drop<|Run.sub [(0, .pointer (some ⟨bm, 0, none⟩)), (1, .func (.func fn) #[] c1.toArray), (2, .func (.func fo) #[] c2.toArray), (35, .bool ([1].contains kind))] (subB_cons (by first | rfl | exact congrArg (fun z => some (Value.int _ z)) W) (subB_cons (by first | rfl | exact congrArg (fun z => some (Value.int _ z)) W) (subB_cons (by first | rfl | exact congrArg (fun z => some (Value.int _ z)) W) (subB_cons (by first | rfl | exact congrArg (fun z => some (Value.int _ z)) W) (subB_nil _)))))<|?_
    refine Ze<|Zg<|?_
    rcases Zsplit ([1].contains kind) with ⟨h9, g9⟩ | ⟨h9, g9⟩ <;> try simp only [kb] at g9
    ·refine Tr.cond_t Z h9<|Zr<|Zm Z<|Zm Z<|Zv (Y.nilCheck Z)<|Zv (Y.fieldAddr Z Message_fo35_4)<|Zv (Y.buildS (l := [(0, .tmp 39), (1, .const (.int .i64 1)), (2, .const (.int .i64 0)), (3, .const (.int .i64 8))]) Message_zo145 Message_pl145 Z Z)<|?_
     refine Run.callW (l := [.tmp 40]) rfl rfl rfl (lt rfl) (hn x 4 1 0 8 (by simp [Msg.flds]) (by simp only [hx]; simp only [hP])) (fun vx10 V2 H2 _ hR => ?_)
     obtain ⟨hV, x10, qx10, rfl⟩ := hR; replace hV := hV.symm; subst hV
     refine Ze ?_
     exact ZX x10 (by simp only [Msg.go4, h9, qx10, hx, if_true, Bool.false_eq_true, if_false])
    ·refine Tr.cond_f Z h9<|Zt<|?_
     exact ZX x (by simp only [Msg.go4, h9, hx, hx, if_true, Bool.false_eq_true, if_false])
   ·rintro x hx
    refine Tr.cutx (X := X) (fun x => V) (fun x => (Hx x)) (fun x => [(0, .pointer (some ⟨bm, 0, none⟩)), (1, .func (.func fn) #[] c1.toArray), (2, .func (.func fo) #[] c2.toArray)]) (fun x => g x = Msg.go5 kind f o (g x0)) ?_ ?_
    ·refine Zs<|Zr<|Zm Z<|Zv (Y.nilCheck Z)<|Zv (Y.fieldAddr Z Message_fo35_0)<|?_
     obtain ⟨csk11, ek11, fzk11, hkk11, hck11⟩ := hm x
     refine Zv (Y.load Z Message_ts3 hkk11 hck11) ?_
     refine Run.buildSlice (l := [(0, .const (.int .i64 3)), (1, .const (.int .i64 2))]) Message_es150 Message_zo3 rfl WD rfl rfl WD (lt rfl) (fun b12 => ?_)
     refine Run.call0 (l := [.tmp 45, .tmp 46]) rfl rfl rfl (lt rfl) (of_c (l := [3, 2]) (Rd.one (Kn.at 0 rfl) rfl) WD)<|Run.drop<|Run.sub [(0, .pointer (some ⟨bm, 0, none⟩)), (1, .func (.func fn) #[] c1.toArray), (2, .func (.func fo) #[] c2.toArray), (47, .bool ([3, 2].contains kind))] (subB_cons (by first | rfl | exact congrArg (fun z => some (Value.int _ z)) W) (subB_cons (by first | rfl | exact congrArg (fun z => some (Value.int _ z)) W) (subB_cons (by first | rfl | exact congrArg (fun z => some (Value.int _ z)) W) (subB_cons (by first | rfl | exact congrArg (fun z => some (Value.int _ z)) W) (subB_nil _)))))<|?_
     refine Ze<|Zg<|?_
     rcases Zsplit ([3, 2].contains kind) with ⟨h13, g13⟩ | ⟨h13, g13⟩ <;> try simp only [kb] at g13
     ·refine Tr.cond_t Z h13<|Zr<|Zm Z<|?_
      refine Run.callW (l := []) rfl rfl rfl (lt rfl) (ho x (by simp only [hx]; simp only [hP])) (fun vx14 V2 H2 _ hR => ?_)
      obtain ⟨hV, x14, qx14, rfl⟩ := hR; replace hV := hV.symm; subst hV
      refine Ze ?_
      exact ZX x14 (by simp only [Msg.go5, h13, qx14, hx, if_true, Bool.false_eq_true, if_false])
     ·refine Tr.cond_f Z h13<|Zt<|?_
      exact ZX x (by simp only [Msg.go5, h13, hx, hx, if_true, Bool.false_eq_true, if_false])
    ·rintro x hx
     refine Zs<|Zr<|Zm Z<|Zv (Y.nilCheck Z)<|Zv (Y.fieldAddr Z Message_fo35_0)<|?_
     obtain ⟨csk15, ek15, fzk15, hkk15, hck15⟩ := hm x
     refine Zv (Y.load Z Message_ts3 hkk15 hck15) ?_
     refine Run.buildSlice (l := [(0, .const (.int .i64 2))]) Message_es150 Message_zo3 rfl WD rfl rfl WD (lt rfl) (fun b16 => ?_)
     refine Run.call0 (l := [.tmp 53, .tmp 54]) rfl rfl rfl (lt rfl) (of_c (l := [2]) (Rd.one (Kn.at 0 rfl) rfl) WD)<|Run.drop<|Run.sub [(0, .pointer (some ⟨bm, 0, none⟩)), (1, .func (.func fn) #[] c1.toArray), (2, .func (.func fo) #[] c2.toArray), (55, .bool ([2].contains kind))] (subB_cons (by first | rfl | exact congrArg (fun z => some (Value.int _ z)) W) (subB_cons (by first | rfl | exact congrArg (fun z => some (Value.int _ z)) W) (subB_cons (by first | rfl | exact congrArg (fun z => some (Value.int _ z)) W) (subB_cons (by first | rfl | exact congrArg (fun z => some (Value.int _ z)) W) (subB_nil _)))))<|?_
     refine Ze<|Zg<|?_
     rcases Zsplit ([2].contains kind) with ⟨h17, g17⟩ | ⟨h17, g17⟩ <;> try simp only [kb] at g17
     ·refine Tr.cond_t Z h17<|Zs<|Zr<|Zm Z<|Zm Z<|Zv (Y.nilCheck Z)<|Zv (Y.fieldAddr Z Message_fo35_6)<|Zv (Y.buildS (l := [(0, .tmp 59), (1, .const (.int .i64 1)), (2, .const (.int .i64 0)), (3, .const (.int .i64 5))]) Message_zo145 Message_pl145 Z Z)<|?_
      refine Run.callW (l := [.tmp 60]) rfl rfl rfl (lt rfl) (hn x 6 1 0 5 (by simp [Msg.flds]) (by simp only [hx]; simp only [hP])) (fun vx18 V2 H2 _ hR => ?_)
      obtain ⟨hV, x18, qx18, rfl⟩ := hR; replace hV := hV.symm; subst hV
      refine Ze<|Zg<|Zs<|Zr<|Zm Z<|Zm Z<|Zv (Y.nilCheck Z)<|Zv (Y.fieldAddr Z Message_fo35_8)<|Zv (Y.buildS (l := [(0, .tmp 65), (1, .const (.int .i64 6)), (2, .const (.int .i64 0)), (3, .const (.int .i64 1099511627776))]) Message_zo145 Message_pl145 Z Z)<|?_
      refine Run.callW (l := [.tmp 66]) rfl rfl rfl (lt rfl) (hn x18 8 6 0 1099511627776 (by simp [Msg.flds]) (by simp only [qx18, hx]; simp only [hP])) (fun vx19 V2 H2 _ hR => ?_)
      obtain ⟨hV, x19, qx19, rfl⟩ := hR; replace hV := hV.symm; subst hV
      refine Ze<|Zg<|Zr<|Zm Z<|Zm Z<|Zv (Y.nilCheck Z)<|Zv (Y.fieldAddr Z Message_fo35_9)<|Zv (Y.buildS (l := [(0, .tmp 71), (1, .const (.int .i64 6)), (2, .const (.int .i64 0)), (3, .const (.int .i64 1099511627776))]) Message_zo145 Message_pl145 Z Z)<|?_
      refine Run.callW (l := [.tmp 72]) rfl rfl rfl (lt rfl) (hn x19 9 6 0 1099511627776 (by simp [Msg.flds]) (by simp only [qx19, qx18, hx]; simp only [hP])) (fun vx20 V2 H2 _ hR => ?_)
      obtain ⟨hV, x20, qx20, rfl⟩ := hR; replace hV := hV.symm; subst hV
      refine Ze ?_
      exact Ex.end0 rfl ⟨rfl, x20, by simp only [Msg.go, h17, qx18, qx19, qx20, hx, if_true, Bool.false_eq_true, if_false], rfl⟩
     ·refine Tr.cond_f Z h17<|Zt<|?_
      exact Ex.end0 rfl ⟨rfl, x, by simp only [Msg.go, h17, hx, hx, if_true, Bool.false_eq_true, if_false], rfl⟩

theorem bare1_1 {m : Msg} {bm : Nat} {n lo hi : Int} {V : Vw} : Does Try.prog 103 [.agg #[.pointer (some ⟨bm, 1, none⟩), .int .i64 n, .int .i64 lo, .int .i64 hi]] V [[(bm, .cells (m : Msg).cells 35 (0, 0))]] (fun _ V' H' => V' = V ∧ H' = [[(bm, .cells (m.setNum 1 0 : Msg).cells 35 (0, 0))]]) := by
 refine Does.intro Try.func103 rfl rfl (le rfl) (fun B => ?_)
 refine Zs<|Zr<|?_
 refine Run.box rfl (lt rfl) (fun b1 => ?_)
 refine Ze<|Zg<|Zr<|Zv (Y.fieldAddr Z Message_fo145_0)<|Zv (Y.load Z Message_ts143 (Kn.at 0 Z) Z)<|Zv (Y.nilCheck Z)<|Run.store (s := [(bm, .cells #[.int .i64 m.kind, .int .i64 0, .int .i64 m.seen, .int .i64 m.xid, .int .i64 m.state, .int .u32 m.addr, .int .i64 m.bind, .string m.client, .int .i64 m.pot, .int .i64 m.at_, .bool m.ok] 35 (0, 0))]) Z Z Message_sz3 (i := 1) Z Z (le Z) Z Z<|Ze<|Ex.keep [1]<|?_
 exact Ex.end0 rfl ⟨rfl, rfl⟩

theorem bare1_2 {m : Msg} {bm : Nat} {n lo hi : Int} {V : Vw} : Does Try.prog 103 [.agg #[.pointer (some ⟨bm, 2, none⟩), .int .i64 n, .int .i64 lo, .int .i64 hi]] V [[(bm, .cells (m : Msg).cells 35 (0, 0))]] (fun _ V' H' => V' = V ∧ H' = [[(bm, .cells (m.setNum 2 0 : Msg).cells 35 (0, 0))]]) := by
 refine Does.intro Try.func103 rfl rfl (le rfl) (fun B => ?_)
 refine Zs<|Zr<|?_
 refine Run.box rfl (lt rfl) (fun b1 => ?_)
 refine Ze<|Zg<|Zr<|Zv (Y.fieldAddr Z Message_fo145_0)<|Zv (Y.load Z Message_ts143 (Kn.at 0 Z) Z)<|Zv (Y.nilCheck Z)<|Run.store (s := [(bm, .cells #[.int .i64 m.kind, .int .i64 m.life, .int .i64 0, .int .i64 m.xid, .int .i64 m.state, .int .u32 m.addr, .int .i64 m.bind, .string m.client, .int .i64 m.pot, .int .i64 m.at_, .bool m.ok] 35 (0, 0))]) Z Z Message_sz3 (i := 1) Z Z (le Z) Z Z<|Ze<|Ex.keep [1]<|?_
 exact Ex.end0 rfl ⟨rfl, rfl⟩

theorem bare1_3 {m : Msg} {bm : Nat} {n lo hi : Int} {V : Vw} : Does Try.prog 103 [.agg #[.pointer (some ⟨bm, 3, none⟩), .int .i64 n, .int .i64 lo, .int .i64 hi]] V [[(bm, .cells (m : Msg).cells 35 (0, 0))]] (fun _ V' H' => V' = V ∧ H' = [[(bm, .cells (m.setNum 3 0 : Msg).cells 35 (0, 0))]]) := by
 refine Does.intro Try.func103 rfl rfl (le rfl) (fun B => ?_)
 refine Zs<|Zr<|?_
 refine Run.box rfl (lt rfl) (fun b1 => ?_)
 refine Ze<|Zg<|Zr<|Zv (Y.fieldAddr Z Message_fo145_0)<|Zv (Y.load Z Message_ts143 (Kn.at 0 Z) Z)<|Zv (Y.nilCheck Z)<|Run.store (s := [(bm, .cells #[.int .i64 m.kind, .int .i64 m.life, .int .i64 m.seen, .int .i64 0, .int .i64 m.state, .int .u32 m.addr, .int .i64 m.bind, .string m.client, .int .i64 m.pot, .int .i64 m.at_, .bool m.ok] 35 (0, 0))]) Z Z Message_sz3 (i := 1) Z Z (le Z) Z Z<|Ze<|Ex.keep [1]<|?_
 exact Ex.end0 rfl ⟨rfl, rfl⟩

theorem bare1_4 {m : Msg} {bm : Nat} {n lo hi : Int} {V : Vw} : Does Try.prog 103 [.agg #[.pointer (some ⟨bm, 4, none⟩), .int .i64 n, .int .i64 lo, .int .i64 hi]] V [[(bm, .cells (m : Msg).cells 35 (0, 0))]] (fun _ V' H' => V' = V ∧ H' = [[(bm, .cells (m.setNum 4 0 : Msg).cells 35 (0, 0))]]) := by
 refine Does.intro Try.func103 rfl rfl (le rfl) (fun B => ?_)
 refine Zs<|Zr<|?_
 refine Run.box rfl (lt rfl) (fun b1 => ?_)
 refine Ze<|Zg<|Zr<|Zv (Y.fieldAddr Z Message_fo145_0)<|Zv (Y.load Z Message_ts143 (Kn.at 0 Z) Z)<|Zv (Y.nilCheck Z)<|Run.store (s := [(bm, .cells #[.int .i64 m.kind, .int .i64 m.life, .int .i64 m.seen, .int .i64 m.xid, .int .i64 0, .int .u32 m.addr, .int .i64 m.bind, .string m.client, .int .i64 m.pot, .int .i64 m.at_, .bool m.ok] 35 (0, 0))]) Z Z Message_sz3 (i := 1) Z Z (le Z) Z Z<|Ze<|Ex.keep [1]<|?_
 exact Ex.end0 rfl ⟨rfl, rfl⟩

theorem bare1_6 {m : Msg} {bm : Nat} {n lo hi : Int} {V : Vw} : Does Try.prog 103 [.agg #[.pointer (some ⟨bm, 6, none⟩), .int .i64 n, .int .i64 lo, .int .i64 hi]] V [[(bm, .cells (m : Msg).cells 35 (0, 0))]] (fun _ V' H' => V' = V ∧ H' = [[(bm, .cells (m.setNum 6 0 : Msg).cells 35 (0, 0))]]) := by
 refine Does.intro Try.func103 rfl rfl (le rfl) (fun B => ?_)
 refine Zs<|Zr<|?_
 refine Run.box rfl (lt rfl) (fun b1 => ?_)
 refine Ze<|Zg<|Zr<|Zv (Y.fieldAddr Z Message_fo145_0)<|Zv (Y.load Z Message_ts143 (Kn.at 0 Z) Z)<|Zv (Y.nilCheck Z)<|Run.store (s := [(bm, .cells #[.int .i64 m.kind, .int .i64 m.life, .int .i64 m.seen, .int .i64 m.xid, .int .i64 m.state, .int .u32 m.addr, .int .i64 0, .string m.client, .int .i64 m.pot, .int .i64 m.at_, .bool m.ok] 35 (0, 0))]) Z Z Message_sz3 (i := 1) Z Z (le Z) Z Z<|Ze<|Ex.keep [1]<|?_
 exact Ex.end0 rfl ⟨rfl, rfl⟩

theorem bare1_8 {m : Msg} {bm : Nat} {n lo hi : Int} {V : Vw} : Does Try.prog 103 [.agg #[.pointer (some ⟨bm, 8, none⟩), .int .i64 n, .int .i64 lo, .int .i64 hi]] V [[(bm, .cells (m : Msg).cells 35 (0, 0))]] (fun _ V' H' => V' = V ∧ H' = [[(bm, .cells (m.setNum 8 0 : Msg).cells 35 (0, 0))]]) := by
 refine Does.intro Try.func103 rfl rfl (le rfl) (fun B => ?_)
 refine Zs<|Zr<|?_
 refine Run.box rfl (lt rfl) (fun b1 => ?_)
 refine Ze<|Zg<|Zr<|Zv (Y.fieldAddr Z Message_fo145_0)<|Zv (Y.load Z Message_ts143 (Kn.at 0 Z) Z)<|Zv (Y.nilCheck Z)<|Run.store (s := [(bm, .cells #[.int .i64 m.kind, .int .i64 m.life, .int .i64 m.seen, .int .i64 m.xid, .int .i64 m.state, .int .u32 m.addr, .int .i64 m.bind, .string m.client, .int .i64 0, .int .i64 m.at_, .bool m.ok] 35 (0, 0))]) Z Z Message_sz3 (i := 1) Z Z (le Z) Z Z<|Ze<|Ex.keep [1]<|?_
 exact Ex.end0 rfl ⟨rfl, rfl⟩

theorem bare1_9 {m : Msg} {bm : Nat} {n lo hi : Int} {V : Vw} : Does Try.prog 103 [.agg #[.pointer (some ⟨bm, 9, none⟩), .int .i64 n, .int .i64 lo, .int .i64 hi]] V [[(bm, .cells (m : Msg).cells 35 (0, 0))]] (fun _ V' H' => V' = V ∧ H' = [[(bm, .cells (m.setNum 9 0 : Msg).cells 35 (0, 0))]]) := by
 refine Does.intro Try.func103 rfl rfl (le rfl) (fun B => ?_)
 refine Zs<|Zr<|?_
 refine Run.box rfl (lt rfl) (fun b1 => ?_)
 refine Ze<|Zg<|Zr<|Zv (Y.fieldAddr Z Message_fo145_0)<|Zv (Y.load Z Message_ts143 (Kn.at 0 Z) Z)<|Zv (Y.nilCheck Z)<|Run.store (s := [(bm, .cells #[.int .i64 m.kind, .int .i64 m.life, .int .i64 m.seen, .int .i64 m.xid, .int .i64 m.state, .int .u32 m.addr, .int .i64 m.bind, .string m.client, .int .i64 m.pot, .int .i64 0, .bool m.ok] 35 (0, 0))]) Z Z Message_sz3 (i := 1) Z Z (le Z) Z Z<|Ze<|Ex.keep [1]<|?_
 exact Ex.end0 rfl ⟨rfl, rfl⟩

theorem bare1_c {m : Msg} {bm j : Nat} {n lo hi : Int} {V : Vw} (h : (j, n, lo, hi) ∈ Msg.flds) : Does Try.prog 103 [.agg #[.pointer (some ⟨bm, j, none⟩), .int .i64 n, .int .i64 lo, .int .i64 hi]] V [[(bm, .cells (m : Msg).cells 35 (0, 0))]] (fun _ V' H' => V' = V ∧ H' = [[(bm, .cells (m.setNum j 0 : Msg).cells 35 (0, 0))]]) := by
  simp only [Msg.flds, List.mem_cons, Prod.mk.injEq, List.mem_nil_iff, or_false] at h
  rcases h with ⟨rfl, rfl, rfl, rfl⟩ | ⟨rfl, rfl, rfl, rfl⟩ | ⟨rfl, rfl, rfl, rfl⟩ | ⟨rfl, rfl, rfl, rfl⟩ | ⟨rfl, rfl, rfl, rfl⟩ | ⟨rfl, rfl, rfl, rfl⟩ | ⟨rfl, rfl, rfl, rfl⟩
  · exact bare1_1
  · exact bare1_2
  · exact bare1_3
  · exact bare1_4
  · exact bare1_6
  · exact bare1_8
  · exact bare1_9

theorem bare2_c {m : Msg} {bm : Nat} {V : Vw} : Does Try.prog 104 [.pointer (some ⟨bm, 0, none⟩)] V [[(bm, .cells (m : Msg).cells 35 (0, 0))]] (fun _ V' H' => V' = V ∧ H' = [[(bm, .cells ({ m with ok := m.ok && decide (m.kind ≠ 3) } : Msg).cells 35 (0, 0))]]) := by
 refine Does.intro Try.func104 rfl rfl (le rfl) (fun B => ?_)
 refine Zr<|Zv (Y.fieldAddr Z Message_fo35_10)<|Zv (Y.load Z Message_ts4 (Kn.at 0 Z) Z)<|Zm Z<|?_
 rcases Zsplit (m.ok) with ⟨h1, g1⟩ | ⟨h1, g1⟩ <;> try simp only [kb] at g1
 ·refine Zp h1<|Zv (Y.fieldAddr Z Message_fo35_0)<|Zp h1<|Zv (Y.load Z Message_ts3 (Kn.at 0 Z) Z)<|Zp h1<|Zv (Y.int Z Z Z)<|Zv (Y.pick_t Z h1 Z)<|Zv (Y.fieldAddr Z Message_fo35_10)<|Run.store (s := [(bm, .cells #[.int .i64 m.kind, .int .i64 m.life, .int .i64 m.seen, .int .i64 m.xid, .int .i64 m.state, .int .u32 m.addr, .int .i64 m.bind, .string m.client, .int .i64 m.pot, .int .i64 m.at_, .bool (m.kind != 3)] 35 (0, 0))]) Z Z Message_sz4 (i := 0) Z Z (le Z) Z Z<|?_
  refine Ze ?_
  exact Ex.end0 rfl ⟨rfl, by rw [show (m.ok && decide (m.kind ≠ 3)) = (m.kind != 3) from by have e : decide (m.kind ≠ 3) = (m.kind != 3) := (by by_cases h : m.kind = 3 <;> simp [h]); rw [e]; simp_all]; rfl⟩
 ·refine Zo h1 Z<|Zo h1 Z<|Zo h1 Z<|Zv (Y.pick_f Z h1 Z)<|Zv (Y.fieldAddr Z Message_fo35_10)<|Run.store (s := [(bm, .cells #[.int .i64 m.kind, .int .i64 m.life, .int .i64 m.seen, .int .i64 m.xid, .int .i64 m.state, .int .u32 m.addr, .int .i64 m.bind, .string m.client, .int .i64 m.pot, .int .i64 m.at_, .bool false] 35 (0, 0))]) Z Z Message_sz4 (i := 0) Z Z (le Z) Z Z<|Ze<|?_
  exact Ex.end0 rfl ⟨rfl, by rw [show (m.ok && decide (m.kind ≠ 3)) = (false) from by have e : decide (m.kind ≠ 3) = (m.kind != 3) := (by by_cases h : m.kind = 3 <;> simp [h]); rw [e]; simp_all]; rfl⟩

theorem setNum_kind {m : Msg} {j : Nat} {n lo hi z : Int} (h : (j, n, lo, hi) ∈ Msg.flds) : (m.setNum j z).kind = m.kind := by
  simp only [Msg.flds, List.mem_cons, Prod.mk.injEq, List.mem_nil_iff, or_false] at h
  rcases h with ⟨rfl, rfl, rfl, rfl⟩ | ⟨rfl, rfl, rfl, rfl⟩ | ⟨rfl, rfl, rfl, rfl⟩ | ⟨rfl, rfl, rfl, rfl⟩ | ⟨rfl, rfl, rfl, rfl⟩ | ⟨rfl, rfl, rfl, rfl⟩ | ⟨rfl, rfl, rfl, rfl⟩
  all_goals rfl

theorem bare_c0 {m : Msg} {V : Vw} : Does Try.prog 82 [.agg #[.int .i64 m.kind, .int .i64 m.life, .int .i64 m.seen, .int .i64 m.xid, .int .i64 m.state, .int .u32 m.addr, .int .i64 m.bind, .string m.client, .int .i64 m.pot, .int .i64 m.at_, .bool m.ok]] V [] (Pv (.agg (Msg.bare m).cells) V []) := by
 refine Does.intro Try.func82 rfl rfl (le rfl) (fun B => ?_)
 refine Zs<|Zr<|?_
 refine Run.box rfl (lt rfl) (fun b1 => ?_)
 refine Run.alloc Message_zo35 (lt rfl) (fun b2 => ?_)
 refine Ze<|Zg<|Zs<|Zr<|Zv (Y.makeFunc (l := []) (l' := [.tmp 1]) Z Z)<|?_
 refine Run.call [1] (l := [.tmp 1, .func 103, .tmp 3]) rfl rfl rfl (lt rfl) (walk_c (X := {b : Msg // b.kind = m.kind}) (Hx := fun x => [[(b1, .cells (x.1 : Msg).cells 35 (0, 0))]]) (kind := m.kind) Subtype.val (fun j _ _ _ b => b.setNum j 0) (fun b => { b with ok := b.ok && decide (b.kind ≠ 3) }) (fun _ => True)
   (fun x => ⟨_, _, _, Kn.at 0 rfl, by show some (Value.int .i64 x.1.kind) = _; rw [x.2]⟩)
   (fun x j n lo hi h _ => (bare1_c h).mono fun v V2 H2 ⟨h1, h2⟩ => ⟨h1, ⟨⟨x.1.setNum j 0, by rw [setNum_kind h]; exact x.2⟩, rfl, h2⟩⟩)
   (fun x _ => bare2_c.mono fun v V2 H2 ⟨h1, h2⟩ => ⟨h1, ⟨⟨{ x.1 with ok := x.1.ok && decide (x.1.kind ≠ 3) }, x.2⟩, rfl, h2⟩⟩) ⟨m, rfl⟩ (by simp)) (fun v V2 H2 _ hR => ?_)
 obtain ⟨hV, ⟨y, hy⟩, q, rfl⟩ := hR; replace hV := hV.symm; subst hV; simp only at q
 refine Ze<|Zg<|Zs<|Zs<|Zr<|Zv (Y.fieldAddr Z Message_fo35_0)<|Zv (Y.load Z Message_ts3 (Kn.at 1 Z) Z)<|Zv (Y.int Z Z Z)<|Ze<|Zg<|?_
 rcases Zsplit (y.kind == 2) with ⟨h3, g3⟩ | ⟨h3, g3⟩ <;> try simp only [kb] at g3
 ·refine Tr.cond_t Z h3<|Zr<|Zv (Y.fieldAddr Z Message_fo35_5)<|Run.store (s := [(b1, .cells #[.int .i64 y.kind, .int .i64 y.life, .int .i64 y.seen, .int .i64 y.xid, .int .i64 y.state, .int .u32 0, .int .i64 y.bind, .string y.client, .int .i64 y.pot, .int .i64 y.at_, .bool y.ok] 35 (0, 0))]) Z Z Message_sz30 (i := 1) Z Z (le Z) Z Z<|Zv (Y.fieldAddr Z Message_fo35_7)<|Run.store (s := [(b1, .cells #[.int .i64 y.kind, .int .i64 y.life, .int .i64 y.seen, .int .i64 y.xid, .int .i64 y.state, .int .u32 0, .int .i64 y.bind, .string ⟨#[]⟩, .int .i64 y.pot, .int .i64 y.at_, .bool y.ok] 35 (0, 0))]) Z Z Message_sz9 (i := 1) Z Z (le Z) Z Z<|?_
  refine Ze<|Zg<|Zs<|Zr<|Zv (Y.loadAgg Z Message_ag35 (Kn.at 1 Z) Z)<|Run.store (s := [(b2, .cells #[.int .i64 y.kind, .int .i64 y.life, .int .i64 y.seen, .int .i64 y.xid, .int .i64 y.state, .int .u32 0, .int .i64 y.bind, .string ⟨#[]⟩, .int .i64 y.pot, .int .i64 y.at_, .bool y.ok] 35 (0, 0))]) Z Z Message_sz35 (i := 0) Z Z (le Z) Z Z<|Ze<|Zg<|Zu<|?_
  exact Ex.retCell [] rfl rfl Message_ag35 (Kn.at 0 rfl) rfl ⟨by rw [show Msg.bare m = ({ y with addr := 0, client := ⟨#[]⟩ } : Msg) from by unfold Msg.bare; rw [← q]; exact if_pos (by rw [← hy]; exact g3)]; rfl, rfl, rfl⟩
 ·refine Tr.cond_f Z h3<|Zt<|Zg<|Zs<|Zr<|Zv (Y.loadAgg Z Message_ag35 (Kn.at 1 Z) Z)<|Run.store (s := [(b2, .cells #[.int .i64 y.kind, .int .i64 y.life, .int .i64 y.seen, .int .i64 y.xid, .int .i64 y.state, .int .u32 y.addr, .int .i64 y.bind, .string y.client, .int .i64 y.pot, .int .i64 y.at_, .bool y.ok] 35 (0, 0))]) Z Z Message_sz35 (i := 0) Z Z (le Z) Z Z<|Ze<|Zg<|Zu<|?_
  exact Ex.retCell [] rfl rfl Message_ag35 (Kn.at 0 rfl) rfl ⟨by rw [show Msg.bare m = y from by unfold Msg.bare; rw [← q]; exact if_neg (by rw [← hy]; exact g3)]; rfl, rfl, rfl⟩

theorem bare_c {m : Msg} {V : Vw} {H : Hp} : Does Try.prog 82 [.agg m.cells] V H (Pv (.agg (Msg.bare m).cells) V H) := bare_c0.frame

theorem right1_1 {m : Msg} {bm bf : Nat} {fine : Bool} {n lo hi : Int} {V : Vw} : Does Try.prog 79 [.agg #[.pointer (some ⟨bm, 1, none⟩), .int .i64 n, .int .i64 lo, .int .i64 hi], .pointer (some ⟨bf, 0, none⟩)] V [[(bf, .cells #[.bool fine] 4 (0, 0))], [(bm, .cells (m : Msg).cells 35 (0, 0))]] (fun _ V' H' => V' = V ∧ H' = [[(bf, .cells #[.bool (fine && Msg.within (m.num 1) lo hi)] 4 (0, 0))], [(bm, .cells (m : Msg).cells 35 (0, 0))]]) := by
 refine Does.intro Try.func79 rfl rfl (le rfl) (fun B => ?_)
 refine Zs<|Zr<|?_
 refine Run.box rfl (lt rfl) (fun b1 => ?_)
 refine Ze<|Zg<|Tr.tail 12 Message_mo WK<|ZV (Y.load Z Message_ts4 (Kn.at 1 Z) Z)<|ZM Z<|?_
 rcases Zsplit (fine) with ⟨h2, g2⟩ | ⟨h2, g2⟩ <;> try simp only [kb] at g2
 ·refine ZP h2<|ZV (Y.fieldAddr Z Message_fo145_0)<|ZP h2<|ZV (Y.load Z Message_ts143 (Kn.at 0 Z) Z)<|ZP h2<|ZV (Y.nilCheck Z)<|ZP h2<|ZV (Y.load Z Message_ts3 (Kn.at 2 Z) Z)<|ZP h2<|ZV (Y.fieldAddr Z Message_fo145_2)<|ZP h2<|ZV (Y.load Z Message_ts3 (Kn.at 0 Z) Z)<|ZP h2<|ZV (Y.fieldAddr Z Message_fo145_3)<|ZP h2<|ZV (Y.load Z Message_ts3 (Kn.at 0 Z) Z)<|?_
  refine ZP h2<|RunQ.call0 (l := [.tmp 8, .tmp 10, .tmp 12]) Z Z Z (lt Z) within_c0_h<|ZV (Y.pick_t Z h2 Z)<|RunQ.nil_run<|Run.store (s := [(bf, .cells #[.bool (Msg.within m.life lo hi)] 4 (0, 0))]) Z Z Message_sz4 (i := 1) Z Z (le Z) Z Z<|Ze<|Ex.keep [1, 1]<|?_
  exact Ex.end0 rfl ⟨rfl, by rw [show (fine && Msg.within (m.num 1) lo hi) = (Msg.within m.life lo hi) from by simp_all [Msg.num]]; rfl⟩
 ·refine ZO h2 Z<|ZO h2 Z<|ZO h2 Z<|ZO h2 Z<|ZO h2 Z<|ZO h2 Z<|ZO h2 Z<|ZO h2 Z<|ZO h2 Z<|ZV (Y.pick_f Z h2 Z)<|RunQ.nil_run<|Run.store (s := [(bf, .cells #[.bool false] 4 (0, 0))]) Z Z Message_sz4 (i := 1) Z Z (le Z) Z Z<|Ze<|Ex.keep [1, 1]<|?_
  exact Ex.end0 rfl ⟨rfl, by rw [show (fine && Msg.within (m.num 1) lo hi) = false from by simp_all [Msg.num]]; rfl⟩

theorem right1_2 {m : Msg} {bm bf : Nat} {fine : Bool} {n lo hi : Int} {V : Vw} : Does Try.prog 79 [.agg #[.pointer (some ⟨bm, 2, none⟩), .int .i64 n, .int .i64 lo, .int .i64 hi], .pointer (some ⟨bf, 0, none⟩)] V [[(bf, .cells #[.bool fine] 4 (0, 0))], [(bm, .cells (m : Msg).cells 35 (0, 0))]] (fun _ V' H' => V' = V ∧ H' = [[(bf, .cells #[.bool (fine && Msg.within (m.num 2) lo hi)] 4 (0, 0))], [(bm, .cells (m : Msg).cells 35 (0, 0))]]) := by
 refine Does.intro Try.func79 rfl rfl (le rfl) (fun B => ?_)
 refine Zs<|Zr<|?_
 refine Run.box rfl (lt rfl) (fun b1 => ?_)
 refine Ze<|Zg<|Tr.tail 12 Message_mo WK<|ZV (Y.load Z Message_ts4 (Kn.at 1 Z) Z)<|ZM Z<|?_
 rcases Zsplit (fine) with ⟨h2, g2⟩ | ⟨h2, g2⟩ <;> try simp only [kb] at g2
 ·refine ZP h2<|ZV (Y.fieldAddr Z Message_fo145_0)<|ZP h2<|ZV (Y.load Z Message_ts143 (Kn.at 0 Z) Z)<|ZP h2<|ZV (Y.nilCheck Z)<|ZP h2<|ZV (Y.load Z Message_ts3 (Kn.at 2 Z) Z)<|ZP h2<|ZV (Y.fieldAddr Z Message_fo145_2)<|ZP h2<|ZV (Y.load Z Message_ts3 (Kn.at 0 Z) Z)<|ZP h2<|ZV (Y.fieldAddr Z Message_fo145_3)<|ZP h2<|ZV (Y.load Z Message_ts3 (Kn.at 0 Z) Z)<|?_
  refine ZP h2<|RunQ.call0 (l := [.tmp 8, .tmp 10, .tmp 12]) Z Z Z (lt Z) within_c0_h<|ZV (Y.pick_t Z h2 Z)<|RunQ.nil_run<|Run.store (s := [(bf, .cells #[.bool (Msg.within m.seen lo hi)] 4 (0, 0))]) Z Z Message_sz4 (i := 1) Z Z (le Z) Z Z<|Ze<|Ex.keep [1, 1]<|?_
  exact Ex.end0 rfl ⟨rfl, by rw [show (fine && Msg.within (m.num 2) lo hi) = (Msg.within m.seen lo hi) from by simp_all [Msg.num]]; rfl⟩
 ·refine ZO h2 Z<|ZO h2 Z<|ZO h2 Z<|ZO h2 Z<|ZO h2 Z<|ZO h2 Z<|ZO h2 Z<|ZO h2 Z<|ZO h2 Z<|ZV (Y.pick_f Z h2 Z)<|RunQ.nil_run<|Run.store (s := [(bf, .cells #[.bool false] 4 (0, 0))]) Z Z Message_sz4 (i := 1) Z Z (le Z) Z Z<|Ze<|Ex.keep [1, 1]<|?_
  exact Ex.end0 rfl ⟨rfl, by rw [show (fine && Msg.within (m.num 2) lo hi) = false from by simp_all [Msg.num]]; rfl⟩

theorem right1_3 {m : Msg} {bm bf : Nat} {fine : Bool} {n lo hi : Int} {V : Vw} : Does Try.prog 79 [.agg #[.pointer (some ⟨bm, 3, none⟩), .int .i64 n, .int .i64 lo, .int .i64 hi], .pointer (some ⟨bf, 0, none⟩)] V [[(bf, .cells #[.bool fine] 4 (0, 0))], [(bm, .cells (m : Msg).cells 35 (0, 0))]] (fun _ V' H' => V' = V ∧ H' = [[(bf, .cells #[.bool (fine && Msg.within (m.num 3) lo hi)] 4 (0, 0))], [(bm, .cells (m : Msg).cells 35 (0, 0))]]) := by
 refine Does.intro Try.func79 rfl rfl (le rfl) (fun B => ?_)
 refine Zs<|Zr<|?_
 refine Run.box rfl (lt rfl) (fun b1 => ?_)
 refine Ze<|Zg<|Tr.tail 12 Message_mo WK<|ZV (Y.load Z Message_ts4 (Kn.at 1 Z) Z)<|ZM Z<|?_
 rcases Zsplit (fine) with ⟨h2, g2⟩ | ⟨h2, g2⟩ <;> try simp only [kb] at g2
 ·refine ZP h2<|ZV (Y.fieldAddr Z Message_fo145_0)<|ZP h2<|ZV (Y.load Z Message_ts143 (Kn.at 0 Z) Z)<|ZP h2<|ZV (Y.nilCheck Z)<|ZP h2<|ZV (Y.load Z Message_ts3 (Kn.at 2 Z) Z)<|ZP h2<|ZV (Y.fieldAddr Z Message_fo145_2)<|ZP h2<|ZV (Y.load Z Message_ts3 (Kn.at 0 Z) Z)<|ZP h2<|ZV (Y.fieldAddr Z Message_fo145_3)<|ZP h2<|ZV (Y.load Z Message_ts3 (Kn.at 0 Z) Z)<|?_
  refine ZP h2<|RunQ.call0 (l := [.tmp 8, .tmp 10, .tmp 12]) Z Z Z (lt Z) within_c0_h<|ZV (Y.pick_t Z h2 Z)<|RunQ.nil_run<|Run.store (s := [(bf, .cells #[.bool (Msg.within m.xid lo hi)] 4 (0, 0))]) Z Z Message_sz4 (i := 1) Z Z (le Z) Z Z<|Ze<|Ex.keep [1, 1]<|?_
  exact Ex.end0 rfl ⟨rfl, by rw [show (fine && Msg.within (m.num 3) lo hi) = (Msg.within m.xid lo hi) from by simp_all [Msg.num]]; rfl⟩
 ·refine ZO h2 Z<|ZO h2 Z<|ZO h2 Z<|ZO h2 Z<|ZO h2 Z<|ZO h2 Z<|ZO h2 Z<|ZO h2 Z<|ZO h2 Z<|ZV (Y.pick_f Z h2 Z)<|RunQ.nil_run<|Run.store (s := [(bf, .cells #[.bool false] 4 (0, 0))]) Z Z Message_sz4 (i := 1) Z Z (le Z) Z Z<|Ze<|Ex.keep [1, 1]<|?_
  exact Ex.end0 rfl ⟨rfl, by rw [show (fine && Msg.within (m.num 3) lo hi) = false from by simp_all [Msg.num]]; rfl⟩

theorem right1_4 {m : Msg} {bm bf : Nat} {fine : Bool} {n lo hi : Int} {V : Vw} : Does Try.prog 79 [.agg #[.pointer (some ⟨bm, 4, none⟩), .int .i64 n, .int .i64 lo, .int .i64 hi], .pointer (some ⟨bf, 0, none⟩)] V [[(bf, .cells #[.bool fine] 4 (0, 0))], [(bm, .cells (m : Msg).cells 35 (0, 0))]] (fun _ V' H' => V' = V ∧ H' = [[(bf, .cells #[.bool (fine && Msg.within (m.num 4) lo hi)] 4 (0, 0))], [(bm, .cells (m : Msg).cells 35 (0, 0))]]) := by
 refine Does.intro Try.func79 rfl rfl (le rfl) (fun B => ?_)
 refine Zs<|Zr<|?_
 refine Run.box rfl (lt rfl) (fun b1 => ?_)
 refine Ze<|Zg<|Tr.tail 12 Message_mo WK<|ZV (Y.load Z Message_ts4 (Kn.at 1 Z) Z)<|ZM Z<|?_
 rcases Zsplit (fine) with ⟨h2, g2⟩ | ⟨h2, g2⟩ <;> try simp only [kb] at g2
 ·refine ZP h2<|ZV (Y.fieldAddr Z Message_fo145_0)<|ZP h2<|ZV (Y.load Z Message_ts143 (Kn.at 0 Z) Z)<|ZP h2<|ZV (Y.nilCheck Z)<|ZP h2<|ZV (Y.load Z Message_ts3 (Kn.at 2 Z) Z)<|ZP h2<|ZV (Y.fieldAddr Z Message_fo145_2)<|ZP h2<|ZV (Y.load Z Message_ts3 (Kn.at 0 Z) Z)<|ZP h2<|ZV (Y.fieldAddr Z Message_fo145_3)<|ZP h2<|ZV (Y.load Z Message_ts3 (Kn.at 0 Z) Z)<|?_
  refine ZP h2<|RunQ.call0 (l := [.tmp 8, .tmp 10, .tmp 12]) Z Z Z (lt Z) within_c0_h<|ZV (Y.pick_t Z h2 Z)<|RunQ.nil_run<|Run.store (s := [(bf, .cells #[.bool (Msg.within m.state lo hi)] 4 (0, 0))]) Z Z Message_sz4 (i := 1) Z Z (le Z) Z Z<|Ze<|Ex.keep [1, 1]<|?_
  exact Ex.end0 rfl ⟨rfl, by rw [show (fine && Msg.within (m.num 4) lo hi) = (Msg.within m.state lo hi) from by simp_all [Msg.num]]; rfl⟩
 ·refine ZO h2 Z<|ZO h2 Z<|ZO h2 Z<|ZO h2 Z<|ZO h2 Z<|ZO h2 Z<|ZO h2 Z<|ZO h2 Z<|ZO h2 Z<|ZV (Y.pick_f Z h2 Z)<|RunQ.nil_run<|Run.store (s := [(bf, .cells #[.bool false] 4 (0, 0))]) Z Z Message_sz4 (i := 1) Z Z (le Z) Z Z<|Ze<|Ex.keep [1, 1]<|?_
  exact Ex.end0 rfl ⟨rfl, by rw [show (fine && Msg.within (m.num 4) lo hi) = false from by simp_all [Msg.num]]; rfl⟩

theorem right1_6 {m : Msg} {bm bf : Nat} {fine : Bool} {n lo hi : Int} {V : Vw} : Does Try.prog 79 [.agg #[.pointer (some ⟨bm, 6, none⟩), .int .i64 n, .int .i64 lo, .int .i64 hi], .pointer (some ⟨bf, 0, none⟩)] V [[(bf, .cells #[.bool fine] 4 (0, 0))], [(bm, .cells (m : Msg).cells 35 (0, 0))]] (fun _ V' H' => V' = V ∧ H' = [[(bf, .cells #[.bool (fine && Msg.within (m.num 6) lo hi)] 4 (0, 0))], [(bm, .cells (m : Msg).cells 35 (0, 0))]]) := by
 refine Does.intro Try.func79 rfl rfl (le rfl) (fun B => ?_)
 refine Zs<|Zr<|?_
 refine Run.box rfl (lt rfl) (fun b1 => ?_)
 refine Ze<|Zg<|Tr.tail 12 Message_mo WK<|ZV (Y.load Z Message_ts4 (Kn.at 1 Z) Z)<|ZM Z<|?_
 rcases Zsplit (fine) with ⟨h2, g2⟩ | ⟨h2, g2⟩ <;> try simp only [kb] at g2
 ·refine ZP h2<|ZV (Y.fieldAddr Z Message_fo145_0)<|ZP h2<|ZV (Y.load Z Message_ts143 (Kn.at 0 Z) Z)<|ZP h2<|ZV (Y.nilCheck Z)<|ZP h2<|ZV (Y.load Z Message_ts3 (Kn.at 2 Z) Z)<|ZP h2<|ZV (Y.fieldAddr Z Message_fo145_2)<|ZP h2<|ZV (Y.load Z Message_ts3 (Kn.at 0 Z) Z)<|ZP h2<|ZV (Y.fieldAddr Z Message_fo145_3)<|ZP h2<|ZV (Y.load Z Message_ts3 (Kn.at 0 Z) Z)<|?_
  refine ZP h2<|RunQ.call0 (l := [.tmp 8, .tmp 10, .tmp 12]) Z Z Z (lt Z) within_c0_h<|ZV (Y.pick_t Z h2 Z)<|RunQ.nil_run<|Run.store (s := [(bf, .cells #[.bool (Msg.within m.bind lo hi)] 4 (0, 0))]) Z Z Message_sz4 (i := 1) Z Z (le Z) Z Z<|Ze<|Ex.keep [1, 1]<|?_
  exact Ex.end0 rfl ⟨rfl, by rw [show (fine && Msg.within (m.num 6) lo hi) = (Msg.within m.bind lo hi) from by simp_all [Msg.num]]; rfl⟩
 ·refine ZO h2 Z<|ZO h2 Z<|ZO h2 Z<|ZO h2 Z<|ZO h2 Z<|ZO h2 Z<|ZO h2 Z<|ZO h2 Z<|ZO h2 Z<|ZV (Y.pick_f Z h2 Z)<|RunQ.nil_run<|Run.store (s := [(bf, .cells #[.bool false] 4 (0, 0))]) Z Z Message_sz4 (i := 1) Z Z (le Z) Z Z<|Ze<|Ex.keep [1, 1]<|?_
  exact Ex.end0 rfl ⟨rfl, by rw [show (fine && Msg.within (m.num 6) lo hi) = false from by simp_all [Msg.num]]; rfl⟩

theorem right1_8 {m : Msg} {bm bf : Nat} {fine : Bool} {n lo hi : Int} {V : Vw} : Does Try.prog 79 [.agg #[.pointer (some ⟨bm, 8, none⟩), .int .i64 n, .int .i64 lo, .int .i64 hi], .pointer (some ⟨bf, 0, none⟩)] V [[(bf, .cells #[.bool fine] 4 (0, 0))], [(bm, .cells (m : Msg).cells 35 (0, 0))]] (fun _ V' H' => V' = V ∧ H' = [[(bf, .cells #[.bool (fine && Msg.within (m.num 8) lo hi)] 4 (0, 0))], [(bm, .cells (m : Msg).cells 35 (0, 0))]]) := by
 refine Does.intro Try.func79 rfl rfl (le rfl) (fun B => ?_)
 refine Zs<|Zr<|?_
 refine Run.box rfl (lt rfl) (fun b1 => ?_)
 refine Ze<|Zg<|Tr.tail 12 Message_mo WK<|ZV (Y.load Z Message_ts4 (Kn.at 1 Z) Z)<|ZM Z<|?_
 rcases Zsplit (fine) with ⟨h2, g2⟩ | ⟨h2, g2⟩ <;> try simp only [kb] at g2
 ·refine ZP h2<|ZV (Y.fieldAddr Z Message_fo145_0)<|ZP h2<|ZV (Y.load Z Message_ts143 (Kn.at 0 Z) Z)<|ZP h2<|ZV (Y.nilCheck Z)<|ZP h2<|ZV (Y.load Z Message_ts3 (Kn.at 2 Z) Z)<|ZP h2<|ZV (Y.fieldAddr Z Message_fo145_2)<|ZP h2<|ZV (Y.load Z Message_ts3 (Kn.at 0 Z) Z)<|ZP h2<|ZV (Y.fieldAddr Z Message_fo145_3)<|ZP h2<|ZV (Y.load Z Message_ts3 (Kn.at 0 Z) Z)<|?_
  refine ZP h2<|RunQ.call0 (l := [.tmp 8, .tmp 10, .tmp 12]) Z Z Z (lt Z) within_c0_h<|ZV (Y.pick_t Z h2 Z)<|RunQ.nil_run<|Run.store (s := [(bf, .cells #[.bool (Msg.within m.pot lo hi)] 4 (0, 0))]) Z Z Message_sz4 (i := 1) Z Z (le Z) Z Z<|Ze<|Ex.keep [1, 1]<|?_
  exact Ex.end0 rfl ⟨rfl, by rw [show (fine && Msg.within (m.num 8) lo hi) = (Msg.within m.pot lo hi) from by simp_all [Msg.num]]; rfl⟩
 ·refine ZO h2 Z<|ZO h2 Z<|ZO h2 Z<|ZO h2 Z<|ZO h2 Z<|ZO h2 Z<|ZO h2 Z<|ZO h2 Z<|ZO h2 Z<|ZV (Y.pick_f Z h2 Z)<|RunQ.nil_run<|Run.store (s := [(bf, .cells #[.bool false] 4 (0, 0))]) Z Z Message_sz4 (i := 1) Z Z (le Z) Z Z<|Ze<|Ex.keep [1, 1]<|?_
  exact Ex.end0 rfl ⟨rfl, by rw [show (fine && Msg.within (m.num 8) lo hi) = false from by simp_all [Msg.num]]; rfl⟩

theorem right1_9 {m : Msg} {bm bf : Nat} {fine : Bool} {n lo hi : Int} {V : Vw} : Does Try.prog 79 [.agg #[.pointer (some ⟨bm, 9, none⟩), .int .i64 n, .int .i64 lo, .int .i64 hi], .pointer (some ⟨bf, 0, none⟩)] V [[(bf, .cells #[.bool fine] 4 (0, 0))], [(bm, .cells (m : Msg).cells 35 (0, 0))]] (fun _ V' H' => V' = V ∧ H' = [[(bf, .cells #[.bool (fine && Msg.within (m.num 9) lo hi)] 4 (0, 0))], [(bm, .cells (m : Msg).cells 35 (0, 0))]]) := by
 refine Does.intro Try.func79 rfl rfl (le rfl) (fun B => ?_)
 refine Zs<|Zr<|?_
 refine Run.box rfl (lt rfl) (fun b1 => ?_)
 refine Ze<|Zg<|Tr.tail 12 Message_mo WK<|ZV (Y.load Z Message_ts4 (Kn.at 1 Z) Z)<|ZM Z<|?_
 rcases Zsplit (fine) with ⟨h2, g2⟩ | ⟨h2, g2⟩ <;> try simp only [kb] at g2
 ·refine ZP h2<|ZV (Y.fieldAddr Z Message_fo145_0)<|ZP h2<|ZV (Y.load Z Message_ts143 (Kn.at 0 Z) Z)<|ZP h2<|ZV (Y.nilCheck Z)<|ZP h2<|ZV (Y.load Z Message_ts3 (Kn.at 2 Z) Z)<|ZP h2<|ZV (Y.fieldAddr Z Message_fo145_2)<|ZP h2<|ZV (Y.load Z Message_ts3 (Kn.at 0 Z) Z)<|ZP h2<|ZV (Y.fieldAddr Z Message_fo145_3)<|ZP h2<|ZV (Y.load Z Message_ts3 (Kn.at 0 Z) Z)<|?_
  refine ZP h2<|RunQ.call0 (l := [.tmp 8, .tmp 10, .tmp 12]) Z Z Z (lt Z) within_c0_h<|ZV (Y.pick_t Z h2 Z)<|RunQ.nil_run<|Run.store (s := [(bf, .cells #[.bool (Msg.within m.at_ lo hi)] 4 (0, 0))]) Z Z Message_sz4 (i := 1) Z Z (le Z) Z Z<|Ze<|Ex.keep [1, 1]<|?_
  exact Ex.end0 rfl ⟨rfl, by rw [show (fine && Msg.within (m.num 9) lo hi) = (Msg.within m.at_ lo hi) from by simp_all [Msg.num]]; rfl⟩
 ·refine ZO h2 Z<|ZO h2 Z<|ZO h2 Z<|ZO h2 Z<|ZO h2 Z<|ZO h2 Z<|ZO h2 Z<|ZO h2 Z<|ZO h2 Z<|ZV (Y.pick_f Z h2 Z)<|RunQ.nil_run<|Run.store (s := [(bf, .cells #[.bool false] 4 (0, 0))]) Z Z Message_sz4 (i := 1) Z Z (le Z) Z Z<|Ze<|Ex.keep [1, 1]<|?_
  exact Ex.end0 rfl ⟨rfl, by rw [show (fine && Msg.within (m.num 9) lo hi) = false from by simp_all [Msg.num]]; rfl⟩

theorem right1_c {m : Msg} {bm bf j : Nat} {fine : Bool} {n lo hi : Int} {V : Vw} (h : (j, n, lo, hi) ∈ Msg.flds) : Does Try.prog 79 [.agg #[.pointer (some ⟨bm, j, none⟩), .int .i64 n, .int .i64 lo, .int .i64 hi], .pointer (some ⟨bf, 0, none⟩)] V [[(bf, .cells #[.bool fine] 4 (0, 0))], [(bm, .cells (m : Msg).cells 35 (0, 0))]]
    (fun _ V' H' => V' = V ∧ H' = [[(bf, .cells #[.bool (fine && Msg.within (m.num j) lo hi)] 4 (0, 0))], [(bm, .cells (m : Msg).cells 35 (0, 0))]]) := by
  simp only [Msg.flds, List.mem_cons, Prod.mk.injEq, List.mem_nil_iff, or_false] at h
  rcases h with ⟨rfl, rfl, rfl, rfl⟩ | ⟨rfl, rfl, rfl, rfl⟩ | ⟨rfl, rfl, rfl, rfl⟩ | ⟨rfl, rfl, rfl, rfl⟩ | ⟨rfl, rfl, rfl, rfl⟩ | ⟨rfl, rfl, rfl, rfl⟩ | ⟨rfl, rfl, rfl, rfl⟩
  · exact right1_1
  · exact right1_2
  · exact right1_3
  · exact right1_4
  · exact right1_6
  · exact right1_8
  · exact right1_9

theorem right2_c  {V : Vw} {H : Hp} : Does Try.prog 81 [] V H (fun _ V' H' => V' = V ∧ H' = H) := by
 refine Does.intro Try.func81 rfl rfl (le rfl) (fun B => ?_)
 refine Zt ?_
 exact Ex.end0 rfl ⟨rfl, rfl⟩

theorem right_c0 {m : Msg} {V : Vw} : Does Try.prog 52 [.agg #[.int .i64 m.kind, .int .i64 m.life, .int .i64 m.seen, .int .i64 m.xid, .int .i64 m.state, .int .u32 m.addr, .int .i64 m.bind, .string m.client, .int .i64 m.pot, .int .i64 m.at_, .bool m.ok]] V [] (Pv (.bool (Msg.right m)) V []) := by
 refine Does.intro Try.func52 rfl rfl (le rfl) (fun B => ?_)
 refine Zs<|Zr<|?_
 refine Run.box rfl (lt rfl) (fun b1 => ?_)
 refine Za Z<|Ze<|Zg<|Zs<|Zr<|Zv (Y.fieldAddr Z Message_fo35_0)<|Zv (Y.load Z Message_ts3 (Kn.at 0 Z) Z)<|?_
 refine Run.buildSlice (l := [(0, .const (.int .i64 1)), (1, .const (.int .i64 2)), (2, .const (.int .i64 3)), (3, .const (.int .i64 4)), (4, .const (.int .i64 5))]) (r := [.int .i64 1, .int .i64 2, .int .i64 3, .int .i64 4, .int .i64 5]) Message_es150 Message_zo3 rfl WD rfl rfl WD (lt rfl) (fun b2 => ?_)
 refine Run.call0 (l := [.tmp 5, .tmp 6]) rfl rfl rfl (lt rfl) (of_c (l := [1, 2, 3, 4, 5]) (Rd.one (Kn.at 0 rfl) rfl) WD)<|Zm Z<|?_
 rcases Zsplit ([1, 2, 3, 4, 5].contains m.kind) with ⟨h3, g3⟩ | ⟨h3, g3⟩ <;> try simp only [kb] at g3
 ·refine Zp h3<|Zv (Y.fieldAddr Z Message_fo35_7)<|Zp h3<|Zv (Y.load Z Message_ts9 (Kn.at 1 Z) Z)<|Zp h3<|Zv (Y.lenStr Z Message_st9)<|Zp h3<|Zv (Y.int Z Z Z)<|Zv (Y.pick_t Z h3 Z)<|?_
  refine Run.alloc Message_zo4 (lt rfl) (fun b4 => ?_)
  refine Run.store (s := [(b4, .cells #[.bool (decide ((m.client.size : Int) ≤ 32))] 4 (0, 0))]) Z Z Message_sz4 (i := 0) Z Z (le Z) Z Z<|Ze<|Zg<|Zs<|Zr<|Zv (Y.makeFunc (l := []) (l' := [.tmp 3]) Z Z)<|?_
  refine Run.call [0, 1] (l := [.tmp 1, .tmp 14, .func 81]) rfl rfl rfl (lt rfl) (walk_c (X := Bool) (Hx := fun x => [[(b4, .cells #[.bool x] 4 (0, 0))], [(b1, .cells (m : Msg).cells 35 (0, 0))]]) (kind := m.kind) id (fun j _ lo hi b => b && Msg.within (m.num j) lo hi) id (fun _ => True)
    (fun x => ⟨_, _, _, Kn.at 1 rfl, rfl⟩)
    (fun x j n lo hi h _ => (right1_c h).mono fun v V2 H2 ⟨h1, h2⟩ => ⟨h1, _, rfl, h2⟩)
    (fun x _ => right2_c.mono fun v V2 H2 ⟨h1, h2⟩ => ⟨h1, _, rfl, h2⟩) (decide ((m.client.size : Int) ≤ 32)) (by simp)) (fun v V2 H2 _ hR => ?_)
  obtain ⟨hV, fine, q, rfl⟩ := hR; replace hV := hV.symm; subst hV; simp only [id] at q
  refine Ze<|Zg<|Zs<|Tr.quiet Message_mo WK<|ZV (Y.load Z Message_ts4 (Kn.at 1 Z) Z)<|ZM Z<|?_
  rcases Zsplit (fine) with ⟨h5, g5⟩ | ⟨h5, g5⟩ <;> try simp only [kb] at g5
  ·refine ZP h5<|ZV (Y.loadAgg Z Message_ag35 (Kn.at 2 Z) Z)<|ZP h5<|RunQ.call0 (l := [.tmp 18]) Z Z Z (lt Z) bare_c<|ZP h5<|ZV (Y.fieldAddr Z Message_fo35_0)<|ZP h5<|ZV (Y.load Z Message_ts3 (Kn.at 2 Z) Z)<|ZP h5<|ZV (Y.buildS (l := [(0, .tmp 21)]) Message_zo35 Message_pl35 Z Z)<|ZP h5<|ZV (Y.eqS Z Z Message_tgs35 Z Z)<|ZV (Y.pick_t Z h5 Z)<|ZA Z<|ZE<|Zg<|?_
   refine Zu<|Ex.keep []<|?_
   exact Ex.ret1 rfl rfl  ⟨by rw [Msg.right_eq (by simp only [h3, Bool.true_and, Bool.false_and]) q, h5]; rfl, rfl, rfl⟩
  ·refine ZO h5 Z<|ZO h5 Z<|ZO h5 Z<|ZO h5 Z<|ZO h5 Z<|ZO h5 Z<|ZV (Y.pick_f Z h5 Z)<|ZA Z<|ZE<|Zg<|Zu<|Ex.keep []<|?_
   exact Ex.ret1 rfl rfl  ⟨by rw [Msg.right_eq (by simp only [h3, Bool.true_and, Bool.false_and]) q, h5]; rfl, rfl, rfl⟩
 ·refine Zo h3 Z<|Zo h3 Z<|Zo h3 Z<|Zo h3 Z<|Zv (Y.pick_f Z h3 Z)<|?_
  refine Run.alloc Message_zo4 (lt rfl) (fun b6 => ?_)
  refine Run.store (s := [(b6, .cells #[.bool false] 4 (0, 0))]) Z Z Message_sz4 (i := 0) Z Z (le Z) Z Z<|Ze<|Zg<|Zs<|Zr<|Zv (Y.makeFunc (l := []) (l' := [.tmp 3]) Z Z)<|?_
  refine Run.call [0, 1] (l := [.tmp 1, .tmp 14, .func 81]) rfl rfl rfl (lt rfl) (walk_c (X := Bool) (Hx := fun x => [[(b6, .cells #[.bool x] 4 (0, 0))], [(b1, .cells (m : Msg).cells 35 (0, 0))]]) (kind := m.kind) id (fun j _ lo hi b => b && Msg.within (m.num j) lo hi) id (fun _ => True)
    (fun x => ⟨_, _, _, Kn.at 1 rfl, rfl⟩)
    (fun x j n lo hi h _ => (right1_c h).mono fun v V2 H2 ⟨h1, h2⟩ => ⟨h1, _, rfl, h2⟩)
    (fun x _ => right2_c.mono fun v V2 H2 ⟨h1, h2⟩ => ⟨h1, _, rfl, h2⟩) (false) (by simp)) (fun v V2 H2 _ hR => ?_)
  obtain ⟨hV, fine, q, rfl⟩ := hR; replace hV := hV.symm; subst hV; simp only [id] at q
  refine Ze<|Zg<|Zs<|Tr.quiet Message_mo WK<|ZV (Y.load Z Message_ts4 (Kn.at 1 Z) Z)<|ZM Z<|?_
  rcases Zsplit (fine) with ⟨h7, g7⟩ | ⟨h7, g7⟩ <;> try simp only [kb] at g7
  ·refine ZP h7<|ZV (Y.loadAgg Z Message_ag35 (Kn.at 2 Z) Z)<|ZP h7<|RunQ.call0 (l := [.tmp 18]) Z Z Z (lt Z) bare_c<|ZP h7<|ZV (Y.fieldAddr Z Message_fo35_0)<|ZP h7<|ZV (Y.load Z Message_ts3 (Kn.at 2 Z) Z)<|ZP h7<|ZV (Y.buildS (l := [(0, .tmp 21)]) Message_zo35 Message_pl35 Z Z)<|ZP h7<|ZV (Y.eqS Z Z Message_tgs35 Z Z)<|ZV (Y.pick_t Z h7 Z)<|ZA Z<|ZE<|Zg<|?_
   refine Zu<|Ex.keep []<|?_
   exact Ex.ret1 rfl rfl  ⟨by rw [Msg.right_eq (by simp only [h3, Bool.true_and, Bool.false_and]) q, h7]; rfl, rfl, rfl⟩
  ·refine ZO h7 Z<|ZO h7 Z<|ZO h7 Z<|ZO h7 Z<|ZO h7 Z<|ZO h7 Z<|ZV (Y.pick_f Z h7 Z)<|ZA Z<|ZE<|Zg<|Zu<|Ex.keep []<|?_
   exact Ex.ret1 rfl rfl  ⟨by rw [Msg.right_eq (by simp only [h3, Bool.true_and, Bool.false_and]) q, h7]; rfl, rfl, rfl⟩

theorem right_c {m : Msg} {V : Vw} {H : Hp} : Does Try.prog 52 [.agg m.cells] V H (Pv (.bool (Msg.right m)) V H) := right_c0.frame
end Go.Proofs.Ytpdnkhdmajmbiaa
