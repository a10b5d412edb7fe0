/- What the functions of the package message do.
Conditions: as each theorem names them. -/
import Derived.Test.YtahgaaomioffhaaProg
import Derived.Test.YtahgaaomioffhaaM1
import Derived.Test.YtahgaaomioffhaaK9
set_option linter.unusedSimpArgs false
set_option linter.unusedVariables false
set_option maxRecDepth 4000
namespace Go.Proofs.Ytahgaaomioffhaa
open Go Go.K
attribute [local irreducible] Code.wp wpList Calls wpQuiet
theorem Message_es104 : elemS Try.prog 104 = some (3, 1) := by kernel_rfl
theorem Message_ts3 : scal Try.prog 3 = true := by kernel_rfl
theorem Message_fo37_1 : fieldOff Try.prog 37 1 = some 1 := by kernel_rfl
theorem Message_zo86 : zeroOf Try.prog 86 = some (.agg #[.pointer none, .int .i64 0, .int .i64 0, .int .i64 0]) := by kernel_rfl
theorem Message_pl86 : placesS Try.prog 86 = some [(0, 1), (1, 1), (2, 1), (3, 1)] := by kernel_rfl
theorem Message_fo37_2 : fieldOff Try.prog 37 2 = some 2 := by kernel_rfl
theorem Message_fo37_0 : fieldOff Try.prog 37 0 = some 0 := by kernel_rfl
theorem Message_zo3 : zeroOf Try.prog 3 = some (.int .i64 0) := by kernel_rfl
theorem Message_fo37_3 : fieldOff Try.prog 37 3 = some 3 := by kernel_rfl
theorem Message_fo37_4 : fieldOff Try.prog 37 4 = some 4 := by kernel_rfl
theorem Message_fo37_6 : fieldOff Try.prog 37 6 = some 6 := by kernel_rfl
theorem Message_fo37_8 : fieldOff Try.prog 37 8 = some 8 := by kernel_rfl
theorem Message_fo37_9 : fieldOff Try.prog 37 9 = some 9 := by kernel_rfl
theorem Message_fo86_0 : fieldOff Try.prog 86 0 = some 0 := by kernel_rfl
theorem Message_ts84 : scal Try.prog 84 = true := by kernel_rfl
theorem Message_sz3 : sizeT Try.prog 3 = some 1 := by kernel_rfl
theorem Message_fo37_10 : fieldOff Try.prog 37 10 = some 10 := by kernel_rfl
theorem Message_ts4 : scal Try.prog 4 = true := by kernel_rfl
theorem Message_sz4 : sizeT Try.prog 4 = some 1 := by kernel_rfl
theorem Message_zo37 : zeroOf Try.prog 37 = some (.agg #[.int .i64 0, .int .i64 0, .int .i64 0, .int .i64 0, .int .i64 0, .int .u32 0, .int .i64 0, .string ⟨#[]⟩, .int .i64 0, .int .i64 0, .bool false]) := by kernel_rfl
theorem Message_fo37_5 : fieldOff Try.prog 37 5 = some 5 := by kernel_rfl
theorem Message_sz35 : sizeT Try.prog 35 = some 1 := by kernel_rfl
theorem Message_fo37_7 : fieldOff Try.prog 37 7 = some 7 := by kernel_rfl
theorem Message_sz9 : sizeT Try.prog 9 = some 1 := by kernel_rfl
theorem Message_ag37 : aggsz Try.prog 37 = some 11 := by kernel_rfl
theorem Message_sz37 : sizeT Try.prog 37 = some 11 := by kernel_rfl
theorem Message_mo : Try.prog.follows .mixedOrders = true := by kernel_rfl
theorem Message_fo86_2 : fieldOff Try.prog 86 2 = some 2 := by kernel_rfl
theorem Message_fo86_3 : fieldOff Try.prog 86 3 = some 3 := by kernel_rfl
theorem Message_ts9 : scal Try.prog 9 = true := by kernel_rfl
theorem Message_st9 : strT Try.prog 9 = true := by kernel_rfl
theorem Message_zo4 : zeroOf Try.prog 4 = some (.bool false) := by kernel_rfl
theorem Message_pl37 : placesS Try.prog 37 = some [(0, 1), (1, 1), (2, 1), (3, 1), (4, 1), (5, 1), (6, 1), (7, 1), (8, 1), (9, 1), (10, 1)] := by kernel_rfl
theorem Message_tgs37 : tags Try.prog 37 = some [(0, .i64), (0, .i64), (0, .i64), (0, .i64), (0, .i64), (0, .u32), (0, .i64), (2, .i64), (0, .i64), (0, .i64), (1, .i64)] := by kernel_rfl
theorem Message_it3_5 : intT Try.prog 3 5 = some .u8 := by kernel_rfl
theorem Message_es38 : elemS Try.prog 38 = some (5, 1) := by kernel_rfl
theorem Message_zo5 : zeroOf Try.prog 5 = some (.int .u8 0) := by kernel_rfl
theorem Message_zi5 : zeroInfo Try.prog 5 = some (1, 1, .int .u8 0) := by kernel_rfl
theorem Message_ts38 : scal Try.prog 38 = true := by kernel_rfl
theorem Message_fo86_1 : fieldOff Try.prog 86 1 = some 1 := by kernel_rfl
theorem Message_sz38 : sizeT Try.prog 38 = some 1 := by kernel_rfl
theorem Message_ts35 : scal Try.prog 35 = true := by kernel_rfl
theorem Message_it35_3 : intT Try.prog 35 3 = some .i64 := by kernel_rfl
theorem Message_zo38 : zeroOf Try.prog 38 = some (.slice none 0 0) := by kernel_rfl

theorem within_c0 {n lo hi : Int} {V : Vw} : Does Try.prog 52 [.int .i64 n, .int .i64 lo, .int .i64 hi] V [] (Pv (.bool (Msg.within n lo hi)) V []) := by
  refine Does.intro Try.func52 rfl rfl (le rfl) (fun B => ?_)
  refine Tr.seq ?_
  refine Tr.region ?_
  refine Run.val (lt rfl) (Y.assign rfl) ?_
  refine Run.to_end ?_
  refine Ex.go ?_
  refine Tr.seq ?_
  refine Tr.region ?_
  refine Run.val (lt rfl) (Y.move rfl) ?_
  refine Run.val (lt rfl) (Y.move rfl) ?_
  refine Run.val (lt rfl) (Y.int rfl rfl rfl) ?_
  refine Run.val (lt rfl) (Y.move rfl) ?_
  rcases Bool.eq_false_or_eq_true (decide (n ≥ lo)) with h1 | h1
  · have g1 := h1
    try simp only [kb] at g1
    refine Run.on rfl rfl rfl h1 ?_
    refine Run.val (lt rfl) (Y.move rfl) ?_
    refine Run.on rfl rfl rfl h1 ?_
    refine Run.val (lt rfl) (Y.move rfl) ?_
    refine Run.on rfl rfl rfl h1 ?_
    refine Run.val (lt rfl) (Y.int rfl rfl rfl) ?_
    refine Run.val (lt rfl) (Y.pick_t rfl h1 rfl) ?_
    refine Run.val (lt rfl) (Y.assign rfl) ?_
    refine Run.to_end ?_
    refine Ex.go ?_
    refine Tr.to_ret ?_
    exact Ex.ret1 rfl rfl  ⟨by unfold Msg.within; simp_all <;> omega, rfl, rfl⟩
  · have g1 := h1
    try simp only [kb] at g1
    refine Run.off rfl rfl rfl h1 rfl (lt rfl) ?_
    refine Run.off rfl rfl rfl h1 rfl (lt rfl) ?_
    refine Run.off rfl rfl rfl h1 rfl (lt rfl) ?_
    refine Run.val (lt rfl) (Y.pick_f rfl h1 rfl) ?_
    refine Run.val (lt rfl) (Y.assign rfl) ?_
    refine Run.to_end ?_
    refine Ex.go ?_
    refine Tr.to_ret ?_
    exact Ex.ret1 rfl rfl  ⟨by unfold Msg.within; simp_all <;> omega, rfl, rfl⟩

theorem within_c0_h {n lo hi : Int} {V : Vw} {H : Hp} : Does Try.prog 52 [.int .i64 n, .int .i64 lo, .int .i64 hi] V H (Pv (.bool (Msg.within n lo hi)) V H) := within_c0.frame

theorem of_c {V : Vw} {H : Hp} {k : Int} {l : List Int} {p : Option Addr} {c : Nat} (hrd : Rd V H 1 (.slice p l.length c) l.length (l.map (Value.int .i64))) (hl : l.length ≤ 9223372036854775806)  : Does Try.prog 50 [.int .i64 k, .slice p l.length c] V H (Pv (.bool (l.contains k)) V H) := by
  refine Does.intro Try.func50 rfl rfl (le rfl) (fun B => ?_)
  refine Tr.seq ?_
  refine Tr.region ?_
  refine Run.val (lt rfl) (Y.assign rfl) ?_
  refine Run.to_end ?_
  refine Ex.go ?_
  refine Tr.seq ?_
  refine Tr.seq ?_
  refine Tr.region ?_
  refine Run.val (lt rfl) (Y.move rfl) ?_
  refine Run.val (lt rfl) (Y.lenSl rfl Message_es104) ?_
  refine Run.val (lt rfl) (Y.move rfl) ?_
  refine Run.to_end ?_
  refine Ex.go ?_
  refine Tr.block ?_
  refine Tr.loop (X := Nat) (fun i => V) (fun i => H) (fun i => [(0, .int .i64 k), (7, .slice p l.length c), (8, .int .i64 ((l.length : Nat) : Int)), (9, .int .i64 (i : Int))]) (fun i => i ≤ l.length ∧ (l.take i).contains k = false) (fun i => l.length - i) 0 ⟨by omega, by simp⟩ (fun a w i => ⟨i.1.sub (subB_cons (by first | rfl | exact congrArg (fun z => some (Value.int _ z)) (by omega)) (subB_cons (by first | rfl | exact congrArg (fun z => some (Value.int _ z)) (by omega)) (subB_cons (by first | rfl | exact congrArg (fun z => some (Value.int _ z)) (by omega)) (subB_cons (by first | rfl | exact congrArg (fun z => some (Value.int _ z)) (by omega)) (subB_nil _))))), i.2⟩) ?_
  rintro i ⟨hi, hno⟩
  refine Tr.seq ?_
  refine Tr.region ?_
  refine Run.val (lt rfl) (Y.int rfl rfl rfl) ?_
  refine Run.to_end ?_
  refine Ex.go ?_
  refine Tr.seq ?_
  rcases Bool.eq_false_or_eq_true (decide ((i : Int) < ((l.length : Nat) : Int))) with h1 | h1
  · have g1 := h1
    try simp only [kb] at g1
    obtain ⟨b, off, c2, cs, e, fz, hv, hc, hk, hcs⟩ := hrd.opened (by omega)
    obtain ⟨rfl, rfl⟩ : p = some ⟨b, off, none⟩ ∧ c = c2 := by cases hv; exact ⟨rfl, rfl⟩
    clear hv
    refine Tr.cond_t rfl h1 ?_
    refine Tr.to_end ?_
    refine Ex.go ?_
    refine Tr.seq ?_
    refine Tr.block ?_
    refine Tr.seq ?_
    refine Tr.region ?_
    refine Run.val (lt rfl) (Y.idxAddr rfl rfl Message_es104 (by omega) (by omega)) ?_
    refine Run.val (lt rfl) (Y.load rfl Message_ts3 hk (at1 hcs (by omega) (map_at _ 0 (by omega)))) ?_
    refine Run.val (lt rfl) (Y.assign rfl) ?_
    refine Run.to_end ?_
    refine Ex.go ?_
    refine Tr.seq ?_
    refine Tr.region ?_
    refine Run.val (lt rfl) (Y.move rfl) ?_
    refine Run.val (lt rfl) (Y.move rfl) ?_
    refine Run.val (lt rfl) (Y.int rfl rfl rfl) ?_
    refine Run.to_end ?_
    refine Ex.go ?_
    rcases Bool.eq_false_or_eq_true ((l.getD i 0) == k) with h2 | h2
    · have g2 := h2
      try simp only [kb] at g2
      refine Tr.cond_t rfl h2 ?_
      refine Tr.seq ?_
      refine Tr.region ?_
      refine Run.val (lt rfl) (Y.assign rfl) ?_
      refine Run.to_end ?_
      refine Ex.go ?_
      refine Tr.to_ret ?_
      refine Ex.ret_block ?_
      refine Ex.ret_then ?_
      refine Ex.ret_then ?_
      refine Ex.ret_block ?_
      refine Ex.ret_then ?_
      exact Ex.ret1 rfl rfl  ⟨by rw [contains_here (by omega) g2], rfl, rfl⟩
    · have g2 := h2
      try simp only [kb] at g2
      refine Tr.cond_f rfl h2 ?_
      refine Tr.to_end ?_
      refine Ex.end_block ?_
      refine Ex.go ?_
      refine Tr.region ?_
      refine Run.val (lt rfl) (Y.add rfl rfl (by omega)) ?_
      refine Run.val (lt rfl) (Y.move rfl) ?_
      refine Run.to_end ?_
      exact Ex.round (i + 1) ⟨by omega, contains_step (by omega) hno g2⟩ (by omega) rfl rfl (subB_cons (by first | rfl | exact congrArg (fun z => some (Value.int _ z)) (by omega)) (subB_cons (by first | rfl | exact congrArg (fun z => some (Value.int _ z)) (by omega)) (subB_cons (by first | rfl | exact congrArg (fun z => some (Value.int _ z)) (by omega)) (subB_cons (by first | rfl | exact congrArg (fun z => some (Value.int _ z)) (by omega)) (subB_nil _)))))
  · have g1 := h1
    try simp only [kb] at g1
    refine Tr.cond_f rfl h1 ?_
    refine Tr.to_exit ?_
    refine Ex.exit_then ?_
    refine Ex.exit_then ?_
    refine Ex.exit_in ?_
    refine Ex.go ?_
    refine Tr.seq ?_
    refine Tr.region ?_
    refine Run.val (lt rfl) (Y.assign rfl) ?_
    refine Run.to_end ?_
    refine Ex.go ?_
    refine Tr.to_ret ?_
    exact Ex.ret1 rfl rfl  ⟨by rw [contains_none (by omega) hno], rfl, rfl⟩

theorem walk_c {X G : Type} {fn fo : Nat} {c1 c2 : List Value} {Hx : X → Hp} {bm : Nat} {kind : Int} {V : Vw} (g : X → G) (f : Nat → Int → Int → Int → G → G) (o : G → G) (P : G → Prop)
    (hm : ∀ x, ∃ cs e fz, Kn V (Hx x) bm (.cells cs e fz) ∧ cs[0]? = some (.int .i64 kind))
    (hn : ∀ x j n lo hi, (j, n, lo, hi) ∈ Msg.flds → P (g x) → Does Try.prog fn (.agg #[.pointer (some ⟨bm, j, none⟩), .int .i64 n, .int .i64 lo, .int .i64 hi] :: c1) V (Hx x) (fun _ V' H' => V' = V ∧ ∃ y, g y = f j n lo hi (g x) ∧ H' = Hx y))
    (ho : ∀ x, P (g x) → Does Try.prog fo c2 V (Hx x) (fun _ V' H' => V' = V ∧ ∃ y, g y = o (g x) ∧ H' = Hx y)) (x0 : X)
    (hP : P (g x0) ∧ P (f 1 4 1 536870912 (g x0)) ∧ P (Msg.go2 f (g x0)) ∧ P (Msg.go3 kind f (g x0)) ∧ P (Msg.go4 kind f (g x0)) ∧ P (Msg.go5 kind f o (g x0)) ∧ P (f 6 1 0 5 (Msg.go5 kind f o (g x0))) ∧ P (f 8 6 0 1099511627776 (f 6 1 0 5 (Msg.go5 kind f o (g x0)))))  : Does Try.prog 45 [.pointer (some ⟨bm, 0, none⟩), .func (.func fn) #[] c1.toArray, .func (.func fo) #[] c2.toArray] V (Hx x0) (fun _ V' H' => V' = V ∧ ∃ y, g y = Msg.go kind f o (g x0) ∧ H' = Hx y) := by
  refine Does.intro Try.func45 rfl rfl (le rfl) (fun B => ?_)
  refine Tr.seq ?_
  refine Tr.region ?_
  refine Run.val (lt rfl) (Y.move rfl) ?_
  refine Run.val (lt rfl) (Y.move rfl) ?_
  refine Run.val (lt rfl) (Y.nilCheck rfl) ?_
  refine Run.val (lt rfl) (Y.fieldAddr rfl Message_fo37_1) ?_
  refine Run.val (lt rfl) (Y.buildS (l := [(0, .tmp 9), (1, .const (.int .i64 4)), (2, .const (.int .i64 1)), (3, .const (.int .i64 536870912))]) Message_zo86 Message_pl86 rfl rfl) ?_
  refine Run.callW (l := [.tmp 10]) rfl rfl rfl (lt rfl) (hn x0 1 4 1 536870912 (by simp [Msg.flds]) (by simp only [hP])) (fun vx1 V2 H2 _ hR => ?_)
  obtain ⟨hV, x1, qx1, rfl⟩ := hR; replace hV := hV.symm; subst hV
  refine Run.to_end ?_
  refine Ex.go ?_
  refine Tr.cutx (X := X) (fun x => V) (fun x => (Hx x)) (fun x => [(0, .pointer (some ⟨bm, 0, none⟩)), (1, .func (.func fn) #[] c1.toArray), (2, .func (.func fo) #[] c2.toArray)]) (fun x => g x = Msg.go2 f (g x0)) ?_ ?_
  · refine Tr.region ?_
    refine Run.val (lt rfl) (Y.move rfl) ?_
    refine Run.val (lt rfl) (Y.move rfl) ?_
    refine Run.val (lt rfl) (Y.nilCheck rfl) ?_
    refine Run.val (lt rfl) (Y.fieldAddr rfl Message_fo37_2) ?_
    refine Run.val (lt rfl) (Y.buildS (l := [(0, .tmp 15), (1, .const (.int .i64 4)), (2, .const (.int .i64 0)), (3, .const (.int .i64 536870912))]) Message_zo86 Message_pl86 rfl rfl) ?_
    refine Run.callW (l := [.tmp 16]) rfl rfl rfl (lt rfl) (hn x1 2 4 0 536870912 (by simp [Msg.flds]) (by simp only [qx1]; simp only [hP])) (fun vx2 V2 H2 _ hR => ?_)
    obtain ⟨hV, x2, qx2, rfl⟩ := hR; replace hV := hV.symm; subst hV
    refine Run.to_end ?_
    exact Ex.cutx x2 (by simp only [Msg.go2, qx1, qx2]) rfl rfl (subB_cons (by first | rfl | exact congrArg (fun z => some (Value.int _ z)) (by omega)) (subB_cons (by first | rfl | exact congrArg (fun z => some (Value.int _ z)) (by omega)) (subB_cons (by first | rfl | exact congrArg (fun z => some (Value.int _ z)) (by omega)) (subB_nil _))))
  · rintro x hx
    refine Tr.cutx (X := X) (fun x => V) (fun x => (Hx x)) (fun x => [(0, .pointer (some ⟨bm, 0, none⟩)), (1, .func (.func fn) #[] c1.toArray), (2, .func (.func fo) #[] c2.toArray)]) (fun x => g x = Msg.go3 kind f (g x0)) ?_ ?_
    · refine Tr.seq ?_
      refine Tr.region ?_
      refine Run.val (lt rfl) (Y.move rfl) ?_
      refine Run.val (lt rfl) (Y.nilCheck rfl) ?_
      refine Run.val (lt rfl) (Y.fieldAddr rfl Message_fo37_0) ?_
      obtain ⟨csk3, ek3, fzk3, hkk3, hck3⟩ := hm x
      refine Run.val (lt rfl) (Y.load rfl Message_ts3 hkk3 hck3) ?_
      refine Run.buildSlice (l := [(0, .const (.int .i64 1)), (1, .const (.int .i64 3)), (2, .const (.int .i64 2))]) Message_es104 Message_zo3 rfl (by decide) rfl rfl (by decide) (lt rfl) (fun b4 => ?_)
      refine Run.call0 (l := [.tmp 21, .tmp 22]) rfl rfl rfl (lt rfl) (of_c (l := [1, 3, 2]) (Rd.one (Kn.at 0 rfl) rfl) (by decide)) ?_
      refine Run.drop ?_
      refine Run.sub [(0, .pointer (some ⟨bm, 0, none⟩)), (1, .func (.func fn) #[] c1.toArray), (2, .func (.func fo) #[] c2.toArray), (23, .bool ([1, 3, 2].contains kind))] (subB_cons (by first | rfl | exact congrArg (fun z => some (Value.int _ z)) (by omega)) (subB_cons (by first | rfl | exact congrArg (fun z => some (Value.int _ z)) (by omega)) (subB_cons (by first | rfl | exact congrArg (fun z => some (Value.int _ z)) (by omega)) (subB_cons (by first | rfl | exact congrArg (fun z => some (Value.int _ z)) (by omega)) (subB_nil _))))) ?_
      refine Run.to_end ?_
      refine Ex.go ?_
      rcases Bool.eq_false_or_eq_true ([1, 3, 2].contains kind) with h5 | h5
      · have g5 := h5
        try simp only [kb] at g5
        refine Tr.cond_t rfl h5 ?_
        refine Tr.region ?_
        refine Run.val (lt rfl) (Y.move rfl) ?_
        refine Run.val (lt rfl) (Y.move rfl) ?_
        refine Run.val (lt rfl) (Y.nilCheck rfl) ?_
        refine Run.val (lt rfl) (Y.fieldAddr rfl Message_fo37_3) ?_
        refine Run.val (lt rfl) (Y.buildS (l := [(0, .tmp 27), (1, .const (.int .i64 4)), (2, .const (.int .i64 1)), (3, .const (.int .i64 1073741824))]) Message_zo86 Message_pl86 rfl rfl) ?_
        refine Run.callW (l := [.tmp 28]) rfl rfl rfl (lt rfl) (hn x 3 4 1 1073741824 (by simp [Msg.flds]) (by simp only [hx]; simp only [hP])) (fun vx6 V2 H2 _ hR => ?_)
        obtain ⟨hV, x6, qx6, rfl⟩ := hR; replace hV := hV.symm; subst hV
        refine Run.to_end ?_
        exact Ex.cutx x6 (by simp only [Msg.go3, h5, qx6, hx, if_true, Bool.false_eq_true, if_false]) rfl rfl (subB_cons (by first | rfl | exact congrArg (fun z => some (Value.int _ z)) (by omega)) (subB_cons (by first | rfl | exact congrArg (fun z => some (Value.int _ z)) (by omega)) (subB_cons (by first | rfl | exact congrArg (fun z => some (Value.int _ z)) (by omega)) (subB_nil _))))
      · have g5 := h5
        try simp only [kb] at g5
        refine Tr.cond_f rfl h5 ?_
        refine Tr.to_end ?_
        exact Ex.cutx x (by simp only [Msg.go3, h5, hx, hx, if_true, Bool.false_eq_true, if_false]) rfl rfl (subB_cons (by first | rfl | exact congrArg (fun z => some (Value.int _ z)) (by omega)) (subB_cons (by first | rfl | exact congrArg (fun z => some (Value.int _ z)) (by omega)) (subB_cons (by first | rfl | exact congrArg (fun z => some (Value.int _ z)) (by omega)) (subB_nil _))))
    · rintro x hx
      refine Tr.cutx (X := X) (fun x => V) (fun x => (Hx x)) (fun x => [(0, .pointer (some ⟨bm, 0, none⟩)), (1, .func (.func fn) #[] c1.toArray), (2, .func (.func fo) #[] c2.toArray)]) (fun x => g x = Msg.go4 kind f (g x0)) ?_ ?_
      · refine Tr.seq ?_
        refine Tr.region ?_
        refine Run.val (lt rfl) (Y.move rfl) ?_
        refine Run.val (lt rfl) (Y.nilCheck rfl) ?_
        refine Run.val (lt rfl) (Y.fieldAddr rfl Message_fo37_0) ?_
        obtain ⟨csk7, ek7, fzk7, hkk7, hck7⟩ := hm x
        refine Run.val (lt rfl) (Y.load rfl Message_ts3 hkk7 hck7) ?_
        refine Run.buildSlice (l := [(0, .const (.int .i64 1))]) Message_es104 Message_zo3 rfl (by decide) rfl rfl (by decide) (lt rfl) (fun b8 => ?_)
        refine Run.call0 (l := [.tmp 33, .tmp 34]) rfl rfl rfl (lt rfl) (of_c (l := [1]) (Rd.one (Kn.at 0 rfl) rfl) (by decide)) ?_
        refine Run.drop ?_
        refine Run.sub [(0, .pointer (some ⟨bm, 0, none⟩)), (1, .func (.func fn) #[] c1.toArray), (2, .func (.func fo) #[] c2.toArray), (35, .bool ([1].contains kind))] (subB_cons (by first | rfl | exact congrArg (fun z => some (Value.int _ z)) (by omega)) (subB_cons (by first | rfl | exact congrArg (fun z => some (Value.int _ z)) (by omega)) (subB_cons (by first | rfl | exact congrArg (fun z => some (Value.int _ z)) (by omega)) (subB_cons (by first | rfl | exact congrArg (fun z => some (Value.int _ z)) (by omega)) (subB_nil _))))) ?_
        refine Run.to_end ?_
        refine Ex.go ?_
        rcases Bool.eq_false_or_eq_true ([1].contains kind) with h9 | h9
        · have g9 := h9
          try simp only [kb] at g9
          refine Tr.cond_t rfl h9 ?_
          refine Tr.region ?_
          refine Run.val (lt rfl) (Y.move rfl) ?_
          refine Run.val (lt rfl) (Y.move rfl) ?_
          refine Run.val (lt rfl) (Y.nilCheck rfl) ?_
          refine Run.val (lt rfl) (Y.fieldAddr rfl Message_fo37_4) ?_
          refine Run.val (lt rfl) (Y.buildS (l := [(0, .tmp 39), (1, .const (.int .i64 1)), (2, .const (.int .i64 0)), (3, .const (.int .i64 8))]) Message_zo86 Message_pl86 rfl rfl) ?_
          refine Run.callW (l := [.tmp 40]) rfl rfl rfl (lt rfl) (hn x 4 1 0 8 (by simp [Msg.flds]) (by simp only [hx]; simp only [hP])) (fun vx10 V2 H2 _ hR => ?_)
          obtain ⟨hV, x10, qx10, rfl⟩ := hR; replace hV := hV.symm; subst hV
          refine Run.to_end ?_
          exact Ex.cutx x10 (by simp only [Msg.go4, h9, qx10, hx, if_true, Bool.false_eq_true, if_false]) rfl rfl (subB_cons (by first | rfl | exact congrArg (fun z => some (Value.int _ z)) (by omega)) (subB_cons (by first | rfl | exact congrArg (fun z => some (Value.int _ z)) (by omega)) (subB_cons (by first | rfl | exact congrArg (fun z => some (Value.int _ z)) (by omega)) (subB_nil _))))
        · have g9 := h9
          try simp only [kb] at g9
          refine Tr.cond_f rfl h9 ?_
          refine Tr.to_end ?_
          exact Ex.cutx x (by simp only [Msg.go4, h9, hx, hx, if_true, Bool.false_eq_true, if_false]) rfl rfl (subB_cons (by first | rfl | exact congrArg (fun z => some (Value.int _ z)) (by omega)) (subB_cons (by first | rfl | exact congrArg (fun z => some (Value.int _ z)) (by omega)) (subB_cons (by first | rfl | exact congrArg (fun z => some (Value.int _ z)) (by omega)) (subB_nil _))))
      · rintro x hx
        refine Tr.cutx (X := X) (fun x => V) (fun x => (Hx x)) (fun x => [(0, .pointer (some ⟨bm, 0, none⟩)), (1, .func (.func fn) #[] c1.toArray), (2, .func (.func fo) #[] c2.toArray)]) (fun x => g x = Msg.go5 kind f o (g x0)) ?_ ?_
        · refine Tr.seq ?_
          refine Tr.region ?_
          refine Run.val (lt rfl) (Y.move rfl) ?_
          refine Run.val (lt rfl) (Y.nilCheck rfl) ?_
          refine Run.val (lt rfl) (Y.fieldAddr rfl Message_fo37_0) ?_
          obtain ⟨csk11, ek11, fzk11, hkk11, hck11⟩ := hm x
          refine Run.val (lt rfl) (Y.load rfl Message_ts3 hkk11 hck11) ?_
          refine Run.buildSlice (l := [(0, .const (.int .i64 3)), (1, .const (.int .i64 2))]) Message_es104 Message_zo3 rfl (by decide) rfl rfl (by decide) (lt rfl) (fun b12 => ?_)
          refine Run.call0 (l := [.tmp 45, .tmp 46]) rfl rfl rfl (lt rfl) (of_c (l := [3, 2]) (Rd.one (Kn.at 0 rfl) rfl) (by decide)) ?_
          refine Run.drop ?_
          refine Run.sub [(0, .pointer (some ⟨bm, 0, none⟩)), (1, .func (.func fn) #[] c1.toArray), (2, .func (.func fo) #[] c2.toArray), (47, .bool ([3, 2].contains kind))] (subB_cons (by first | rfl | exact congrArg (fun z => some (Value.int _ z)) (by omega)) (subB_cons (by first | rfl | exact congrArg (fun z => some (Value.int _ z)) (by omega)) (subB_cons (by first | rfl | exact congrArg (fun z => some (Value.int _ z)) (by omega)) (subB_cons (by first | rfl | exact congrArg (fun z => some (Value.int _ z)) (by omega)) (subB_nil _))))) ?_
          refine Run.to_end ?_
          refine Ex.go ?_
          rcases Bool.eq_false_or_eq_true ([3, 2].contains kind) with h13 | h13
          · have g13 := h13
            try simp only [kb] at g13
            refine Tr.cond_t rfl h13 ?_
            refine Tr.region ?_
            refine Run.val (lt rfl) (Y.move rfl) ?_
            refine Run.callW (l := []) rfl rfl rfl (lt rfl) (ho x (by simp only [hx]; simp only [hP])) (fun vx14 V2 H2 _ hR => ?_)
            obtain ⟨hV, x14, qx14, rfl⟩ := hR; replace hV := hV.symm; subst hV
            refine Run.to_end ?_
            exact Ex.cutx x14 (by simp only [Msg.go5, h13, qx14, hx, if_true, Bool.false_eq_true, if_false]) rfl rfl (subB_cons (by first | rfl | exact congrArg (fun z => some (Value.int _ z)) (by omega)) (subB_cons (by first | rfl | exact congrArg (fun z => some (Value.int _ z)) (by omega)) (subB_cons (by first | rfl | exact congrArg (fun z => some (Value.int _ z)) (by omega)) (subB_nil _))))
          · have g13 := h13
            try simp only [kb] at g13
            refine Tr.cond_f rfl h13 ?_
            refine Tr.to_end ?_
            exact Ex.cutx x (by simp only [Msg.go5, h13, hx, hx, if_true, Bool.false_eq_true, if_false]) rfl rfl (subB_cons (by first | rfl | exact congrArg (fun z => some (Value.int _ z)) (by omega)) (subB_cons (by first | rfl | exact congrArg (fun z => some (Value.int _ z)) (by omega)) (subB_cons (by first | rfl | exact congrArg (fun z => some (Value.int _ z)) (by omega)) (subB_nil _))))
        · rintro x hx
          refine Tr.seq ?_
          refine Tr.region ?_
          refine Run.val (lt rfl) (Y.move rfl) ?_
          refine Run.val (lt rfl) (Y.nilCheck rfl) ?_
          refine Run.val (lt rfl) (Y.fieldAddr rfl Message_fo37_0) ?_
          obtain ⟨csk15, ek15, fzk15, hkk15, hck15⟩ := hm x
          refine Run.val (lt rfl) (Y.load rfl Message_ts3 hkk15 hck15) ?_
          refine Run.buildSlice (l := [(0, .const (.int .i64 2))]) Message_es104 Message_zo3 rfl (by decide) rfl rfl (by decide) (lt rfl) (fun b16 => ?_)
          refine Run.call0 (l := [.tmp 53, .tmp 54]) rfl rfl rfl (lt rfl) (of_c (l := [2]) (Rd.one (Kn.at 0 rfl) rfl) (by decide)) ?_
          refine Run.drop ?_
          refine Run.sub [(0, .pointer (some ⟨bm, 0, none⟩)), (1, .func (.func fn) #[] c1.toArray), (2, .func (.func fo) #[] c2.toArray), (55, .bool ([2].contains kind))] (subB_cons (by first | rfl | exact congrArg (fun z => some (Value.int _ z)) (by omega)) (subB_cons (by first | rfl | exact congrArg (fun z => some (Value.int _ z)) (by omega)) (subB_cons (by first | rfl | exact congrArg (fun z => some (Value.int _ z)) (by omega)) (subB_cons (by first | rfl | exact congrArg (fun z => some (Value.int _ z)) (by omega)) (subB_nil _))))) ?_
          refine Run.to_end ?_
          refine Ex.go ?_
          rcases Bool.eq_false_or_eq_true ([2].contains kind) with h17 | h17
          · have g17 := h17
            try simp only [kb] at g17
            refine Tr.cond_t rfl h17 ?_
            refine Tr.seq ?_
            refine Tr.region ?_
            refine Run.val (lt rfl) (Y.move rfl) ?_
            refine Run.val (lt rfl) (Y.move rfl) ?_
            refine Run.val (lt rfl) (Y.nilCheck rfl) ?_
            refine Run.val (lt rfl) (Y.fieldAddr rfl Message_fo37_6) ?_
            refine Run.val (lt rfl) (Y.buildS (l := [(0, .tmp 59), (1, .const (.int .i64 1)), (2, .const (.int .i64 0)), (3, .const (.int .i64 5))]) Message_zo86 Message_pl86 rfl rfl) ?_
            refine Run.callW (l := [.tmp 60]) rfl rfl rfl (lt rfl) (hn x 6 1 0 5 (by simp [Msg.flds]) (by simp only [hx]; simp only [hP])) (fun vx18 V2 H2 _ hR => ?_)
            obtain ⟨hV, x18, qx18, rfl⟩ := hR; replace hV := hV.symm; subst hV
            refine Run.to_end ?_
            refine Ex.go ?_
            refine Tr.seq ?_
            refine Tr.region ?_
            refine Run.val (lt rfl) (Y.move rfl) ?_
            refine Run.val (lt rfl) (Y.move rfl) ?_
            refine Run.val (lt rfl) (Y.nilCheck rfl) ?_
            refine Run.val (lt rfl) (Y.fieldAddr rfl Message_fo37_8) ?_
            refine Run.val (lt rfl) (Y.buildS (l := [(0, .tmp 65), (1, .const (.int .i64 6)), (2, .const (.int .i64 0)), (3, .const (.int .i64 1099511627776))]) Message_zo86 Message_pl86 rfl rfl) ?_
            refine Run.callW (l := [.tmp 66]) rfl rfl rfl (lt rfl) (hn x18 8 6 0 1099511627776 (by simp [Msg.flds]) (by simp only [qx18, hx]; simp only [hP])) (fun vx19 V2 H2 _ hR => ?_)
            obtain ⟨hV, x19, qx19, rfl⟩ := hR; replace hV := hV.symm; subst hV
            refine Run.to_end ?_
            refine Ex.go ?_
            refine Tr.region ?_
            refine Run.val (lt rfl) (Y.move rfl) ?_
            refine Run.val (lt rfl) (Y.move rfl) ?_
            refine Run.val (lt rfl) (Y.nilCheck rfl) ?_
            refine Run.val (lt rfl) (Y.fieldAddr rfl Message_fo37_9) ?_
            refine Run.val (lt rfl) (Y.buildS (l := [(0, .tmp 71), (1, .const (.int .i64 6)), (2, .const (.int .i64 0)), (3, .const (.int .i64 1099511627776))]) Message_zo86 Message_pl86 rfl rfl) ?_
            refine Run.callW (l := [.tmp 72]) rfl rfl rfl (lt rfl) (hn x19 9 6 0 1099511627776 (by simp [Msg.flds]) (by simp only [qx19, qx18, hx]; simp only [hP])) (fun vx20 V2 H2 _ hR => ?_)
            obtain ⟨hV, x20, qx20, rfl⟩ := hR; replace hV := hV.symm; subst hV
            refine Run.to_end ?_
            exact Ex.end0 rfl ⟨rfl, x20, by simp only [Msg.go, h17, qx18, qx19, qx20, hx, if_true, Bool.false_eq_true, if_false], rfl⟩
          · have g17 := h17
            try simp only [kb] at g17
            refine Tr.cond_f rfl h17 ?_
            refine Tr.to_end ?_
            exact Ex.end0 rfl ⟨rfl, x, by simp only [Msg.go, h17, hx, hx, if_true, Bool.false_eq_true, if_false], rfl⟩

theorem bare1_1 {m : Msg} {bm : Nat} {n lo hi : Int} {V : Vw} : Does Try.prog 70 [.agg #[.pointer (some ⟨bm, 1, none⟩), .int .i64 n, .int .i64 lo, .int .i64 hi]] V [[(bm, .cells (m : Msg).cells 37 (0, 0))]] (fun _ V' H' => V' = V ∧ H' = [[(bm, .cells (m.setNum 1 0 : Msg).cells 37 (0, 0))]]) := by
  refine Does.intro Try.func70 rfl rfl (le rfl) (fun B => ?_)
  refine Tr.seq ?_
  refine Tr.region ?_
  refine Run.box rfl (lt rfl) (fun b1 => ?_)
  refine Run.to_end ?_
  refine Ex.go ?_
  refine Tr.region ?_
  refine Run.val (lt rfl) (Y.fieldAddr rfl Message_fo86_0) ?_
  refine Run.val (lt rfl) (Y.load rfl Message_ts84 (Kn.at 0 rfl) rfl) ?_
  refine Run.val (lt rfl) (Y.nilCheck rfl) ?_
  refine Run.store (s := [(bm, .cells #[.int .i64 m.kind, .int .i64 0, .int .i64 m.seen, .int .i64 m.xid, .int .i64 m.state, .int .u32 m.addr, .int .i64 m.bind, .string m.client, .int .i64 m.pot, .int .i64 m.at_, .bool m.ok] 37 (0, 0))]) rfl rfl Message_sz3 (i := 1) rfl rfl (le rfl) rfl rfl ?_
  refine Run.to_end ?_
  refine Ex.keep [1] ?_
  exact Ex.end0 rfl ⟨rfl, rfl⟩

theorem bare1_2 {m : Msg} {bm : Nat} {n lo hi : Int} {V : Vw} : Does Try.prog 70 [.agg #[.pointer (some ⟨bm, 2, none⟩), .int .i64 n, .int .i64 lo, .int .i64 hi]] V [[(bm, .cells (m : Msg).cells 37 (0, 0))]] (fun _ V' H' => V' = V ∧ H' = [[(bm, .cells (m.setNum 2 0 : Msg).cells 37 (0, 0))]]) := by
  refine Does.intro Try.func70 rfl rfl (le rfl) (fun B => ?_)
  refine Tr.seq ?_
  refine Tr.region ?_
  refine Run.box rfl (lt rfl) (fun b1 => ?_)
  refine Run.to_end ?_
  refine Ex.go ?_
  refine Tr.region ?_
  refine Run.val (lt rfl) (Y.fieldAddr rfl Message_fo86_0) ?_
  refine Run.val (lt rfl) (Y.load rfl Message_ts84 (Kn.at 0 rfl) rfl) ?_
  refine Run.val (lt rfl) (Y.nilCheck rfl) ?_
  refine Run.store (s := [(bm, .cells #[.int .i64 m.kind, .int .i64 m.life, .int .i64 0, .int .i64 m.xid, .int .i64 m.state, .int .u32 m.addr, .int .i64 m.bind, .string m.client, .int .i64 m.pot, .int .i64 m.at_, .bool m.ok] 37 (0, 0))]) rfl rfl Message_sz3 (i := 1) rfl rfl (le rfl) rfl rfl ?_
  refine Run.to_end ?_
  refine Ex.keep [1] ?_
  exact Ex.end0 rfl ⟨rfl, rfl⟩

theorem bare1_3 {m : Msg} {bm : Nat} {n lo hi : Int} {V : Vw} : Does Try.prog 70 [.agg #[.pointer (some ⟨bm, 3, none⟩), .int .i64 n, .int .i64 lo, .int .i64 hi]] V [[(bm, .cells (m : Msg).cells 37 (0, 0))]] (fun _ V' H' => V' = V ∧ H' = [[(bm, .cells (m.setNum 3 0 : Msg).cells 37 (0, 0))]]) := by
  refine Does.intro Try.func70 rfl rfl (le rfl) (fun B => ?_)
  refine Tr.seq ?_
  refine Tr.region ?_
  refine Run.box rfl (lt rfl) (fun b1 => ?_)
  refine Run.to_end ?_
  refine Ex.go ?_
  refine Tr.region ?_
  refine Run.val (lt rfl) (Y.fieldAddr rfl Message_fo86_0) ?_
  refine Run.val (lt rfl) (Y.load rfl Message_ts84 (Kn.at 0 rfl) rfl) ?_
  refine Run.val (lt rfl) (Y.nilCheck rfl) ?_
  refine Run.store (s := [(bm, .cells #[.int .i64 m.kind, .int .i64 m.life, .int .i64 m.seen, .int .i64 0, .int .i64 m.state, .int .u32 m.addr, .int .i64 m.bind, .string m.client, .int .i64 m.pot, .int .i64 m.at_, .bool m.ok] 37 (0, 0))]) rfl rfl Message_sz3 (i := 1) rfl rfl (le rfl) rfl rfl ?_
  refine Run.to_end ?_
  refine Ex.keep [1] ?_
  exact Ex.end0 rfl ⟨rfl, rfl⟩

theorem bare1_4 {m : Msg} {bm : Nat} {n lo hi : Int} {V : Vw} : Does Try.prog 70 [.agg #[.pointer (some ⟨bm, 4, none⟩), .int .i64 n, .int .i64 lo, .int .i64 hi]] V [[(bm, .cells (m : Msg).cells 37 (0, 0))]] (fun _ V' H' => V' = V ∧ H' = [[(bm, .cells (m.setNum 4 0 : Msg).cells 37 (0, 0))]]) := by
  refine Does.intro Try.func70 rfl rfl (le rfl) (fun B => ?_)
  refine Tr.seq ?_
  refine Tr.region ?_
  refine Run.box rfl (lt rfl) (fun b1 => ?_)
  refine Run.to_end ?_
  refine Ex.go ?_
  refine Tr.region ?_
  refine Run.val (lt rfl) (Y.fieldAddr rfl Message_fo86_0) ?_
  refine Run.val (lt rfl) (Y.load rfl Message_ts84 (Kn.at 0 rfl) rfl) ?_
  refine Run.val (lt rfl) (Y.nilCheck rfl) ?_
  refine Run.store (s := [(bm, .cells #[.int .i64 m.kind, .int .i64 m.life, .int .i64 m.seen, .int .i64 m.xid, .int .i64 0, .int .u32 m.addr, .int .i64 m.bind, .string m.client, .int .i64 m.pot, .int .i64 m.at_, .bool m.ok] 37 (0, 0))]) rfl rfl Message_sz3 (i := 1) rfl rfl (le rfl) rfl rfl ?_
  refine Run.to_end ?_
  refine Ex.keep [1] ?_
  exact Ex.end0 rfl ⟨rfl, rfl⟩

theorem bare1_6 {m : Msg} {bm : Nat} {n lo hi : Int} {V : Vw} : Does Try.prog 70 [.agg #[.pointer (some ⟨bm, 6, none⟩), .int .i64 n, .int .i64 lo, .int .i64 hi]] V [[(bm, .cells (m : Msg).cells 37 (0, 0))]] (fun _ V' H' => V' = V ∧ H' = [[(bm, .cells (m.setNum 6 0 : Msg).cells 37 (0, 0))]]) := by
  refine Does.intro Try.func70 rfl rfl (le rfl) (fun B => ?_)
  refine Tr.seq ?_
  refine Tr.region ?_
  refine Run.box rfl (lt rfl) (fun b1 => ?_)
  refine Run.to_end ?_
  refine Ex.go ?_
  refine Tr.region ?_
  refine Run.val (lt rfl) (Y.fieldAddr rfl Message_fo86_0) ?_
  refine Run.val (lt rfl) (Y.load rfl Message_ts84 (Kn.at 0 rfl) rfl) ?_
  refine Run.val (lt rfl) (Y.nilCheck rfl) ?_
  refine Run.store (s := [(bm, .cells #[.int .i64 m.kind, .int .i64 m.life, .int .i64 m.seen, .int .i64 m.xid, .int .i64 m.state, .int .u32 m.addr, .int .i64 0, .string m.client, .int .i64 m.pot, .int .i64 m.at_, .bool m.ok] 37 (0, 0))]) rfl rfl Message_sz3 (i := 1) rfl rfl (le rfl) rfl rfl ?_
  refine Run.to_end ?_
  refine Ex.keep [1] ?_
  exact Ex.end0 rfl ⟨rfl, rfl⟩

theorem bare1_8 {m : Msg} {bm : Nat} {n lo hi : Int} {V : Vw} : Does Try.prog 70 [.agg #[.pointer (some ⟨bm, 8, none⟩), .int .i64 n, .int .i64 lo, .int .i64 hi]] V [[(bm, .cells (m : Msg).cells 37 (0, 0))]] (fun _ V' H' => V' = V ∧ H' = [[(bm, .cells (m.setNum 8 0 : Msg).cells 37 (0, 0))]]) := by
  refine Does.intro Try.func70 rfl rfl (le rfl) (fun B => ?_)
  refine Tr.seq ?_
  refine Tr.region ?_
  refine Run.box rfl (lt rfl) (fun b1 => ?_)
  refine Run.to_end ?_
  refine Ex.go ?_
  refine Tr.region ?_
  refine Run.val (lt rfl) (Y.fieldAddr rfl Message_fo86_0) ?_
  refine Run.val (lt rfl) (Y.load rfl Message_ts84 (Kn.at 0 rfl) rfl) ?_
  refine Run.val (lt rfl) (Y.nilCheck rfl) ?_
  refine Run.store (s := [(bm, .cells #[.int .i64 m.kind, .int .i64 m.life, .int .i64 m.seen, .int .i64 m.xid, .int .i64 m.state, .int .u32 m.addr, .int .i64 m.bind, .string m.client, .int .i64 0, .int .i64 m.at_, .bool m.ok] 37 (0, 0))]) rfl rfl Message_sz3 (i := 1) rfl rfl (le rfl) rfl rfl ?_
  refine Run.to_end ?_
  refine Ex.keep [1] ?_
  exact Ex.end0 rfl ⟨rfl, rfl⟩

theorem bare1_9 {m : Msg} {bm : Nat} {n lo hi : Int} {V : Vw} : Does Try.prog 70 [.agg #[.pointer (some ⟨bm, 9, none⟩), .int .i64 n, .int .i64 lo, .int .i64 hi]] V [[(bm, .cells (m : Msg).cells 37 (0, 0))]] (fun _ V' H' => V' = V ∧ H' = [[(bm, .cells (m.setNum 9 0 : Msg).cells 37 (0, 0))]]) := by
  refine Does.intro Try.func70 rfl rfl (le rfl) (fun B => ?_)
  refine Tr.seq ?_
  refine Tr.region ?_
  refine Run.box rfl (lt rfl) (fun b1 => ?_)
  refine Run.to_end ?_
  refine Ex.go ?_
  refine Tr.region ?_
  refine Run.val (lt rfl) (Y.fieldAddr rfl Message_fo86_0) ?_
  refine Run.val (lt rfl) (Y.load rfl Message_ts84 (Kn.at 0 rfl) rfl) ?_
  refine Run.val (lt rfl) (Y.nilCheck rfl) ?_
  refine Run.store (s := [(bm, .cells #[.int .i64 m.kind, .int .i64 m.life, .int .i64 m.seen, .int .i64 m.xid, .int .i64 m.state, .int .u32 m.addr, .int .i64 m.bind, .string m.client, .int .i64 m.pot, .int .i64 0, .bool m.ok] 37 (0, 0))]) rfl rfl Message_sz3 (i := 1) rfl rfl (le rfl) rfl rfl ?_
  refine Run.to_end ?_
  refine Ex.keep [1] ?_
  exact Ex.end0 rfl ⟨rfl, rfl⟩

theorem bare1_c {m : Msg} {bm j : Nat} {n lo hi : Int} {V : Vw} (h : (j, n, lo, hi) ∈ Msg.flds) : Does Try.prog 70 [.agg #[.pointer (some ⟨bm, j, none⟩), .int .i64 n, .int .i64 lo, .int .i64 hi]] V [[(bm, .cells (m : Msg).cells 37 (0, 0))]] (fun _ V' H' => V' = V ∧ H' = [[(bm, .cells (m.setNum j 0 : Msg).cells 37 (0, 0))]]) := by
  simp only [Msg.flds, List.mem_cons, Prod.mk.injEq, List.mem_nil_iff, or_false] at h
  rcases h with ⟨rfl, rfl, rfl, rfl⟩ | ⟨rfl, rfl, rfl, rfl⟩ | ⟨rfl, rfl, rfl, rfl⟩ | ⟨rfl, rfl, rfl, rfl⟩ | ⟨rfl, rfl, rfl, rfl⟩ | ⟨rfl, rfl, rfl, rfl⟩ | ⟨rfl, rfl, rfl, rfl⟩
  · exact bare1_1
  · exact bare1_2
  · exact bare1_3
  · exact bare1_4
  · exact bare1_6
  · exact bare1_8
  · exact bare1_9

theorem bare2_c {m : Msg} {bm : Nat} {V : Vw} : Does Try.prog 71 [.pointer (some ⟨bm, 0, none⟩)] V [[(bm, .cells (m : Msg).cells 37 (0, 0))]] (fun _ V' H' => V' = V ∧ H' = [[(bm, .cells ({ m with ok := m.ok && decide (m.kind ≠ 3) } : Msg).cells 37 (0, 0))]]) := by
  refine Does.intro Try.func71 rfl rfl (le rfl) (fun B => ?_)
  refine Tr.region ?_
  refine Run.val (lt rfl) (Y.fieldAddr rfl Message_fo37_10) ?_
  refine Run.val (lt rfl) (Y.load rfl Message_ts4 (Kn.at 0 rfl) rfl) ?_
  refine Run.val (lt rfl) (Y.move rfl) ?_
  rcases Bool.eq_false_or_eq_true (m.ok) with h1 | h1
  · have g1 := h1
    try simp only [kb] at g1
    refine Run.on rfl rfl rfl h1 ?_
    refine Run.val (lt rfl) (Y.fieldAddr rfl Message_fo37_0) ?_
    refine Run.on rfl rfl rfl h1 ?_
    refine Run.val (lt rfl) (Y.load rfl Message_ts3 (Kn.at 0 rfl) rfl) ?_
    refine Run.on rfl rfl rfl h1 ?_
    refine Run.val (lt rfl) (Y.int rfl rfl rfl) ?_
    refine Run.val (lt rfl) (Y.pick_t rfl h1 rfl) ?_
    refine Run.val (lt rfl) (Y.fieldAddr rfl Message_fo37_10) ?_
    refine Run.store (s := [(bm, .cells #[.int .i64 m.kind, .int .i64 m.life, .int .i64 m.seen, .int .i64 m.xid, .int .i64 m.state, .int .u32 m.addr, .int .i64 m.bind, .string m.client, .int .i64 m.pot, .int .i64 m.at_, .bool (m.kind != 3)] 37 (0, 0))]) rfl rfl Message_sz4 (i := 0) rfl rfl (le rfl) rfl rfl ?_
    refine Run.to_end ?_
    exact Ex.end0 rfl ⟨rfl, by rw [show (m.ok && decide (m.kind ≠ 3)) = (m.kind != 3) from by have e : decide (m.kind ≠ 3) = (m.kind != 3) := (by by_cases h : m.kind = 3 <;> simp [h]); rw [e]; simp_all]; rfl⟩
  · have g1 := h1
    try simp only [kb] at g1
    refine Run.off rfl rfl rfl h1 rfl (lt rfl) ?_
    refine Run.off rfl rfl rfl h1 rfl (lt rfl) ?_
    refine Run.off rfl rfl rfl h1 rfl (lt rfl) ?_
    refine Run.val (lt rfl) (Y.pick_f rfl h1 rfl) ?_
    refine Run.val (lt rfl) (Y.fieldAddr rfl Message_fo37_10) ?_
    refine Run.store (s := [(bm, .cells #[.int .i64 m.kind, .int .i64 m.life, .int .i64 m.seen, .int .i64 m.xid, .int .i64 m.state, .int .u32 m.addr, .int .i64 m.bind, .string m.client, .int .i64 m.pot, .int .i64 m.at_, .bool false] 37 (0, 0))]) rfl rfl Message_sz4 (i := 0) rfl rfl (le rfl) rfl rfl ?_
    refine Run.to_end ?_
    exact Ex.end0 rfl ⟨rfl, by rw [show (m.ok && decide (m.kind ≠ 3)) = (false) from by have e : decide (m.kind ≠ 3) = (m.kind != 3) := (by by_cases h : m.kind = 3 <;> simp [h]); rw [e]; simp_all]; rfl⟩

theorem setNum_kind {m : Msg} {j : Nat} {n lo hi z : Int} (h : (j, n, lo, hi) ∈ Msg.flds) : (m.setNum j z).kind = m.kind := by
  simp only [Msg.flds, List.mem_cons, Prod.mk.injEq, List.mem_nil_iff, or_false] at h
  rcases h with ⟨rfl, rfl, rfl, rfl⟩ | ⟨rfl, rfl, rfl, rfl⟩ | ⟨rfl, rfl, rfl, rfl⟩ | ⟨rfl, rfl, rfl, rfl⟩ | ⟨rfl, rfl, rfl, rfl⟩ | ⟨rfl, rfl, rfl, rfl⟩ | ⟨rfl, rfl, rfl, rfl⟩
  all_goals rfl

theorem bare_c0 {m : Msg} {V : Vw} : Does Try.prog 54 [.agg #[.int .i64 m.kind, .int .i64 m.life, .int .i64 m.seen, .int .i64 m.xid, .int .i64 m.state, .int .u32 m.addr, .int .i64 m.bind, .string m.client, .int .i64 m.pot, .int .i64 m.at_, .bool m.ok]] V [] (Pv (.agg (Msg.bare m).cells) V []) := by
  refine Does.intro Try.func54 rfl rfl (le rfl) (fun B => ?_)
  refine Tr.seq ?_
  refine Tr.region ?_
  refine Run.box rfl (lt rfl) (fun b1 => ?_)
  refine Run.alloc Message_zo37 (lt rfl) (fun b2 => ?_)
  refine Run.to_end ?_
  refine Ex.go ?_
  refine Tr.seq ?_
  refine Tr.region ?_
  refine Run.val (lt rfl) (Y.makeFunc (l := []) (l' := [.tmp 1]) rfl rfl) ?_
  refine Run.call [1] (l := [.tmp 1, .func 70, .tmp 3]) rfl rfl rfl (lt rfl) (walk_c (X := {b : Msg // b.kind = m.kind}) (Hx := fun x => [[(b1, .cells (x.1 : Msg).cells 37 (0, 0))]]) (kind := m.kind) Subtype.val (fun j _ _ _ b => b.setNum j 0) (fun b => { b with ok := b.ok && decide (b.kind ≠ 3) }) (fun _ => True)
    (fun x => ⟨_, _, _, Kn.at 0 rfl, by show some (Value.int .i64 x.1.kind) = _; rw [x.2]⟩)
    (fun x j n lo hi h _ => (bare1_c h).mono fun v V2 H2 ⟨h1, h2⟩ => ⟨h1, ⟨⟨x.1.setNum j 0, by rw [setNum_kind h]; exact x.2⟩, rfl, h2⟩⟩)
    (fun x _ => bare2_c.mono fun v V2 H2 ⟨h1, h2⟩ => ⟨h1, ⟨⟨{ x.1 with ok := x.1.ok && decide (x.1.kind ≠ 3) }, x.2⟩, rfl, h2⟩⟩) ⟨m, rfl⟩ (by simp)) (fun v V2 H2 _ hR => ?_)
  obtain ⟨hV, ⟨y, hy⟩, q, rfl⟩ := hR; replace hV := hV.symm; subst hV; simp only at q
  refine Run.to_end ?_
  refine Ex.go ?_
  refine Tr.seq ?_
  refine Tr.seq ?_
  refine Tr.region ?_
  refine Run.val (lt rfl) (Y.fieldAddr rfl Message_fo37_0) ?_
  refine Run.val (lt rfl) (Y.load rfl Message_ts3 (Kn.at 1 rfl) rfl) ?_
  refine Run.val (lt rfl) (Y.int rfl rfl rfl) ?_
  refine Run.to_end ?_
  refine Ex.go ?_
  rcases Bool.eq_false_or_eq_true (y.kind == 2) with h3 | h3
  · have g3 := h3
    try simp only [kb] at g3
    refine Tr.cond_t rfl h3 ?_
    refine Tr.region ?_
    refine Run.val (lt rfl) (Y.fieldAddr rfl Message_fo37_5) ?_
    refine Run.store (s := [(b1, .cells #[.int .i64 y.kind, .int .i64 y.life, .int .i64 y.seen, .int .i64 y.xid, .int .i64 y.state, .int .u32 0, .int .i64 y.bind, .string y.client, .int .i64 y.pot, .int .i64 y.at_, .bool y.ok] 37 (0, 0))]) rfl rfl Message_sz35 (i := 1) rfl rfl (le rfl) rfl rfl ?_
    refine Run.val (lt rfl) (Y.fieldAddr rfl Message_fo37_7) ?_
    refine Run.store (s := [(b1, .cells #[.int .i64 y.kind, .int .i64 y.life, .int .i64 y.seen, .int .i64 y.xid, .int .i64 y.state, .int .u32 0, .int .i64 y.bind, .string ⟨#[]⟩, .int .i64 y.pot, .int .i64 y.at_, .bool y.ok] 37 (0, 0))]) rfl rfl Message_sz9 (i := 1) rfl rfl (le rfl) rfl rfl ?_
    refine Run.to_end ?_
    refine Ex.go ?_
    refine Tr.seq ?_
    refine Tr.region ?_
    refine Run.val (lt rfl) (Y.loadAgg rfl Message_ag37 (Kn.at 1 rfl) rfl) ?_
    refine Run.store (s := [(b2, .cells #[.int .i64 y.kind, .int .i64 y.life, .int .i64 y.seen, .int .i64 y.xid, .int .i64 y.state, .int .u32 0, .int .i64 y.bind, .string ⟨#[]⟩, .int .i64 y.pot, .int .i64 y.at_, .bool y.ok] 37 (0, 0))]) rfl rfl Message_sz37 (i := 0) rfl rfl (le rfl) rfl rfl ?_
    refine Run.to_end ?_
    refine Ex.go ?_
    refine Tr.to_ret ?_
    exact Ex.retCell [] rfl rfl Message_ag37 (Kn.at 0 rfl) rfl ⟨by rw [show Msg.bare m = ({ y with addr := 0, client := ⟨#[]⟩ } : Msg) from by unfold Msg.bare; rw [← q]; exact if_pos (by rw [← hy]; exact g3)]; rfl, rfl, rfl⟩
  · have g3 := h3
    try simp only [kb] at g3
    refine Tr.cond_f rfl h3 ?_
    refine Tr.to_end ?_
    refine Ex.go ?_
    refine Tr.seq ?_
    refine Tr.region ?_
    refine Run.val (lt rfl) (Y.loadAgg rfl Message_ag37 (Kn.at 1 rfl) rfl) ?_
    refine Run.store (s := [(b2, .cells #[.int .i64 y.kind, .int .i64 y.life, .int .i64 y.seen, .int .i64 y.xid, .int .i64 y.state, .int .u32 y.addr, .int .i64 y.bind, .string y.client, .int .i64 y.pot, .int .i64 y.at_, .bool y.ok] 37 (0, 0))]) rfl rfl Message_sz37 (i := 0) rfl rfl (le rfl) rfl rfl ?_
    refine Run.to_end ?_
    refine Ex.go ?_
    refine Tr.to_ret ?_
    exact Ex.retCell [] rfl rfl Message_ag37 (Kn.at 0 rfl) rfl ⟨by rw [show Msg.bare m = y from by unfold Msg.bare; rw [← q]; exact if_neg (by rw [← hy]; exact g3)]; rfl, rfl, rfl⟩

theorem bare_c {m : Msg} {V : Vw} {H : Hp} : Does Try.prog 54 [.agg m.cells] V H (Pv (.agg (Msg.bare m).cells) V H) := bare_c0.frame

theorem right1_1 {m : Msg} {bm bf : Nat} {fine : Bool} {n lo hi : Int} {V : Vw} : Does Try.prog 51 [.agg #[.pointer (some ⟨bm, 1, none⟩), .int .i64 n, .int .i64 lo, .int .i64 hi], .pointer (some ⟨bf, 0, none⟩)] V [[(bf, .cells #[.bool fine] 4 (0, 0))], [(bm, .cells (m : Msg).cells 37 (0, 0))]] (fun _ V' H' => V' = V ∧ H' = [[(bf, .cells #[.bool (fine && Msg.within (m.num 1) lo hi)] 4 (0, 0))], [(bm, .cells (m : Msg).cells 37 (0, 0))]]) := by
  refine Does.intro Try.func51 rfl rfl (le rfl) (fun B => ?_)
  refine Tr.seq ?_
  refine Tr.region ?_
  refine Run.box rfl (lt rfl) (fun b1 => ?_)
  refine Run.to_end ?_
  refine Ex.go ?_
  refine Tr.tail 12 Message_mo (by kernel_rfl) ?_
  refine RunQ.val (lt rfl) (Y.load rfl Message_ts4 (Kn.at 1 rfl) rfl) ?_
  refine RunQ.val (lt rfl) (Y.move rfl) ?_
  rcases Bool.eq_false_or_eq_true (fine) with h2 | h2
  · have g2 := h2
    try simp only [kb] at g2
    refine RunQ.on rfl rfl rfl h2 ?_
    refine RunQ.val (lt rfl) (Y.fieldAddr rfl Message_fo86_0) ?_
    refine RunQ.on rfl rfl rfl h2 ?_
    refine RunQ.val (lt rfl) (Y.load rfl Message_ts84 (Kn.at 0 rfl) rfl) ?_
    refine RunQ.on rfl rfl rfl h2 ?_
    refine RunQ.val (lt rfl) (Y.nilCheck rfl) ?_
    refine RunQ.on rfl rfl rfl h2 ?_
    refine RunQ.val (lt rfl) (Y.load rfl Message_ts3 (Kn.at 2 rfl) rfl) ?_
    refine RunQ.on rfl rfl rfl h2 ?_
    refine RunQ.val (lt rfl) (Y.fieldAddr rfl Message_fo86_2) ?_
    refine RunQ.on rfl rfl rfl h2 ?_
    refine RunQ.val (lt rfl) (Y.load rfl Message_ts3 (Kn.at 0 rfl) rfl) ?_
    refine RunQ.on rfl rfl rfl h2 ?_
    refine RunQ.val (lt rfl) (Y.fieldAddr rfl Message_fo86_3) ?_
    refine RunQ.on rfl rfl rfl h2 ?_
    refine RunQ.val (lt rfl) (Y.load rfl Message_ts3 (Kn.at 0 rfl) rfl) ?_
    refine RunQ.on rfl rfl rfl h2 ?_
    refine RunQ.call0 (l := [.tmp 8, .tmp 10, .tmp 12]) rfl rfl rfl (lt rfl) within_c0_h ?_
    refine RunQ.val (lt rfl) (Y.pick_t rfl h2 rfl) ?_
    refine RunQ.nil_run ?_
    refine Run.store (s := [(bf, .cells #[.bool (Msg.within m.life lo hi)] 4 (0, 0))]) rfl rfl Message_sz4 (i := 1) rfl rfl (le rfl) rfl rfl ?_
    refine Run.to_end ?_
    refine Ex.keep [1, 1] ?_
    exact Ex.end0 rfl ⟨rfl, by rw [show (fine && Msg.within (m.num 1) lo hi) = (Msg.within m.life lo hi) from by simp_all [Msg.num]]; rfl⟩
  · have g2 := h2
    try simp only [kb] at g2
    refine RunQ.off rfl rfl rfl h2 rfl (lt rfl) ?_
    refine RunQ.off rfl rfl rfl h2 rfl (lt rfl) ?_
    refine RunQ.off rfl rfl rfl h2 rfl (lt rfl) ?_
    refine RunQ.off rfl rfl rfl h2 rfl (lt rfl) ?_
    refine RunQ.off rfl rfl rfl h2 rfl (lt rfl) ?_
    refine RunQ.off rfl rfl rfl h2 rfl (lt rfl) ?_
    refine RunQ.off rfl rfl rfl h2 rfl (lt rfl) ?_
    refine RunQ.off rfl rfl rfl h2 rfl (lt rfl) ?_
    refine RunQ.off rfl rfl rfl h2 rfl (lt rfl) ?_
    refine RunQ.val (lt rfl) (Y.pick_f rfl h2 rfl) ?_
    refine RunQ.nil_run ?_
    refine Run.store (s := [(bf, .cells #[.bool false] 4 (0, 0))]) rfl rfl Message_sz4 (i := 1) rfl rfl (le rfl) rfl rfl ?_
    refine Run.to_end ?_
    refine Ex.keep [1, 1] ?_
    exact Ex.end0 rfl ⟨rfl, by rw [show (fine && Msg.within (m.num 1) lo hi) = false from by simp_all [Msg.num]]; rfl⟩

theorem right1_2 {m : Msg} {bm bf : Nat} {fine : Bool} {n lo hi : Int} {V : Vw} : Does Try.prog 51 [.agg #[.pointer (some ⟨bm, 2, none⟩), .int .i64 n, .int .i64 lo, .int .i64 hi], .pointer (some ⟨bf, 0, none⟩)] V [[(bf, .cells #[.bool fine] 4 (0, 0))], [(bm, .cells (m : Msg).cells 37 (0, 0))]] (fun _ V' H' => V' = V ∧ H' = [[(bf, .cells #[.bool (fine && Msg.within (m.num 2) lo hi)] 4 (0, 0))], [(bm, .cells (m : Msg).cells 37 (0, 0))]]) := by
  refine Does.intro Try.func51 rfl rfl (le rfl) (fun B => ?_)
  refine Tr.seq ?_
  refine Tr.region ?_
  refine Run.box rfl (lt rfl) (fun b1 => ?_)
  refine Run.to_end ?_
  refine Ex.go ?_
  refine Tr.tail 12 Message_mo (by kernel_rfl) ?_
  refine RunQ.val (lt rfl) (Y.load rfl Message_ts4 (Kn.at 1 rfl) rfl) ?_
  refine RunQ.val (lt rfl) (Y.move rfl) ?_
  rcases Bool.eq_false_or_eq_true (fine) with h2 | h2
  · have g2 := h2
    try simp only [kb] at g2
    refine RunQ.on rfl rfl rfl h2 ?_
    refine RunQ.val (lt rfl) (Y.fieldAddr rfl Message_fo86_0) ?_
    refine RunQ.on rfl rfl rfl h2 ?_
    refine RunQ.val (lt rfl) (Y.load rfl Message_ts84 (Kn.at 0 rfl) rfl) ?_
    refine RunQ.on rfl rfl rfl h2 ?_
    refine RunQ.val (lt rfl) (Y.nilCheck rfl) ?_
    refine RunQ.on rfl rfl rfl h2 ?_
    refine RunQ.val (lt rfl) (Y.load rfl Message_ts3 (Kn.at 2 rfl) rfl) ?_
    refine RunQ.on rfl rfl rfl h2 ?_
    refine RunQ.val (lt rfl) (Y.fieldAddr rfl Message_fo86_2) ?_
    refine RunQ.on rfl rfl rfl h2 ?_
    refine RunQ.val (lt rfl) (Y.load rfl Message_ts3 (Kn.at 0 rfl) rfl) ?_
    refine RunQ.on rfl rfl rfl h2 ?_
    refine RunQ.val (lt rfl) (Y.fieldAddr rfl Message_fo86_3) ?_
    refine RunQ.on rfl rfl rfl h2 ?_
    refine RunQ.val (lt rfl) (Y.load rfl Message_ts3 (Kn.at 0 rfl) rfl) ?_
    refine RunQ.on rfl rfl rfl h2 ?_
    refine RunQ.call0 (l := [.tmp 8, .tmp 10, .tmp 12]) rfl rfl rfl (lt rfl) within_c0_h ?_
    refine RunQ.val (lt rfl) (Y.pick_t rfl h2 rfl) ?_
    refine RunQ.nil_run ?_
    refine Run.store (s := [(bf, .cells #[.bool (Msg.within m.seen lo hi)] 4 (0, 0))]) rfl rfl Message_sz4 (i := 1) rfl rfl (le rfl) rfl rfl ?_
    refine Run.to_end ?_
    refine Ex.keep [1, 1] ?_
    exact Ex.end0 rfl ⟨rfl, by rw [show (fine && Msg.within (m.num 2) lo hi) = (Msg.within m.seen lo hi) from by simp_all [Msg.num]]; rfl⟩
  · have g2 := h2
    try simp only [kb] at g2
    refine RunQ.off rfl rfl rfl h2 rfl (lt rfl) ?_
    refine RunQ.off rfl rfl rfl h2 rfl (lt rfl) ?_
    refine RunQ.off rfl rfl rfl h2 rfl (lt rfl) ?_
    refine RunQ.off rfl rfl rfl h2 rfl (lt rfl) ?_
    refine RunQ.off rfl rfl rfl h2 rfl (lt rfl) ?_
    refine RunQ.off rfl rfl rfl h2 rfl (lt rfl) ?_
    refine RunQ.off rfl rfl rfl h2 rfl (lt rfl) ?_
    refine RunQ.off rfl rfl rfl h2 rfl (lt rfl) ?_
    refine RunQ.off rfl rfl rfl h2 rfl (lt rfl) ?_
    refine RunQ.val (lt rfl) (Y.pick_f rfl h2 rfl) ?_
    refine RunQ.nil_run ?_
    refine Run.store (s := [(bf, .cells #[.bool false] 4 (0, 0))]) rfl rfl Message_sz4 (i := 1) rfl rfl (le rfl) rfl rfl ?_
    refine Run.to_end ?_
    refine Ex.keep [1, 1] ?_
    exact Ex.end0 rfl ⟨rfl, by rw [show (fine && Msg.within (m.num 2) lo hi) = false from by simp_all [Msg.num]]; rfl⟩

theorem right1_3 {m : Msg} {bm bf : Nat} {fine : Bool} {n lo hi : Int} {V : Vw} : Does Try.prog 51 [.agg #[.pointer (some ⟨bm, 3, none⟩), .int .i64 n, .int .i64 lo, .int .i64 hi], .pointer (some ⟨bf, 0, none⟩)] V [[(bf, .cells #[.bool fine] 4 (0, 0))], [(bm, .cells (m : Msg).cells 37 (0, 0))]] (fun _ V' H' => V' = V ∧ H' = [[(bf, .cells #[.bool (fine && Msg.within (m.num 3) lo hi)] 4 (0, 0))], [(bm, .cells (m : Msg).cells 37 (0, 0))]]) := by
  refine Does.intro Try.func51 rfl rfl (le rfl) (fun B => ?_)
  refine Tr.seq ?_
  refine Tr.region ?_
  refine Run.box rfl (lt rfl) (fun b1 => ?_)
  refine Run.to_end ?_
  refine Ex.go ?_
  refine Tr.tail 12 Message_mo (by kernel_rfl) ?_
  refine RunQ.val (lt rfl) (Y.load rfl Message_ts4 (Kn.at 1 rfl) rfl) ?_
  refine RunQ.val (lt rfl) (Y.move rfl) ?_
  rcases Bool.eq_false_or_eq_true (fine) with h2 | h2
  · have g2 := h2
    try simp only [kb] at g2
    refine RunQ.on rfl rfl rfl h2 ?_
    refine RunQ.val (lt rfl) (Y.fieldAddr rfl Message_fo86_0) ?_
    refine RunQ.on rfl rfl rfl h2 ?_
    refine RunQ.val (lt rfl) (Y.load rfl Message_ts84 (Kn.at 0 rfl) rfl) ?_
    refine RunQ.on rfl rfl rfl h2 ?_
    refine RunQ.val (lt rfl) (Y.nilCheck rfl) ?_
    refine RunQ.on rfl rfl rfl h2 ?_
    refine RunQ.val (lt rfl) (Y.load rfl Message_ts3 (Kn.at 2 rfl) rfl) ?_
    refine RunQ.on rfl rfl rfl h2 ?_
    refine RunQ.val (lt rfl) (Y.fieldAddr rfl Message_fo86_2) ?_
    refine RunQ.on rfl rfl rfl h2 ?_
    refine RunQ.val (lt rfl) (Y.load rfl Message_ts3 (Kn.at 0 rfl) rfl) ?_
    refine RunQ.on rfl rfl rfl h2 ?_
    refine RunQ.val (lt rfl) (Y.fieldAddr rfl Message_fo86_3) ?_
    refine RunQ.on rfl rfl rfl h2 ?_
    refine RunQ.val (lt rfl) (Y.load rfl Message_ts3 (Kn.at 0 rfl) rfl) ?_
    refine RunQ.on rfl rfl rfl h2 ?_
    refine RunQ.call0 (l := [.tmp 8, .tmp 10, .tmp 12]) rfl rfl rfl (lt rfl) within_c0_h ?_
    refine RunQ.val (lt rfl) (Y.pick_t rfl h2 rfl) ?_
    refine RunQ.nil_run ?_
    refine Run.store (s := [(bf, .cells #[.bool (Msg.within m.xid lo hi)] 4 (0, 0))]) rfl rfl Message_sz4 (i := 1) rfl rfl (le rfl) rfl rfl ?_
    refine Run.to_end ?_
    refine Ex.keep [1, 1] ?_
    exact Ex.end0 rfl ⟨rfl, by rw [show (fine && Msg.within (m.num 3) lo hi) = (Msg.within m.xid lo hi) from by simp_all [Msg.num]]; rfl⟩
  · have g2 := h2
    try simp only [kb] at g2
    refine RunQ.off rfl rfl rfl h2 rfl (lt rfl) ?_
    refine RunQ.off rfl rfl rfl h2 rfl (lt rfl) ?_
    refine RunQ.off rfl rfl rfl h2 rfl (lt rfl) ?_
    refine RunQ.off rfl rfl rfl h2 rfl (lt rfl) ?_
    refine RunQ.off rfl rfl rfl h2 rfl (lt rfl) ?_
    refine RunQ.off rfl rfl rfl h2 rfl (lt rfl) ?_
    refine RunQ.off rfl rfl rfl h2 rfl (lt rfl) ?_
    refine RunQ.off rfl rfl rfl h2 rfl (lt rfl) ?_
    refine RunQ.off rfl rfl rfl h2 rfl (lt rfl) ?_
    refine RunQ.val (lt rfl) (Y.pick_f rfl h2 rfl) ?_
    refine RunQ.nil_run ?_
    refine Run.store (s := [(bf, .cells #[.bool false] 4 (0, 0))]) rfl rfl Message_sz4 (i := 1) rfl rfl (le rfl) rfl rfl ?_
    refine Run.to_end ?_
    refine Ex.keep [1, 1] ?_
    exact Ex.end0 rfl ⟨rfl, by rw [show (fine && Msg.within (m.num 3) lo hi) = false from by simp_all [Msg.num]]; rfl⟩

theorem right1_4 {m : Msg} {bm bf : Nat} {fine : Bool} {n lo hi : Int} {V : Vw} : Does Try.prog 51 [.agg #[.pointer (some ⟨bm, 4, none⟩), .int .i64 n, .int .i64 lo, .int .i64 hi], .pointer (some ⟨bf, 0, none⟩)] V [[(bf, .cells #[.bool fine] 4 (0, 0))], [(bm, .cells (m : Msg).cells 37 (0, 0))]] (fun _ V' H' => V' = V ∧ H' = [[(bf, .cells #[.bool (fine && Msg.within (m.num 4) lo hi)] 4 (0, 0))], [(bm, .cells (m : Msg).cells 37 (0, 0))]]) := by
  refine Does.intro Try.func51 rfl rfl (le rfl) (fun B => ?_)
  refine Tr.seq ?_
  refine Tr.region ?_
  refine Run.box rfl (lt rfl) (fun b1 => ?_)
  refine Run.to_end ?_
  refine Ex.go ?_
  refine Tr.tail 12 Message_mo (by kernel_rfl) ?_
  refine RunQ.val (lt rfl) (Y.load rfl Message_ts4 (Kn.at 1 rfl) rfl) ?_
  refine RunQ.val (lt rfl) (Y.move rfl) ?_
  rcases Bool.eq_false_or_eq_true (fine) with h2 | h2
  · have g2 := h2
    try simp only [kb] at g2
    refine RunQ.on rfl rfl rfl h2 ?_
    refine RunQ.val (lt rfl) (Y.fieldAddr rfl Message_fo86_0) ?_
    refine RunQ.on rfl rfl rfl h2 ?_
    refine RunQ.val (lt rfl) (Y.load rfl Message_ts84 (Kn.at 0 rfl) rfl) ?_
    refine RunQ.on rfl rfl rfl h2 ?_
    refine RunQ.val (lt rfl) (Y.nilCheck rfl) ?_
    refine RunQ.on rfl rfl rfl h2 ?_
    refine RunQ.val (lt rfl) (Y.load rfl Message_ts3 (Kn.at 2 rfl) rfl) ?_
    refine RunQ.on rfl rfl rfl h2 ?_
    refine RunQ.val (lt rfl) (Y.fieldAddr rfl Message_fo86_2) ?_
    refine RunQ.on rfl rfl rfl h2 ?_
    refine RunQ.val (lt rfl) (Y.load rfl Message_ts3 (Kn.at 0 rfl) rfl) ?_
    refine RunQ.on rfl rfl rfl h2 ?_
    refine RunQ.val (lt rfl) (Y.fieldAddr rfl Message_fo86_3) ?_
    refine RunQ.on rfl rfl rfl h2 ?_
    refine RunQ.val (lt rfl) (Y.load rfl Message_ts3 (Kn.at 0 rfl) rfl) ?_
    refine RunQ.on rfl rfl rfl h2 ?_
    refine RunQ.call0 (l := [.tmp 8, .tmp 10, .tmp 12]) rfl rfl rfl (lt rfl) within_c0_h ?_
    refine RunQ.val (lt rfl) (Y.pick_t rfl h2 rfl) ?_
    refine RunQ.nil_run ?_
    refine Run.store (s := [(bf, .cells #[.bool (Msg.within m.state lo hi)] 4 (0, 0))]) rfl rfl Message_sz4 (i := 1) rfl rfl (le rfl) rfl rfl ?_
    refine Run.to_end ?_
    refine Ex.keep [1, 1] ?_
    exact Ex.end0 rfl ⟨rfl, by rw [show (fine && Msg.within (m.num 4) lo hi) = (Msg.within m.state lo hi) from by simp_all [Msg.num]]; rfl⟩
  · have g2 := h2
    try simp only [kb] at g2
    refine RunQ.off rfl rfl rfl h2 rfl (lt rfl) ?_
    refine RunQ.off rfl rfl rfl h2 rfl (lt rfl) ?_
    refine RunQ.off rfl rfl rfl h2 rfl (lt rfl) ?_
    refine RunQ.off rfl rfl rfl h2 rfl (lt rfl) ?_
    refine RunQ.off rfl rfl rfl h2 rfl (lt rfl) ?_
    refine RunQ.off rfl rfl rfl h2 rfl (lt rfl) ?_
    refine RunQ.off rfl rfl rfl h2 rfl (lt rfl) ?_
    refine RunQ.off rfl rfl rfl h2 rfl (lt rfl) ?_
    refine RunQ.off rfl rfl rfl h2 rfl (lt rfl) ?_
    refine RunQ.val (lt rfl) (Y.pick_f rfl h2 rfl) ?_
    refine RunQ.nil_run ?_
    refine Run.store (s := [(bf, .cells #[.bool false] 4 (0, 0))]) rfl rfl Message_sz4 (i := 1) rfl rfl (le rfl) rfl rfl ?_
    refine Run.to_end ?_
    refine Ex.keep [1, 1] ?_
    exact Ex.end0 rfl ⟨rfl, by rw [show (fine && Msg.within (m.num 4) lo hi) = false from by simp_all [Msg.num]]; rfl⟩

theorem right1_6 {m : Msg} {bm bf : Nat} {fine : Bool} {n lo hi : Int} {V : Vw} : Does Try.prog 51 [.agg #[.pointer (some ⟨bm, 6, none⟩), .int .i64 n, .int .i64 lo, .int .i64 hi], .pointer (some ⟨bf, 0, none⟩)] V [[(bf, .cells #[.bool fine] 4 (0, 0))], [(bm, .cells (m : Msg).cells 37 (0, 0))]] (fun _ V' H' => V' = V ∧ H' = [[(bf, .cells #[.bool (fine && Msg.within (m.num 6) lo hi)] 4 (0, 0))], [(bm, .cells (m : Msg).cells 37 (0, 0))]]) := by
  refine Does.intro Try.func51 rfl rfl (le rfl) (fun B => ?_)
  refine Tr.seq ?_
  refine Tr.region ?_
  refine Run.box rfl (lt rfl) (fun b1 => ?_)
  refine Run.to_end ?_
  refine Ex.go ?_
  refine Tr.tail 12 Message_mo (by kernel_rfl) ?_
  refine RunQ.val (lt rfl) (Y.load rfl Message_ts4 (Kn.at 1 rfl) rfl) ?_
  refine RunQ.val (lt rfl) (Y.move rfl) ?_
  rcases Bool.eq_false_or_eq_true (fine) with h2 | h2
  · have g2 := h2
    try simp only [kb] at g2
    refine RunQ.on rfl rfl rfl h2 ?_
    refine RunQ.val (lt rfl) (Y.fieldAddr rfl Message_fo86_0) ?_
    refine RunQ.on rfl rfl rfl h2 ?_
    refine RunQ.val (lt rfl) (Y.load rfl Message_ts84 (Kn.at 0 rfl) rfl) ?_
    refine RunQ.on rfl rfl rfl h2 ?_
    refine RunQ.val (lt rfl) (Y.nilCheck rfl) ?_
    refine RunQ.on rfl rfl rfl h2 ?_
    refine RunQ.val (lt rfl) (Y.load rfl Message_ts3 (Kn.at 2 rfl) rfl) ?_
    refine RunQ.on rfl rfl rfl h2 ?_
    refine RunQ.val (lt rfl) (Y.fieldAddr rfl Message_fo86_2) ?_
    refine RunQ.on rfl rfl rfl h2 ?_
    refine RunQ.val (lt rfl) (Y.load rfl Message_ts3 (Kn.at 0 rfl) rfl) ?_
    refine RunQ.on rfl rfl rfl h2 ?_
    refine RunQ.val (lt rfl) (Y.fieldAddr rfl Message_fo86_3) ?_
    refine RunQ.on rfl rfl rfl h2 ?_
    refine RunQ.val (lt rfl) (Y.load rfl Message_ts3 (Kn.at 0 rfl) rfl) ?_
    refine RunQ.on rfl rfl rfl h2 ?_
    refine RunQ.call0 (l := [.tmp 8, .tmp 10, .tmp 12]) rfl rfl rfl (lt rfl) within_c0_h ?_
    refine RunQ.val (lt rfl) (Y.pick_t rfl h2 rfl) ?_
    refine RunQ.nil_run ?_
    refine Run.store (s := [(bf, .cells #[.bool (Msg.within m.bind lo hi)] 4 (0, 0))]) rfl rfl Message_sz4 (i := 1) rfl rfl (le rfl) rfl rfl ?_
    refine Run.to_end ?_
    refine Ex.keep [1, 1] ?_
    exact Ex.end0 rfl ⟨rfl, by rw [show (fine && Msg.within (m.num 6) lo hi) = (Msg.within m.bind lo hi) from by simp_all [Msg.num]]; rfl⟩
  · have g2 := h2
    try simp only [kb] at g2
    refine RunQ.off rfl rfl rfl h2 rfl (lt rfl) ?_
    refine RunQ.off rfl rfl rfl h2 rfl (lt rfl) ?_
    refine RunQ.off rfl rfl rfl h2 rfl (lt rfl) ?_
    refine RunQ.off rfl rfl rfl h2 rfl (lt rfl) ?_
    refine RunQ.off rfl rfl rfl h2 rfl (lt rfl) ?_
    refine RunQ.off rfl rfl rfl h2 rfl (lt rfl) ?_
    refine RunQ.off rfl rfl rfl h2 rfl (lt rfl) ?_
    refine RunQ.off rfl rfl rfl h2 rfl (lt rfl) ?_
    refine RunQ.off rfl rfl rfl h2 rfl (lt rfl) ?_
    refine RunQ.val (lt rfl) (Y.pick_f rfl h2 rfl) ?_
    refine RunQ.nil_run ?_
    refine Run.store (s := [(bf, .cells #[.bool false] 4 (0, 0))]) rfl rfl Message_sz4 (i := 1) rfl rfl (le rfl) rfl rfl ?_
    refine Run.to_end ?_
    refine Ex.keep [1, 1] ?_
    exact Ex.end0 rfl ⟨rfl, by rw [show (fine && Msg.within (m.num 6) lo hi) = false from by simp_all [Msg.num]]; rfl⟩

theorem right1_8 {m : Msg} {bm bf : Nat} {fine : Bool} {n lo hi : Int} {V : Vw} : Does Try.prog 51 [.agg #[.pointer (some ⟨bm, 8, none⟩), .int .i64 n, .int .i64 lo, .int .i64 hi], .pointer (some ⟨bf, 0, none⟩)] V [[(bf, .cells #[.bool fine] 4 (0, 0))], [(bm, .cells (m : Msg).cells 37 (0, 0))]] (fun _ V' H' => V' = V ∧ H' = [[(bf, .cells #[.bool (fine && Msg.within (m.num 8) lo hi)] 4 (0, 0))], [(bm, .cells (m : Msg).cells 37 (0, 0))]]) := by
  refine Does.intro Try.func51 rfl rfl (le rfl) (fun B => ?_)
  refine Tr.seq ?_
  refine Tr.region ?_
  refine Run.box rfl (lt rfl) (fun b1 => ?_)
  refine Run.to_end ?_
  refine Ex.go ?_
  refine Tr.tail 12 Message_mo (by kernel_rfl) ?_
  refine RunQ.val (lt rfl) (Y.load rfl Message_ts4 (Kn.at 1 rfl) rfl) ?_
  refine RunQ.val (lt rfl) (Y.move rfl) ?_
  rcases Bool.eq_false_or_eq_true (fine) with h2 | h2
  · have g2 := h2
    try simp only [kb] at g2
    refine RunQ.on rfl rfl rfl h2 ?_
    refine RunQ.val (lt rfl) (Y.fieldAddr rfl Message_fo86_0) ?_
    refine RunQ.on rfl rfl rfl h2 ?_
    refine RunQ.val (lt rfl) (Y.load rfl Message_ts84 (Kn.at 0 rfl) rfl) ?_
    refine RunQ.on rfl rfl rfl h2 ?_
    refine RunQ.val (lt rfl) (Y.nilCheck rfl) ?_
    refine RunQ.on rfl rfl rfl h2 ?_
    refine RunQ.val (lt rfl) (Y.load rfl Message_ts3 (Kn.at 2 rfl) rfl) ?_
    refine RunQ.on rfl rfl rfl h2 ?_
    refine RunQ.val (lt rfl) (Y.fieldAddr rfl Message_fo86_2) ?_
    refine RunQ.on rfl rfl rfl h2 ?_
    refine RunQ.val (lt rfl) (Y.load rfl Message_ts3 (Kn.at 0 rfl) rfl) ?_
    refine RunQ.on rfl rfl rfl h2 ?_
    refine RunQ.val (lt rfl) (Y.fieldAddr rfl Message_fo86_3) ?_
    refine RunQ.on rfl rfl rfl h2 ?_
    refine RunQ.val (lt rfl) (Y.load rfl Message_ts3 (Kn.at 0 rfl) rfl) ?_
    refine RunQ.on rfl rfl rfl h2 ?_
    refine RunQ.call0 (l := [.tmp 8, .tmp 10, .tmp 12]) rfl rfl rfl (lt rfl) within_c0_h ?_
    refine RunQ.val (lt rfl) (Y.pick_t rfl h2 rfl) ?_
    refine RunQ.nil_run ?_
    refine Run.store (s := [(bf, .cells #[.bool (Msg.within m.pot lo hi)] 4 (0, 0))]) rfl rfl Message_sz4 (i := 1) rfl rfl (le rfl) rfl rfl ?_
    refine Run.to_end ?_
    refine Ex.keep [1, 1] ?_
    exact Ex.end0 rfl ⟨rfl, by rw [show (fine && Msg.within (m.num 8) lo hi) = (Msg.within m.pot lo hi) from by simp_all [Msg.num]]; rfl⟩
  · have g2 := h2
    try simp only [kb] at g2
    refine RunQ.off rfl rfl rfl h2 rfl (lt rfl) ?_
    refine RunQ.off rfl rfl rfl h2 rfl (lt rfl) ?_
    refine RunQ.off rfl rfl rfl h2 rfl (lt rfl) ?_
    refine RunQ.off rfl rfl rfl h2 rfl (lt rfl) ?_
    refine RunQ.off rfl rfl rfl h2 rfl (lt rfl) ?_
    refine RunQ.off rfl rfl rfl h2 rfl (lt rfl) ?_
    refine RunQ.off rfl rfl rfl h2 rfl (lt rfl) ?_
    refine RunQ.off rfl rfl rfl h2 rfl (lt rfl) ?_
    refine RunQ.off rfl rfl rfl h2 rfl (lt rfl) ?_
    refine RunQ.val (lt rfl) (Y.pick_f rfl h2 rfl) ?_
    refine RunQ.nil_run ?_
    refine Run.store (s := [(bf, .cells #[.bool false] 4 (0, 0))]) rfl rfl Message_sz4 (i := 1) rfl rfl (le rfl) rfl rfl ?_
    refine Run.to_end ?_
    refine Ex.keep [1, 1] ?_
    exact Ex.end0 rfl ⟨rfl, by rw [show (fine && Msg.within (m.num 8) lo hi) = false from by simp_all [Msg.num]]; rfl⟩

theorem right1_9 {m : Msg} {bm bf : Nat} {fine : Bool} {n lo hi : Int} {V : Vw} : Does Try.prog 51 [.agg #[.pointer (some ⟨bm, 9, none⟩), .int .i64 n, .int .i64 lo, .int .i64 hi], .pointer (some ⟨bf, 0, none⟩)] V [[(bf, .cells #[.bool fine] 4 (0, 0))], [(bm, .cells (m : Msg).cells 37 (0, 0))]] (fun _ V' H' => V' = V ∧ H' = [[(bf, .cells #[.bool (fine && Msg.within (m.num 9) lo hi)] 4 (0, 0))], [(bm, .cells (m : Msg).cells 37 (0, 0))]]) := by
  refine Does.intro Try.func51 rfl rfl (le rfl) (fun B => ?_)
  refine Tr.seq ?_
  refine Tr.region ?_
  refine Run.box rfl (lt rfl) (fun b1 => ?_)
  refine Run.to_end ?_
  refine Ex.go ?_
  refine Tr.tail 12 Message_mo (by kernel_rfl) ?_
  refine RunQ.val (lt rfl) (Y.load rfl Message_ts4 (Kn.at 1 rfl) rfl) ?_
  refine RunQ.val (lt rfl) (Y.move rfl) ?_
  rcases Bool.eq_false_or_eq_true (fine) with h2 | h2
  · have g2 := h2
    try simp only [kb] at g2
    refine RunQ.on rfl rfl rfl h2 ?_
    refine RunQ.val (lt rfl) (Y.fieldAddr rfl Message_fo86_0) ?_
    refine RunQ.on rfl rfl rfl h2 ?_
    refine RunQ.val (lt rfl) (Y.load rfl Message_ts84 (Kn.at 0 rfl) rfl) ?_
    refine RunQ.on rfl rfl rfl h2 ?_
    refine RunQ.val (lt rfl) (Y.nilCheck rfl) ?_
    refine RunQ.on rfl rfl rfl h2 ?_
    refine RunQ.val (lt rfl) (Y.load rfl Message_ts3 (Kn.at 2 rfl) rfl) ?_
    refine RunQ.on rfl rfl rfl h2 ?_
    refine RunQ.val (lt rfl) (Y.fieldAddr rfl Message_fo86_2) ?_
    refine RunQ.on rfl rfl rfl h2 ?_
    refine RunQ.val (lt rfl) (Y.load rfl Message_ts3 (Kn.at 0 rfl) rfl) ?_
    refine RunQ.on rfl rfl rfl h2 ?_
    refine RunQ.val (lt rfl) (Y.fieldAddr rfl Message_fo86_3) ?_
    refine RunQ.on rfl rfl rfl h2 ?_
    refine RunQ.val (lt rfl) (Y.load rfl Message_ts3 (Kn.at 0 rfl) rfl) ?_
    refine RunQ.on rfl rfl rfl h2 ?_
    refine RunQ.call0 (l := [.tmp 8, .tmp 10, .tmp 12]) rfl rfl rfl (lt rfl) within_c0_h ?_
    refine RunQ.val (lt rfl) (Y.pick_t rfl h2 rfl) ?_
    refine RunQ.nil_run ?_
    refine Run.store (s := [(bf, .cells #[.bool (Msg.within m.at_ lo hi)] 4 (0, 0))]) rfl rfl Message_sz4 (i := 1) rfl rfl (le rfl) rfl rfl ?_
    refine Run.to_end ?_
    refine Ex.keep [1, 1] ?_
    exact Ex.end0 rfl ⟨rfl, by rw [show (fine && Msg.within (m.num 9) lo hi) = (Msg.within m.at_ lo hi) from by simp_all [Msg.num]]; rfl⟩
  · have g2 := h2
    try simp only [kb] at g2
    refine RunQ.off rfl rfl rfl h2 rfl (lt rfl) ?_
    refine RunQ.off rfl rfl rfl h2 rfl (lt rfl) ?_
    refine RunQ.off rfl rfl rfl h2 rfl (lt rfl) ?_
    refine RunQ.off rfl rfl rfl h2 rfl (lt rfl) ?_
    refine RunQ.off rfl rfl rfl h2 rfl (lt rfl) ?_
    refine RunQ.off rfl rfl rfl h2 rfl (lt rfl) ?_
    refine RunQ.off rfl rfl rfl h2 rfl (lt rfl) ?_
    refine RunQ.off rfl rfl rfl h2 rfl (lt rfl) ?_
    refine RunQ.off rfl rfl rfl h2 rfl (lt rfl) ?_
    refine RunQ.val (lt rfl) (Y.pick_f rfl h2 rfl) ?_
    refine RunQ.nil_run ?_
    refine Run.store (s := [(bf, .cells #[.bool false] 4 (0, 0))]) rfl rfl Message_sz4 (i := 1) rfl rfl (le rfl) rfl rfl ?_
    refine Run.to_end ?_
    refine Ex.keep [1, 1] ?_
    exact Ex.end0 rfl ⟨rfl, by rw [show (fine && Msg.within (m.num 9) lo hi) = false from by simp_all [Msg.num]]; rfl⟩

theorem right1_c {m : Msg} {bm bf j : Nat} {fine : Bool} {n lo hi : Int} {V : Vw} (h : (j, n, lo, hi) ∈ Msg.flds) : Does Try.prog 51 [.agg #[.pointer (some ⟨bm, j, none⟩), .int .i64 n, .int .i64 lo, .int .i64 hi], .pointer (some ⟨bf, 0, none⟩)] V [[(bf, .cells #[.bool fine] 4 (0, 0))], [(bm, .cells (m : Msg).cells 37 (0, 0))]]
    (fun _ V' H' => V' = V ∧ H' = [[(bf, .cells #[.bool (fine && Msg.within (m.num j) lo hi)] 4 (0, 0))], [(bm, .cells (m : Msg).cells 37 (0, 0))]]) := by
  simp only [Msg.flds, List.mem_cons, Prod.mk.injEq, List.mem_nil_iff, or_false] at h
  rcases h with ⟨rfl, rfl, rfl, rfl⟩ | ⟨rfl, rfl, rfl, rfl⟩ | ⟨rfl, rfl, rfl, rfl⟩ | ⟨rfl, rfl, rfl, rfl⟩ | ⟨rfl, rfl, rfl, rfl⟩ | ⟨rfl, rfl, rfl, rfl⟩ | ⟨rfl, rfl, rfl, rfl⟩
  · exact right1_1
  · exact right1_2
  · exact right1_3
  · exact right1_4
  · exact right1_6
  · exact right1_8
  · exact right1_9

theorem right2_c  {V : Vw} {H : Hp} : Does Try.prog 53 [] V H (fun _ V' H' => V' = V ∧ H' = H) := by
  refine Does.intro Try.func53 rfl rfl (le rfl) (fun B => ?_)
  refine Tr.to_end ?_
  exact Ex.end0 rfl ⟨rfl, rfl⟩

theorem right_c0 {m : Msg} {V : Vw} : Does Try.prog 22 [.agg #[.int .i64 m.kind, .int .i64 m.life, .int .i64 m.seen, .int .i64 m.xid, .int .i64 m.state, .int .u32 m.addr, .int .i64 m.bind, .string m.client, .int .i64 m.pot, .int .i64 m.at_, .bool m.ok]] V [] (Pv (.bool (Msg.right m)) V []) := by
  refine Does.intro Try.func22 rfl rfl (le rfl) (fun B => ?_)
  refine Tr.seq ?_
  refine Tr.region ?_
  refine Run.box rfl (lt rfl) (fun b1 => ?_)
  refine Run.val (lt rfl) (Y.assign rfl) ?_
  refine Run.to_end ?_
  refine Ex.go ?_
  refine Tr.seq ?_
  refine Tr.region ?_
  refine Run.val (lt rfl) (Y.fieldAddr rfl Message_fo37_0) ?_
  refine Run.val (lt rfl) (Y.load rfl Message_ts3 (Kn.at 0 rfl) rfl) ?_
  refine Run.buildSlice (l := [(0, .const (.int .i64 1)), (1, .const (.int .i64 2)), (2, .const (.int .i64 3)), (3, .const (.int .i64 4)), (4, .const (.int .i64 5))]) Message_es104 Message_zo3 rfl (by decide) rfl rfl (by decide) (lt rfl) (fun b2 => ?_)
  refine Run.call0 (l := [.tmp 5, .tmp 6]) rfl rfl rfl (lt rfl) (of_c (l := [1, 2, 3, 4, 5]) (Rd.one (Kn.at 0 rfl) rfl) (by decide)) ?_
  refine Run.val (lt rfl) (Y.move rfl) ?_
  rcases Bool.eq_false_or_eq_true ([1, 2, 3, 4, 5].contains m.kind) with h3 | h3
  · have g3 := h3
    try simp only [kb] at g3
    refine Run.on rfl rfl rfl h3 ?_
    refine Run.val (lt rfl) (Y.fieldAddr rfl Message_fo37_7) ?_
    refine Run.on rfl rfl rfl h3 ?_
    refine Run.val (lt rfl) (Y.load rfl Message_ts9 (Kn.at 1 rfl) rfl) ?_
    refine Run.on rfl rfl rfl h3 ?_
    refine Run.val (lt rfl) (Y.lenStr rfl Message_st9) ?_
    refine Run.on rfl rfl rfl h3 ?_
    refine Run.val (lt rfl) (Y.int rfl rfl rfl) ?_
    refine Run.val (lt rfl) (Y.pick_t rfl h3 rfl) ?_
    refine Run.alloc Message_zo4 (lt rfl) (fun b4 => ?_)
    refine Run.store (s := [(b4, .cells #[.bool (decide ((m.client.size : Int) ≤ 32))] 4 (0, 0))]) rfl rfl Message_sz4 (i := 0) rfl rfl (le rfl) rfl rfl ?_
    refine Run.to_end ?_
    refine Ex.go ?_
    refine Tr.seq ?_
    refine Tr.region ?_
    refine Run.val (lt rfl) (Y.makeFunc (l := []) (l' := [.tmp 3]) rfl rfl) ?_
    refine Run.call [0, 1] (l := [.tmp 1, .tmp 14, .func 53]) rfl rfl rfl (lt rfl) (walk_c (X := Bool) (Hx := fun x => [[(b4, .cells #[.bool x] 4 (0, 0))], [(b1, .cells (m : Msg).cells 37 (0, 0))]]) (kind := m.kind) id (fun j _ lo hi b => b && Msg.within (m.num j) lo hi) id (fun _ => True)
      (fun x => ⟨_, _, _, Kn.at 1 rfl, rfl⟩)
      (fun x j n lo hi h _ => (right1_c h).mono fun v V2 H2 ⟨h1, h2⟩ => ⟨h1, _, rfl, h2⟩)
      (fun x _ => right2_c.mono fun v V2 H2 ⟨h1, h2⟩ => ⟨h1, _, rfl, h2⟩) (decide ((m.client.size : Int) ≤ 32)) (by simp)) (fun v V2 H2 _ hR => ?_)
    obtain ⟨hV, fine, q, rfl⟩ := hR; replace hV := hV.symm; subst hV; simp only [id] at q
    refine Run.to_end ?_
    refine Ex.go ?_
    refine Tr.seq ?_
    refine Tr.quiet Message_mo (by kernel_rfl) ?_
    refine RunQ.val (lt rfl) (Y.load rfl Message_ts4 (Kn.at 1 rfl) rfl) ?_
    refine RunQ.val (lt rfl) (Y.move rfl) ?_
    rcases Bool.eq_false_or_eq_true (fine) with h5 | h5
    · have g5 := h5
      try simp only [kb] at g5
      refine RunQ.on rfl rfl rfl h5 ?_
      refine RunQ.val (lt rfl) (Y.loadAgg rfl Message_ag37 (Kn.at 2 rfl) rfl) ?_
      refine RunQ.on rfl rfl rfl h5 ?_
      refine RunQ.call0 (l := [.tmp 18]) rfl rfl rfl (lt rfl) bare_c ?_
      refine RunQ.on rfl rfl rfl h5 ?_
      refine RunQ.val (lt rfl) (Y.fieldAddr rfl Message_fo37_0) ?_
      refine RunQ.on rfl rfl rfl h5 ?_
      refine RunQ.val (lt rfl) (Y.load rfl Message_ts3 (Kn.at 2 rfl) rfl) ?_
      refine RunQ.on rfl rfl rfl h5 ?_
      refine RunQ.val (lt rfl) (Y.buildS (l := [(0, .tmp 21)]) Message_zo37 Message_pl37 rfl rfl) ?_
      refine RunQ.on rfl rfl rfl h5 ?_
      refine RunQ.val (lt rfl) (Y.eqS rfl rfl Message_tgs37 rfl rfl) ?_
      refine RunQ.val (lt rfl) (Y.pick_t rfl h5 rfl) ?_
      refine RunQ.val (lt rfl) (Y.assign rfl) ?_
      refine RunQ.to_end ?_
      refine Ex.go ?_
      refine Tr.to_ret ?_
      refine Ex.keep [] ?_
      exact Ex.ret1 rfl rfl  ⟨by rw [Msg.right_eq (by simp only [h3, Bool.true_and, Bool.false_and]) q, h5]; rfl, rfl, rfl⟩
    · have g5 := h5
      try simp only [kb] at g5
      refine RunQ.off rfl rfl rfl h5 rfl (lt rfl) ?_
      refine RunQ.off rfl rfl rfl h5 rfl (lt rfl) ?_
      refine RunQ.off rfl rfl rfl h5 rfl (lt rfl) ?_
      refine RunQ.off rfl rfl rfl h5 rfl (lt rfl) ?_
      refine RunQ.off rfl rfl rfl h5 rfl (lt rfl) ?_
      refine RunQ.off rfl rfl rfl h5 rfl (lt rfl) ?_
      refine RunQ.val (lt rfl) (Y.pick_f rfl h5 rfl) ?_
      refine RunQ.val (lt rfl) (Y.assign rfl) ?_
      refine RunQ.to_end ?_
      refine Ex.go ?_
      refine Tr.to_ret ?_
      refine Ex.keep [] ?_
      exact Ex.ret1 rfl rfl  ⟨by rw [Msg.right_eq (by simp only [h3, Bool.true_and, Bool.false_and]) q, h5]; rfl, rfl, rfl⟩
  · have g3 := h3
    try simp only [kb] at g3
    refine Run.off rfl rfl rfl h3 rfl (lt rfl) ?_
    refine Run.off rfl rfl rfl h3 rfl (lt rfl) ?_
    refine Run.off rfl rfl rfl h3 rfl (lt rfl) ?_
    refine Run.off rfl rfl rfl h3 rfl (lt rfl) ?_
    refine Run.val (lt rfl) (Y.pick_f rfl h3 rfl) ?_
    refine Run.alloc Message_zo4 (lt rfl) (fun b6 => ?_)
    refine Run.store (s := [(b6, .cells #[.bool false] 4 (0, 0))]) rfl rfl Message_sz4 (i := 0) rfl rfl (le rfl) rfl rfl ?_
    refine Run.to_end ?_
    refine Ex.go ?_
    refine Tr.seq ?_
    refine Tr.region ?_
    refine Run.val (lt rfl) (Y.makeFunc (l := []) (l' := [.tmp 3]) rfl rfl) ?_
    refine Run.call [0, 1] (l := [.tmp 1, .tmp 14, .func 53]) rfl rfl rfl (lt rfl) (walk_c (X := Bool) (Hx := fun x => [[(b6, .cells #[.bool x] 4 (0, 0))], [(b1, .cells (m : Msg).cells 37 (0, 0))]]) (kind := m.kind) id (fun j _ lo hi b => b && Msg.within (m.num j) lo hi) id (fun _ => True)
      (fun x => ⟨_, _, _, Kn.at 1 rfl, rfl⟩)
      (fun x j n lo hi h _ => (right1_c h).mono fun v V2 H2 ⟨h1, h2⟩ => ⟨h1, _, rfl, h2⟩)
      (fun x _ => right2_c.mono fun v V2 H2 ⟨h1, h2⟩ => ⟨h1, _, rfl, h2⟩) (false) (by simp)) (fun v V2 H2 _ hR => ?_)
    obtain ⟨hV, fine, q, rfl⟩ := hR; replace hV := hV.symm; subst hV; simp only [id] at q
    refine Run.to_end ?_
    refine Ex.go ?_
    refine Tr.seq ?_
    refine Tr.quiet Message_mo (by kernel_rfl) ?_
    refine RunQ.val (lt rfl) (Y.load rfl Message_ts4 (Kn.at 1 rfl) rfl) ?_
    refine RunQ.val (lt rfl) (Y.move rfl) ?_
    rcases Bool.eq_false_or_eq_true (fine) with h7 | h7
    · have g7 := h7
      try simp only [kb] at g7
      refine RunQ.on rfl rfl rfl h7 ?_
      refine RunQ.val (lt rfl) (Y.loadAgg rfl Message_ag37 (Kn.at 2 rfl) rfl) ?_
      refine RunQ.on rfl rfl rfl h7 ?_
      refine RunQ.call0 (l := [.tmp 18]) rfl rfl rfl (lt rfl) bare_c ?_
      refine RunQ.on rfl rfl rfl h7 ?_
      refine RunQ.val (lt rfl) (Y.fieldAddr rfl Message_fo37_0) ?_
      refine RunQ.on rfl rfl rfl h7 ?_
      refine RunQ.val (lt rfl) (Y.load rfl Message_ts3 (Kn.at 2 rfl) rfl) ?_
      refine RunQ.on rfl rfl rfl h7 ?_
      refine RunQ.val (lt rfl) (Y.buildS (l := [(0, .tmp 21)]) Message_zo37 Message_pl37 rfl rfl) ?_
      refine RunQ.on rfl rfl rfl h7 ?_
      refine RunQ.val (lt rfl) (Y.eqS rfl rfl Message_tgs37 rfl rfl) ?_
      refine RunQ.val (lt rfl) (Y.pick_t rfl h7 rfl) ?_
      refine RunQ.val (lt rfl) (Y.assign rfl) ?_
      refine RunQ.to_end ?_
      refine Ex.go ?_
      refine Tr.to_ret ?_
      refine Ex.keep [] ?_
      exact Ex.ret1 rfl rfl  ⟨by rw [Msg.right_eq (by simp only [h3, Bool.true_and, Bool.false_and]) q, h7]; rfl, rfl, rfl⟩
    · have g7 := h7
      try simp only [kb] at g7
      refine RunQ.off rfl rfl rfl h7 rfl (lt rfl) ?_
      refine RunQ.off rfl rfl rfl h7 rfl (lt rfl) ?_
      refine RunQ.off rfl rfl rfl h7 rfl (lt rfl) ?_
      refine RunQ.off rfl rfl rfl h7 rfl (lt rfl) ?_
      refine RunQ.off rfl rfl rfl h7 rfl (lt rfl) ?_
      refine RunQ.off rfl rfl rfl h7 rfl (lt rfl) ?_
      refine RunQ.val (lt rfl) (Y.pick_f rfl h7 rfl) ?_
      refine RunQ.val (lt rfl) (Y.assign rfl) ?_
      refine RunQ.to_end ?_
      refine Ex.go ?_
      refine Tr.to_ret ?_
      refine Ex.keep [] ?_
      exact Ex.ret1 rfl rfl  ⟨by rw [Msg.right_eq (by simp only [h3, Bool.true_and, Bool.false_and]) q, h7]; rfl, rfl, rfl⟩

theorem right_c {m : Msg} {V : Vw} {H : Hp} : Does Try.prog 22 [.agg m.cells] V H (Pv (.bool (Msg.right m)) V H) := right_c0.frame

theorem put_c {v : Value} {n : Int} {k len : Nat} {xs : List Value} {s : Sg} (ho : Ow 5 1 v len xs s) (hk : k ≤ 8) (hn : 0 ≤ n ∧ n ≤ 9223372036854775807) (hlen : len ≤ 70368744177664) {V : Vw} : Does Try.prog 47 [v, .int .i64 n, .int .i64 (k : Int)] V [s] (fun v' V' H' => V' = V ∧ ∃ s', H' = [s'] ∧ Ow 5 1 v' (len + k) (xs ++ (Msg.be k n).map byteV) s') := by
  refine Does.intro Try.func47 rfl rfl (le rfl) (fun B => ?_)
  refine Tr.seq ?_
  refine Tr.region ?_
  refine Run.val (lt rfl) (Y.assign rfl) ?_
  refine Run.to_end ?_
  refine Ex.go ?_
  refine Tr.seq ?_
  refine Tr.seq ?_
  refine Tr.region ?_
  refine Run.val (lt rfl) (Y.move rfl) ?_
  refine Run.val (lt rfl) (Y.sub rfl rfl (by omega)) ?_
  refine Run.val (lt rfl) (Y.assign rfl) ?_
  refine Run.to_end ?_
  refine Ex.go ?_
  refine Tr.block ?_
  refine Tr.loop (X := Nat × Value × Sg) (fun x => V) (fun x => [x.2.2]) (fun x => [(0, x.2.1), (1, .int .i64 n), (2, .int .i64 (k : Int)), (7, .int .i64 ((k : Int) - 1 - (x.1 : Int)))]) (fun x => x.1 ≤ k ∧ Ow 5 1 x.2.1 (len + x.1) (xs ++ ((Msg.be k n).take x.1).map byteV) x.2.2) (fun x => k - x.1) (0, v, s) ⟨Nat.zero_le _, by simpa using ho⟩ (fun a w i => ⟨i.1.sub (subB_cons (by first | rfl | exact congrArg (fun z => some (Value.int _ z)) (by omega)) (subB_cons (by first | rfl | exact congrArg (fun z => some (Value.int _ z)) (by omega)) (subB_cons (by first | rfl | exact congrArg (fun z => some (Value.int _ z)) (by omega)) (subB_cons (by first | rfl | exact congrArg (fun z => some (Value.int _ z)) (by omega)) (subB_nil _))))), i.2⟩) ?_
  rintro x ⟨hj, hx⟩
  refine Tr.seq ?_
  refine Tr.seq ?_
  refine Tr.region ?_
  refine Run.val (lt rfl) (Y.move rfl) ?_
  refine Run.val (lt rfl) (Y.int rfl rfl rfl) ?_
  refine Run.to_end ?_
  refine Ex.go ?_
  rcases Bool.eq_false_or_eq_true (decide (((k : Int) - 1 - (x.1 : Int)) ≥ 0)) with h1 | h1
  · have g1 := h1
    try simp only [kb] at g1
    refine Tr.cond_t rfl h1 ?_
    refine Tr.to_end ?_
    refine Ex.go ?_
    refine Tr.seq ?_
    refine Tr.block ?_
    refine Tr.region ?_
    refine Run.val (lt rfl) (Y.move rfl) ?_
    refine Run.val (lt rfl) (Y.move rfl) ?_
    refine Run.val (lt rfl) (Y.move rfl) ?_
    refine Run.val (lt rfl) (Y.mul rfl rfl (by omega)) ?_
    refine Run.val (lt rfl) (Y.shr (n / 256 ^ (k - 1 - x.1)) rfl rfl (by omega) (Msg.shr_be (by omega) (by omega))) ?_
    refine Run.val (lt rfl) (Y.conv (n / 256 ^ (k - 1 - x.1) % 256) rfl Message_it3_5 (wrap_u8_mod _)) ?_
    refine Run.buildSlice (l := [(0, .tmp 19)]) Message_es38 Message_zo5 rfl (by decide) rfl rfl (by decide) (lt rfl) (fun b2 => ?_)
    refine Run.append (n := len + x.1) (m := 1) (xs := xs ++ ((Msg.be k n).take x.1).map byteV) (ys := [.int .u8 (n / 256 ^ (k - 1 - x.1) % 256)]) rfl rfl Message_es38 Message_zi5 (by decide) (j := 1) rfl hx (Src.of_rd Message_es38 (Rd.one (Kn.at 0 rfl) rfl)) (by omega) (by omega) rfl (lt rfl) (fun v3 s4 ho5 hf => ?_)
    obtain ⟨p3, c3, rfl⟩ := hf
    refine Run.val (lt rfl) (Y.assign rfl) ?_
    refine Run.to_end ?_
    refine Ex.end_block ?_
    refine Ex.go ?_
    refine Tr.region ?_
    refine Run.val (lt rfl) (Y.move rfl) ?_
    refine Run.val (lt rfl) (Y.sub rfl rfl (by omega)) ?_
    refine Run.val (lt rfl) (Y.assign rfl) ?_
    refine Run.to_end ?_
    refine Ex.keep [1] ?_
    exact Ex.round (x.1 + 1, (.slice p3 (len + x.1 + 1) c3), s4) ⟨by show x.1 + 1 ≤ k; omega, by have h := ho5; rw [List.append_assoc] at h; show Ow _ 1 (.slice p3 (len + x.1 + 1) c3) (len + (x.1 + 1)) (xs ++ ((Msg.be k n).take (x.1 + 1)).map byteV) s4; rw [Msg.be_step (by omega), List.map_append, List.map_cons, List.map_nil, byteV_of (by omega)]; exact h⟩ (by show k - (x.1 + 1) < k - x.1; omega) rfl rfl (subB_cons (by first | rfl | exact congrArg (fun z => some (Value.int _ z)) (by omega)) (subB_cons (by first | rfl | exact congrArg (fun z => some (Value.int _ z)) (by omega)) (subB_cons (by first | rfl | exact congrArg (fun z => some (Value.int _ z)) (by omega)) (subB_cons (by first | rfl | exact congrArg (fun z => some (Value.int _ z)) (by omega)) (subB_nil _)))))
  · have g1 := h1
    try simp only [kb] at g1
    refine Tr.cond_f rfl h1 ?_
    refine Tr.to_exit ?_
    refine Ex.exit_then ?_
    refine Ex.exit_then ?_
    refine Ex.exit_in ?_
    refine Ex.go ?_
    refine Tr.seq ?_
    refine Tr.region ?_
    refine Run.val (lt rfl) (Y.move rfl) ?_
    refine Run.val (lt rfl) (Y.assign rfl) ?_
    refine Run.to_end ?_
    refine Ex.go ?_
    refine Tr.to_ret ?_
    exact Ex.ret1 rfl rfl  ⟨rfl, x.2.2, rfl, by have h := hx; rw [show x.1 = k from by omega, List.take_of_length_le (by rw [Msg.be_length]; omega)] at h; exact h⟩

theorem enc1_1 {m : Msg} {bm bB : Nat} {v : Value} {s : Sg} {bs : List UInt8} (ho : Ow 5 1 v bs.length (bs.map byteV) s) (hn : 0 ≤ m.num 1 ∧ m.num 1 ≤ 9223372036854775807) (hlen : bs.length ≤ 100) {V : Vw} : Does Try.prog 46 [.agg #[.pointer (some ⟨bm, 1, none⟩), .int .i64 4, .int .i64 1, .int .i64 536870912], .pointer (some ⟨bB, 0, none⟩)] V [[(bB, .cells #[v] 38 (0, 0))], s, [(bm, .cells (m : Msg).cells 37 (0, 0))]] (fun _ V' H' => V' = V ∧ ∃ v' s', H' = [[(bB, .cells #[v'] 38 (0, 0))], s', [(bm, .cells (m : Msg).cells 37 (0, 0))]] ∧ Ow 5 1 v' (bs ++ Msg.be 4 (m.num 1)).length ((bs ++ Msg.be 4 (m.num 1)).map byteV) s') := by
  refine Does.intro Try.func46 rfl rfl (le rfl) (fun B => ?_)
  refine Tr.seq ?_
  refine Tr.region ?_
  refine Run.box rfl (lt rfl) (fun b1 => ?_)
  refine Run.to_end ?_
  refine Ex.go ?_
  refine Tr.tail 7 Message_mo (by kernel_rfl) ?_
  refine RunQ.val (lt rfl) (Y.load rfl Message_ts38 (Kn.at 1 rfl) rfl) ?_
  refine RunQ.val (lt rfl) (Y.fieldAddr rfl Message_fo86_0) ?_
  refine RunQ.val (lt rfl) (Y.load rfl Message_ts84 (Kn.at 0 rfl) rfl) ?_
  refine RunQ.val (lt rfl) (Y.nilCheck rfl) ?_
  refine RunQ.val (lt rfl) (Y.load rfl Message_ts3 (Kn.at 3 rfl) rfl) ?_
  refine RunQ.val (lt rfl) (Y.fieldAddr rfl Message_fo86_1) ?_
  refine RunQ.val (lt rfl) (Y.load rfl Message_ts3 (Kn.at 0 rfl) rfl) ?_
  refine RunQ.nil_run ?_
  refine Run.call [2] (l := [.tmp 3, .tmp 7, .tmp 9]) rfl rfl rfl (lt rfl) (put_c (k := 4) ho (by decide) (by exact hn) (by omega)) (fun v2 V2 H2 _ hR => ?_)
  obtain ⟨hV, s3, rfl, ho4⟩ := hR; replace hV := hV.symm; subst hV
  obtain ⟨p2, c2, rfl⟩ := ho4.form
  refine Run.store (s := [(bB, .cells #[.slice p2 (bs.length + 4) c2] 38 (0, 0))]) rfl rfl Message_sz38 (i := 1) rfl rfl (le rfl) rfl rfl ?_
  refine Run.to_end ?_
  refine Ex.keep [1, 2, 1] ?_
  exact Ex.end0 rfl ⟨rfl, (.slice p2 (bs.length + 4) c2), s3, rfl, by have h := ho4; rw [← List.map_append] at h; rw [List.length_append, Msg.be_length]; exact h⟩

theorem enc1_2 {m : Msg} {bm bB : Nat} {v : Value} {s : Sg} {bs : List UInt8} (ho : Ow 5 1 v bs.length (bs.map byteV) s) (hn : 0 ≤ m.num 2 ∧ m.num 2 ≤ 9223372036854775807) (hlen : bs.length ≤ 100) {V : Vw} : Does Try.prog 46 [.agg #[.pointer (some ⟨bm, 2, none⟩), .int .i64 4, .int .i64 0, .int .i64 536870912], .pointer (some ⟨bB, 0, none⟩)] V [[(bB, .cells #[v] 38 (0, 0))], s, [(bm, .cells (m : Msg).cells 37 (0, 0))]] (fun _ V' H' => V' = V ∧ ∃ v' s', H' = [[(bB, .cells #[v'] 38 (0, 0))], s', [(bm, .cells (m : Msg).cells 37 (0, 0))]] ∧ Ow 5 1 v' (bs ++ Msg.be 4 (m.num 2)).length ((bs ++ Msg.be 4 (m.num 2)).map byteV) s') := by
  refine Does.intro Try.func46 rfl rfl (le rfl) (fun B => ?_)
  refine Tr.seq ?_
  refine Tr.region ?_
  refine Run.box rfl (lt rfl) (fun b1 => ?_)
  refine Run.to_end ?_
  refine Ex.go ?_
  refine Tr.tail 7 Message_mo (by kernel_rfl) ?_
  refine RunQ.val (lt rfl) (Y.load rfl Message_ts38 (Kn.at 1 rfl) rfl) ?_
  refine RunQ.val (lt rfl) (Y.fieldAddr rfl Message_fo86_0) ?_
  refine RunQ.val (lt rfl) (Y.load rfl Message_ts84 (Kn.at 0 rfl) rfl) ?_
  refine RunQ.val (lt rfl) (Y.nilCheck rfl) ?_
  refine RunQ.val (lt rfl) (Y.load rfl Message_ts3 (Kn.at 3 rfl) rfl) ?_
  refine RunQ.val (lt rfl) (Y.fieldAddr rfl Message_fo86_1) ?_
  refine RunQ.val (lt rfl) (Y.load rfl Message_ts3 (Kn.at 0 rfl) rfl) ?_
  refine RunQ.nil_run ?_
  refine Run.call [2] (l := [.tmp 3, .tmp 7, .tmp 9]) rfl rfl rfl (lt rfl) (put_c (k := 4) ho (by decide) (by exact hn) (by omega)) (fun v2 V2 H2 _ hR => ?_)
  obtain ⟨hV, s3, rfl, ho4⟩ := hR; replace hV := hV.symm; subst hV
  obtain ⟨p2, c2, rfl⟩ := ho4.form
  refine Run.store (s := [(bB, .cells #[.slice p2 (bs.length + 4) c2] 38 (0, 0))]) rfl rfl Message_sz38 (i := 1) rfl rfl (le rfl) rfl rfl ?_
  refine Run.to_end ?_
  refine Ex.keep [1, 2, 1] ?_
  exact Ex.end0 rfl ⟨rfl, (.slice p2 (bs.length + 4) c2), s3, rfl, by have h := ho4; rw [← List.map_append] at h; rw [List.length_append, Msg.be_length]; exact h⟩

theorem enc1_3 {m : Msg} {bm bB : Nat} {v : Value} {s : Sg} {bs : List UInt8} (ho : Ow 5 1 v bs.length (bs.map byteV) s) (hn : 0 ≤ m.num 3 ∧ m.num 3 ≤ 9223372036854775807) (hlen : bs.length ≤ 100) {V : Vw} : Does Try.prog 46 [.agg #[.pointer (some ⟨bm, 3, none⟩), .int .i64 4, .int .i64 1, .int .i64 1073741824], .pointer (some ⟨bB, 0, none⟩)] V [[(bB, .cells #[v] 38 (0, 0))], s, [(bm, .cells (m : Msg).cells 37 (0, 0))]] (fun _ V' H' => V' = V ∧ ∃ v' s', H' = [[(bB, .cells #[v'] 38 (0, 0))], s', [(bm, .cells (m : Msg).cells 37 (0, 0))]] ∧ Ow 5 1 v' (bs ++ Msg.be 4 (m.num 3)).length ((bs ++ Msg.be 4 (m.num 3)).map byteV) s') := by
  refine Does.intro Try.func46 rfl rfl (le rfl) (fun B => ?_)
  refine Tr.seq ?_
  refine Tr.region ?_
  refine Run.box rfl (lt rfl) (fun b1 => ?_)
  refine Run.to_end ?_
  refine Ex.go ?_
  refine Tr.tail 7 Message_mo (by kernel_rfl) ?_
  refine RunQ.val (lt rfl) (Y.load rfl Message_ts38 (Kn.at 1 rfl) rfl) ?_
  refine RunQ.val (lt rfl) (Y.fieldAddr rfl Message_fo86_0) ?_
  refine RunQ.val (lt rfl) (Y.load rfl Message_ts84 (Kn.at 0 rfl) rfl) ?_
  refine RunQ.val (lt rfl) (Y.nilCheck rfl) ?_
  refine RunQ.val (lt rfl) (Y.load rfl Message_ts3 (Kn.at 3 rfl) rfl) ?_
  refine RunQ.val (lt rfl) (Y.fieldAddr rfl Message_fo86_1) ?_
  refine RunQ.val (lt rfl) (Y.load rfl Message_ts3 (Kn.at 0 rfl) rfl) ?_
  refine RunQ.nil_run ?_
  refine Run.call [2] (l := [.tmp 3, .tmp 7, .tmp 9]) rfl rfl rfl (lt rfl) (put_c (k := 4) ho (by decide) (by exact hn) (by omega)) (fun v2 V2 H2 _ hR => ?_)
  obtain ⟨hV, s3, rfl, ho4⟩ := hR; replace hV := hV.symm; subst hV
  obtain ⟨p2, c2, rfl⟩ := ho4.form
  refine Run.store (s := [(bB, .cells #[.slice p2 (bs.length + 4) c2] 38 (0, 0))]) rfl rfl Message_sz38 (i := 1) rfl rfl (le rfl) rfl rfl ?_
  refine Run.to_end ?_
  refine Ex.keep [1, 2, 1] ?_
  exact Ex.end0 rfl ⟨rfl, (.slice p2 (bs.length + 4) c2), s3, rfl, by have h := ho4; rw [← List.map_append] at h; rw [List.length_append, Msg.be_length]; exact h⟩

theorem enc1_4 {m : Msg} {bm bB : Nat} {v : Value} {s : Sg} {bs : List UInt8} (ho : Ow 5 1 v bs.length (bs.map byteV) s) (hn : 0 ≤ m.num 4 ∧ m.num 4 ≤ 9223372036854775807) (hlen : bs.length ≤ 100) {V : Vw} : Does Try.prog 46 [.agg #[.pointer (some ⟨bm, 4, none⟩), .int .i64 1, .int .i64 0, .int .i64 8], .pointer (some ⟨bB, 0, none⟩)] V [[(bB, .cells #[v] 38 (0, 0))], s, [(bm, .cells (m : Msg).cells 37 (0, 0))]] (fun _ V' H' => V' = V ∧ ∃ v' s', H' = [[(bB, .cells #[v'] 38 (0, 0))], s', [(bm, .cells (m : Msg).cells 37 (0, 0))]] ∧ Ow 5 1 v' (bs ++ Msg.be 1 (m.num 4)).length ((bs ++ Msg.be 1 (m.num 4)).map byteV) s') := by
  refine Does.intro Try.func46 rfl rfl (le rfl) (fun B => ?_)
  refine Tr.seq ?_
  refine Tr.region ?_
  refine Run.box rfl (lt rfl) (fun b1 => ?_)
  refine Run.to_end ?_
  refine Ex.go ?_
  refine Tr.tail 7 Message_mo (by kernel_rfl) ?_
  refine RunQ.val (lt rfl) (Y.load rfl Message_ts38 (Kn.at 1 rfl) rfl) ?_
  refine RunQ.val (lt rfl) (Y.fieldAddr rfl Message_fo86_0) ?_
  refine RunQ.val (lt rfl) (Y.load rfl Message_ts84 (Kn.at 0 rfl) rfl) ?_
  refine RunQ.val (lt rfl) (Y.nilCheck rfl) ?_
  refine RunQ.val (lt rfl) (Y.load rfl Message_ts3 (Kn.at 3 rfl) rfl) ?_
  refine RunQ.val (lt rfl) (Y.fieldAddr rfl Message_fo86_1) ?_
  refine RunQ.val (lt rfl) (Y.load rfl Message_ts3 (Kn.at 0 rfl) rfl) ?_
  refine RunQ.nil_run ?_
  refine Run.call [2] (l := [.tmp 3, .tmp 7, .tmp 9]) rfl rfl rfl (lt rfl) (put_c (k := 1) ho (by decide) (by exact hn) (by omega)) (fun v2 V2 H2 _ hR => ?_)
  obtain ⟨hV, s3, rfl, ho4⟩ := hR; replace hV := hV.symm; subst hV
  obtain ⟨p2, c2, rfl⟩ := ho4.form
  refine Run.store (s := [(bB, .cells #[.slice p2 (bs.length + 1) c2] 38 (0, 0))]) rfl rfl Message_sz38 (i := 1) rfl rfl (le rfl) rfl rfl ?_
  refine Run.to_end ?_
  refine Ex.keep [1, 2, 1] ?_
  exact Ex.end0 rfl ⟨rfl, (.slice p2 (bs.length + 1) c2), s3, rfl, by have h := ho4; rw [← List.map_append] at h; rw [List.length_append, Msg.be_length]; exact h⟩

theorem enc1_6 {m : Msg} {bm bB : Nat} {v : Value} {s : Sg} {bs : List UInt8} (ho : Ow 5 1 v bs.length (bs.map byteV) s) (hn : 0 ≤ m.num 6 ∧ m.num 6 ≤ 9223372036854775807) (hlen : bs.length ≤ 100) {V : Vw} : Does Try.prog 46 [.agg #[.pointer (some ⟨bm, 6, none⟩), .int .i64 1, .int .i64 0, .int .i64 5], .pointer (some ⟨bB, 0, none⟩)] V [[(bB, .cells #[v] 38 (0, 0))], s, [(bm, .cells (m : Msg).cells 37 (0, 0))]] (fun _ V' H' => V' = V ∧ ∃ v' s', H' = [[(bB, .cells #[v'] 38 (0, 0))], s', [(bm, .cells (m : Msg).cells 37 (0, 0))]] ∧ Ow 5 1 v' (bs ++ Msg.be 1 (m.num 6)).length ((bs ++ Msg.be 1 (m.num 6)).map byteV) s') := by
  refine Does.intro Try.func46 rfl rfl (le rfl) (fun B => ?_)
  refine Tr.seq ?_
  refine Tr.region ?_
  refine Run.box rfl (lt rfl) (fun b1 => ?_)
  refine Run.to_end ?_
  refine Ex.go ?_
  refine Tr.tail 7 Message_mo (by kernel_rfl) ?_
  refine RunQ.val (lt rfl) (Y.load rfl Message_ts38 (Kn.at 1 rfl) rfl) ?_
  refine RunQ.val (lt rfl) (Y.fieldAddr rfl Message_fo86_0) ?_
  refine RunQ.val (lt rfl) (Y.load rfl Message_ts84 (Kn.at 0 rfl) rfl) ?_
  refine RunQ.val (lt rfl) (Y.nilCheck rfl) ?_
  refine RunQ.val (lt rfl) (Y.load rfl Message_ts3 (Kn.at 3 rfl) rfl) ?_
  refine RunQ.val (lt rfl) (Y.fieldAddr rfl Message_fo86_1) ?_
  refine RunQ.val (lt rfl) (Y.load rfl Message_ts3 (Kn.at 0 rfl) rfl) ?_
  refine RunQ.nil_run ?_
  refine Run.call [2] (l := [.tmp 3, .tmp 7, .tmp 9]) rfl rfl rfl (lt rfl) (put_c (k := 1) ho (by decide) (by exact hn) (by omega)) (fun v2 V2 H2 _ hR => ?_)
  obtain ⟨hV, s3, rfl, ho4⟩ := hR; replace hV := hV.symm; subst hV
  obtain ⟨p2, c2, rfl⟩ := ho4.form
  refine Run.store (s := [(bB, .cells #[.slice p2 (bs.length + 1) c2] 38 (0, 0))]) rfl rfl Message_sz38 (i := 1) rfl rfl (le rfl) rfl rfl ?_
  refine Run.to_end ?_
  refine Ex.keep [1, 2, 1] ?_
  exact Ex.end0 rfl ⟨rfl, (.slice p2 (bs.length + 1) c2), s3, rfl, by have h := ho4; rw [← List.map_append] at h; rw [List.length_append, Msg.be_length]; exact h⟩

theorem enc1_8 {m : Msg} {bm bB : Nat} {v : Value} {s : Sg} {bs : List UInt8} (ho : Ow 5 1 v bs.length (bs.map byteV) s) (hn : 0 ≤ m.num 8 ∧ m.num 8 ≤ 9223372036854775807) (hlen : bs.length ≤ 100) {V : Vw} : Does Try.prog 46 [.agg #[.pointer (some ⟨bm, 8, none⟩), .int .i64 6, .int .i64 0, .int .i64 1099511627776], .pointer (some ⟨bB, 0, none⟩)] V [[(bB, .cells #[v] 38 (0, 0))], s, [(bm, .cells (m : Msg).cells 37 (0, 0))]] (fun _ V' H' => V' = V ∧ ∃ v' s', H' = [[(bB, .cells #[v'] 38 (0, 0))], s', [(bm, .cells (m : Msg).cells 37 (0, 0))]] ∧ Ow 5 1 v' (bs ++ Msg.be 6 (m.num 8)).length ((bs ++ Msg.be 6 (m.num 8)).map byteV) s') := by
  refine Does.intro Try.func46 rfl rfl (le rfl) (fun B => ?_)
  refine Tr.seq ?_
  refine Tr.region ?_
  refine Run.box rfl (lt rfl) (fun b1 => ?_)
  refine Run.to_end ?_
  refine Ex.go ?_
  refine Tr.tail 7 Message_mo (by kernel_rfl) ?_
  refine RunQ.val (lt rfl) (Y.load rfl Message_ts38 (Kn.at 1 rfl) rfl) ?_
  refine RunQ.val (lt rfl) (Y.fieldAddr rfl Message_fo86_0) ?_
  refine RunQ.val (lt rfl) (Y.load rfl Message_ts84 (Kn.at 0 rfl) rfl) ?_
  refine RunQ.val (lt rfl) (Y.nilCheck rfl) ?_
  refine RunQ.val (lt rfl) (Y.load rfl Message_ts3 (Kn.at 3 rfl) rfl) ?_
  refine RunQ.val (lt rfl) (Y.fieldAddr rfl Message_fo86_1) ?_
  refine RunQ.val (lt rfl) (Y.load rfl Message_ts3 (Kn.at 0 rfl) rfl) ?_
  refine RunQ.nil_run ?_
  refine Run.call [2] (l := [.tmp 3, .tmp 7, .tmp 9]) rfl rfl rfl (lt rfl) (put_c (k := 6) ho (by decide) (by exact hn) (by omega)) (fun v2 V2 H2 _ hR => ?_)
  obtain ⟨hV, s3, rfl, ho4⟩ := hR; replace hV := hV.symm; subst hV
  obtain ⟨p2, c2, rfl⟩ := ho4.form
  refine Run.store (s := [(bB, .cells #[.slice p2 (bs.length + 6) c2] 38 (0, 0))]) rfl rfl Message_sz38 (i := 1) rfl rfl (le rfl) rfl rfl ?_
  refine Run.to_end ?_
  refine Ex.keep [1, 2, 1] ?_
  exact Ex.end0 rfl ⟨rfl, (.slice p2 (bs.length + 6) c2), s3, rfl, by have h := ho4; rw [← List.map_append] at h; rw [List.length_append, Msg.be_length]; exact h⟩

theorem enc1_9 {m : Msg} {bm bB : Nat} {v : Value} {s : Sg} {bs : List UInt8} (ho : Ow 5 1 v bs.length (bs.map byteV) s) (hn : 0 ≤ m.num 9 ∧ m.num 9 ≤ 9223372036854775807) (hlen : bs.length ≤ 100) {V : Vw} : Does Try.prog 46 [.agg #[.pointer (some ⟨bm, 9, none⟩), .int .i64 6, .int .i64 0, .int .i64 1099511627776], .pointer (some ⟨bB, 0, none⟩)] V [[(bB, .cells #[v] 38 (0, 0))], s, [(bm, .cells (m : Msg).cells 37 (0, 0))]] (fun _ V' H' => V' = V ∧ ∃ v' s', H' = [[(bB, .cells #[v'] 38 (0, 0))], s', [(bm, .cells (m : Msg).cells 37 (0, 0))]] ∧ Ow 5 1 v' (bs ++ Msg.be 6 (m.num 9)).length ((bs ++ Msg.be 6 (m.num 9)).map byteV) s') := by
  refine Does.intro Try.func46 rfl rfl (le rfl) (fun B => ?_)
  refine Tr.seq ?_
  refine Tr.region ?_
  refine Run.box rfl (lt rfl) (fun b1 => ?_)
  refine Run.to_end ?_
  refine Ex.go ?_
  refine Tr.tail 7 Message_mo (by kernel_rfl) ?_
  refine RunQ.val (lt rfl) (Y.load rfl Message_ts38 (Kn.at 1 rfl) rfl) ?_
  refine RunQ.val (lt rfl) (Y.fieldAddr rfl Message_fo86_0) ?_
  refine RunQ.val (lt rfl) (Y.load rfl Message_ts84 (Kn.at 0 rfl) rfl) ?_
  refine RunQ.val (lt rfl) (Y.nilCheck rfl) ?_
  refine RunQ.val (lt rfl) (Y.load rfl Message_ts3 (Kn.at 3 rfl) rfl) ?_
  refine RunQ.val (lt rfl) (Y.fieldAddr rfl Message_fo86_1) ?_
  refine RunQ.val (lt rfl) (Y.load rfl Message_ts3 (Kn.at 0 rfl) rfl) ?_
  refine RunQ.nil_run ?_
  refine Run.call [2] (l := [.tmp 3, .tmp 7, .tmp 9]) rfl rfl rfl (lt rfl) (put_c (k := 6) ho (by decide) (by exact hn) (by omega)) (fun v2 V2 H2 _ hR => ?_)
  obtain ⟨hV, s3, rfl, ho4⟩ := hR; replace hV := hV.symm; subst hV
  obtain ⟨p2, c2, rfl⟩ := ho4.form
  refine Run.store (s := [(bB, .cells #[.slice p2 (bs.length + 6) c2] 38 (0, 0))]) rfl rfl Message_sz38 (i := 1) rfl rfl (le rfl) rfl rfl ?_
  refine Run.to_end ?_
  refine Ex.keep [1, 2, 1] ?_
  exact Ex.end0 rfl ⟨rfl, (.slice p2 (bs.length + 6) c2), s3, rfl, by have h := ho4; rw [← List.map_append] at h; rw [List.length_append, Msg.be_length]; exact h⟩

theorem enc1_c {m : Msg} {bm bB j : Nat} {k lo hi : Int} {v : Value} {s : Sg} {bs : List UInt8} {V : Vw} (h : (j, k, lo, hi) ∈ Msg.flds) (ho : Ow 5 1 v bs.length (bs.map byteV) s) (hn : 0 ≤ m.num j ∧ m.num j ≤ 9223372036854775807) (hlen : bs.length ≤ 100) :
    Does Try.prog 46 [.agg #[.pointer (some ⟨bm, j, none⟩), .int .i64 k, .int .i64 lo, .int .i64 hi], .pointer (some ⟨bB, 0, none⟩)] V [[(bB, .cells #[v] 38 (0, 0))], s, [(bm, .cells (m : Msg).cells 37 (0, 0))]]
    (fun _ V' H' => V' = V ∧ ∃ v' s', H' = [[(bB, .cells #[v'] 38 (0, 0))], s', [(bm, .cells (m : Msg).cells 37 (0, 0))]] ∧ Ow 5 1 v' (bs ++ Msg.be k.toNat (m.num j)).length ((bs ++ Msg.be k.toNat (m.num j)).map byteV) s') := by
  simp only [Msg.flds, List.mem_cons, Prod.mk.injEq, List.mem_nil_iff, or_false] at h
  rcases h with ⟨rfl, rfl, rfl, rfl⟩ | ⟨rfl, rfl, rfl, rfl⟩ | ⟨rfl, rfl, rfl, rfl⟩ | ⟨rfl, rfl, rfl, rfl⟩ | ⟨rfl, rfl, rfl, rfl⟩ | ⟨rfl, rfl, rfl, rfl⟩ | ⟨rfl, rfl, rfl, rfl⟩
  · exact enc1_1 ho hn hlen
  · exact enc1_2 ho hn hlen
  · exact enc1_3 ho hn hlen
  · exact enc1_4 ho hn hlen
  · exact enc1_6 ho hn hlen
  · exact enc1_8 ho hn hlen
  · exact enc1_9 ho hn hlen

theorem enc2_c {m : Msg} {bm bB : Nat} {v : Value} {s : Sg} {bs : List UInt8} (ho : Ow 5 1 v bs.length (bs.map byteV) s) (hn : 0 ≤ m.addr ∧ m.addr ≤ 4294967295) (hlen : bs.length ≤ 100) {V : Vw} : Does Try.prog 48 [.pointer (some ⟨bm, 0, none⟩), .pointer (some ⟨bB, 0, none⟩)] V [[(bB, .cells #[v] 38 (0, 0))], s, [(bm, .cells (m : Msg).cells 37 (0, 0))]] (fun _ V' H' => V' = V ∧ ∃ v' s', H' = [[(bB, .cells #[v'] 38 (0, 0))], s', [(bm, .cells (m : Msg).cells 37 (0, 0))]] ∧ Ow 5 1 v' (if m.kind = 2 then bs ++ Msg.be 4 m.addr else bs ++ [if m.ok then 1 else 0]).length ((if m.kind = 2 then bs ++ Msg.be 4 m.addr else bs ++ [if m.ok then 1 else 0]).map byteV) s') := by
  refine Does.intro Try.func48 rfl rfl (le rfl) (fun B => ?_)
  refine Tr.block ?_
  refine Tr.seq ?_
  refine Tr.region ?_
  refine Run.val (lt rfl) (Y.fieldAddr rfl Message_fo37_0) ?_
  refine Run.val (lt rfl) (Y.load rfl Message_ts3 (Kn.at 2 rfl) rfl) ?_
  refine Run.val (lt rfl) (Y.int rfl rfl rfl) ?_
  refine Run.val (lt rfl) (Y.assign rfl) ?_
  refine Run.to_end ?_
  refine Ex.go ?_
  rcases Bool.eq_false_or_eq_true (m.kind == 2) with h1 | h1
  · have g1 := h1
    try simp only [kb] at g1
    refine Tr.cond_t rfl h1 ?_
    refine Tr.region ?_
    refine Run.val (lt rfl) (Y.load rfl Message_ts38 (Kn.at 0 rfl) rfl) ?_
    refine Run.val (lt rfl) (Y.fieldAddr rfl Message_fo37_5) ?_
    refine Run.val (lt rfl) (Y.load rfl Message_ts35 (Kn.at 2 rfl) rfl) ?_
    refine Run.val (lt rfl) (Y.conv (m.addr) rfl Message_it35_3 (wrap_i64 (by omega))) ?_
    refine Run.call [1] (l := [.tmp 9, .tmp 12, .const (.int .i64 4)]) rfl rfl rfl (lt rfl) (put_c (k := 4) ho (by decide) (by omega) (by omega)) (fun v2 V2 H2 _ hR => ?_)
    obtain ⟨hV, s3, rfl, ho4⟩ := hR; replace hV := hV.symm; subst hV
    obtain ⟨p2, c2, rfl⟩ := ho4.form
    refine Run.store (s := [(bB, .cells #[.slice p2 (bs.length + 4) c2] 38 (0, 0))]) rfl rfl Message_sz38 (i := 0) rfl rfl (le rfl) rfl rfl ?_
    refine Run.to_end ?_
    refine Ex.end_block ?_
    refine Ex.keep [0, 1, 0] ?_
    exact Ex.end0 rfl ⟨rfl, (.slice p2 (bs.length + 4) c2), s3, rfl, by have h := ho4; rw [if_pos g1, List.length_append, Msg.be_length, List.map_append]; exact h⟩
  · have g1 := h1
    try simp only [kb] at g1
    refine Tr.cond_f rfl h1 ?_
    refine Tr.seq ?_
    refine Tr.region ?_
    refine Run.val (lt rfl) (Y.fieldAddr rfl Message_fo37_10) ?_
    refine Run.val (lt rfl) (Y.load rfl Message_ts4 (Kn.at 2 rfl) rfl) ?_
    refine Run.val (lt rfl) (Y.assign rfl) ?_
    refine Run.to_end ?_
    refine Ex.go ?_
    rcases Bool.eq_false_or_eq_true (m.ok) with h5 | h5
    · have g5 := h5
      try simp only [kb] at g5
      refine Tr.cond_t rfl h5 ?_
      refine Tr.region ?_
      refine Run.val (lt rfl) (Y.load rfl Message_ts38 (Kn.at 0 rfl) rfl) ?_
      refine Run.buildSlice (l := [(0, .const (.int .u8 1))]) Message_es38 Message_zo5 rfl (by decide) rfl rfl (by decide) (lt rfl) (fun b6 => ?_)
      refine Run.append (n := bs.length) (m := 1) (xs := bs.map byteV) (ys := [.int .u8 1]) rfl rfl Message_es38 Message_zi5 (by decide) (j := 2) rfl ho (Src.of_rd Message_es38 (Rd.one (Kn.at 0 rfl) rfl)) (by omega) (by omega) rfl (lt rfl) (fun v7 s8 ho9 hf => ?_)
      obtain ⟨p7, c7, rfl⟩ := hf
      refine Run.store (s := [(bB, .cells #[.slice p7 (bs.length + 1) c7] 38 (0, 0))]) rfl rfl Message_sz38 (i := 1) rfl rfl (le rfl) rfl rfl ?_
      refine Run.to_end ?_
      refine Ex.end_block ?_
      refine Ex.keep [1, 1, 1] ?_
      exact Ex.end0 rfl ⟨rfl, (.slice p7 (bs.length + 1) c7), s8, rfl, by have h := ho9; rw [if_neg g1, h5, List.length_append, List.map_append]; exact h⟩
    · have g5 := h5
      try simp only [kb] at g5
      refine Tr.cond_f rfl h5 ?_
      refine Tr.region ?_
      refine Run.val (lt rfl) (Y.load rfl Message_ts38 (Kn.at 0 rfl) rfl) ?_
      refine Run.buildSlice (l := [(0, .const (.int .u8 0))]) Message_es38 Message_zo5 rfl (by decide) rfl rfl (by decide) (lt rfl) (fun b10 => ?_)
      refine Run.append (n := bs.length) (m := 1) (xs := bs.map byteV) (ys := [.int .u8 0]) rfl rfl Message_es38 Message_zi5 (by decide) (j := 2) rfl ho (Src.of_rd Message_es38 (Rd.one (Kn.at 0 rfl) rfl)) (by omega) (by omega) rfl (lt rfl) (fun v11 s12 ho13 hf => ?_)
      obtain ⟨p11, c11, rfl⟩ := hf
      refine Run.store (s := [(bB, .cells #[.slice p11 (bs.length + 1) c11] 38 (0, 0))]) rfl rfl Message_sz38 (i := 1) rfl rfl (le rfl) rfl rfl ?_
      refine Run.to_end ?_
      refine Ex.end_block ?_
      refine Ex.keep [1, 1, 1] ?_
      exact Ex.end0 rfl ⟨rfl, (.slice p11 (bs.length + 1) c11), s12, rfl, by have h := ho13; rw [if_neg g1, h5, List.length_append, List.map_append]; exact h⟩

theorem encode_yes {m : Msg} (hr : Msg.right m = true) (ha : 0 ≤ m.addr ∧ m.addr ≤ 4294967295) {V : Vw} : Does Try.prog 20 [.agg #[.int .i64 m.kind, .int .i64 m.life, .int .i64 m.seen, .int .i64 m.xid, .int .i64 m.state, .int .u32 m.addr, .int .i64 m.bind, .string m.client, .int .i64 m.pot, .int .i64 m.at_, .bool m.ok]] V [] (fun v V' H' => V' = V ∧ ∃ w s', v = .tuple #[w, .int .i64 0] ∧ H' = [s'] ∧ Ow 5 1 w (Msg.enc m).length ((Msg.enc m).map byteV) s') := by
  have hcl := Msg.right_client hr
  refine Does.intro Try.func20 rfl rfl (le rfl) (fun B => ?_)
  refine Tr.seq ?_
  refine Tr.region ?_
  refine Run.box rfl (lt rfl) (fun b1 => ?_)
  refine Run.val (lt rfl) (Y.assign rfl) ?_
  refine Run.val (lt rfl) (Y.assign rfl) ?_
  refine Run.to_end ?_
  refine Ex.go ?_
  refine Tr.seq ?_
  refine Tr.seq ?_
  refine Tr.region ?_
  refine Run.val (lt rfl) (Y.loadAgg rfl Message_ag37 (Kn.at 0 rfl) rfl) ?_
  refine Run.call0 (l := [.tmp 5]) rfl rfl rfl (lt rfl) right_c ?_
  refine Run.val (lt rfl) (Y.not rfl) ?_
  refine Run.to_end ?_
  refine Ex.go ?_
  refine Tr.cond_f rfl (congrArg Bool.not hr) ?_
  refine Tr.to_end ?_
  refine Ex.go ?_
  refine Tr.seq ?_
  refine Tr.region ?_
  refine Run.val (lt rfl) (Y.fieldAddr rfl Message_fo37_0) ?_
  refine Run.val (lt rfl) (Y.load rfl Message_ts3 (Kn.at 0 rfl) rfl) ?_
  refine Run.val (lt rfl) (Y.conv (m.kind % 256) rfl Message_it3_5 (wrap_u8_mod _)) ?_
  refine Run.buildSlice (l := [(0, .tmp 10)]) Message_es38 Message_zo5 rfl (by decide) rfl rfl (by decide) (lt rfl) (fun b2 => ?_)
  refine Run.alloc Message_zo38 (lt rfl) (fun b3 => ?_)
  refine Run.store (s := [(b3, .cells #[.slice (some ⟨b2, 0, none⟩) 1 1] 38 (0, 0))]) rfl rfl Message_sz38 (i := 0) rfl rfl (le rfl) rfl rfl ?_
  refine Run.to_end ?_
  refine Ex.go ?_
  refine Tr.seq ?_
  refine Tr.region ?_
  refine Run.val (lt rfl) (Y.makeFunc (l := []) (l' := [.tmp 4]) rfl rfl) ?_
  refine Run.val (lt rfl) (Y.makeFunc (l := []) (l' := [.tmp 1, .tmp 4]) rfl rfl) ?_
  refine Run.call [0, 0, 0] (l := [.tmp 1, .tmp 12, .tmp 13]) rfl rfl rfl (lt rfl) (walk_c (X := {x : Value × Sg × List UInt8 // Ow 5 1 x.1 x.2.2.length (x.2.2.map byteV) x.2.1}) (Hx := fun x => [[(b3, .cells #[x.1.1] 38 (0, 0))], x.1.2.1, [(b1, .cells (m : Msg).cells 37 (0, 0))]]) (kind := m.kind) (fun x => x.1.2.2) (Msg.encF m) (Msg.encO m) (fun z => z.length ≤ 100)
    (fun x => ⟨_, _, _, Kn.at 2 rfl, rfl⟩)
    (fun x j n lo hi h hp => (enc1_c h x.2 (Msg.right_num hr h) hp).mono fun v V2 H2 ⟨h1, v', s', h2, h3⟩ => ⟨h1, ⟨(v', s', Msg.encF m j n lo hi x.1.2.2), h3⟩, rfl, h2⟩)
    (fun x hp => (enc2_c x.2 ha hp).mono fun v V2 H2 ⟨h1, v', s', h2, h3⟩ => ⟨h1, ⟨(v', s', Msg.encO m x.1.2.2), h3⟩, rfl, h2⟩)
    ⟨(.slice (some ⟨b2, 0, none⟩) 1 1, [(b2, .cells #[.int .u8 (m.kind % 256)] 5 (0, 0))], [UInt8.ofNat (m.kind % 256).toNat]), by have h := Ow.lit (e := 5) (k := 1) (b := b2) (n := 1) (cur := #[.int .u8 (m.kind % 256)]) rfl (by decide); rw [List.map_cons, List.map_nil, byteV_of (by omega)]; exact h⟩ (Msg.enc_stages m m.kind _ rfl)) (fun v V2 H2 _ hR => ?_)
  obtain ⟨hV, ⟨⟨v9, s9, bs9⟩, ho9⟩, q, rfl⟩ := hR; replace hV := hV.symm; subst hV; simp only at q ho9; change bs9 = Msg.enc0 m at q; subst q
  have hl9 := Msg.enc0_len m
  refine Run.to_end ?_
  refine Ex.go ?_
  refine Tr.seq ?_
  refine Tr.seq ?_
  refine Tr.region ?_
  refine Run.val (lt rfl) (Y.fieldAddr rfl Message_fo37_0) ?_
  refine Run.val (lt rfl) (Y.load rfl Message_ts3 (Kn.at 2 rfl) rfl) ?_
  refine Run.val (lt rfl) (Y.int rfl rfl rfl) ?_
  refine Run.to_end ?_
  refine Ex.go ?_
  rcases Bool.eq_false_or_eq_true (m.kind == 2) with h4 | h4
  · have g4 := h4
    try simp only [kb] at g4
    refine Tr.cond_t rfl h4 ?_
    refine Tr.anyD [(b1, .cells #[.int .i64 m.kind, .int .i64 m.life, .int .i64 m.seen, .int .i64 m.xid, .int .i64 m.state, .int .u32 m.addr, .int .i64 m.bind, .string m.client, .int .i64 m.pot, .int .i64 m.at_, .bool m.ok] 37 (0, 0))] Message_mo ?_
    refine RunD.pure (i := 1) rfl (by kernel_rfl) (by kernel_rfl) (by kernel_rfl) (fun _ _ _ h => h) (lt rfl) (KnAll.cons (Kn.at 2 rfl) KnAll.nil) (fun _ => (Y.fieldAddr rfl Message_fo37_7)) ?_
    refine RunD.take (i := 2) 0 rfl rfl (by kernel_rfl) (by kernel_rfl) (by kernel_rfl) (fun _ _ _ h => h) (lt rfl) (KnAll.cons (Kn.at 2 rfl) KnAll.nil) (fun _ => (Y.load rfl Message_ts9 Kn.vk1 rfl)) ?_
    refine RunD.pure (i := 3) rfl (by kernel_rfl) (by kernel_rfl) (by kernel_rfl) (fun _ _ _ h => h) (lt rfl) (KnAll.cons (Kn.at 2 rfl) KnAll.nil) (fun _ => (Y.lenStr rfl Message_st9)) ?_
    refine RunD.pure (i := 4) rfl (by kernel_rfl) (by kernel_rfl) (by kernel_rfl) (fun _ _ _ h => h) (lt rfl) (KnAll.cons (Kn.at 2 rfl) KnAll.nil) (fun _ => (Y.conv ((m.client.size : Int)) rfl Message_it3_5 (wrap_u8 (by omega)))) ?_
    refine RunD.pure (i := 7) rfl (by kernel_rfl) (by kernel_rfl) (by kernel_rfl) (fun _ _ _ h => h) (lt rfl) (KnAll.cons (Kn.at 2 rfl) KnAll.nil) (fun _ => (Y.fieldAddr rfl Message_fo37_7)) ?_
    refine RunD.take (i := 8) 0 rfl rfl (by kernel_rfl) (by kernel_rfl) (by kernel_rfl) (fun _ _ _ h => h) (lt rfl) (KnAll.cons (Kn.at 2 rfl) KnAll.nil) (fun _ => (Y.load rfl Message_ts9 Kn.vk1 rfl)) ?_
    refine RunD.two (i := 0) (j := 5) (by kernel_rfl) rfl rfl  ?_ ?_ 
    · refine Run.val (lt rfl) (Y.load rfl Message_ts38 (Kn.at 0 rfl) rfl) ?_
      refine Run.to_end ?_
      refine Ex.anyD (KnAll.cons (Kn.at 2 rfl) KnAll.nil) ?_
      refine RunD.one (i := 5) (by kernel_rfl) rfl  ?_ 
      refine Run.buildSlice (l := [(0, .tmp 22)]) Message_es38 Message_zo5 rfl (by decide) rfl rfl (by decide) (lt rfl) (fun b5 => ?_)
      refine Run.to_end ?_
      refine Ex.anyD (KnAll.cons (Kn.at 3 rfl) KnAll.nil) ?_
      refine RunD.one (i := 6) (by kernel_rfl) rfl  ?_ 
      refine Run.append (n := (Msg.enc0 m).length) (m := 1) (xs := (Msg.enc0 m).map byteV) (ys := [.int .u8 (m.client.size : Int)]) rfl rfl Message_es38 Message_zi5 (by decide) (j := 2) rfl ho9 (Src.of_rd Message_es38 (Rd.one (Kn.at 0 rfl) rfl)) (by omega) (by omega) rfl (lt rfl) (fun v6 s7 ho8 hf => ?_)
      obtain ⟨p6, c6, rfl⟩ := hf
      refine Run.to_end ?_
      refine Ex.anyD (KnAll.cons (Kn.at 3 rfl) KnAll.nil) ?_
      refine RunD.one (i := 9) (by kernel_rfl) rfl  ?_ 
      refine Run.append (n := (Msg.enc0 m).length + 1) (m := m.client.size) (xs := ((Msg.enc0 m).map byteV) ++ [.int .u8 (m.client.size : Int)]) (ys := m.client.toList.map byteV) rfl rfl Message_es38 Message_zi5 (by decide) (j := 2) rfl ho8 (Src.of_str m.client Message_st9) (by omega) (by omega) (all_one_bytes _) (lt rfl) (fun v9 s10 ho11 hf => ?_)
      obtain ⟨p9, c9, rfl⟩ := hf
      refine Run.to_end ?_
      refine Ex.anyD (KnAll.cons (Kn.at 3 rfl) KnAll.nil) ?_
      refine RunD.one (i := 10) (by kernel_rfl) rfl  ?_ 
      refine Run.store (s := [(b3, .cells #[.slice p9 ((Msg.enc0 m).length + 1 + m.client.size) c9] 38 (0, 0))]) rfl rfl Message_sz38 (i := 1) rfl rfl (le rfl) rfl rfl ?_
      refine Run.to_end ?_
      refine Ex.anyD (KnAll.cons (Kn.at 3 rfl) KnAll.nil) ?_
      refine RunD.done (by kernel_rfl) ?_
      refine Ex.go ?_
      refine Tr.seq ?_
      refine Tr.region ?_
      refine Run.val (lt rfl) (Y.load rfl Message_ts38 (Kn.at 1 rfl) rfl) ?_
      refine Run.val (lt rfl) (Y.assign rfl) ?_
      refine Run.val (lt rfl) (Y.assign rfl) ?_
      refine Run.to_end ?_
      refine Ex.go ?_
      refine Tr.to_ret ?_
      refine Ex.keep [2] ?_
      exact Ex.ret2 rfl rfl rfl  ⟨rfl, _, s10, rfl, rfl, by have h := ho11; unfold Msg.enc; rw [if_pos g4, List.length_append, List.map_append, List.map_cons, byteV_nat (by omega)]; simpa [Nat.add_assoc, ByteArray.toList_eq, Nat.add_comm] using h⟩
    · refine Run.buildSlice (l := [(0, .tmp 22)]) Message_es38 Message_zo5 rfl (by decide) rfl rfl (by decide) (lt rfl) (fun b12 => ?_)
      refine Run.to_end ?_
      refine Ex.anyD (KnAll.cons (Kn.at 3 rfl) KnAll.nil) ?_
      refine RunD.one (i := 0) (by kernel_rfl) rfl  ?_ 
      refine Run.val (lt rfl) (Y.load rfl Message_ts38 (Kn.at 1 rfl) rfl) ?_
      refine Run.to_end ?_
      refine Ex.anyD (KnAll.cons (Kn.at 3 rfl) KnAll.nil) ?_
      refine RunD.one (i := 6) (by kernel_rfl) rfl  ?_ 
      refine Run.append (n := (Msg.enc0 m).length) (m := 1) (xs := (Msg.enc0 m).map byteV) (ys := [.int .u8 (m.client.size : Int)]) rfl rfl Message_es38 Message_zi5 (by decide) (j := 2) rfl ho9 (Src.of_rd Message_es38 (Rd.one (Kn.at 0 rfl) rfl)) (by omega) (by omega) rfl (lt rfl) (fun v13 s14 ho15 hf => ?_)
      obtain ⟨p13, c13, rfl⟩ := hf
      refine Run.to_end ?_
      refine Ex.anyD (KnAll.cons (Kn.at 3 rfl) KnAll.nil) ?_
      refine RunD.one (i := 9) (by kernel_rfl) rfl  ?_ 
      refine Run.append (n := (Msg.enc0 m).length + 1) (m := m.client.size) (xs := ((Msg.enc0 m).map byteV) ++ [.int .u8 (m.client.size : Int)]) (ys := m.client.toList.map byteV) rfl rfl Message_es38 Message_zi5 (by decide) (j := 2) rfl ho15 (Src.of_str m.client Message_st9) (by omega) (by omega) (all_one_bytes _) (lt rfl) (fun v16 s17 ho18 hf => ?_)
      obtain ⟨p16, c16, rfl⟩ := hf
      refine Run.to_end ?_
      refine Ex.anyD (KnAll.cons (Kn.at 3 rfl) KnAll.nil) ?_
      refine RunD.one (i := 10) (by kernel_rfl) rfl  ?_ 
      refine Run.store (s := [(b3, .cells #[.slice p16 ((Msg.enc0 m).length + 1 + m.client.size) c16] 38 (0, 0))]) rfl rfl Message_sz38 (i := 1) rfl rfl (le rfl) rfl rfl ?_
      refine Run.to_end ?_
      refine Ex.anyD (KnAll.cons (Kn.at 3 rfl) KnAll.nil) ?_
      refine RunD.done (by kernel_rfl) ?_
      refine Ex.go ?_
      refine Tr.seq ?_
      refine Tr.region ?_
      refine Run.val (lt rfl) (Y.load rfl Message_ts38 (Kn.at 1 rfl) rfl) ?_
      refine Run.val (lt rfl) (Y.assign rfl) ?_
      refine Run.val (lt rfl) (Y.assign rfl) ?_
      refine Run.to_end ?_
      refine Ex.go ?_
      refine Tr.to_ret ?_
      refine Ex.keep [2] ?_
      exact Ex.ret2 rfl rfl rfl  ⟨rfl, _, s17, rfl, rfl, by have h := ho18; unfold Msg.enc; rw [if_pos g4, List.length_append, List.map_append, List.map_cons, byteV_nat (by omega)]; simpa [Nat.add_assoc, ByteArray.toList_eq, Nat.add_comm] using h⟩
  · have g4 := h4
    try simp only [kb] at g4
    refine Tr.cond_f rfl h4 ?_
    refine Tr.to_end ?_
    refine Ex.go ?_
    refine Tr.seq ?_
    refine Tr.region ?_
    refine Run.val (lt rfl) (Y.load rfl Message_ts38 (Kn.at 0 rfl) rfl) ?_
    refine Run.val (lt rfl) (Y.assign rfl) ?_
    refine Run.val (lt rfl) (Y.assign rfl) ?_
    refine Run.to_end ?_
    refine Ex.go ?_
    refine Tr.to_ret ?_
    refine Ex.keep [1] ?_
    exact Ex.ret2 rfl rfl rfl  ⟨rfl, _, s9, rfl, rfl, by have h := ho9; unfold Msg.enc; rw [if_neg g4, List.append_nil]; exact h⟩

theorem encode_no {m : Msg} (hr : Msg.right m = false) {V : Vw} : Does Try.prog 20 [.agg #[.int .i64 m.kind, .int .i64 m.life, .int .i64 m.seen, .int .i64 m.xid, .int .i64 m.state, .int .u32 m.addr, .int .i64 m.bind, .string m.client, .int .i64 m.pot, .int .i64 m.at_, .bool m.ok]] V [] (fun v V' H' => v = .tuple #[.slice none 0 0, .int .i64 1] ∧ V' = V ∧ H' = []) := by
  refine Does.intro Try.func20 rfl rfl (le rfl) (fun B => ?_)
  refine Tr.seq ?_
  refine Tr.region ?_
  refine Run.box rfl (lt rfl) (fun b1 => ?_)
  refine Run.val (lt rfl) (Y.assign rfl) ?_
  refine Run.val (lt rfl) (Y.assign rfl) ?_
  refine Run.to_end ?_
  refine Ex.go ?_
  refine Tr.seq ?_
  refine Tr.seq ?_
  refine Tr.region ?_
  refine Run.val (lt rfl) (Y.loadAgg rfl Message_ag37 (Kn.at 0 rfl) rfl) ?_
  refine Run.call0 (l := [.tmp 5]) rfl rfl rfl (lt rfl) right_c ?_
  refine Run.val (lt rfl) (Y.not rfl) ?_
  refine Run.to_end ?_
  refine Ex.go ?_
  refine Tr.cond_t rfl (congrArg Bool.not hr) ?_
  refine Tr.seq ?_
  refine Tr.region ?_
  refine Run.val (lt rfl) (Y.assign rfl) ?_
  refine Run.val (lt rfl) (Y.assign rfl) ?_
  refine Run.to_end ?_
  refine Ex.go ?_
  refine Tr.to_ret ?_
  refine Ex.ret_then ?_
  refine Ex.keep [] ?_
  exact Ex.ret2 rfl rfl rfl  ⟨rfl, rfl, rfl⟩
end Go.Proofs.Ytahgaaomioffhaa
