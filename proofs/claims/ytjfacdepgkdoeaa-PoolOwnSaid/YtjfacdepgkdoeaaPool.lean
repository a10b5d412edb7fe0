/- What ratio, pool, and their references reckon.
Conditions: as each theorem names them. -/
import Derived.Test.YtjfacdepgkdoeaaProg
import Derived.Test.YtjfacdepgkdoeaaP4
import Derived.Test.YtjfacdepgkdoeaaK16
set_option linter.unusedSimpArgs false
set_option linter.unusedVariables false
set_option maxRecDepth 4000
namespace Go.Proofs.Ytjfacdepgkdoeaa
open Go Go.K
attribute [local irreducible] Code.wp wpList Calls wpQuiet
theorem Pool_ft3_22 : fltT Try.prog 3 22 = some .f64 := by kernel_rfl
theorem Pool_it22_3 : intT Try.prog 22 3 = some .i64 := by kernel_rfl
theorem Pool_mo : Try.prog.follows .mixedOrders = true := by kernel_rfl
theorem Pool_fo27_0 : fieldOff Try.prog 27 0 = some 0 := by kernel_rfl
theorem Pool_ts22 : scal Try.prog 22 = true := by kernel_rfl
theorem Pool_fo27_1 : fieldOff Try.prog 27 1 = some 1 := by kernel_rfl
theorem Pool_fo28_0 : fieldOff Try.prog 28 0 = some 0 := by kernel_rfl
theorem Pool_fo28_1 : fieldOff Try.prog 28 1 = some 1 := by kernel_rfl

theorem bounded_c {n : Int} {V : Vw} : Does Try.prog 117 [.int .i64 n] V [] (Pv (.int .i64 (Fl.bnd n)) V []) := by
 refine Does.intro Try.func117 rfl rfl (le rfl) (fun B => ?_)
 refine Tr.seq ?_
 refine Tr.region ?_
 refine Run.val (lt rfl) (Y.assign rfl) ?_
 refine Run.to_end ?_
 refine Ex.go ?_
 refine Tr.seq ?_
 refine Tr.region ?_
 refine Run.val (lt rfl) (Y.move rfl) ?_
 refine Run.val (lt rfl) (Y.max2 rfl rfl) ?_
 refine Run.val (lt rfl) (Y.min2 rfl rfl) ?_
 refine Run.val (lt rfl) (Y.assign rfl) ?_
 refine Run.to_end ?_
 refine Ex.go ?_
 refine Tr.to_ret ?_
 exact Ex.ret1 rfl rfl  ⟨rfl, rfl, rfl⟩

theorem bounded_c_h {n : Int} {V : Vw} {H : Hp} : Does Try.prog 117 [.int .i64 n] V H (Pv (.int .i64 (Fl.bnd n)) V H) := bounded_c.frame

theorem rbounded_c {n : Int} {V : Vw} : Does Try.prog 131 [.int .i64 n] V [] (Pv (.int .i64 (Fl.bnd n)) V []) := by
 refine Does.intro Try.func131 rfl rfl (le rfl) (fun B => ?_)
 refine Tr.seq ?_
 refine Tr.region ?_
 refine Run.val (lt rfl) (Y.assign rfl) ?_
 refine Run.to_end ?_
 refine Ex.go ?_
 refine Tr.seq ?_
 refine Tr.region ?_
 refine Run.val (lt rfl) (Y.move rfl) ?_
 refine Run.val (lt rfl) (Y.max2 rfl rfl) ?_
 refine Run.val (lt rfl) (Y.min2 rfl rfl) ?_
 refine Run.val (lt rfl) (Y.assign rfl) ?_
 refine Run.to_end ?_
 refine Ex.go ?_
 refine Tr.to_ret ?_
 exact Ex.ret1 rfl rfl  ⟨rfl, rfl, rfl⟩

theorem rbounded_c_h {n : Int} {V : Vw} {H : Hp} : Does Try.prog 131 [.int .i64 n] V H (Pv (.int .i64 (Fl.bnd n)) V H) := rbounded_c.frame

theorem pbounded_c {n : Int} {V : Vw} : Does Try.prog 96 [.int .i64 n] V [] (Pv (.int .i64 (Fl.bnd n)) V []) := by
 refine Does.intro Try.func96 rfl rfl (le rfl) (fun B => ?_)
 refine Tr.seq ?_
 refine Tr.region ?_
 refine Run.val (lt rfl) (Y.assign rfl) ?_
 refine Run.to_end ?_
 refine Ex.go ?_
 refine Tr.seq ?_
 refine Tr.region ?_
 refine Run.val (lt rfl) (Y.move rfl) ?_
 refine Run.val (lt rfl) (Y.max2 rfl rfl) ?_
 refine Run.val (lt rfl) (Y.min2 rfl rfl) ?_
 refine Run.val (lt rfl) (Y.assign rfl) ?_
 refine Run.to_end ?_
 refine Ex.go ?_
 refine Tr.to_ret ?_
 exact Ex.ret1 rfl rfl  ⟨rfl, rfl, rfl⟩

theorem pbounded_c_h {n : Int} {V : Vw} {H : Hp} : Does Try.prog 96 [.int .i64 n] V H (Pv (.int .i64 (Fl.bnd n)) V H) := pbounded_c.frame

theorem isnan_c {f : Nat} {V : Vw} : Does Try.prog 118 [.float .f64 f] V [] (Pv (.bool (Fl.D.read f).isNaN) V []) := by
 refine Does.intro Try.func118 rfl rfl (le rfl) (fun B => ?_)
 refine Tr.seq ?_
 refine Tr.region ?_
 refine Run.val (lt rfl) (Y.assign rfl) ?_
 refine Run.to_end ?_
 refine Ex.go ?_
 refine Tr.seq ?_
 refine Tr.region ?_
 refine Run.val (lt rfl) (Y.move rfl) ?_
 refine Run.val (lt rfl) (Y.move rfl) ?_
 refine Run.val (lt rfl) (Y.fcmp (r := .bool (Fl.D.order f f != some .eq)) rfl rfl rfl) ?_
 refine Run.val (lt rfl) (Y.assign rfl) ?_
 refine Run.to_end ?_
 refine Ex.go ?_
 refine Tr.to_ret ?_
 exact Ex.ret1 rfl rfl  ⟨congrArg Value.bool (Fl.order_self f), rfl, rfl⟩

theorem isnan_h {f : Nat} {V : Vw} {H : Hp} : Does Try.prog 118 [.float .f64 f] V H (Pv (.bool (Fl.D.read f).isNaN) V H) := isnan_c.frame

theorem ext_bits : isExt Try.prog 149 Extern.MathFloatBits.float64bits := ⟨Try.f149, Try.func149, rfl, rfl, by kernel_rfl, by kernel_rfl⟩
theorem ext_from : isExt Try.prog 148 Extern.MathFloatBits.float64frombits := ⟨Try.f148, Try.func148, rfl, rfl, by kernel_rfl, by kernel_rfl⟩

theorem abs_c {f : Nat} (hf : f < 18446744073709551616) {V : Vw} : Does Try.prog 119 [.float .f64 f] V [] (Pv (.float .f64 (f % 9223372036854775808)) V []) := by
 refine Does.intro Try.func119 rfl rfl (le rfl) (fun B => ?_)
 refine Tr.seq ?_
 refine Tr.region ?_
 refine Run.val (lt rfl) (Y.assign rfl) ?_
 refine Run.to_end ?_
 refine Ex.go ?_
 refine Tr.seq ?_
 refine Tr.region ?_
 refine Run.val (lt rfl) (Y.move rfl) ?_
 refine Run.val (lt rfl) (Y.ext ext_bits rfl (fun _ => rfl)) ?_
 refine Run.val (lt rfl) (Y.int (r := .int .u64 ((f % 9223372036854775808 : Nat) : Int)) rfl rfl (by simp only [intRes]; rw [Fl.abs_bits hf])) ?_
 refine Run.val (lt rfl) (Y.ext (v := .float .f64 (f % 9223372036854775808)) ext_from rfl (fun _ => rfl)) ?_
 refine Run.val (lt rfl) (Y.assign rfl) ?_
 refine Run.to_end ?_
 refine Ex.go ?_
 refine Tr.to_ret ?_
 exact Ex.ret1 rfl rfl  ⟨rfl, rfl, rfl⟩

theorem abs_h {f : Nat} (hf : f < 18446744073709551616) {V : Vw} {H : Hp} : Does Try.prog 119 [.float .f64 f] V H (Pv (.float .f64 (f % 9223372036854775808)) V H) := (abs_c hf).frame

theorem part_c {n : Int} {y : Nat} {V : Vw} : Does Try.prog 92 [.int .i64 n, .float .f64 y] V [] (Pv (.int .i64 (Fl.part n y)) V []) := by
 refine Does.intro Try.func92 rfl rfl (le rfl) (fun B => ?_)
 refine Tr.seq ?_
 refine Tr.region ?_
 refine Run.val (lt rfl) (Y.assign rfl) ?_
 refine Run.to_end ?_
 refine Ex.go ?_
 refine Tr.seq ?_
 refine Tr.region ?_
 refine Run.val (lt rfl) (Y.move rfl) ?_
 refine Run.val (lt rfl) (Y.min2 rfl rfl) ?_
 refine Run.val (lt rfl) (Y.assign rfl) ?_
 refine Run.to_end ?_
 refine Ex.go ?_
 refine Tr.seq ?_
 refine Tr.block ?_
 refine Tr.seq ?_
 refine Tr.region ?_
 refine Run.val (lt rfl) (Y.move rfl) ?_
 refine Run.val (lt rfl) (Y.int rfl rfl rfl) ?_
 refine Run.val (lt rfl) (Y.move rfl) ?_
 rcases Bool.eq_false_or_eq_true (decide ((min n 1099511627776) < 1)) with h1 | h1
 ·have g1 := h1
  try simp only [kb] at g1
  refine Run.off rfl rfl rfl h1 rfl (lt rfl) ?_
  refine Run.off rfl rfl rfl h1 rfl (lt rfl) ?_
  refine Run.off rfl rfl rfl h1 rfl (lt rfl) ?_
  refine Run.val (lt rfl) (Y.pick_t rfl h1 rfl) ?_
  refine Run.val (lt rfl) (Y.assign rfl) ?_
  refine Run.to_end ?_
  refine Ex.go ?_
  refine Tr.cond_t rfl rfl ?_
  refine Tr.seq ?_
  refine Tr.region ?_
  refine Run.val (lt rfl) (Y.assign rfl) ?_
  refine Run.to_end ?_
  refine Ex.go ?_
  refine Tr.to_ret ?_
  refine Ex.ret_block ?_
  refine Ex.ret_then ?_
  exact Ex.ret1 rfl rfl  ⟨by rw [show Fl.part n y = _ from Fl.part_a rfl (by omega)], rfl, rfl⟩
 ·have g1 := h1
  try simp only [kb] at g1
  refine Run.on rfl rfl rfl h1 ?_
  refine Run.val (lt rfl) (Y.move rfl) ?_
  refine Run.on rfl rfl rfl h1 ?_
  refine Run.val (lt rfl) (Y.fcmp (r := .bool (Fl.D.order y 0 == some .gt)) rfl rfl rfl) ?_
  refine Run.on rfl rfl rfl h1 ?_
  refine Run.val (lt rfl) (Y.not rfl) ?_
  refine Run.val (lt rfl) (Y.pick_f rfl h1 rfl) ?_
  refine Run.val (lt rfl) (Y.assign rfl) ?_
  refine Run.to_end ?_
  refine Ex.go ?_
  rcases Bool.eq_false_or_eq_true (Fl.D.order y 0 == some .gt) with h2 | h2
  ·have g2 := h2
   try simp only [kb] at g2
   refine Tr.cond_f rfl (congrArg Bool.not h2) ?_
   refine Tr.seq ?_
   refine Tr.region ?_
   refine Run.val (lt rfl) (Y.move rfl) ?_
   refine Run.val (lt rfl) (Y.fcmp (r := .bool (Fl.D.order y 4607182418800017408 == some .gt || Fl.D.order y 4607182418800017408 == some .eq)) rfl rfl rfl) ?_
   refine Run.val (lt rfl) (Y.assign rfl) ?_
   refine Run.to_end ?_
   refine Ex.go ?_
   rcases Bool.eq_false_or_eq_true (Fl.D.order y 4607182418800017408 == some .gt || Fl.D.order y 4607182418800017408 == some .eq) with h3 | h3
   ·have g3 := h3
    try simp only [kb] at g3
    refine Tr.cond_t rfl h3 ?_
    refine Tr.seq ?_
    refine Tr.region ?_
    refine Run.val (lt rfl) (Y.move rfl) ?_
    refine Run.val (lt rfl) (Y.assign rfl) ?_
    refine Run.to_end ?_
    refine Ex.go ?_
    refine Tr.to_ret ?_
    refine Ex.ret_block ?_
    refine Ex.ret_then ?_
    exact Ex.ret1 rfl rfl  ⟨by rw [show Fl.part n y = _ from Fl.part_c rfl (by omega) h2 h3], rfl, rfl⟩
   ·have g3 := h3
    try simp only [kb] at g3
    refine Tr.cond_f rfl h3 ?_
    refine Tr.to_end ?_
    refine Ex.end_block ?_
    refine Ex.go ?_
    refine Tr.seq ?_
    refine Tr.region ?_
    obtain ⟨r, hm, hk, hk0, hnn, hord⟩ := Fl.part_facts (n := min n 1099511627776) (y := y) (by omega) (by omega) (h2) h3
    refine Run.val (lt rfl) (Y.move rfl) ?_
    refine Run.val (lt rfl) (Y.convIF rfl Pool_ft3_22) ?_
    refine Run.val (lt rfl) (Y.move rfl) ?_
    refine Run.val (lt rfl) (Y.farith (r := r) rfl rfl hm) ?_
    refine Run.val (lt rfl) (Y.convFI (n := Fl.partK (min n 1099511627776) y) rfl Pool_it22_3 hk) ?_
    refine Run.val (lt rfl) (Y.move rfl) ?_
    refine Run.val (lt rfl) (Y.min2 rfl rfl) ?_
    refine Run.val (lt rfl) (Y.assign rfl) ?_
    refine Run.to_end ?_
    refine Ex.go ?_
    refine Tr.to_ret ?_
    exact Ex.ret1 rfl rfl  ⟨by rw [show Fl.part n y = _ from Fl.part_d rfl (by omega) h2 h3], rfl, rfl⟩
  ·have g2 := h2
   try simp only [kb] at g2
   refine Tr.cond_t rfl (congrArg Bool.not h2) ?_
   refine Tr.seq ?_
   refine Tr.region ?_
   refine Run.val (lt rfl) (Y.assign rfl) ?_
   refine Run.to_end ?_
   refine Ex.go ?_
   refine Tr.to_ret ?_
   refine Ex.ret_block ?_
   refine Ex.ret_then ?_
   exact Ex.ret1 rfl rfl  ⟨by rw [show Fl.part n y = _ from Fl.part_b h2], rfl, rfl⟩

theorem rpart_c {n : Int} {y : Nat} {V : Vw} : Does Try.prog 98 [.int .i64 n, .float .f64 y] V [] (Pv (.int .i64 (Fl.part n y)) V []) := by
 refine Does.intro Try.func98 rfl rfl (le rfl) (fun B => ?_)
 refine Tr.seq ?_
 refine Tr.region ?_
 refine Run.val (lt rfl) (Y.assign rfl) ?_
 refine Run.to_end ?_
 refine Ex.go ?_
 refine Tr.seq ?_
 refine Tr.seq ?_
 refine Tr.region ?_
 refine Run.val (lt rfl) (Y.move rfl) ?_
 refine Run.val (lt rfl) (Y.int rfl rfl rfl) ?_
 refine Run.val (lt rfl) (Y.move rfl) ?_
 rcases Bool.eq_false_or_eq_true (decide (n < 1)) with h1 | h1
 ·have g1 := h1
  try simp only [kb] at g1
  refine Run.off rfl rfl rfl h1 rfl (lt rfl) ?_
  refine Run.off rfl rfl rfl h1 rfl (lt rfl) ?_
  refine Run.val (lt rfl) (Y.pick_t rfl h1 rfl) ?_
  refine Run.val (lt rfl) (Y.move rfl) ?_
  refine Run.off rfl rfl rfl rfl rfl (lt rfl) ?_
  refine Run.off rfl rfl rfl rfl rfl (lt rfl) ?_
  refine Run.val (lt rfl) (Y.pick_t rfl rfl rfl) ?_
  refine Run.to_end ?_
  refine Ex.go ?_
  refine Tr.cond_t rfl rfl ?_
  refine Tr.seq ?_
  refine Tr.region ?_
  refine Run.val (lt rfl) (Y.assign rfl) ?_
  refine Run.to_end ?_
  refine Ex.go ?_
  refine Tr.to_ret ?_
  refine Ex.ret_then ?_
  exact Ex.ret1 rfl rfl  ⟨by rw [show Fl.part n y = _ from Fl.part_a (N := n) (by omega) (by omega)], rfl, rfl⟩
 ·have g1 := h1
  try simp only [kb] at g1
  refine Run.on rfl rfl rfl h1 ?_
  refine Run.val (lt rfl) (Y.move rfl) ?_
  refine Run.on rfl rfl rfl h1 ?_
  refine Run.call0 (l := [.tmp 9]) rfl rfl rfl (lt rfl) isnan_h ?_
  refine Run.val (lt rfl) (Y.pick_f rfl h1 rfl) ?_
  refine Run.val (lt rfl) (Y.move rfl) ?_
  rcases Bool.eq_false_or_eq_true ((Fl.D.read y).isNaN) with h2 | h2
  ·have g2 := h2
   try simp only [kb] at g2
   refine Run.off rfl rfl rfl h2 rfl (lt rfl) ?_
   refine Run.off rfl rfl rfl h2 rfl (lt rfl) ?_
   refine Run.val (lt rfl) (Y.pick_t rfl h2 rfl) ?_
   refine Run.to_end ?_
   refine Ex.go ?_
   refine Tr.cond_t rfl rfl ?_
   refine Tr.seq ?_
   refine Tr.region ?_
   refine Run.val (lt rfl) (Y.assign rfl) ?_
   refine Run.to_end ?_
   refine Ex.go ?_
   refine Tr.to_ret ?_
   refine Ex.ret_then ?_
   exact Ex.ret1 rfl rfl  ⟨by rw [show Fl.part n y = _ from Fl.part_b (Fl.above_nan h2)], rfl, rfl⟩
  ·have g2 := h2
   try simp only [kb] at g2
   refine Run.on rfl rfl rfl h2 ?_
   refine Run.val (lt rfl) (Y.move rfl) ?_
   refine Run.on rfl rfl rfl h2 ?_
   refine Run.val (lt rfl) (Y.fcmp (r := .bool (Fl.D.order y 0 == some .lt || Fl.D.order y 0 == some .eq)) rfl rfl rfl) ?_
   refine Run.val (lt rfl) (Y.pick_f rfl h2 rfl) ?_
   refine Run.to_end ?_
   refine Ex.go ?_
   rcases Bool.eq_false_or_eq_true (Fl.D.order y 0 == some .lt || Fl.D.order y 0 == some .eq) with h3 | h3
   ·have g3 := h3
    try simp only [kb] at g3
    refine Tr.cond_t rfl h3 ?_
    refine Tr.seq ?_
    refine Tr.region ?_
    refine Run.val (lt rfl) (Y.assign rfl) ?_
    refine Run.to_end ?_
    refine Ex.go ?_
    refine Tr.to_ret ?_
    refine Ex.ret_then ?_
    exact Ex.ret1 rfl rfl  ⟨by rw [show Fl.part n y = _ from Fl.part_b (Fl.above_le h3)], rfl, rfl⟩
   ·have g3 := h3
    try simp only [kb] at g3
    refine Tr.cond_f rfl h3 ?_
    refine Tr.to_end ?_
    refine Ex.go ?_
    refine Tr.seq ?_
    refine Tr.seq ?_
    refine Tr.region ?_
    refine Run.val (lt rfl) (Y.move rfl) ?_
    refine Run.val (lt rfl) (Y.int rfl rfl rfl) ?_
    refine Run.to_end ?_
    refine Ex.go ?_
    rcases Bool.eq_false_or_eq_true (decide (n > 1099511627776)) with h4 | h4
    ·have g4 := h4
     try simp only [kb] at g4
     refine Tr.cond_t rfl h4 ?_
     refine Tr.region ?_
     refine Run.val (lt rfl) (Y.assign rfl) ?_
     refine Run.to_end ?_
     refine Ex.go ?_
     refine Tr.seq ?_
     refine Tr.seq ?_
     refine Tr.region ?_
     refine Run.val (lt rfl) (Y.move rfl) ?_
     refine Run.val (lt rfl) (Y.fcmp (r := .bool (Fl.D.order y 4607182418800017408 == some .gt || Fl.D.order y 4607182418800017408 == some .eq)) rfl rfl rfl) ?_
     refine Run.to_end ?_
     refine Ex.go ?_
     rcases Bool.eq_false_or_eq_true (Fl.D.order y 4607182418800017408 == some .gt || Fl.D.order y 4607182418800017408 == some .eq) with h5 | h5
     ·have g5 := h5
      try simp only [kb] at g5
      refine Tr.cond_t rfl h5 ?_
      refine Tr.seq ?_
      refine Tr.region ?_
      refine Run.val (lt rfl) (Y.move rfl) ?_
      refine Run.val (lt rfl) (Y.assign rfl) ?_
      refine Run.to_end ?_
      refine Ex.go ?_
      refine Tr.to_ret ?_
      refine Ex.ret_then ?_
      exact Ex.ret1 rfl rfl  ⟨by rw [show Fl.part n y = _ from Fl.part_c (N := 1099511627776) (by omega) (by omega) (Fl.above_gt h2 h3) h5], rfl, rfl⟩
     ·have g5 := h5
      try simp only [kb] at g5
      refine Tr.cond_f rfl h5 ?_
      refine Tr.to_end ?_
      refine Ex.go ?_
      refine Tr.seq ?_
      refine Tr.region ?_
      obtain ⟨r, hm, hk, hk0, hnn, hord⟩ := Fl.part_facts (n := 1099511627776) (y := y) (by omega) (by omega) (Fl.above_gt h2 h3) h5
      refine Run.val (lt rfl) (Y.move rfl) ?_
      refine Run.val (lt rfl) (Y.convIF rfl Pool_ft3_22) ?_
      refine Run.val (lt rfl) (Y.move rfl) ?_
      refine Run.val (lt rfl) (Y.farith (r := r) rfl rfl hm) ?_
      refine Run.val (lt rfl) (Y.assign rfl) ?_
      refine Run.to_end ?_
      refine Ex.go ?_
      refine Tr.seq ?_
      refine Tr.seq ?_
      refine Tr.region ?_
      refine Run.val (lt rfl) (Y.move rfl) ?_
      refine Run.val (lt rfl) (Y.move rfl) ?_
      refine Run.val (lt rfl) (Y.convIF rfl Pool_ft3_22) ?_
      refine Run.val (lt rfl) (Y.fcmp (r := .bool (Fl.D.order r (Fl.fl 1099511627776) == some .gt || Fl.D.order r (Fl.fl 1099511627776) == some .eq)) rfl rfl rfl) ?_
      refine Run.to_end ?_
      refine Ex.go ?_
      rcases Bool.eq_false_or_eq_true (Fl.D.order r (Fl.fl 1099511627776) == some .gt || Fl.D.order r (Fl.fl 1099511627776) == some .eq) with h6 | h6
      ·have g6 := h6
       try simp only [kb] at g6
       refine Tr.cond_t rfl h6 ?_
       refine Tr.seq ?_
       refine Tr.region ?_
       refine Run.val (lt rfl) (Y.move rfl) ?_
       refine Run.val (lt rfl) (Y.assign rfl) ?_
       refine Run.to_end ?_
       refine Ex.go ?_
       refine Tr.to_ret ?_
       refine Ex.ret_then ?_
       exact Ex.ret1 rfl rfl  ⟨by rw [show Fl.part n y = _ from (Fl.part_d (N := 1099511627776) (by omega) (by omega) (Fl.above_gt h2 h3) h5).trans (Fl.part_ge hord h6)], rfl, rfl⟩
      ·have g6 := h6
       try simp only [kb] at g6
       refine Tr.cond_f rfl h6 ?_
       refine Tr.to_end ?_
       refine Ex.go ?_
       refine Tr.seq ?_
       refine Tr.region ?_
       refine Run.val (lt rfl) (Y.move rfl) ?_
       refine Run.val (lt rfl) (Y.convFI (n := Fl.partK 1099511627776 y) rfl Pool_it22_3 hk) ?_
       refine Run.val (lt rfl) (Y.assign rfl) ?_
       refine Run.to_end ?_
       refine Ex.go ?_
       refine Tr.to_ret ?_
       exact Ex.ret1 rfl rfl  ⟨by rw [show Fl.part n y = _ from (Fl.part_d (N := 1099511627776) (by omega) (by omega) (Fl.above_gt h2 h3) h5).trans (Fl.part_lt hord h6)], rfl, rfl⟩
    ·have g4 := h4
     try simp only [kb] at g4
     refine Tr.cond_f rfl h4 ?_
     refine Tr.to_end ?_
     refine Ex.go ?_
     refine Tr.seq ?_
     refine Tr.seq ?_
     refine Tr.region ?_
     refine Run.val (lt rfl) (Y.move rfl) ?_
     refine Run.val (lt rfl) (Y.fcmp (r := .bool (Fl.D.order y 4607182418800017408 == some .gt || Fl.D.order y 4607182418800017408 == some .eq)) rfl rfl rfl) ?_
     refine Run.to_end ?_
     refine Ex.go ?_
     rcases Bool.eq_false_or_eq_true (Fl.D.order y 4607182418800017408 == some .gt || Fl.D.order y 4607182418800017408 == some .eq) with h7 | h7
     ·have g7 := h7
      try simp only [kb] at g7
      refine Tr.cond_t rfl h7 ?_
      refine Tr.seq ?_
      refine Tr.region ?_
      refine Run.val (lt rfl) (Y.move rfl) ?_
      refine Run.val (lt rfl) (Y.assign rfl) ?_
      refine Run.to_end ?_
      refine Ex.go ?_
      refine Tr.to_ret ?_
      refine Ex.ret_then ?_
      exact Ex.ret1 rfl rfl  ⟨by rw [show Fl.part n y = _ from Fl.part_c (N := n) (by omega) (by omega) (Fl.above_gt h2 h3) h7], rfl, rfl⟩
     ·have g7 := h7
      try simp only [kb] at g7
      refine Tr.cond_f rfl h7 ?_
      refine Tr.to_end ?_
      refine Ex.go ?_
      refine Tr.seq ?_
      refine Tr.region ?_
      obtain ⟨r, hm, hk, hk0, hnn, hord⟩ := Fl.part_facts (n := n) (y := y) (by omega) (by omega) (Fl.above_gt h2 h3) h7
      refine Run.val (lt rfl) (Y.move rfl) ?_
      refine Run.val (lt rfl) (Y.convIF rfl Pool_ft3_22) ?_
      refine Run.val (lt rfl) (Y.move rfl) ?_
      refine Run.val (lt rfl) (Y.farith (r := r) rfl rfl hm) ?_
      refine Run.val (lt rfl) (Y.assign rfl) ?_
      refine Run.to_end ?_
      refine Ex.go ?_
      refine Tr.seq ?_
      refine Tr.seq ?_
      refine Tr.region ?_
      refine Run.val (lt rfl) (Y.move rfl) ?_
      refine Run.val (lt rfl) (Y.move rfl) ?_
      refine Run.val (lt rfl) (Y.convIF rfl Pool_ft3_22) ?_
      refine Run.val (lt rfl) (Y.fcmp (r := .bool (Fl.D.order r (Fl.fl n) == some .gt || Fl.D.order r (Fl.fl n) == some .eq)) rfl rfl rfl) ?_
      refine Run.to_end ?_
      refine Ex.go ?_
      rcases Bool.eq_false_or_eq_true (Fl.D.order r (Fl.fl n) == some .gt || Fl.D.order r (Fl.fl n) == some .eq) with h8 | h8
      ·have g8 := h8
       try simp only [kb] at g8
       refine Tr.cond_t rfl h8 ?_
       refine Tr.seq ?_
       refine Tr.region ?_
       refine Run.val (lt rfl) (Y.move rfl) ?_
       refine Run.val (lt rfl) (Y.assign rfl) ?_
       refine Run.to_end ?_
       refine Ex.go ?_
       refine Tr.to_ret ?_
       refine Ex.ret_then ?_
       exact Ex.ret1 rfl rfl  ⟨by rw [show Fl.part n y = _ from (Fl.part_d (N := n) (by omega) (by omega) (Fl.above_gt h2 h3) h7).trans (Fl.part_ge hord h8)], rfl, rfl⟩
      ·have g8 := h8
       try simp only [kb] at g8
       refine Tr.cond_f rfl h8 ?_
       refine Tr.to_end ?_
       refine Ex.go ?_
       refine Tr.seq ?_
       refine Tr.region ?_
       refine Run.val (lt rfl) (Y.move rfl) ?_
       refine Run.val (lt rfl) (Y.convFI (n := Fl.partK n y) rfl Pool_it22_3 hk) ?_
       refine Run.val (lt rfl) (Y.assign rfl) ?_
       refine Run.to_end ?_
       refine Ex.go ?_
       refine Tr.to_ret ?_
       exact Ex.ret1 rfl rfl  ⟨by rw [show Fl.part n y = _ from (Fl.part_d (N := n) (by omega) (by omega) (Fl.above_gt h2 h3) h7).trans (Fl.part_lt hord h8)], rfl, rfl⟩

theorem part_h {n : Int} {y : Nat} {V : Vw} {H : Hp} : Does Try.prog 92 [.int .i64 n, .float .f64 y] V H (Pv (.int .i64 (Fl.part n y)) V H) := part_c.frame
theorem rpart_h {n : Int} {y : Nat} {V : Vw} {H : Hp} : Does Try.prog 98 [.int .i64 n, .float .f64 y] V H (Pv (.int .i64 (Fl.part n y)) V H) := rpart_c.frame

theorem share_c {a b : Int} {y : Nat} {V : Vw} : Does Try.prog 91 [.int .i64 a, .int .i64 b, .float .f64 y] V [] (Pv (.int .i64 (Fl.share a b y)) V []) := by
 have ha := Fl.bnd_range a
 have hb := Fl.bnd_range b
 have hp := Fl.part_range (n := Fl.bnd a + Fl.bnd b) (by omega) y
 refine Does.intro Try.func91 rfl rfl (le rfl) (fun B => ?_)
 refine Tr.seq ?_
 refine Tr.region ?_
 refine Run.val (lt rfl) (Y.assign rfl) ?_
 refine Run.to_end ?_
 refine Ex.go ?_
 refine Tr.seq ?_
 refine Tr.region ?_
 refine Run.val (lt rfl) (Y.move rfl) ?_
 refine Run.call0 (l := [.tmp 7]) rfl rfl rfl (lt rfl) bounded_c_h ?_
 refine Run.val (lt rfl) (Y.move rfl) ?_
 refine Run.call0 (l := [.tmp 9]) rfl rfl rfl (lt rfl) bounded_c_h ?_
 refine Run.val (lt rfl) (Y.assign rfl) ?_
 refine Run.val (lt rfl) (Y.assign rfl) ?_
 refine Run.to_end ?_
 refine Ex.go ?_
 refine Tr.seq ?_
 refine Tr.region ?_
 refine Run.val (lt rfl) (Y.move rfl) ?_
 refine Run.val (lt rfl) (Y.move rfl) ?_
 refine Run.val (lt rfl) (Y.add rfl rfl (by omega)) ?_
 refine Run.val (lt rfl) (Y.move rfl) ?_
 refine Run.call0 (l := [.tmp 13, .tmp 14]) rfl rfl rfl (lt rfl) part_h ?_
 refine Run.val (lt rfl) (Y.move rfl) ?_
 refine Run.val (lt rfl) (Y.sub rfl rfl (by omega)) ?_
 refine Run.val (lt rfl) (Y.max2 rfl rfl) ?_
 refine Run.val (lt rfl) (Y.move rfl) ?_
 refine Run.val (lt rfl) (Y.min2 rfl rfl) ?_
 refine Run.val (lt rfl) (Y.assign rfl) ?_
 refine Run.to_end ?_
 refine Ex.go ?_
 refine Tr.to_ret ?_
 exact Ex.ret1 rfl rfl  ⟨rfl, rfl, rfl⟩

theorem rshare_c {a b : Int} {y : Nat} {V : Vw} : Does Try.prog 97 [.int .i64 a, .int .i64 b, .float .f64 y] V [] (Pv (.int .i64 (Fl.share a b y)) V []) := by
 have ha := Fl.bnd_range a
 have hb := Fl.bnd_range b
 have hp := Fl.part_range (n := Fl.bnd a + Fl.bnd b) (by omega) y
 refine Does.intro Try.func97 rfl rfl (le rfl) (fun B => ?_)
 refine Tr.seq ?_
 refine Tr.region ?_
 refine Run.val (lt rfl) (Y.assign rfl) ?_
 refine Run.to_end ?_
 refine Ex.go ?_
 refine Tr.seq ?_
 refine Tr.region ?_
 refine Run.val (lt rfl) (Y.move rfl) ?_
 refine Run.call0 (l := [.tmp 10]) rfl rfl rfl (lt rfl) rbounded_c_h ?_
 refine Run.val (lt rfl) (Y.assign rfl) ?_
 refine Run.to_end ?_
 refine Ex.go ?_
 refine Tr.seq ?_
 refine Tr.region ?_
 refine Run.val (lt rfl) (Y.move rfl) ?_
 refine Run.call0 (l := [.tmp 12]) rfl rfl rfl (lt rfl) rbounded_c_h ?_
 refine Run.val (lt rfl) (Y.assign rfl) ?_
 refine Run.to_end ?_
 refine Ex.go ?_
 refine Tr.seq ?_
 refine Tr.region ?_
 refine Run.val (lt rfl) (Y.move rfl) ?_
 refine Run.val (lt rfl) (Y.move rfl) ?_
 refine Run.val (lt rfl) (Y.add rfl rfl (by omega)) ?_
 refine Run.val (lt rfl) (Y.move rfl) ?_
 refine Run.call0 (l := [.tmp 16, .tmp 17]) rfl rfl rfl (lt rfl) rpart_h ?_
 refine Run.val (lt rfl) (Y.move rfl) ?_
 refine Run.val (lt rfl) (Y.sub rfl rfl (by omega)) ?_
 refine Run.val (lt rfl) (Y.assign rfl) ?_
 refine Run.to_end ?_
 refine Ex.go ?_
 refine Tr.seq ?_
 refine Tr.region ?_
 refine Run.val (lt rfl) (Y.move rfl) ?_
 refine Run.val (lt rfl) (Y.max2 rfl rfl) ?_
 refine Run.val (lt rfl) (Y.move rfl) ?_
 refine Run.val (lt rfl) (Y.min2 rfl rfl) ?_
 refine Run.val (lt rfl) (Y.assign rfl) ?_
 refine Run.to_end ?_
 refine Ex.go ?_
 refine Tr.to_ret ?_
 exact Ex.ret1 rfl rfl  ⟨rfl, rfl, rfl⟩

theorem uneven_c {a b : Int} {y : Nat} {V : Vw} : Does Try.prog 90 [.int .i64 a, .int .i64 b, .float .f64 y] V [] (Pv (.float .f64 (Fl.uneven a b y)) V []) := by
 have ha := Fl.bnd_range a
 have hb := Fl.bnd_range b
 refine Does.intro Try.func90 rfl rfl (le rfl) (fun B => ?_)
 refine Tr.seq ?_
 refine Tr.region ?_
 refine Run.val (lt rfl) (Y.assign rfl) ?_
 refine Run.to_end ?_
 refine Ex.go ?_
 refine Tr.seq ?_
 refine Tr.region ?_
 refine Run.val (lt rfl) (Y.move rfl) ?_
 refine Run.call0 (l := [.tmp 8]) rfl rfl rfl (lt rfl) bounded_c_h ?_
 refine Run.val (lt rfl) (Y.move rfl) ?_
 refine Run.call0 (l := [.tmp 10]) rfl rfl rfl (lt rfl) bounded_c_h ?_
 refine Run.val (lt rfl) (Y.assign rfl) ?_
 refine Run.val (lt rfl) (Y.assign rfl) ?_
 refine Run.to_end ?_
 refine Ex.go ?_
 refine Tr.seq ?_
 refine Tr.region ?_
 refine Run.val (lt rfl) (Y.move rfl) ?_
 refine Run.val (lt rfl) (Y.move rfl) ?_
 refine Run.val (lt rfl) (Y.add rfl rfl (by omega)) ?_
 refine Run.val (lt rfl) (Y.assign rfl) ?_
 refine Run.to_end ?_
 refine Ex.go ?_
 refine Tr.block ?_
 refine Tr.seq ?_
 refine Tr.region ?_
 refine Run.val (lt rfl) (Y.move rfl) ?_
 refine Run.val (lt rfl) (Y.int rfl rfl rfl) ?_
 refine Run.val (lt rfl) (Y.assign rfl) ?_
 refine Run.to_end ?_
 refine Ex.go ?_
 rcases Bool.eq_false_or_eq_true (((Fl.bnd a) + (Fl.bnd b)) == 0) with h1 | h1
 ·have g1 := h1
  try simp only [kb] at g1
  refine Tr.cond_t rfl h1 ?_
  refine Tr.seq ?_
  refine Tr.region ?_
  refine Run.val (lt rfl) (Y.assign rfl) ?_
  refine Run.to_end ?_
  refine Ex.go ?_
  refine Tr.to_ret ?_
  refine Ex.ret_block ?_
  exact Ex.ret1 rfl rfl  ⟨by rw [show Fl.uneven a b y = _ from if_pos g1], rfl, rfl⟩
 ·have g1 := h1
  try simp only [kb] at g1
  refine Tr.cond_f rfl h1 ?_
  refine Tr.seq ?_
  refine Tr.region ?_
  refine Run.val (lt rfl) (Y.move rfl) ?_
  refine Run.call0 (l := [.tmp 28]) rfl rfl rfl (lt rfl) isnan_h ?_
  refine Run.val (lt rfl) (Y.assign rfl) ?_
  refine Run.to_end ?_
  refine Ex.go ?_
  rcases Bool.eq_false_or_eq_true ((Fl.D.read y).isNaN) with h2 | h2
  ·have g2 := h2
   try simp only [kb] at g2
   refine Tr.cond_t rfl h2 ?_
   refine Tr.seq ?_
   refine Tr.region ?_
   refine Run.val (lt rfl) (Y.assign rfl) ?_
   refine Run.to_end ?_
   refine Ex.go ?_
   refine Tr.to_ret ?_
   refine Ex.ret_block ?_
   exact Ex.ret1 rfl rfl  ⟨by rw [show Fl.uneven a b y = _ from (if_neg g1).trans (if_pos h2)], rfl, rfl⟩
  ·have g2 := h2
   try simp only [kb] at g2
   refine Tr.cond_f rfl h2 ?_
   refine Tr.seq ?_
   refine Tr.region ?_
   obtain ⟨q, hq, hs, hn, hlt⟩ := Fl.off_facts (a := a) (b := b) (y := y) g1 h2
   refine Run.val (lt rfl) (Y.move rfl) ?_
   refine Run.val (lt rfl) (Y.convIF rfl Pool_ft3_22) ?_
   refine Run.val (lt rfl) (Y.move rfl) ?_
   refine Run.val (lt rfl) (Y.convIF rfl Pool_ft3_22) ?_
   refine Run.val (lt rfl) (Y.farith (r := q) rfl rfl hq) ?_
   refine Run.val (lt rfl) (Y.move rfl) ?_
   refine Run.val (lt rfl) (Y.farith (r := Fl.off a b y) rfl rfl hs) ?_
   refine Run.call0 (l := [.tmp 21]) rfl rfl rfl (lt rfl) (abs_h hlt) ?_
   refine Run.val (lt rfl) (Y.minF rfl rfl (Fl.order_none (by rw [Fl.read_abs]; exact hn) Fl.one_num)) ?_
   refine Run.val (lt rfl) (Y.assign rfl) ?_
   refine Run.to_end ?_
   refine Ex.go ?_
   refine Tr.to_ret ?_
   refine Ex.ret_block ?_
   exact Ex.ret1 rfl rfl  ⟨by rw [show Fl.uneven a b y = _ from (if_neg g1).trans (if_neg (by rw [h2]; decide))], rfl, rfl⟩

theorem share_h {a b : Int} {y : Nat} {V : Vw} {H : Hp} : Does Try.prog 91 [.int .i64 a, .int .i64 b, .float .f64 y] V H (Pv (.int .i64 (Fl.share a b y)) V H) := share_c.frame
theorem rshare_h {a b : Int} {y : Nat} {V : Vw} {H : Hp} : Does Try.prog 97 [.int .i64 a, .int .i64 b, .float .f64 y] V H (Pv (.int .i64 (Fl.share a b y)) V H) := rshare_c.frame
theorem uneven_h {a b : Int} {y : Nat} {V : Vw} {H : Hp} : Does Try.prog 90 [.int .i64 a, .int .i64 b, .float .f64 y] V H (Pv (.float .f64 (Fl.uneven a b y)) V H) := uneven_c.frame

theorem gives_c {id free backup : Int} {y s : Nat} {V : Vw} : Does Try.prog 60 [.agg #[.float .f64 y, .float .f64 s], .int .i64 id, .int .i64 free, .int .i64 backup] V [] (Pv (.int .i64 (Fl.gives id free backup y s)) V []) := by
 have ha := Fl.bnd_range free
 have hb := Fl.bnd_range backup
 have hp := Fl.part_range (n := Fl.bnd free + Fl.bnd backup) (by omega) y
 refine Does.intro Try.func60 rfl rfl (le rfl) (fun B => ?_)
 refine Tr.seq ?_
 refine Tr.region ?_
 refine Run.box rfl (lt rfl) (fun b1 => ?_)
 refine Run.val (lt rfl) (Y.assign rfl) ?_
 refine Run.to_end ?_
 refine Ex.go ?_
 refine Tr.seq ?_
 refine Tr.region ?_
 refine Run.val (lt rfl) (Y.move rfl) ?_
 refine Run.val (lt rfl) (Y.max2 rfl rfl) ?_
 refine Run.val (lt rfl) (Y.min2 (m := max free 0) rfl rfl) ?_
 refine Run.val (lt rfl) (Y.move rfl) ?_
 refine Run.val (lt rfl) (Y.max2 rfl rfl) ?_
 refine Run.val (lt rfl) (Y.min2 (m := max backup 0) rfl rfl) ?_
 refine Run.sub [(0, .agg #[.float .f64 y, .float .f64 s]), (1, .int .i64 id), (2, .int .i64 free), (3, .int .i64 backup), (4, .pointer (some ⟨b1, 0, none⟩)), (8, .int .i64 0), (9, .int .i64 free), (10, .int .i64 (max free 0)), (11, .int .i64 (Fl.bnd free)), (12, .int .i64 backup), (13, .int .i64 (max backup 0)), (14, .int .i64 (Fl.bnd backup))] (subB_cons (by first | rfl | exact congrArg (fun z => some (Value.int _ z)) (by omega)) (subB_cons (by first | rfl | exact congrArg (fun z => some (Value.int _ z)) (by omega)) (subB_cons (by first | rfl | exact congrArg (fun z => some (Value.int _ z)) (by omega)) (subB_cons (by first | rfl | exact congrArg (fun z => some (Value.int _ z)) (by omega)) (subB_cons (by first | rfl | exact congrArg (fun z => some (Value.int _ z)) (by omega)) (subB_cons (by first | rfl | exact congrArg (fun z => some (Value.int _ z)) (by omega)) (subB_cons (by first | rfl | exact congrArg (fun z => some (Value.int _ z)) (by omega)) (subB_cons (by first | rfl | exact congrArg (fun z => some (Value.int _ z)) (by omega)) (subB_cons (by first | rfl | exact congrArg (fun z => some (Value.int _ z)) (by omega)) (subB_cons (by first | rfl | exact congrArg (fun z => some (Value.int _ z)) (by omega)) (subB_cons (by first | rfl | exact congrArg (fun z => some (Value.int _ z)) (by omega)) (subB_cons (by first | rfl | exact congrArg (fun z => some (Value.int _ z)) (by omega)) (subB_nil _))))))))))))) ?_
 refine Run.val (lt rfl) (Y.assign rfl) ?_
 refine Run.val (lt rfl) (Y.assign rfl) ?_
 refine Run.to_end ?_
 refine Ex.go ?_
 refine Tr.seq ?_
 refine Tr.seq ?_
 refine Tr.quiet Pool_mo (by kernel_rfl) ?_
 refine RunQ.val (lt rfl) (Y.move rfl) ?_
 refine RunQ.val (lt rfl) (Y.move rfl) ?_
 refine RunQ.val (lt rfl) (Y.fieldAddr rfl Pool_fo27_0) ?_
 refine RunQ.val (lt rfl) (Y.load rfl Pool_ts22 (Kn.at 0 rfl) rfl) ?_
 refine RunQ.call0 (l := [.tmp 15, .tmp 16, .tmp 18]) rfl rfl rfl (lt rfl) uneven_h ?_
 refine RunQ.val (lt rfl) (Y.fieldAddr rfl Pool_fo27_1) ?_
 refine RunQ.val (lt rfl) (Y.load rfl Pool_ts22 (Kn.at 0 rfl) rfl) ?_
 refine RunQ.val (lt rfl) (Y.fcmp (r := .bool (Fl.D.order (Fl.uneven (Fl.bnd free) (Fl.bnd backup) y) s == some .gt)) rfl rfl rfl) ?_
 refine RunQ.val (lt rfl) (Y.not rfl) ?_
 refine RunQ.to_end ?_
 refine Ex.go ?_
 rcases Bool.eq_false_or_eq_true (Fl.D.order (Fl.uneven (Fl.bnd free) (Fl.bnd backup) y) s == some .gt) with h2 | h2
 ·have g2 := h2
  try simp only [kb] at g2
  refine Tr.cond_f rfl (congrArg Bool.not h2) ?_
  refine Tr.to_end ?_
  refine Ex.go ?_
  refine Tr.seq ?_
  refine Tr.seq ?_
  refine Tr.region ?_
  refine Run.val (lt rfl) (Y.move rfl) ?_
  refine Run.to_end ?_
  refine Ex.go ?_
  refine Tr.block ?_
  refine Tr.seq ?_
  refine Tr.region ?_
  refine Run.val (lt rfl) (Y.int rfl rfl rfl) ?_
  refine Run.val (lt rfl) (Y.assign rfl) ?_
  refine Run.to_end ?_
  refine Ex.go ?_
  rcases Bool.eq_false_or_eq_true (id == 0) with h3 | h3
  ·have g3 := h3
   try simp only [kb] at g3
   refine Tr.cond_t rfl h3 ?_
   refine Tr.seq ?_
   refine Tr.region ?_
   refine Run.val (lt rfl) (Y.move rfl) ?_
   refine Run.val (lt rfl) (Y.move rfl) ?_
   refine Run.val (lt rfl) (Y.fieldAddr rfl Pool_fo27_0) ?_
   refine Run.val (lt rfl) (Y.load rfl Pool_ts22 (Kn.at 0 rfl) rfl) ?_
   refine Run.call0 (l := [.tmp 27, .tmp 28, .tmp 30]) rfl rfl rfl (lt rfl) share_h ?_
   refine Run.val (lt rfl) (Y.assign rfl) ?_
   refine Run.to_end ?_
   refine Ex.go ?_
   refine Tr.to_ret ?_
   refine Ex.ret_block ?_
   refine Ex.ret_then ?_
   refine Ex.keep [] ?_
   exact Ex.ret1 rfl rfl  ⟨by rw [show Fl.gives id free backup y s = _ from (if_pos h2).trans (if_pos g3)], rfl, rfl⟩
  ·have g3 := h3
   try simp only [kb] at g3
   refine Tr.cond_f rfl h3 ?_
   refine Tr.seq ?_
   refine Tr.region ?_
   refine Run.val (lt rfl) (Y.int rfl rfl rfl) ?_
   refine Run.val (lt rfl) (Y.assign rfl) ?_
   refine Run.to_end ?_
   refine Ex.go ?_
   rcases Bool.eq_false_or_eq_true (id == 1) with h4 | h4
   ·have g4 := h4
    try simp only [kb] at g4
    refine Tr.cond_t rfl h4 ?_
    refine Tr.seq ?_
    refine Tr.region ?_
    refine Run.val (lt rfl) (Y.move rfl) ?_
    refine Run.val (lt rfl) (Y.move rfl) ?_
    refine Run.val (lt rfl) (Y.move rfl) ?_
    refine Run.val (lt rfl) (Y.add rfl rfl (by omega)) ?_
    refine Run.val (lt rfl) (Y.fieldAddr rfl Pool_fo27_0) ?_
    refine Run.val (lt rfl) (Y.load rfl Pool_ts22 (Kn.at 0 rfl) rfl) ?_
    refine Run.call0 (l := [.tmp 37, .tmp 39]) rfl rfl rfl (lt rfl) part_h ?_
    refine Run.val (lt rfl) (Y.sub rfl rfl (by omega)) ?_
    refine Run.val (lt rfl) (Y.max2 rfl rfl) ?_
    refine Run.val (lt rfl) (Y.assign rfl) ?_
    refine Run.to_end ?_
    refine Ex.go ?_
    refine Tr.to_ret ?_
    refine Ex.ret_block ?_
    refine Ex.ret_then ?_
    refine Ex.keep [] ?_
    exact Ex.ret1 rfl rfl  ⟨by rw [show Fl.gives id free backup y s = _ from (if_pos h2).trans ((if_neg g3).trans (if_pos g4))], rfl, rfl⟩
   ·have g4 := h4
    try simp only [kb] at g4
    refine Tr.cond_f rfl h4 ?_
    refine Tr.to_end ?_
    refine Ex.end_block ?_
    refine Ex.go ?_
    refine Tr.seq ?_
    refine Tr.region ?_
    refine Run.val (lt rfl) (Y.assign rfl) ?_
    refine Run.to_end ?_
    refine Ex.go ?_
    refine Tr.to_ret ?_
    refine Ex.keep [] ?_
    exact Ex.ret1 rfl rfl  ⟨by rw [show Fl.gives id free backup y s = _ from (if_pos h2).trans ((if_neg g3).trans (if_neg g4))], rfl, rfl⟩
 ·have g2 := h2
  try simp only [kb] at g2
  refine Tr.cond_t rfl (congrArg Bool.not h2) ?_
  refine Tr.seq ?_
  refine Tr.region ?_
  refine Run.val (lt rfl) (Y.assign rfl) ?_
  refine Run.to_end ?_
  refine Ex.go ?_
  refine Tr.to_ret ?_
  refine Ex.ret_then ?_
  refine Ex.keep [] ?_
  exact Ex.ret1 rfl rfl  ⟨by rw [show Fl.gives id free backup y s = _ from if_neg (by rw [h2]; decide)], rfl, rfl⟩

theorem gives_h {id free backup : Int} {y s : Nat} {V : Vw} {H : Hp} : Does Try.prog 60 [.agg #[.float .f64 y, .float .f64 s], .int .i64 id, .int .i64 free, .int .i64 backup] V H (Pv (.int .i64 (Fl.gives id free backup y s)) V H) := gives_c.frame

theorem runeven_c {a b : Int} {y : Nat} {V : Vw} : Does Try.prog 95 [.int .i64 a, .int .i64 b, .float .f64 y] V [] (Pv (.float .f64 (Fl.runeven a b y)) V []) := by
 have ha := Fl.bnd_range a
 have hb := Fl.bnd_range b
 refine Does.intro Try.func95 rfl rfl (le rfl) (fun B => ?_)
 refine Tr.seq ?_
 refine Tr.region ?_
 refine Run.val (lt rfl) (Y.assign rfl) ?_
 refine Run.to_end ?_
 refine Ex.go ?_
 refine Tr.seq ?_
 refine Tr.region ?_
 refine Run.val (lt rfl) (Y.move rfl) ?_
 refine Run.call0 (l := [.tmp 10]) rfl rfl rfl (lt rfl) rbounded_c_h ?_
 refine Run.val (lt rfl) (Y.assign rfl) ?_
 refine Run.to_end ?_
 refine Ex.go ?_
 refine Tr.seq ?_
 refine Tr.region ?_
 refine Run.val (lt rfl) (Y.move rfl) ?_
 refine Run.call0 (l := [.tmp 12]) rfl rfl rfl (lt rfl) rbounded_c_h ?_
 refine Run.val (lt rfl) (Y.assign rfl) ?_
 refine Run.to_end ?_
 refine Ex.go ?_
 refine Tr.seq ?_
 refine Tr.seq ?_
 refine Tr.region ?_
 refine Run.val (lt rfl) (Y.move rfl) ?_
 refine Run.val (lt rfl) (Y.move rfl) ?_
 refine Run.val (lt rfl) (Y.add rfl rfl (by omega)) ?_
 refine Run.val (lt rfl) (Y.int rfl rfl rfl) ?_
 refine Run.to_end ?_
 refine Ex.go ?_
 rcases Bool.eq_false_or_eq_true (((Fl.bnd a) + (Fl.bnd b)) == 0) with h1 | h1
 ·have g1 := h1
  try simp only [kb] at g1
  refine Tr.cond_t rfl h1 ?_
  refine Tr.seq ?_
  refine Tr.region ?_
  refine Run.val (lt rfl) (Y.assign rfl) ?_
  refine Run.to_end ?_
  refine Ex.go ?_
  refine Tr.to_ret ?_
  refine Ex.ret_then ?_
  exact Ex.ret1 rfl rfl  ⟨by rw [show Fl.runeven a b y = _ from if_pos g1], rfl, rfl⟩
 ·have g1 := h1
  try simp only [kb] at g1
  refine Tr.cond_f rfl h1 ?_
  refine Tr.to_end ?_
  refine Ex.go ?_
  refine Tr.seq ?_
  refine Tr.seq ?_
  refine Tr.region ?_
  refine Run.val (lt rfl) (Y.move rfl) ?_
  refine Run.call0 (l := [.tmp 18]) rfl rfl rfl (lt rfl) isnan_h ?_
  refine Run.to_end ?_
  refine Ex.go ?_
  rcases Bool.eq_false_or_eq_true ((Fl.D.read y).isNaN) with h2 | h2
  ·have g2 := h2
   try simp only [kb] at g2
   refine Tr.cond_t rfl h2 ?_
   refine Tr.seq ?_
   refine Tr.region ?_
   refine Run.val (lt rfl) (Y.assign rfl) ?_
   refine Run.to_end ?_
   refine Ex.go ?_
   refine Tr.to_ret ?_
   refine Ex.ret_then ?_
   exact Ex.ret1 rfl rfl  ⟨by rw [show Fl.runeven a b y = _ from (if_neg g1).trans (if_pos h2)], rfl, rfl⟩
  ·have g2 := h2
   try simp only [kb] at g2
   refine Tr.cond_f rfl h2 ?_
   refine Tr.to_end ?_
   refine Ex.go ?_
   refine Tr.seq ?_
   refine Tr.region ?_
   obtain ⟨q, hq, hs, hn, hlt⟩ := Fl.off_facts (a := a) (b := b) (y := y) g1 h2
   refine Run.val (lt rfl) (Y.move rfl) ?_
   refine Run.val (lt rfl) (Y.convIF rfl Pool_ft3_22) ?_
   refine Run.val (lt rfl) (Y.move rfl) ?_
   refine Run.val (lt rfl) (Y.move rfl) ?_
   refine Run.val (lt rfl) (Y.add rfl rfl (by omega)) ?_
   refine Run.val (lt rfl) (Y.convIF rfl Pool_ft3_22) ?_
   refine Run.val (lt rfl) (Y.farith (r := q) rfl rfl hq) ?_
   refine Run.val (lt rfl) (Y.move rfl) ?_
   refine Run.val (lt rfl) (Y.farith (r := Fl.off a b y) rfl rfl hs) ?_
   refine Run.val (lt rfl) (Y.assign rfl) ?_
   refine Run.to_end ?_
   refine Ex.go ?_
   refine Tr.seq ?_
   refine Tr.seq ?_
   refine Tr.region ?_
   refine Run.val (lt rfl) (Y.move rfl) ?_
   refine Run.val (lt rfl) (Y.fcmp (r := .bool (Fl.D.order (Fl.off a b y) 0 == some .lt)) rfl rfl rfl) ?_
   refine Run.to_end ?_
   refine Ex.go ?_
   rcases Bool.eq_false_or_eq_true (Fl.D.order (Fl.off a b y) 0 == some .lt) with h3 | h3
   ·have g3 := h3
    try simp only [kb] at g3
    refine Tr.cond_t rfl h3 ?_
    refine Tr.region ?_
    refine Run.val (lt rfl) (Y.move rfl) ?_
    refine Run.val (lt rfl) (Y.fneg rfl) ?_
    refine Run.val (lt rfl) (Y.assign rfl) ?_
    refine Run.to_end ?_
    refine Ex.go ?_
    refine Tr.seq ?_
    refine Tr.seq ?_
    refine Tr.region ?_
    refine Run.val (lt rfl) (Y.move rfl) ?_
    refine Run.val (lt rfl) (Y.fcmp (r := .bool (Fl.D.order (Op.negFloat .f64 (Fl.off a b y)) 4607182418800017408 == some .gt)) rfl rfl rfl) ?_
    refine Run.to_end ?_
    refine Ex.go ?_
    rcases Bool.eq_false_or_eq_true (Fl.D.order (Op.negFloat .f64 (Fl.off a b y)) 4607182418800017408 == some .gt) with h4 | h4
    ·have g4 := h4
     try simp only [kb] at g4
     refine Tr.cond_t rfl h4 ?_
     refine Tr.seq ?_
     refine Tr.region ?_
     refine Run.val (lt rfl) (Y.assign rfl) ?_
     refine Run.to_end ?_
     refine Ex.go ?_
     refine Tr.to_ret ?_
     refine Ex.ret_then ?_
     exact Ex.ret1 rfl rfl  ⟨by rw [show Fl.runeven a b y = Fl.one from by unfold Fl.runeven; rw [if_neg g1, if_neg (by rw [h2]; decide), show (if (Fl.D.order (Fl.off a b y) 0 == some .lt) = true then Op.negFloat .f64 (Fl.off a b y) else Fl.off a b y) = (Op.negFloat .f64 (Fl.off a b y)) from if_pos h3]; exact if_pos h4], rfl, rfl⟩
    ·have g4 := h4
     try simp only [kb] at g4
     refine Tr.cond_f rfl h4 ?_
     refine Tr.to_end ?_
     refine Ex.go ?_
     refine Tr.seq ?_
     refine Tr.region ?_
     refine Run.val (lt rfl) (Y.move rfl) ?_
     refine Run.val (lt rfl) (Y.assign rfl) ?_
     refine Run.to_end ?_
     refine Ex.go ?_
     refine Tr.to_ret ?_
     exact Ex.ret1 rfl rfl  ⟨by rw [show Fl.runeven a b y = (Op.negFloat .f64 (Fl.off a b y)) from by unfold Fl.runeven; rw [if_neg g1, if_neg (by rw [h2]; decide), show (if (Fl.D.order (Fl.off a b y) 0 == some .lt) = true then Op.negFloat .f64 (Fl.off a b y) else Fl.off a b y) = (Op.negFloat .f64 (Fl.off a b y)) from if_pos h3]; exact if_neg (by rw [h4]; decide)], rfl, rfl⟩
   ·have g3 := h3
    try simp only [kb] at g3
    refine Tr.cond_f rfl h3 ?_
    refine Tr.to_end ?_
    refine Ex.go ?_
    refine Tr.seq ?_
    refine Tr.seq ?_
    refine Tr.region ?_
    refine Run.val (lt rfl) (Y.move rfl) ?_
    refine Run.val (lt rfl) (Y.fcmp (r := .bool (Fl.D.order (Fl.off a b y) 4607182418800017408 == some .gt)) rfl rfl rfl) ?_
    refine Run.to_end ?_
    refine Ex.go ?_
    rcases Bool.eq_false_or_eq_true (Fl.D.order (Fl.off a b y) 4607182418800017408 == some .gt) with h5 | h5
    ·have g5 := h5
     try simp only [kb] at g5
     refine Tr.cond_t rfl h5 ?_
     refine Tr.seq ?_
     refine Tr.region ?_
     refine Run.val (lt rfl) (Y.assign rfl) ?_
     refine Run.to_end ?_
     refine Ex.go ?_
     refine Tr.to_ret ?_
     refine Ex.ret_then ?_
     exact Ex.ret1 rfl rfl  ⟨by rw [show Fl.runeven a b y = Fl.one from by unfold Fl.runeven; rw [if_neg g1, if_neg (by rw [h2]; decide), show (if (Fl.D.order (Fl.off a b y) 0 == some .lt) = true then Op.negFloat .f64 (Fl.off a b y) else Fl.off a b y) = (Fl.off a b y) from if_neg (by rw [h3]; decide)]; exact if_pos h5], rfl, rfl⟩
    ·have g5 := h5
     try simp only [kb] at g5
     refine Tr.cond_f rfl h5 ?_
     refine Tr.to_end ?_
     refine Ex.go ?_
     refine Tr.seq ?_
     refine Tr.region ?_
     refine Run.val (lt rfl) (Y.move rfl) ?_
     refine Run.val (lt rfl) (Y.assign rfl) ?_
     refine Run.to_end ?_
     refine Ex.go ?_
     refine Tr.to_ret ?_
     exact Ex.ret1 rfl rfl  ⟨by rw [show Fl.runeven a b y = (Fl.off a b y) from by unfold Fl.runeven; rw [if_neg g1, if_neg (by rw [h2]; decide), show (if (Fl.D.order (Fl.off a b y) 0 == some .lt) = true then Op.negFloat .f64 (Fl.off a b y) else Fl.off a b y) = (Fl.off a b y) from if_neg (by rw [h3]; decide)]; exact if_neg (by rw [h5]; decide)], rfl, rfl⟩

theorem runeven_h {a b : Int} {y : Nat} {V : Vw} {H : Hp} : Does Try.prog 95 [.int .i64 a, .int .i64 b, .float .f64 y] V H (Pv (.float .f64 (Fl.runeven a b y)) V H) := runeven_c.frame

theorem rgives_c {id free backup : Int} {y s : Nat} {V : Vw} : Does Try.prog 63 [.agg #[.float .f64 y, .float .f64 s], .int .i64 id, .int .i64 free, .int .i64 backup] V [] (Pv (.int .i64 (Fl.gives id free backup y s)) V []) := by
 have ha := Fl.bnd_range free
 have hb := Fl.bnd_range backup
 have hp := Fl.part_range (n := Fl.bnd free + Fl.bnd backup) (by omega) y
 refine Does.intro Try.func63 rfl rfl (le rfl) (fun B => ?_)
 refine Tr.seq ?_
 refine Tr.region ?_
 refine Run.box rfl (lt rfl) (fun b1 => ?_)
 refine Run.val (lt rfl) (Y.assign rfl) ?_
 refine Run.to_end ?_
 refine Ex.go ?_
 refine Tr.seq ?_
 refine Tr.seq ?_
 refine Tr.quiet Pool_mo (by kernel_rfl) ?_
 refine RunQ.val (lt rfl) (Y.move rfl) ?_
 refine RunQ.val (lt rfl) (Y.move rfl) ?_
 refine RunQ.val (lt rfl) (Y.fieldAddr rfl Pool_fo28_0) ?_
 refine RunQ.val (lt rfl) (Y.load rfl Pool_ts22 (Kn.at 0 rfl) rfl) ?_
 refine RunQ.call0 (l := [.tmp 11, .tmp 12, .tmp 14]) rfl rfl rfl (lt rfl) runeven_h ?_
 refine RunQ.val (lt rfl) (Y.fieldAddr rfl Pool_fo28_1) ?_
 refine RunQ.val (lt rfl) (Y.load rfl Pool_ts22 (Kn.at 0 rfl) rfl) ?_
 refine RunQ.val (lt rfl) (Y.fcmp (r := .bool (Fl.D.order (Fl.runeven free backup y) s == some .gt)) rfl rfl rfl) ?_
 refine RunQ.val (lt rfl) (Y.not rfl) ?_
 refine RunQ.to_end ?_
 refine Ex.go ?_
 rcases Bool.eq_false_or_eq_true (Fl.D.order (Fl.runeven free backup y) s == some .gt) with h2 | h2
 ·have g2 := h2
  try simp only [kb] at g2
  refine Tr.cond_f rfl (congrArg Bool.not h2) ?_
  refine Tr.to_end ?_
  refine Ex.go ?_
  refine Tr.seq ?_
  refine Tr.region ?_
  refine Run.val (lt rfl) (Y.move rfl) ?_
  refine Run.call0 (l := [.tmp 20]) rfl rfl rfl (lt rfl) pbounded_c_h ?_
  refine Run.val (lt rfl) (Y.assign rfl) ?_
  refine Run.to_end ?_
  refine Ex.go ?_
  refine Tr.seq ?_
  refine Tr.region ?_
  refine Run.val (lt rfl) (Y.move rfl) ?_
  refine Run.call0 (l := [.tmp 22]) rfl rfl rfl (lt rfl) pbounded_c_h ?_
  refine Run.val (lt rfl) (Y.assign rfl) ?_
  refine Run.to_end ?_
  refine Ex.go ?_
  refine Tr.seq ?_
  refine Tr.seq ?_
  refine Tr.region ?_
  refine Run.val (lt rfl) (Y.move rfl) ?_
  refine Run.to_end ?_
  refine Ex.go ?_
  refine Tr.block ?_
  refine Tr.seq ?_
  refine Tr.region ?_
  refine Run.val (lt rfl) (Y.int rfl rfl rfl) ?_
  refine Run.val (lt rfl) (Y.assign rfl) ?_
  refine Run.to_end ?_
  refine Ex.go ?_
  rcases Bool.eq_false_or_eq_true (id == 0) with h3 | h3
  ·have g3 := h3
   try simp only [kb] at g3
   refine Tr.cond_t rfl h3 ?_
   refine Tr.seq ?_
   refine Tr.region ?_
   refine Run.val (lt rfl) (Y.move rfl) ?_
   refine Run.val (lt rfl) (Y.move rfl) ?_
   refine Run.val (lt rfl) (Y.fieldAddr rfl Pool_fo28_0) ?_
   refine Run.val (lt rfl) (Y.load rfl Pool_ts22 (Kn.at 0 rfl) rfl) ?_
   refine Run.call0 (l := [.tmp 27, .tmp 28, .tmp 30]) rfl rfl rfl (lt rfl) rshare_h ?_
   refine Run.val (lt rfl) (Y.assign rfl) ?_
   refine Run.to_end ?_
   refine Ex.go ?_
   refine Tr.to_ret ?_
   refine Ex.ret_block ?_
   refine Ex.ret_then ?_
   refine Ex.keep [] ?_
   exact Ex.ret1 rfl rfl  ⟨by rw [show Fl.gives id free backup y s = _ from (if_pos ((Fl.rgives_gt free backup y s).symm.trans h2)).trans (if_pos g3)], rfl, rfl⟩
  ·have g3 := h3
   try simp only [kb] at g3
   refine Tr.cond_f rfl h3 ?_
   refine Tr.seq ?_
   refine Tr.region ?_
   refine Run.val (lt rfl) (Y.int rfl rfl rfl) ?_
   refine Run.val (lt rfl) (Y.assign rfl) ?_
   refine Run.to_end ?_
   refine Ex.go ?_
   rcases Bool.eq_false_or_eq_true (id == 1) with h4 | h4
   ·have g4 := h4
    try simp only [kb] at g4
    refine Tr.cond_t rfl h4 ?_
    refine Tr.seq ?_
    refine Tr.region ?_
    refine Run.val (lt rfl) (Y.move rfl) ?_
    refine Run.val (lt rfl) (Y.move rfl) ?_
    refine Run.val (lt rfl) (Y.move rfl) ?_
    refine Run.val (lt rfl) (Y.add rfl rfl (by omega)) ?_
    refine Run.val (lt rfl) (Y.fieldAddr rfl Pool_fo28_0) ?_
    refine Run.val (lt rfl) (Y.load rfl Pool_ts22 (Kn.at 0 rfl) rfl) ?_
    refine Run.call0 (l := [.tmp 37, .tmp 39]) rfl rfl rfl (lt rfl) rpart_h ?_
    refine Run.val (lt rfl) (Y.sub rfl rfl (by omega)) ?_
    refine Run.val (lt rfl) (Y.max2 rfl rfl) ?_
    refine Run.val (lt rfl) (Y.move rfl) ?_
    refine Run.val (lt rfl) (Y.min2 rfl rfl) ?_
    refine Run.val (lt rfl) (Y.assign rfl) ?_
    refine Run.to_end ?_
    refine Ex.go ?_
    refine Tr.to_ret ?_
    refine Ex.ret_block ?_
    refine Ex.ret_then ?_
    refine Ex.keep [] ?_
    exact Ex.ret1 rfl rfl  ⟨by rw [show Fl.gives id free backup y s = _ from (if_pos ((Fl.rgives_gt free backup y s).symm.trans h2)).trans ((if_neg g3).trans ((if_pos g4).trans (Fl.rmin_eq free backup y)))], rfl, rfl⟩
   ·have g4 := h4
    try simp only [kb] at g4
    refine Tr.cond_f rfl h4 ?_
    refine Tr.to_end ?_
    refine Ex.end_block ?_
    refine Ex.go ?_
    refine Tr.seq ?_
    refine Tr.region ?_
    refine Run.val (lt rfl) (Y.assign rfl) ?_
    refine Run.to_end ?_
    refine Ex.go ?_
    refine Tr.to_ret ?_
    refine Ex.keep [] ?_
    exact Ex.ret1 rfl rfl  ⟨by rw [show Fl.gives id free backup y s = _ from (if_pos ((Fl.rgives_gt free backup y s).symm.trans h2)).trans ((if_neg g3).trans (if_neg g4))], rfl, rfl⟩
 ·have g2 := h2
  try simp only [kb] at g2
  refine Tr.cond_t rfl (congrArg Bool.not h2) ?_
  refine Tr.seq ?_
  refine Tr.region ?_
  refine Run.val (lt rfl) (Y.assign rfl) ?_
  refine Run.to_end ?_
  refine Ex.go ?_
  refine Tr.to_ret ?_
  refine Ex.ret_then ?_
  refine Ex.keep [] ?_
  exact Ex.ret1 rfl rfl  ⟨by rw [show Fl.gives id free backup y s = _ from if_neg (by rw [((Fl.rgives_gt free backup y s).symm.trans h2)]; decide)], rfl, rfl⟩

theorem rgives_h {id free backup : Int} {y s : Nat} {V : Vw} {H : Hp} : Does Try.prog 63 [.agg #[.float .f64 y, .float .f64 s], .int .i64 id, .int .i64 free, .int .i64 backup] V H (Pv (.int .i64 (Fl.gives id free backup y s)) V H) := rgives_c.frame
end Go.Proofs.Ytjfacdepgkdoeaa
