/- What a client, and the reference of one, do.
Conditions: as each theorem names them. -/
import Derived.Test.YtfgblingojgafaaGreatSortnum
import Derived.Test.YtfgblingojgafaaGreatProg
import Derived.Test.YtfgblingojgafaaGreatTC
import Derived.Test.YtfgblingojgafaaGreatTimes
import Derived.Test.YtfgblingojgafaaGreatKI
set_option linter.unusedSimpArgs false
set_option linter.unusedVariables false
set_option maxRecDepth 4000
namespace Go.Proofs.YtfgblingojgafaaGreat
open Go Go.K
attribute [local irreducible] Code.wp wpList Calls wpQuiet
theorem moment_c {n : Int} {V : Vw} : Does Tryz.prog 73 [.int .i64 n] V [] (Pv (.bool (Con.moment n)) V []) := by
 refine Does.intro Tryz.func73 rfl rfl (le rfl) (fun B => ?_)
 refine Zs<|Zr<|Za Z<|Ze<|Zg<|Zs<|Zr<|Zm Z<|Zv (Y.int Z Z Z)<|Zm Z<|?_
 refine Zq (decide (n >= 0)) (fun h1 g1 => ?_) fun h1 g1 => ?_
 ·refine Zp h1<|Zm Z<|Zp h1<|Zv (Y.int Z Z Z)<|Zv (Y.pick_t Z h1 Z)<|Za Z<|Ze<|Zg<|Zu<|?_
  exact Ex.ret1 rfl rfl  ⟨by unfold Con.moment; simp_all <;> omega,rfl,rfl⟩
 refine Zo h1 Z<|Zo h1 Z<|Zv (Y.pick_f Z h1 Z)<|Za Z<|Ze<|Zg<|Zu<|?_
 exact Ex.ret1 rfl rfl  ⟨by unfold Con.moment; simp_all <;> omega,rfl,rfl⟩
theorem moment_c_h {n : Int} {V : Vw} {H : Hp} : Does Tryz.prog 73 [.int .i64 n] V H (Pv (.bool (Con.moment n)) V H) := moment_c.frame
theorem hold_c {V : Vw} {H : Hp} {bc : Nat} {c : Cli} {hv : Value}  (hk : Kn V H bc (.cells (Cli.cells c hv) 116 (0,0)))  : Does Tryz.prog 83 [(pZ bc)] V H (Pv (.bool (Cli.holding c)) V H) := by
 refine Does.intro Tryz.func83 rfl rfl (le rfl) (fun B => ?_)
 refine Zs<|Zr<|Za Z<|Ze<|Zg<|Zs<|Zr<|Zm Z<|Zv (Y.nilCheck Z)<|Zv (Y.fieldAddr Z xfo116_2)<|Zv (Y.load Z xts3 hk Z)<|Zv (Y.int Z Z Z)<|Zm Z<|?_
 refine Zq (decide (c.state >= 3)) (fun h1 g1 => ?_) fun h1 g1 => ?_
 ·refine Zp h1<|Zm Z<|Zp h1<|Zv (Y.nilCheck Z)<|Zp h1<|Zv (Y.fieldAddr Z xfo116_2)<|Zp h1<|Zv (Y.load Z xts3 hk Z)<|Zp h1<|Zv (Y.int Z Z Z)<|Zv (Y.pick_t Z h1 Z)<|Za Z<|Ze<|Zg<|Zu<|?_
  exact Ex.ret1 rfl rfl  ⟨congrArg Value.bool (by by_cases hx : 3 <= c.state /\ c.state <= 5; rw [Cli.hold_y hx]; simp; omega; rw [Cli.hold_n hx]; simp; omega),rfl,rfl⟩
 refine Zo h1 Z<|Zo h1 Z<|Zo h1 Z<|Zo h1 Z<|Zo h1 Z<|Zv (Y.pick_f Z h1 Z)<|Za Z<|Ze<|Zg<|Zu<|?_
 exact Ex.ret1 rfl rfl  ⟨congrArg Value.bool (Cli.hold_n W).symm,rfl,rfl⟩
theorem ask_c {V : Vw} {H : Hp} {bc : Nat} {c : Cli} {hv : Value}  (hk : Kn V H bc (.cells (Cli.cells c hv) 116 (0,0)))  : Does Tryz.prog 82 [(pZ bc)] V H (Pv (.bool (Cli.asking c)) V H) := by
 refine Does.intro Tryz.func82 rfl rfl (le rfl) (fun B => ?_)
 refine Zs<|Zr<|Za Z<|Ze<|Zg<|Zs<|Zr<|Zm Z<|Zv (Y.nilCheck Z)<|Zv (Y.fieldAddr Z xfo116_2)<|Zv (Y.load Z xts3 hk Z)<|Zv (Y.int Z Z Z)<|Zm Z<|?_
 refine Zq (c.state == 2) (fun h1 g1 => ?_) fun h1 g1 => ?_
 ·refine Zo h1 Z<|Zo h1 Z<|Zo h1 Z<|Zo h1 Z<|Zo h1 Z<|Zv (Y.pick_t Z h1 Z)<|Zm Z<|Zo Z Z<|Zo Z Z<|Zo Z Z<|Zo Z Z<|Zo Z Z<|Zv (Y.pick_t Z Z Z)<|Za Z<|Ze<|Zg<|?_
  refine Zu ?_
  exact Ex.ret1 rfl rfl  ⟨congrArg Value.bool (by unfold Cli.asking; simp only [h1,Bool.true_and,Bool.false_and,Bool.true_or,Bool.false_or,Bool.and_true,Bool.and_false,Bool.or_true,Bool.or_false,Bool.not_true,Bool.not_false]),rfl,rfl⟩
 refine Zp h1<|Zm Z<|Zp h1<|Zv (Y.nilCheck Z)<|Zp h1<|Zv (Y.fieldAddr Z xfo116_2)<|Zp h1<|Zv (Y.load Z xts3 hk Z)<|Zp h1<|Zv (Y.int Z Z Z)<|Zv (Y.pick_f Z h1 Z)<|Zm Z<|?_
 refine Zq (c.state == 4) (fun h2 g2 => ?_) fun h2 g2 => ?_
 ·refine Zo h2 Z<|Zo h2 Z<|Zo h2 Z<|Zo h2 Z<|Zo h2 Z<|Zv (Y.pick_t Z h2 Z)<|Za Z<|Ze<|Zg<|Zu<|?_
  exact Ex.ret1 rfl rfl  ⟨congrArg Value.bool (by unfold Cli.asking; simp only [h1,h2,Bool.true_and,Bool.false_and,Bool.true_or,Bool.false_or,Bool.and_true,Bool.and_false,Bool.or_true,Bool.or_false,Bool.not_true,Bool.not_false]),rfl,rfl⟩
 refine Zp h2<|Zm Z<|Zp h2<|Zv (Y.nilCheck Z)<|Zp h2<|Zv (Y.fieldAddr Z xfo116_2)<|Zp h2<|Zv (Y.load Z xts3 hk Z)<|Zp h2<|Zv (Y.int Z Z Z)<|Zv (Y.pick_f Z h2 Z)<|Za Z<|Ze<|Zg<|Zu<|?_
 exact Ex.ret1 rfl rfl  ⟨congrArg Value.bool (by unfold Cli.asking; simp only [h1,h2,Bool.true_and,Bool.false_and,Bool.true_or,Bool.false_or,Bool.and_true,Bool.and_false,Bool.or_true,Bool.or_false,Bool.not_true,Bool.not_false]),rfl,rfl⟩
theorem cuntil_c {V : Vw} {H : Hp} {bc : Nat} {c : Cli} {hv : Value}  (hk : Kn V H bc (.cells (Cli.cells c hv) 116 (0,0)))  : Does Tryz.prog 33 [(pZ bc)] V H (Pv (.int .i64 (Cli.until0 c)) V H) := by
 refine Does.intro Tryz.func33 rfl rfl (le rfl) (fun B => ?_)
 refine Zs<|Zr<|Za Z<|Ze<|Zg<|Zs<|Zs<|Zr<|Zm Z<|Yc Z Z Z (hold_c (c := c) hk)<|Zv (Y.not Z)<|Ze<|Zg<|?_
 refine Zq (Cli.holding c) (fun h1 g1 => ?_) fun h1 g1 => ?_
 ·refine Tr.cond_f Z (congrArg Bool.not h1)<|Zt<|Zg<|Zs<|Zr<|Zm Z<|Zv (Y.nilCheck Z)<|Zv (Y.fieldAddr Z xfo116_6)<|Zv (Y.load Z xts3 hk Z)<|Za Z<|Ze<|Zg<|Zu<|?_
  exact Ex.ret1 rfl rfl  ⟨congrArg (Value.int _) (by unfold Cli.until0; rw [h1]; rfl),rfl,rfl⟩
 refine Tr.cond_t Z (congrArg Bool.not h1)<|Zs<|Zr<|Za Z<|Ze<|Zg<|Zu<|Zn<|?_
 exact Ex.ret1 rfl rfl  ⟨congrArg (Value.int _) (by unfold Cli.until0; rw [h1]; rfl),rfl,rfl⟩
theorem state_c {V : Vw} {H : Hp} {bc : Nat} {c : Cli} {hv : Value}  (hk : Kn V H bc (.cells (Cli.cells c hv) 116 (0,0)))  : Does Tryz.prog 69 [(pZ bc)] V H (Pv (.int .i64 c.state) V H) := by
 refine Does.intro Tryz.func69 rfl rfl (le rfl) (fun B => ?_)
 refine Zs<|Zr<|Za Z<|Ze<|Zg<|Zs<|Zr<|Zm Z<|Zv (Y.nilCheck Z)<|Zv (Y.fieldAddr Z xfo116_2)<|Zv (Y.load Z xts3 hk Z)<|Za Z<|Ze<|Zg<|Zu<|?_
 exact Ex.ret1 rfl rfl  ⟨rfl,rfl,rfl⟩
theorem addr_c {V : Vw} {H : Hp} {bc : Nat} {c : Cli} {hv : Value}  (hk : Kn V H bc (.cells (Cli.cells c hv) 116 (0,0)))  : Does Tryz.prog 32 [(pZ bc)] V H (Pv (.int .u32 c.addr) V H) := by
 refine Does.intro Tryz.func32 rfl rfl (le rfl) (fun B => ?_)
 refine Zs<|Zr<|Za Z<|Ze<|Zg<|Zs<|Zr<|Zm Z<|Zv (Y.nilCheck Z)<|Zv (Y.fieldAddr Z xfo116_4)<|Zv (Y.load Z xts24 hk Z)<|Za Z<|Ze<|Zg<|Zu<|?_
 exact Ex.ret1 rfl rfl  ⟨rfl,rfl,rfl⟩
theorem drop_c {V : Vw} {bc : Nat} {c : Cli} {hv : Value} {s : Int}   : Does Tryz.prog 84 [(pZ bc),.int .i64 s] V [[(bc,.cells (Cli.cells c hv) 116 (0,0))]] (fun u V' H' => V' = V /\ u = .tuple #[] /\ H' = [[(bc,.cells (Cli.cells (Cli.drop c s) hv) 116 (0,0))]]) := by
 refine Does.intro Tryz.func84 rfl rfl (le rfl) (fun B => ?_)
 refine Zr<|Zm Z<|Zm Z<|Zm Z<|Zm Z<|Zv (Y.nilCheck Z)<|Zv (Y.fieldAddr Z xfo116_2)<|Run.store (s := [(bc,.cells #[.string c.name,hv,.int .i64 s,.int .u32 c.xid,.int .u32 c.addr,.int .u32 c.server,.int .i64 c.until_,.int .i64 c.one,.int .i64 c.two,.bool c.due,.int .i64 c.tries,.int .i64 c.said,.int .i64 c.asks] 116 (0,0))]) Z Z xsz3 (i := 0) Z Z (le Z) Z Z<|Zv (Y.nilCheck Z)<|Zv (Y.fieldAddr Z xfo116_4)<|?_
 refine Run.store (s := [(bc,.cells #[.string c.name,hv,.int .i64 s,.int .u32 c.xid,.int .u32 0,.int .u32 c.server,.int .i64 c.until_,.int .i64 c.one,.int .i64 c.two,.bool c.due,.int .i64 c.tries,.int .i64 c.said,.int .i64 c.asks] 116 (0,0))]) Z Z xsz24 (i := 0) Z Z (le Z) Z Z<|Zv (Y.nilCheck Z)<|Zv (Y.fieldAddr Z xfo116_5)<|Run.store (s := [(bc,.cells #[.string c.name,hv,.int .i64 s,.int .u32 c.xid,.int .u32 0,.int .u32 0,.int .i64 c.until_,.int .i64 c.one,.int .i64 c.two,.bool c.due,.int .i64 c.tries,.int .i64 c.said,.int .i64 c.asks] 116 (0,0))]) Z Z xsz24 (i := 0) Z Z (le Z) Z Z<|?_
 refine Ze<|Ex.keep [0]<|?_
 exact Ex.end0 rfl ⟨rfl,rfl,rfl⟩
theorem speak_c {V : Vw} {bc : Nat} {c : Cli} {hv : Value} {s : Int}   : Does Tryz.prog 81 [(pZ bc),.int .i64 s] V [[(bc,.cells (Cli.cells c hv) 116 (0,0))]] (fun u V' H' => V' = V /\ u = .tuple #[] /\ H' = [[(bc,.cells (Cli.cells (Cli.speak c s) hv) 116 (0,0))]]) := by
 refine Does.intro Tryz.func81 rfl rfl (le rfl) (fun B => ?_)
 refine Zs<|Zr<|Zm Z<|Zm Z<|Zv (Y.nilCheck Z)<|Zv (Y.fieldAddr Z xfo116_2)<|Run.store (s := [(bc,.cells #[.string c.name,hv,.int .i64 s,.int .u32 c.xid,.int .u32 c.addr,.int .u32 c.server,.int .i64 c.until_,.int .i64 c.one,.int .i64 c.two,.bool c.due,.int .i64 c.tries,.int .i64 c.said,.int .i64 c.asks] 116 (0,0))]) Z Z xsz3 (i := 0) Z Z (le Z) Z Z<|Ze<|Zg<|Zr<|Zm Z<|Zm Z<|Zv (Y.nilCheck Z)<|Zv (Y.fieldAddr Z xfo116_10)<|?_
 refine Run.store (s := [(bc,.cells #[.string c.name,hv,.int .i64 s,.int .u32 c.xid,.int .u32 c.addr,.int .u32 c.server,.int .i64 c.until_,.int .i64 c.one,.int .i64 c.two,.bool c.due,.int .i64 0,.int .i64 c.said,.int .i64 c.asks] 116 (0,0))]) Z Z xsz3 (i := 0) Z Z (le Z) Z Z<|Zv (Y.nilCheck Z)<|Zv (Y.fieldAddr Z xfo116_9)<|Run.store (s := [(bc,.cells #[.string c.name,hv,.int .i64 s,.int .u32 c.xid,.int .u32 c.addr,.int .u32 c.server,.int .i64 c.until_,.int .i64 c.one,.int .i64 c.two,.bool true,.int .i64 0,.int .i64 c.said,.int .i64 c.asks] 116 (0,0))]) Z Z xsz4 (i := 0) Z Z (le Z) Z Z<|?_
 refine Ze<|Ex.keep [0]<|?_
 exact Ex.end0 rfl ⟨rfl,rfl,rfl⟩
theorem anew_c {V : Vw} {bc : Nat} {c : Cli} {hv : Value}    : Does Tryz.prog 135 [(pZ bc)] V [[(bc,.cells (Cli.cells c hv) 116 (0,0))]] (fun u V' H' => V' = V /\ u = .tuple #[] /\ H' = [[(bc,.cells (Cli.cells (Cli.anew c) hv) 116 (0,0))]]) := by
 refine Does.intro Tryz.func135 rfl rfl (le rfl) (fun B => ?_)
 refine Zs<|Zr<|Zm Z<|?_
 refine Yk [0] Z Z Z (drop_c (c := c)) (fun v1 V2 H2 _ hR => ?_)
 obtain ⟨hV,rfl,rfl⟩ := hR; replace hV := hV.symm; subst hV
 refine Ze<|Zg<|Zs<|Zr<|Zm Z<|Zv (Y.nilCheck Z)<|Zv (Y.fieldAddr Z xfo116_3)<|Zv (Y.load Z xts23 (Kn.at 0 Z) Z)<|Zv (Y.int (r := .int .u32 (((Cli.drop c 1).xid + 1) % 4294967296)) rfl rfl (by simp only [intRes]; rw [Cli.wrap_u32m]))<|Zv (Y.nilCheck Z)<|Zv (Y.fieldAddr Z xfo116_3)<|Run.store (s := [(bc,.cells #[.string ((Cli.drop c 1).name),hv,.int .i64 ((Cli.drop c 1).state),.int .u32 (((Cli.drop c 1).xid + 1) % 4294967296),.int .u32 ((Cli.drop c 1).addr),.int .u32 ((Cli.drop c 1).server),.int .i64 ((Cli.drop c 1).until_),.int .i64 ((Cli.drop c 1).one),.int .i64 ((Cli.drop c 1).two),.bool ((Cli.drop c 1).due),.int .i64 ((Cli.drop c 1).tries),.int .i64 ((Cli.drop c 1).said),.int .i64 ((Cli.drop c 1).asks)] 116 (0,0))]) Z Z xsz23 (i := 0) Z Z (le Z) Z Z<|?_
 refine Ze<|Zg<|Zr<|Zm Z<|?_
 refine Yk [0] Z Z Z (speak_c (c := (⟨(Cli.drop c 1).name,(Cli.drop c 1).hw,(Cli.drop c 1).state,((Cli.drop c 1).xid + 1) % 4294967296,(Cli.drop c 1).addr,(Cli.drop c 1).server,(Cli.drop c 1).until_,(Cli.drop c 1).one,(Cli.drop c 1).two,(Cli.drop c 1).due,(Cli.drop c 1).tries,(Cli.drop c 1).said,(Cli.drop c 1).asks⟩ : Cli))) (fun v2 V2 H2 _ hR => ?_)
 obtain ⟨hV,rfl,rfl⟩ := hR; replace hV := hV.symm; subst hV
 refine Ze<|Ex.keep [0]<|?_
 exact Ex.end0 rfl ⟨rfl,rfl,rfl⟩
end Go.Proofs.YtfgblingojgafaaGreat
namespace Go.Proofs.YtfgblingojgafaaGreat
open Go Go.K
attribute [local irreducible] Code.wp wpList Calls wpQuiet
theorem new_c_y {V : Vw} {s : ByteArray} {hw : List UInt8} {pb : Option Addr} {cb : Nat} (hvb : Rd V [] 1 (.slice pb hw.length cb) hw.length (hw.map byteV)) (hf : Cli.fine s hw)  : Does Tryz.prog 27 [.string s,.slice pb hw.length cb] V [] (fun u V' H' => V.le V' /\ ∃ b hv,u = .tuple #[(pZ b),.int .i64 0] /\ H' = [[(b,.cells (Cli.cells (Cli.new s hw) hv) 116 (0,0))]] /\ Rd V' [] 1 hv hw.length (hw.map byteV)) := by
 have hf2 := hf
 unfold Cli.fine at hf2
 refine Does.intro Tryz.func27 rfl rfl (le rfl) (fun B => ?_)
 refine Zs<|Zr<|Za Z<|Za Z<|Ze<|Zg<|Zs<|Zs<|Zr<|Zm Z<|Zv (Y.eqStr Z Z)<|Zm Z<|Zp (of_size hf.1)<|Zm Z<|Zp (of_size hf.1)<|Zv (Y.lenStr Z xst9)<|?_
 refine Zp (of_size hf.1)<|Zv (Y.int Z Z Z)<|Zv (Y.pick_f Z (of_size hf.1) Z)<|Zm Z<|?_
 refine Zq (decide ((s.size : Int) > 32)) (fun h1 g1 => ?_) fun h1 g1 => ?_
 ·refine Zo h1 Z<|Zo h1 Z<|Zo h1 Z<|Zv (Y.pick_t Z h1 Z)<|Zm Z<|Zo Z Z<|Zo Z Z<|Zo Z Z<|Zv (Y.pick_t Z Z Z)<|Ze<|Zg<|Tr.cond_t Z Z<|Zs<|Zr<|Za Z<|Za Z<|?_
  refine Ze<|Zg<|Zu<|Zn<|Ex.keep []<|?_
  exact Ex.ret2 rfl rfl rfl  (absurd hf (by unfold Cli.fine; omega))
 refine Zp h1<|Zm Z<|Zp h1<|Zv (Y.lenSl Z xes25)<|Zp h1<|Zv (Y.int Z Z Z)<|Zv (Y.pick_f Z h1 Z)<|Zm Z<|?_
 refine Zq (decide (((hw.length : Nat) : Int) < 1)) (fun h2 g2 => ?_) fun h2 g2 => ?_
 ·refine Zo h2 Z<|Zo h2 Z<|Zo h2 Z<|Zv (Y.pick_t Z h2 Z)<|Ze<|Zg<|Tr.cond_t Z Z<|Zs<|Zr<|Za Z<|Za Z<|Ze<|Zg<|Zu<|Zn<|Ex.keep []<|?_
  exact Ex.ret2 rfl rfl rfl  (absurd hf (by unfold Cli.fine; omega))
 refine Zp h2<|Zm Z<|Zp h2<|Zv (Y.lenSl Z xes25)<|Zp h2<|Zv (Y.int Z Z Z)<|Zv (Y.pick_f Z h2 Z)<|Ze<|Zg<|?_
 refine Zq (decide (((hw.length : Nat) : Int) > 16)) (fun h3 g3 => ?_) fun h3 g3 => ?_
 ·refine Tr.cond_t Z h3<|Zs<|Zr<|Za Z<|Za Z<|Ze<|Zg<|Zu<|Zn<|Ex.keep []<|?_
  exact Ex.ret2 rfl rfl rfl  (absurd hf (by unfold Cli.fine; omega))
 refine Tr.cond_f Z h3<|Zt<|Zg<|Zs<|Zr<|Zm Z<|Zm Z<|?_
 refine Yk [] Z Z Z (clone_h hvb W) (fun v4 V2 H2 _ hR => ?_)
 obtain ⟨hV,s5,rfl,ho6⟩ := hR; replace hV := hV.symm; subst hV; obtain ⟨p7,c8,rfl⟩ := ho6.form
 refine Zv (Y.buildS (l := [(0,.tmp 23),(1,.tmp 25)]) xzo116 xpl116 Z Z) ?_
 refine Run.box rfl (lt rfl) (fun b9 => ?_)
 refine Za Z<|Za Z<|Ze<|Zg<|Zu<|Ex.keepTo (H' := [s5,[(b9,.cells #[.string s,.slice p7 hw.length c8,.int .i64 0,.int .u32 0,.int .u32 0,.int .u32 0,.int .i64 0,.int .i64 0,.int .i64 0,.bool false,.int .i64 0,.int .i64 0,.int .i64 0] 116 (0,0))]]) [1,0] Z<|?_
 refine Ex.show (fun V10 hleV10 hshV10 => ?_)
 have hvs := ho6.shows _ hshV10
 have hVle := hleV10
 refine Ex.keep [0] ?_
 exact Ex.ret2 rfl rfl rfl  ⟨hVle,_,_,rfl,rfl,by have h := hvs; simpa using h⟩
theorem new_c_n {V : Vw} {s : ByteArray} {hw : List UInt8} {pb : Option Addr} {cb : Nat} (hvb : Rd V [] 1 (.slice pb hw.length cb) hw.length (hw.map byteV)) (hf : ¬ Cli.fine s hw)  : Does Tryz.prog 27 [.string s,.slice pb hw.length cb] V [] (Pv (.tuple #[.pointer none,.int .i64 1]) V []) := by
 refine Does.intro Tryz.func27 rfl rfl (le rfl) (fun B => ?_)
 refine Zs<|Zr<|Za Z<|Za Z<|Ze<|Zg<|Zs<|Zs<|Zr<|Zm Z<|Zv (Y.eqStr Z Z)<|Zm Z<|?_
 refine Zq (s.toList == (⟨#[]⟩ : ByteArray).toList) (fun h1 g1 => ?_) fun h1 g1 => ?_
 ·refine Zo h1 Z<|Zo h1 Z<|Zo h1 Z<|Zv (Y.pick_t Z h1 Z)<|Zm Z<|Zo Z Z<|Zo Z Z<|Zo Z Z<|Zv (Y.pick_t Z Z Z)<|Zm Z<|Zo Z Z<|Zo Z Z<|Zo Z Z<|Zv (Y.pick_t Z Z Z)<|Ze<|Zg<|?_
  refine Tr.cond_t Z Z<|Zs<|Zr<|Za Z<|Za Z<|Ze<|Zg<|Zu<|Zn<|Ex.keep []<|?_
  exact Ex.ret2 rfl rfl rfl  ⟨rfl,rfl,rfl⟩
 refine Zp h1<|Zm Z<|Zp h1<|Zv (Y.lenStr Z xst9)<|Zp h1<|Zv (Y.int Z Z Z)<|Zv (Y.pick_f Z h1 Z)<|Zm Z<|?_
 refine Zq (decide ((s.size : Int) > 32)) (fun h2 g2 => ?_) fun h2 g2 => ?_
 ·refine Zo h2 Z<|Zo h2 Z<|Zo h2 Z<|Zv (Y.pick_t Z h2 Z)<|Zm Z<|Zo Z Z<|Zo Z Z<|Zo Z Z<|Zv (Y.pick_t Z Z Z)<|Ze<|Zg<|Tr.cond_t Z Z<|Zs<|Zr<|Za Z<|Za Z<|?_
  refine Ze<|Zg<|Zu<|Zn<|Ex.keep []<|?_
  exact Ex.ret2 rfl rfl rfl  ⟨rfl,rfl,rfl⟩
 refine Zp h2<|Zm Z<|Zp h2<|Zv (Y.lenSl Z xes25)<|Zp h2<|Zv (Y.int Z Z Z)<|Zv (Y.pick_f Z h2 Z)<|Zm Z<|?_
 refine Zq (decide (((hw.length : Nat) : Int) < 1)) (fun h3 g3 => ?_) fun h3 g3 => ?_
 ·refine Zo h3 Z<|Zo h3 Z<|Zo h3 Z<|Zv (Y.pick_t Z h3 Z)<|Ze<|Zg<|Tr.cond_t Z Z<|Zs<|Zr<|Za Z<|Za Z<|Ze<|Zg<|Zu<|Zn<|Ex.keep []<|?_
  exact Ex.ret2 rfl rfl rfl  ⟨rfl,rfl,rfl⟩
 refine Zp h3<|Zm Z<|Zp h3<|Zv (Y.lenSl Z xes25)<|Zp h3<|Zv (Y.int Z Z Z)<|Zv (Y.pick_f Z h3 Z)<|Ze<|Zg<|?_
 refine Zq (decide (((hw.length : Nat) : Int) > 16)) (fun h4 g4 => ?_) fun h4 g4 => ?_
 ·refine Tr.cond_t Z h4<|Zs<|Zr<|Za Z<|Za Z<|Ze<|Zg<|Zu<|Zn<|Ex.keep []<|?_
  exact Ex.ret2 rfl rfl rfl  ⟨rfl,rfl,rfl⟩
 refine Tr.cond_f Z h4<|Zt<|Zg<|Zs<|Zr<|Zm Z<|Zm Z<|?_
 refine Yk [] Z Z Z (clone_h hvb W) (fun v5 V2 H2 _ hR => ?_)
 obtain ⟨hV,s6,rfl,ho7⟩ := hR; replace hV := hV.symm; subst hV; obtain ⟨p8,c9,rfl⟩ := ho7.form
 refine Zv (Y.buildS (l := [(0,.tmp 23),(1,.tmp 25)]) xzo116 xpl116 Z Z) ?_
 refine Run.box rfl (lt rfl) (fun b10 => ?_)
 refine Za Z<|Za Z<|Ze<|Zg<|Zu<|Ex.keep []<|?_
 exact Ex.ret2 rfl rfl rfl  (absurd (show Cli.fine s hw from ⟨ne_empty (by assumption),by omega,by omega,by omega⟩) hf)
theorem new_c_h {V : Vw} {s : ByteArray} {v : Value} {hw : List UInt8} (hv : Rd V [] 1 v hw.length (hw.map byteV)) (hf : Cli.fine s hw) : Does Tryz.prog 27 [.string s,v] V [] (fun u V' H' => V.le V' /\ ∃ b hv,u = .tuple #[(pZ b),.int .i64 0] /\ H' = [[(b,.cells (Cli.cells (Cli.new s hw) hv) 116 (0,0))]] /\ Rd V' [] 1 hv hw.length (hw.map byteV)) := by
  obtain ⟨p,c,rfl,_⟩ := hv.form
  exact new_c_y hv hf
theorem new_c_hn {V : Vw} {s : ByteArray} {v : Value} {hw : List UInt8} (hv : Rd V [] 1 v hw.length (hw.map byteV)) (hf : ¬ Cli.fine s hw) : Does Tryz.prog 27 [.string s,v] V [] (Pv (.tuple #[.pointer none,.int .i64 1]) V []) := by
  obtain ⟨p,c,rfl,_⟩ := hv.form
  exact new_c_n hv hf
theorem put_c {V : Vw} {bp bl n k e1 f1 e2 f2 : Nat} {po r1 r2 : Option Addr} {q : Sg} {xs : List Value} {a1 a2 : Int} {x0 x1 x2 x3 x4 x5 x6 x7 x8 : Value} (ho : Ow 81 2 (.slice po n k) n xs q) (hn : n <= 100)  : Does Tryz.prog 76 [(pZ bp),.slice (some ⟨bl,0,none⟩) 2 2] V [[(bp,.cells #[x0,x1,x2,x3,x4,x5,x6,x7,x8,.slice po n k] 28 (0,0))],q,[(bl,.cells #[.int .i64 a1,.slice r1 e1 f1,.int .i64 a2,.slice r2 e2 f2] 81 (0,0))]] (fun u V' H' => V' = V /\ u = .tuple #[] /\ ∃ po' k' q',H' = [[(bp,.cells #[x0,x1,x2,x3,x4,x5,x6,x7,x8,.slice po' (n + 2) k'] 28 (0,0))],q'] /\ Ow 81 2 (.slice po' (n + 2) k') (n + 2) (xs ++ [.int .i64 a1,.slice r1 e1 f1,.int .i64 a2,.slice r2 e2 f2]) q') := by
 refine Does.intro Tryz.func76 rfl rfl (le rfl) (fun B => ?_)
 refine Zr<|Zm Z<|Zm Z<|Zv (Y.nilCheck Z)<|Zv (Y.fieldAddr Z xfo28_9)<|Zv (Y.load Z xts26 (Kn.at 0 Z) Z)<|Zm Z<|?_
 refine Run.append (n := n) (m := 2) (xs := xs) (ys := [.int .i64 a1,.slice r1 e1 f1,.int .i64 a2,.slice r2 e2 f2]) rfl rfl xes26 xzi81 WD (j := 1) rfl ho (Src.of_rd xes26 (Rd.one (Kn.at 2 rfl) rfl)) W W rfl (lt rfl) (fun v1 s2 ho3 hf => ?_)
 obtain ⟨p1,c1,rfl⟩ := hf
 refine Zv (Y.nilCheck Z)<|Zv (Y.fieldAddr Z xfo28_9)<|Run.store (s := [(bp,.cells #[x0,x1,x2,x3,x4,x5,x6,x7,x8,.slice p1 (n + 2) c1] 28 (0,0))]) Z Z xsz26 (i := 0) Z Z (le Z) Z Z<|Ze<|Ex.keep [0,0]<|?_
 exact Ex.end0 rfl ⟨rfl,rfl,p1,c1,s2,rfl,ho3⟩
set_option maxHeartbeats 400000 in
theorem says_c {V : Vw} {bc : Nat} {c : Cli} {ph : Option Addr} {ch : Nat} {kind : Int} (hh : Rd V [] 1 (.slice ph c.hw.length ch) c.hw.length (c.hw.map byteV)) (hl : c.hw.length <= 16)  : Does Tryz.prog 75 [(pZ bc),.int .i64 kind] V [[(bc,.cells (Cli.cells c (.slice ph c.hw.length ch)) 116 (0,0))]] (fun u V' H' => V.le V' /\ ∃ q,H' = [[(bc,.cells (Cli.cells c (.slice ph c.hw.length ch)) 116 (0,0))],q] /\ Cli.Said 81 V' c kind u q) := by
 refine Does.intro Tryz.func75 rfl rfl (le rfl) (fun B => ?_)
 refine Zs<|Zr<|?_
 refine Run.alloc xzo28 (lt rfl) (fun b1 => ?_)
 refine Ze<|Zg<|Zs<|Tr.anyL [(bc,.cells #[.string c.name,.slice ph c.hw.length ch,.int .i64 c.state,.int .u32 c.xid,.int .u32 c.addr,.int .u32 c.server,.int .i64 c.until_,.int .i64 c.one,.int .i64 c.two,.bool c.due,.int .i64 c.tries,.int .i64 c.said,.int .i64 c.asks] 116 (0,0))] 11 xmo<|Zh 0 Z (fun _ => (Y.move rfl))<|Zh 1 Z (fun _ => (Y.nilCheck rfl))<|Zh 2 Z (fun _ => (Y.fieldAddr rfl xfo116_3))<|?_
 refine ZH 3 0 Z Z (fun _ => (Y.load rfl xts23 Kn.vk1 rfl))<|Zh 4 Z (fun _ => (Y.move rfl))<|Zh 5 Z (fun _ => (Y.nilCheck rfl))<|Zh 6 Z (fun _ => (Y.fieldAddr rfl xfo116_1))<|ZH 7 0 Z Z (fun _ => (Y.load rfl xts25 Kn.vk1 rfl))<|?_
 refine RunL.two (i := 8) (j := 10) WK rfl rfl  ?_ ?_
 ·refine Yk [] Z Z Z (clone_h hh W) (fun v2 V2 H2 _ hR => ?_)
  obtain ⟨hV,s3,rfl,ho4⟩ := hR; replace hV := hV.symm; subst hV; obtain ⟨p5,c6,rfl⟩ := ho4.form
  refine Ze<|ZF<|Zh 9 Z (fun _ => (Y.buildS (l := [(0,.const (.int .i64 1)),(1,.tmp 9),(8,.tmp 14)]) xzo28 xpl28 rfl rfl))<|?_
  refine RunL.one (i := 10) WK rfl  ?_
  refine Run.alloc xzo28 (lt rfl) (fun b7 => ?_)
  refine Ze<|ZF<|?_
  refine RunL.one (i := 11) WK rfl  ?_
  refine Run.store (s := [(b7,.cells #[.int .i64 1,.int .u32 c.xid,.int .i64 0,.int .i64 0,.int .u32 0,.int .u32 0,.int .u32 0,.int .u32 0,.slice p5 c.hw.length c6,.slice none 0 0] 28 (0,0))]) Z Z xsz28 (i := 0) Z Z (le Z) Z Z<|Ze<|Ex.anyLz Z<|RunL.done WK<|Zg<|Zs<|Zr<|Zm Z<|Zv (Y.conv (kind % 256) Z xit3_5 (wrap_u8m _))<|?_
  refine Run.buildSlice (l := [(0,.tmp 17)]) xes25 xzo5 rfl WD rfl rfl WD (lt rfl) (fun b8 => ?_)
  refine Zv (Y.buildS (l := [(0,.const (.int .i64 53)),(1,.tmp 18)]) xzo81 xpl81 Z Z)<|Zm Z<|Zv (Y.nilCheck Z)<|Zv (Y.fieldAddr Z xfo116_0)<|Zv (Y.load Z xts9 (Kn.at 3 Z) Z)<|?_
  refine Run.strBytes (str := c.name) rfl xes25 xtg5 xst9 (lt rfl) (fun v9 s10 hsw11 hf => ?_)
  obtain ⟨p12,c13,rfl⟩ := hf
  refine Zv (Y.buildS (l := [(0,.const (.int .i64 61)),(1,.tmp 24)]) xzo81 xpl81 Z Z) ?_
  refine Run.buildSlice (l := [(0,.tmp 19),(1,.tmp 25)]) (r := [.int .i64 53,.slice (some ⟨b8,0,none⟩) 1 1,.int .i64 61,.slice p12 c.name.size c13]) xes26 xzo81 rfl WD rfl rfl WD (lt rfl) (fun b14 => ?_)
  refine Run.nilseg ?_
  refine Yk [4,0,0] Z Z Z (put_c (n := 0) (xs := []) (Ow.nil 81 2) W) (fun v15 V2 H2 _ hR => ?_)
  obtain ⟨hV,rfl,p16,c17,s18,rfl,ho19⟩ := hR; replace hV := hV.symm; subst hV
  refine Ze<|Zg<|Zs<|Zr<|Zv (Y.loadAgg Z xag28 (Kn.at 5 Z) Z)<|Run.store (s := [(b1,.cells #[.int .i64 1,.int .u32 c.xid,.int .i64 0,.int .i64 0,.int .u32 0,.int .u32 0,.int .u32 0,.int .u32 0,.slice p5 c.hw.length c6,.slice p16 (0 + 2) c17] 28 (0,0))]) Z Z xsz28 (i := 2) Z Z (le Z) Z Z<|Ze<|Zg<|Zu<|Ex.keepTo (H' := [s3,s10,[(b8,.cells #[.int .u8 (kind % 256)] 5 (0,0))],[(b1,.cells #[.int .i64 1,.int .u32 c.xid,.int .i64 0,.int .i64 0,.int .u32 0,.int .u32 0,.int .u32 0,.int .u32 0,.slice p5 c.hw.length c6,.slice p16 (0 + 2) c17] 28 (0,0))],[(bc,.cells #[.string c.name,.slice ph c.hw.length ch,.int .i64 c.state,.int .u32 c.xid,.int .u32 c.addr,.int .u32 c.server,.int .i64 c.until_,.int .i64 c.one,.int .i64 c.two,.bool c.due,.int .i64 c.tries,.int .i64 c.said,.int .i64 c.asks] 116 (0,0))],[(b7,.cells #[.int .i64 1,.int .u32 c.xid,.int .i64 0,.int .i64 0,.int .u32 0,.int .u32 0,.int .u32 0,.int .u32 0,.slice p5 c.hw.length c6,.slice p16 (0 + 2) c17] 28 (0,0))],s18]) [4,0,0,0,0,0,0] Z<|?_
  refine Ex.show (fun V20 hleV20 hshV20 => ?_)
  have hsh := ho4.shows _ hshV20
  have hVle := hleV20
  refine Ex.keepTo (H' := [[(b8,.cells #[.int .u8 (kind % 256)] 5 (0,0))],s10,[(b1,.cells #[.int .i64 1,.int .u32 c.xid,.int .i64 0,.int .i64 0,.int .u32 0,.int .u32 0,.int .u32 0,.int .u32 0,.slice p5 c.hw.length c6,.slice p16 (0 + 2) c17] 28 (0,0))],[(bc,.cells #[.string c.name,.slice ph c.hw.length ch,.int .i64 c.state,.int .u32 c.xid,.int .u32 c.addr,.int .u32 c.server,.int .i64 c.until_,.int .i64 c.one,.int .i64 c.two,.bool c.due,.int .i64 c.tries,.int .i64 c.said,.int .i64 c.asks] 116 (0,0))],[(b7,.cells #[.int .i64 1,.int .u32 c.xid,.int .i64 0,.int .i64 0,.int .u32 0,.int .u32 0,.int .u32 0,.int .u32 0,.slice p5 c.hw.length c6,.slice p16 (0 + 2) c17] 28 (0,0))],s18]) [1,0,0,0,0,0] Z ?_
  refine Ex.show (fun V21 hleV21 hshV21 => ?_)
  have hsd1 := (Ow.lit (e := 5) (k := 1) (b := b8) (n := 1) (cur := #[.int .u8 (kind % 256)]) rfl WD).shows _ hshV21
  replace hsh := hsh.le hleV21
  replace hVle := Vw.le_trans hVle hleV21
  refine Ex.keepTo (H' := [s10,[(b1,.cells #[.int .i64 1,.int .u32 c.xid,.int .i64 0,.int .i64 0,.int .u32 0,.int .u32 0,.int .u32 0,.int .u32 0,.slice p5 c.hw.length c6,.slice p16 (0 + 2) c17] 28 (0,0))],[(bc,.cells #[.string c.name,.slice ph c.hw.length ch,.int .i64 c.state,.int .u32 c.xid,.int .u32 c.addr,.int .u32 c.server,.int .i64 c.until_,.int .i64 c.one,.int .i64 c.two,.bool c.due,.int .i64 c.tries,.int .i64 c.said,.int .i64 c.asks] 116 (0,0))],[(b7,.cells #[.int .i64 1,.int .u32 c.xid,.int .i64 0,.int .i64 0,.int .u32 0,.int .u32 0,.int .u32 0,.int .u32 0,.slice p5 c.hw.length c6,.slice p16 (0 + 2) c17] 28 (0,0))],s18]) [0,0,0,0,0] Z ?_
  refine Ex.show (fun V22 hleV22 hshV22 => ?_)
  have hsd2 := hsw11 _ hshV22
  replace hsh := hsh.le hleV22
  replace hsd1 := hsd1.le hleV22
  replace hVle := Vw.le_trans hVle hleV22
  have hsO : Ow 81 2 (.slice p16 2 c17) 2 [.int .i64 53,.slice (some ⟨b8,0,none⟩) 1 1,.int .i64 61,.slice p12 c.name.size c13] s18 := ho19
  have hsH : Rd V22 [] 1 (.slice p5 c.hw.length c6) c.hw.length (c.hw.map byteV) := by have h := hsh; simpa using h
  have hsA : Rd V22 [] 1 (.slice (some ⟨b8,0,none⟩) 1 1) 1 [.int .u8 (kind % 256)] := hsd1
  have hsB : Rd V22 [] 1 (.slice p12 c.name.size c13) c.name.size (c.name.toList.map byteV) := hsd2
  exact Ex.retCell [1,2] rfl rfl xag28 (Kn.at 0 rfl) rfl ⟨hVle,s18,rfl,.slice p5 c.hw.length c6,p16,c17,.slice (some ⟨b8,0,none⟩) 1 1,.slice p12 c.name.size c13,rfl,hsH,hsO,hsA,hsB⟩
 refine Run.alloc xzo28 (lt rfl) (fun b23 => ?_)
 refine Ze<|ZF<|?_
 refine RunL.one (i := 8) WK rfl  ?_
 refine Yk [] Z Z Z (clone_h hh W) (fun v24 V2 H2 _ hR => ?_)
 obtain ⟨hV,s25,rfl,ho26⟩ := hR; replace hV := hV.symm; subst hV; obtain ⟨p27,c28,rfl⟩ := ho26.form
 refine Ze<|ZF<|Zh 9 Z (fun _ => (Y.buildS (l := [(0,.const (.int .i64 1)),(1,.tmp 9),(8,.tmp 14)]) xzo28 xpl28 rfl rfl))<|?_
 refine RunL.one (i := 11) WK rfl  ?_
 refine Run.store (s := [(b23,.cells #[.int .i64 1,.int .u32 c.xid,.int .i64 0,.int .i64 0,.int .u32 0,.int .u32 0,.int .u32 0,.int .u32 0,.slice p27 c.hw.length c28,.slice none 0 0] 28 (0,0))]) Z Z xsz28 (i := 0) Z Z (le Z) Z Z<|Ze<|Ex.anyLz Z<|RunL.done WK<|Zg<|Zs<|Zr<|Zm Z<|Zv (Y.conv (kind % 256) Z xit3_5 (wrap_u8m _))<|?_
 refine Run.buildSlice (l := [(0,.tmp 17)]) xes25 xzo5 rfl WD rfl rfl WD (lt rfl) (fun b29 => ?_)
 refine Zv (Y.buildS (l := [(0,.const (.int .i64 53)),(1,.tmp 18)]) xzo81 xpl81 Z Z)<|Zm Z<|Zv (Y.nilCheck Z)<|Zv (Y.fieldAddr Z xfo116_0)<|Zv (Y.load Z xts9 (Kn.at 3 Z) Z)<|?_
 refine Run.strBytes (str := c.name) rfl xes25 xtg5 xst9 (lt rfl) (fun v30 s31 hsw32 hf => ?_)
 obtain ⟨p33,c34,rfl⟩ := hf
 refine Zv (Y.buildS (l := [(0,.const (.int .i64 61)),(1,.tmp 24)]) xzo81 xpl81 Z Z) ?_
 refine Run.buildSlice (l := [(0,.tmp 19),(1,.tmp 25)]) (r := [.int .i64 53,.slice (some ⟨b29,0,none⟩) 1 1,.int .i64 61,.slice p33 c.name.size c34]) xes26 xzo81 rfl WD rfl rfl WD (lt rfl) (fun b35 => ?_)
 refine Run.nilseg ?_
 refine Yk [4,0,0] Z Z Z (put_c (n := 0) (xs := []) (Ow.nil 81 2) W) (fun v36 V2 H2 _ hR => ?_)
 obtain ⟨hV,rfl,p37,c38,s39,rfl,ho40⟩ := hR; replace hV := hV.symm; subst hV
 refine Ze<|Zg<|Zs<|Zr<|Zv (Y.loadAgg Z xag28 (Kn.at 5 Z) Z)<|Run.store (s := [(b1,.cells #[.int .i64 1,.int .u32 c.xid,.int .i64 0,.int .i64 0,.int .u32 0,.int .u32 0,.int .u32 0,.int .u32 0,.slice p27 c.hw.length c28,.slice p37 (0 + 2) c38] 28 (0,0))]) Z Z xsz28 (i := 2) Z Z (le Z) Z Z<|Ze<|Zg<|Zu<|Ex.keepTo (H' := [s25,s31,[(b29,.cells #[.int .u8 (kind % 256)] 5 (0,0))],[(b1,.cells #[.int .i64 1,.int .u32 c.xid,.int .i64 0,.int .i64 0,.int .u32 0,.int .u32 0,.int .u32 0,.int .u32 0,.slice p27 c.hw.length c28,.slice p37 (0 + 2) c38] 28 (0,0))],[(bc,.cells #[.string c.name,.slice ph c.hw.length ch,.int .i64 c.state,.int .u32 c.xid,.int .u32 c.addr,.int .u32 c.server,.int .i64 c.until_,.int .i64 c.one,.int .i64 c.two,.bool c.due,.int .i64 c.tries,.int .i64 c.said,.int .i64 c.asks] 116 (0,0))],[(b23,.cells #[.int .i64 1,.int .u32 c.xid,.int .i64 0,.int .i64 0,.int .u32 0,.int .u32 0,.int .u32 0,.int .u32 0,.slice p27 c.hw.length c28,.slice p37 (0 + 2) c38] 28 (0,0))],s39]) [4,0,0,0,0,0,0] Z<|?_
 refine Ex.show (fun V41 hleV41 hshV41 => ?_)
 have hsh := ho26.shows _ hshV41
 have hVle := hleV41
 refine Ex.keepTo (H' := [[(b29,.cells #[.int .u8 (kind % 256)] 5 (0,0))],s31,[(b1,.cells #[.int .i64 1,.int .u32 c.xid,.int .i64 0,.int .i64 0,.int .u32 0,.int .u32 0,.int .u32 0,.int .u32 0,.slice p27 c.hw.length c28,.slice p37 (0 + 2) c38] 28 (0,0))],[(bc,.cells #[.string c.name,.slice ph c.hw.length ch,.int .i64 c.state,.int .u32 c.xid,.int .u32 c.addr,.int .u32 c.server,.int .i64 c.until_,.int .i64 c.one,.int .i64 c.two,.bool c.due,.int .i64 c.tries,.int .i64 c.said,.int .i64 c.asks] 116 (0,0))],[(b23,.cells #[.int .i64 1,.int .u32 c.xid,.int .i64 0,.int .i64 0,.int .u32 0,.int .u32 0,.int .u32 0,.int .u32 0,.slice p27 c.hw.length c28,.slice p37 (0 + 2) c38] 28 (0,0))],s39]) [1,0,0,0,0,0] Z ?_
 refine Ex.show (fun V42 hleV42 hshV42 => ?_)
 have hsd1 := (Ow.lit (e := 5) (k := 1) (b := b29) (n := 1) (cur := #[.int .u8 (kind % 256)]) rfl WD).shows _ hshV42
 replace hsh := hsh.le hleV42
 replace hVle := Vw.le_trans hVle hleV42
 refine Ex.keepTo (H' := [s31,[(b1,.cells #[.int .i64 1,.int .u32 c.xid,.int .i64 0,.int .i64 0,.int .u32 0,.int .u32 0,.int .u32 0,.int .u32 0,.slice p27 c.hw.length c28,.slice p37 (0 + 2) c38] 28 (0,0))],[(bc,.cells #[.string c.name,.slice ph c.hw.length ch,.int .i64 c.state,.int .u32 c.xid,.int .u32 c.addr,.int .u32 c.server,.int .i64 c.until_,.int .i64 c.one,.int .i64 c.two,.bool c.due,.int .i64 c.tries,.int .i64 c.said,.int .i64 c.asks] 116 (0,0))],[(b23,.cells #[.int .i64 1,.int .u32 c.xid,.int .i64 0,.int .i64 0,.int .u32 0,.int .u32 0,.int .u32 0,.int .u32 0,.slice p27 c.hw.length c28,.slice p37 (0 + 2) c38] 28 (0,0))],s39]) [0,0,0,0,0] Z ?_
 refine Ex.show (fun V43 hleV43 hshV43 => ?_)
 have hsd2 := hsw32 _ hshV43
 replace hsh := hsh.le hleV43
 replace hsd1 := hsd1.le hleV43
 replace hVle := Vw.le_trans hVle hleV43
 have hsO : Ow 81 2 (.slice p37 2 c38) 2 [.int .i64 53,.slice (some ⟨b29,0,none⟩) 1 1,.int .i64 61,.slice p33 c.name.size c34] s39 := ho40
 have hsH : Rd V43 [] 1 (.slice p27 c.hw.length c28) c.hw.length (c.hw.map byteV) := by have h := hsh; simpa using h
 have hsA : Rd V43 [] 1 (.slice (some ⟨b29,0,none⟩) 1 1) 1 [.int .u8 (kind % 256)] := hsd1
 have hsB : Rd V43 [] 1 (.slice p33 c.name.size c34) c.name.size (c.name.toList.map byteV) := hsd2
 exact Ex.retCell [1,2] rfl rfl xag28 (Kn.at 0 rfl) rfl ⟨hVle,s39,rfl,.slice p27 c.hw.length c28,p37,c38,.slice (some ⟨b29,0,none⟩) 1 1,.slice p33 c.name.size c34,rfl,hsH,hsO,hsA,hsB⟩
end Go.Proofs.YtfgblingojgafaaGreat
namespace Go.Proofs.YtfgblingojgafaaGreat
open Go Go.K
attribute [local irreducible] Code.wp wpList Calls wpQuiet
set_option maxHeartbeats 4000000 in
theorem turn_c {V : Vw} {bc : Nat} {c : Cli} {hv : Value} {n now : Int} (hi : Cli.Inv n c) (hs : ¬ c.state = 6) (hm : 0 <= now /\ now <= 1099511627776)  : Does Tryz.prog 74 [(pZ bc),.int .i64 now] V [[(bc,.cells (Cli.cells c hv) 116 (0,0))]] (fun u V' H' => V' = V /\ u = .tuple #[] /\ H' = [[(bc,.cells (Cli.cells (Cli.turn c now) hv) 116 (0,0))]]) := by
 refine Does.intro Tryz.func74 rfl rfl (le rfl) (fun B => ?_)
 refine Tr.cutx (X := Cli) (fun cx => V) (fun cx => [[(bc,.cells #[.string cx.name,hv,.int .i64 cx.state,.int .u32 cx.xid,.int .u32 cx.addr,.int .u32 cx.server,.int .i64 cx.until_,.int .i64 cx.one,.int .i64 cx.two,.bool cx.due,.int .i64 cx.tries,.int .i64 cx.said,.int .i64 cx.asks] 116 (0,0))]]) (fun cx => [(0,(pZ bc)),(1,.int .i64 now)]) (fun cx => cx = Cli.turn1 c now /\ Cli.Inv n cx /\ ¬ cx.state = 6) ?_ ?_
 ·refine Zs<|Zr<|Zm Z<|Yc Z Z Z (hold_c (c := c) (Kn.at 0 Z))<|Zm Z<|?_
  refine Zq (Cli.holding c) (fun h1 g1 => ?_) fun h1 g1 => ?_
  ·refine Zp h1<|Zm Z<|Zp h1<|Zm Z<|Zp h1<|Zv (Y.nilCheck Z)<|Zp h1<|Zv (Y.fieldAddr Z xfo116_6)<|Zp h1<|Zv (Y.load Z xts3 (Kn.at 0 Z) Z)<|Zp h1<|Zv (Y.int Z Z Z)<|Zv (Y.pick_t Z h1 Z)<|Ze<|Zg<|?_
   refine Zq (decide (now > c.until_)) (fun h2 g2 => ?_) fun h2 g2 => ?_
   ·refine Tr.cond_t Z h2<|Zr<|Zm Z<|?_
    refine Yk [0] Z Z Z (drop_c (c := c)) (fun v3 V2 H2 _ hR => ?_)
    obtain ⟨hV,rfl,rfl⟩ := hR; replace hV := hV.symm; subst hV
    refine Ze ?_
    exact Ex.cutx (Cli.turn1 c now) ⟨rfl,hi.turn1 now,Cli.turn1_ne hs⟩ rfl (by rw [Cli.turn1_y h1 W]; try rfl) ZS
   refine Tr.cond_f Z h2<|Zt<|?_
   exact Ex.cutx (Cli.turn1 c now) ⟨rfl,hi.turn1 now,Cli.turn1_ne hs⟩ rfl (by rw [Cli.turn1_n (.inr W)]; try rfl) ZS
  refine Zo h1 Z<|Zo h1 Z<|Zo h1 Z<|Zo h1 Z<|Zo h1 Z<|Zo h1 Z<|Zv (Y.pick_f Z h1 Z)<|Ze<|Zg<|Tr.cond_f Z Z<|Zt<|?_
  exact Ex.cutx (Cli.turn1 c now) ⟨rfl,hi.turn1 now,Cli.turn1_ne hs⟩ rfl (by rw [Cli.turn1_n (.inl h1)]; try rfl) ZS
 rintro cx ⟨hcx,hix,hsx⟩
 have hsdcx := hix.said
 refine Tr.cutx (X := Cli) (fun cy => V) (fun cy => [[(bc,.cells #[.string cy.name,hv,.int .i64 cy.state,.int .u32 cy.xid,.int .u32 cy.addr,.int .u32 cy.server,.int .i64 cy.until_,.int .i64 cy.one,.int .i64 cy.two,.bool cy.due,.int .i64 cy.tries,.int .i64 cy.said,.int .i64 cy.asks] 116 (0,0))]]) (fun cy => [(0,(pZ bc)),(1,.int .i64 now)]) (fun cy => cy = Cli.turn2 cx now /\ Cli.Inv n cy /\ ¬ cy.state = 6) ?_ ?_
 ·refine Zs<|Zr<|Zm Z<|Zv (Y.nilCheck Z)<|Zv (Y.fieldAddr Z xfo116_2)<|Zv (Y.load Z xts3 (Kn.at 0 Z) Z)<|Zv (Y.int Z Z Z)<|Zm Z<|?_
  refine Zq (cx.state == 3) (fun h4 g4 => ?_) fun h4 g4 => ?_
  ·refine Zp h4<|Zm Z<|Zp h4<|Zm Z<|Zp h4<|Zv (Y.nilCheck Z)<|Zp h4<|Zv (Y.fieldAddr Z xfo116_7)<|Zp h4<|Zv (Y.load Z xts3 (Kn.at 0 Z) Z)<|Zp h4<|Zv (Y.int Z Z Z)<|Zv (Y.pick_t Z h4 Z)<|Ze<|Zg<|?_
   refine Zq (decide (now >= cx.one)) (fun h5 g5 => ?_) fun h5 g5 => ?_
   ·refine Tr.cond_t Z h5<|Zs<|Zr<|Zm Z<|Zv (Y.nilCheck Z)<|Zv (Y.fieldAddr Z xfo116_3)<|Zv (Y.load Z xts23 (Kn.at 0 Z) Z)<|Zv (Y.int (r := .int .u32 ((cx.xid + 1) % 4294967296)) rfl rfl (by simp only [intRes]; rw [Cli.wrap_u32m]))<|Zv (Y.nilCheck Z)<|Zv (Y.fieldAddr Z xfo116_3)<|Run.store (s := [(bc,.cells #[.string cx.name,hv,.int .i64 cx.state,.int .u32 ((cx.xid + 1) % 4294967296),.int .u32 cx.addr,.int .u32 cx.server,.int .i64 cx.until_,.int .i64 cx.one,.int .i64 cx.two,.bool cx.due,.int .i64 cx.tries,.int .i64 cx.said,.int .i64 cx.asks] 116 (0,0))]) Z Z xsz23 (i := 0) Z Z (le Z) Z Z<|?_
    refine Ze<|Zg<|Zs<|Zr<|Zm Z<|?_
    refine Yk [0] Z Z Z (speak_c (c := (⟨cx.name,cx.hw,cx.state,(cx.xid + 1) % 4294967296,cx.addr,cx.server,cx.until_,cx.one,cx.two,cx.due,cx.tries,cx.said,cx.asks⟩ : Cli))) (fun v6 V2 H2 _ hR => ?_)
    obtain ⟨hV,rfl,rfl⟩ := hR; replace hV := hV.symm; subst hV
    refine Ze<|Zg<|Zr<|Zm Z<|Zm Z<|Zv (Y.nilCheck Z)<|Zv (Y.fieldAddr Z xfo116_12)<|Run.store (s := [(bc,.cells #[.string ((Cli.speak (⟨cx.name,cx.hw,cx.state,(cx.xid + 1) % 4294967296,cx.addr,cx.server,cx.until_,cx.one,cx.two,cx.due,cx.tries,cx.said,cx.asks⟩ : Cli) 4).name),hv,.int .i64 ((Cli.speak (⟨cx.name,cx.hw,cx.state,(cx.xid + 1) % 4294967296,cx.addr,cx.server,cx.until_,cx.one,cx.two,cx.due,cx.tries,cx.said,cx.asks⟩ : Cli) 4).state),.int .u32 ((Cli.speak (⟨cx.name,cx.hw,cx.state,(cx.xid + 1) % 4294967296,cx.addr,cx.server,cx.until_,cx.one,cx.two,cx.due,cx.tries,cx.said,cx.asks⟩ : Cli) 4).xid),.int .u32 ((Cli.speak (⟨cx.name,cx.hw,cx.state,(cx.xid + 1) % 4294967296,cx.addr,cx.server,cx.until_,cx.one,cx.two,cx.due,cx.tries,cx.said,cx.asks⟩ : Cli) 4).addr),.int .u32 ((Cli.speak (⟨cx.name,cx.hw,cx.state,(cx.xid + 1) % 4294967296,cx.addr,cx.server,cx.until_,cx.one,cx.two,cx.due,cx.tries,cx.said,cx.asks⟩ : Cli) 4).server),.int .i64 ((Cli.speak (⟨cx.name,cx.hw,cx.state,(cx.xid + 1) % 4294967296,cx.addr,cx.server,cx.until_,cx.one,cx.two,cx.due,cx.tries,cx.said,cx.asks⟩ : Cli) 4).until_),.int .i64 ((Cli.speak (⟨cx.name,cx.hw,cx.state,(cx.xid + 1) % 4294967296,cx.addr,cx.server,cx.until_,cx.one,cx.two,cx.due,cx.tries,cx.said,cx.asks⟩ : Cli) 4).one),.int .i64 ((Cli.speak (⟨cx.name,cx.hw,cx.state,(cx.xid + 1) % 4294967296,cx.addr,cx.server,cx.until_,cx.one,cx.two,cx.due,cx.tries,cx.said,cx.asks⟩ : Cli) 4).two),.bool ((Cli.speak (⟨cx.name,cx.hw,cx.state,(cx.xid + 1) % 4294967296,cx.addr,cx.server,cx.until_,cx.one,cx.two,cx.due,cx.tries,cx.said,cx.asks⟩ : Cli) 4).due),.int .i64 ((Cli.speak (⟨cx.name,cx.hw,cx.state,(cx.xid + 1) % 4294967296,cx.addr,cx.server,cx.until_,cx.one,cx.two,cx.due,cx.tries,cx.said,cx.asks⟩ : Cli) 4).tries),.int .i64 ((Cli.speak (⟨cx.name,cx.hw,cx.state,(cx.xid + 1) % 4294967296,cx.addr,cx.server,cx.until_,cx.one,cx.two,cx.due,cx.tries,cx.said,cx.asks⟩ : Cli) 4).said),.int .i64 now] 116 (0,0))]) Z Z xsz3 (i := 0) Z Z (le Z) Z Z<|?_
    refine Ze ?_
    exact Ex.cutx (Cli.turn2 cx now) ⟨rfl,hix.turn2 hm,Cli.turn2_ne hsx⟩ rfl (by rw [Cli.turn2_y g4 W]; try rfl) ZS
   refine Tr.cond_f Z h5<|Zt<|?_
   exact Ex.cutx (Cli.turn2 cx now) ⟨rfl,hix.turn2 hm,Cli.turn2_ne hsx⟩ rfl (by rw [Cli.turn2_n (.inr W)]; try rfl) ZS
  refine Zo h4 Z<|Zo h4 Z<|Zo h4 Z<|Zo h4 Z<|Zo h4 Z<|Zo h4 Z<|Zv (Y.pick_f Z h4 Z)<|Ze<|Zg<|Tr.cond_f Z Z<|Zt<|?_
  exact Ex.cutx (Cli.turn2 cx now) ⟨rfl,hix.turn2 hm,Cli.turn2_ne hsx⟩ rfl (by rw [Cli.turn2_n (.inl g4)]; try rfl) ZS
 rintro cy ⟨hcy,hiy,hsy⟩
 have hsdcy := hiy.said
 refine Tr.cutx (X := Cli) (fun cz => V) (fun cz => [[(bc,.cells #[.string cz.name,hv,.int .i64 cz.state,.int .u32 cz.xid,.int .u32 cz.addr,.int .u32 cz.server,.int .i64 cz.until_,.int .i64 cz.one,.int .i64 cz.two,.bool cz.due,.int .i64 cz.tries,.int .i64 cz.said,.int .i64 cz.asks] 116 (0,0))]]) (fun cz => [(0,(pZ bc)),(1,.int .i64 now)]) (fun cz => cz = Cli.turn3 cy now /\ Cli.Inv n cz /\ ¬ cz.state = 6) ?_ ?_
 ·refine Zs<|Zr<|Zm Z<|Zv (Y.nilCheck Z)<|Zv (Y.fieldAddr Z xfo116_2)<|Zv (Y.load Z xts3 (Kn.at 0 Z) Z)<|Zv (Y.int Z Z Z)<|Zm Z<|?_
  refine Zq (cy.state == 4) (fun h7 g7 => ?_) fun h7 g7 => ?_
  ·refine Zp h7<|Zm Z<|Zp h7<|Zm Z<|Zp h7<|Zv (Y.nilCheck Z)<|Zp h7<|Zv (Y.fieldAddr Z xfo116_8)<|Zp h7<|Zv (Y.load Z xts3 (Kn.at 0 Z) Z)<|Zp h7<|Zv (Y.int Z Z Z)<|Zv (Y.pick_t Z h7 Z)<|Ze<|Zg<|?_
   refine Zq (decide (now >= cy.two)) (fun h8 g8 => ?_) fun h8 g8 => ?_
   ·refine Tr.cond_t Z h8<|Zr<|Zm Z<|Zm Z<|Zv (Y.nilCheck Z)<|Zv (Y.fieldAddr Z xfo116_2)<|Run.store (s := [(bc,.cells #[.string cy.name,hv,.int .i64 5,.int .u32 cy.xid,.int .u32 cy.addr,.int .u32 cy.server,.int .i64 cy.until_,.int .i64 cy.one,.int .i64 cy.two,.bool cy.due,.int .i64 cy.tries,.int .i64 cy.said,.int .i64 cy.asks] 116 (0,0))]) Z Z xsz3 (i := 0) Z Z (le Z) Z Z<|Zv (Y.nilCheck Z)<|Zv (Y.fieldAddr Z xfo116_9)<|?_
    refine Run.store (s := [(bc,.cells #[.string cy.name,hv,.int .i64 5,.int .u32 cy.xid,.int .u32 cy.addr,.int .u32 cy.server,.int .i64 cy.until_,.int .i64 cy.one,.int .i64 cy.two,.bool true,.int .i64 cy.tries,.int .i64 cy.said,.int .i64 cy.asks] 116 (0,0))]) Z Z xsz4 (i := 0) Z Z (le Z) Z Z<|Ze<|?_
    exact Ex.cutx (Cli.turn3 cy now) ⟨rfl,hiy.turn3 now,Cli.turn3_ne hsy⟩ rfl (by rw [Cli.turn3_y g7 W]; try rfl) ZS
   refine Tr.cond_f Z h8<|Zt<|?_
   exact Ex.cutx (Cli.turn3 cy now) ⟨rfl,hiy.turn3 now,Cli.turn3_ne hsy⟩ rfl (by rw [Cli.turn3_n (.inr W)]; try rfl) ZS
  refine Zo h7 Z<|Zo h7 Z<|Zo h7 Z<|Zo h7 Z<|Zo h7 Z<|Zo h7 Z<|Zv (Y.pick_f Z h7 Z)<|Ze<|Zg<|Tr.cond_f Z Z<|Zt<|?_
  exact Ex.cutx (Cli.turn3 cy now) ⟨rfl,hiy.turn3 now,Cli.turn3_ne hsy⟩ rfl (by rw [Cli.turn3_n (.inl g7)]; try rfl) ZS
 rintro cz ⟨hcz,hiz,hsz⟩
 have hsdcz := hiz.said
 refine Zs<|Zr<|Zm Z<|Zv (Y.nilCheck Z)<|Zv (Y.fieldAddr Z xfo116_9)<|Zv (Y.load Z xts4 (Kn.at 0 Z) Z)<|Zv (Y.not Z)<|Zm Z<|?_
 refine Zq (cz.due) (fun h9 g9 => ?_) fun h9 g9 => ?_
 ·refine Zo (congrArg Bool.not h9) Z<|Zo (congrArg Bool.not h9) Z<|Zo (congrArg Bool.not h9) Z<|Zo (congrArg Bool.not h9) Z<|Zo (congrArg Bool.not h9) Z<|Zo (congrArg Bool.not h9) Z<|Zo (congrArg Bool.not h9) Z<|Zv (Y.pick_f Z (congrArg Bool.not h9) Z)<|Za Z<|Ze<|Zg<|Zb<|Zs<|Zr<|Zm Z<|Zv (Y.nilCheck Z)<|?_
  refine Zv (Y.fieldAddr Z xfo116_2)<|Zv (Y.load Z xts3 (Kn.at 0 Z) Z)<|Zv (Y.int Z Z Z)<|Za Z<|Ze<|Zg<|?_
  refine Zq (cz.state == 0) (fun h10 g10 => ?_) fun h10 g10 => ?_
  ·refine Tr.cond_t Z h10<|Zr<|Zm Z<|?_
   refine Yk [0] Z Z Z (anew_c (c := cz)) (fun v11 V2 H2 _ hR => ?_)
   obtain ⟨hV,rfl,rfl⟩ := hR; replace hV := hV.symm; subst hV
   refine Ze<|Zc<|Ex.keep [0]<|?_
   exact Ex.end0 rfl ⟨rfl,rfl,by rw [((by rw [hcz,hcy,hcx]; rfl : Cli.turn c now = Cli.turn4 cz now).trans (Cli.turn4_0 g10))]; try rfl⟩
  refine Tr.cond_f Z h10<|Zs<|Zr<|Zm Z<|Zv (Y.not Z)<|Zm Z<|Zo Z Z<|Zo Z Z<|Zo Z Z<|Zo Z Z<|Zo Z Z<|Zv (Y.pick_t Z Z Z)<|Za Z<|Ze<|Zg<|Tr.cond_t Z Z<|?_
  refine Zt<|Zc<|Ex.keep [0]<|?_
  exact Ex.end0 rfl ⟨rfl,rfl,by rw [((by rw [hcz,hcy,hcx]; rfl : Cli.turn c now = Cli.turn4 cz now).trans (Cli.turn4_n g10 (.inl (by simp only [Cli.late,h9]; rfl))))]; try rfl⟩
 refine Zp (congrArg Bool.not h9)<|Zm Z<|Zp (congrArg Bool.not h9)<|Zm Z<|Zp (congrArg Bool.not h9)<|Zv (Y.nilCheck Z)<|Zp (congrArg Bool.not h9)<|Zv (Y.fieldAddr Z xfo116_11)<|Zp (congrArg Bool.not h9)<|Zv (Y.load Z xts3 (Kn.at 0 Z) Z)<|Zp (congrArg Bool.not h9)<|Zv (Y.sub Z Z W)<|Zp (congrArg Bool.not h9)<|Zv (Y.int Z Z Z)<|Zv (Y.pick_t Z (congrArg Bool.not h9) Z)<|Za Z<|?_
 refine Ze<|Zg<|Zb<|Zs<|Zr<|Zm Z<|Zv (Y.nilCheck Z)<|Zv (Y.fieldAddr Z xfo116_2)<|Zv (Y.load Z xts3 (Kn.at 0 Z) Z)<|Zv (Y.int Z Z Z)<|Za Z<|Ze<|Zg<|?_
 refine Zq (cz.state == 0) (fun h12 g12 => ?_) fun h12 g12 => ?_
 ·refine Tr.cond_t Z h12<|Zr<|Zm Z<|?_
  refine Yk [0] Z Z Z (anew_c (c := cz)) (fun v13 V2 H2 _ hR => ?_)
  obtain ⟨hV,rfl,rfl⟩ := hR; replace hV := hV.symm; subst hV
  refine Ze<|Zc<|Ex.keep [0]<|?_
  exact Ex.end0 rfl ⟨rfl,rfl,by rw [((by rw [hcz,hcy,hcx]; rfl : Cli.turn c now = Cli.turn4 cz now).trans (Cli.turn4_0 g12))]; try rfl⟩
 refine Tr.cond_f Z h12<|Zs<|Zr<|Zm Z<|Zv (Y.not Z)<|Zm Z<|?_
 refine Zq (decide ((now - cz.said) >= 4)) (fun h14 g14 => ?_) fun h14 g14 => ?_
 ·refine Zp (congrArg Bool.not h14)<|Zm Z<|Zp (congrArg Bool.not h14)<|Zv (Y.nilCheck Z)<|Zp (congrArg Bool.not h14)<|Zv (Y.fieldAddr Z xfo116_2)<|Zp (congrArg Bool.not h14)<|Zv (Y.load Z xts3 (Kn.at 0 Z) Z)<|Zp (congrArg Bool.not h14)<|Zv (Y.int Z Z Z)<|Zv (Y.pick_f Z (congrArg Bool.not h14) Z)<|Za Z<|Ze<|Zg<|?_
  refine Zq (cz.state == 3) (fun h15 g15 => ?_) fun h15 g15 => ?_
  ·refine Tr.cond_t Z h15<|Zt<|Zc<|Ex.keep [0]<|?_
   exact Ex.end0 rfl ⟨rfl,rfl,by rw [((by rw [hcz,hcy,hcx]; rfl : Cli.turn c now = Cli.turn4 cz now).trans (Cli.turn4_n g12 (.inr g15)))]; try rfl⟩
  refine Tr.cond_f Z h15<|Zs<|Zr<|Zm Z<|Yc Z Z Z (hold_c (c := cz) (Kn.at 0 Z))<|Zm Z<|?_
  refine Zq (Cli.holding cz) (fun h16 g16 => ?_) fun h16 g16 => ?_
  ·refine Zo h16 Z<|Zo h16 Z<|Zo h16 Z<|Zo h16 Z<|Zo h16 Z<|Zv (Y.pick_t Z h16 Z)<|Za Z<|Ze<|Zg<|Tr.cond_t Z Z<|Zr<|Zm Z<|Zv (Y.nilCheck Z)<|Zv (Y.fieldAddr Z xfo116_9)<|Run.store (s := [(bc,.cells #[.string cz.name,hv,.int .i64 cz.state,.int .u32 cz.xid,.int .u32 cz.addr,.int .u32 cz.server,.int .i64 cz.until_,.int .i64 cz.one,.int .i64 cz.two,.bool true,.int .i64 cz.tries,.int .i64 cz.said,.int .i64 cz.asks] 116 (0,0))]) Z Z xsz4 (i := 0) Z Z (le Z) Z Z<|?_
   refine Ze<|Zc<|Ex.keep [0]<|?_
   exact Ex.end0 rfl ⟨rfl,rfl,by rw [((by rw [hcz,hcy,hcx]; rfl : Cli.turn c now = Cli.turn4 cz now).trans (Cli.turn4_d g12 (by simp only [Cli.late,h9,h14]; rfl) g15 (.inl h16)))]; try rfl⟩
  refine Zp h16<|Zm Z<|Zp h16<|Zv (Y.nilCheck Z)<|Zp h16<|Zv (Y.fieldAddr Z xfo116_10)<|Zp h16<|Zv (Y.load Z xts3 (Kn.at 0 Z) Z)<|Zp h16<|Zv (Y.int Z Z Z)<|Zv (Y.pick_f Z h16 Z)<|Za Z<|Ze<|Zg<|?_
  refine Zq (decide (cz.tries < 4)) (fun h17 g17 => ?_) fun h17 g17 => ?_
  ·refine Tr.cond_t Z h17<|Zr<|Zm Z<|Zv (Y.nilCheck Z)<|Zv (Y.fieldAddr Z xfo116_9)<|Run.store (s := [(bc,.cells #[.string cz.name,hv,.int .i64 cz.state,.int .u32 cz.xid,.int .u32 cz.addr,.int .u32 cz.server,.int .i64 cz.until_,.int .i64 cz.one,.int .i64 cz.two,.bool true,.int .i64 cz.tries,.int .i64 cz.said,.int .i64 cz.asks] 116 (0,0))]) Z Z xsz4 (i := 0) Z Z (le Z) Z Z<|Ze<|Zc<|Ex.keep [0]<|?_
   exact Ex.end0 rfl ⟨rfl,rfl,by rw [((by rw [hcz,hcy,hcx]; rfl : Cli.turn c now = Cli.turn4 cz now).trans (Cli.turn4_d g12 (by simp only [Cli.late,h9,h14]; rfl) g15 (.inr W)))]; try rfl⟩
  refine Tr.cond_f Z h17<|Zr<|Zm Z<|?_
  refine Yk [0] Z Z Z (anew_c (c := cz)) (fun v18 V2 H2 _ hR => ?_)
  obtain ⟨hV,rfl,rfl⟩ := hR; replace hV := hV.symm; subst hV
  refine Ze<|Zc<|Ex.keep [0]<|?_
  exact Ex.end0 rfl ⟨rfl,rfl,by rw [((by rw [hcz,hcy,hcx]; rfl : Cli.turn c now = Cli.turn4 cz now).trans (Cli.turn4_a g12 (by simp only [Cli.late,h9,h14]; rfl) g15 h16 W))]; try rfl⟩
 refine Zo (congrArg Bool.not h14) Z<|Zo (congrArg Bool.not h14) Z<|Zo (congrArg Bool.not h14) Z<|Zo (congrArg Bool.not h14) Z<|Zo (congrArg Bool.not h14) Z<|Zv (Y.pick_t Z (congrArg Bool.not h14) Z)<|Za Z<|Ze<|Zg<|Tr.cond_t Z Z<|Zt<|Zc<|Ex.keep [0]<|?_
 exact Ex.end0 rfl ⟨rfl,rfl,by rw [((by rw [hcz,hcy,hcx]; rfl : Cli.turn c now = Cli.turn4 cz now).trans (Cli.turn4_n g12 (.inl (by simp only [Cli.late,h9,h14]; rfl))))]; try rfl⟩
end Go.Proofs.YtfgblingojgafaaGreat
namespace Go.Proofs.YtfgblingojgafaaGreat
open Go Go.K
attribute [local irreducible] Code.wp wpList Calls wpQuiet
theorem says_c_h {V : Vw} {bc : Nat} {c : Cli} {hv : Value} {kind : Int} (hh : Rd V [] 1 hv c.hw.length (c.hw.map byteV)) (hl : c.hw.length <= 16) : Does Tryz.prog 75 [(pZ bc),.int .i64 kind] V [[(bc,.cells (Cli.cells c hv) 116 (0,0))]] (fun u V' H' => V.le V' /\ ∃ q,H' = [[(bc,.cells (Cli.cells c hv) 116 (0,0))],q] /\ Cli.Said 81 V' c kind u q) := by
  obtain ⟨p,k,rfl,_⟩ := hh.form
  exact says_c hh hl
set_option maxHeartbeats 1000000 in
theorem tick_c {V : Vw} {bc : Nat} {c : Cli} {hv : Value} {n now : Int} (hi : Cli.Inv n c) (hn : n <= 1000000) (hh : Rd V [] 1 hv c.hw.length (c.hw.map byteV))  : Does Tryz.prog 29 [(pZ bc),.int .i64 now] V [[(bc,.cells (Cli.cells c hv) 116 (0,0))]] (fun u V' H' => V.le V' /\ H' = [[(bc,.cells (Cli.cells (Cli.tickC c now) hv) 116 (0,0))]] /\ ∃ ps,u = .tuple #[ps,.int .i64 (Cli.tickE now)] /\ Pc.Rk 28 V' ps (Cli.tickP c now)) := by
 refine Does.intro Tryz.func29 rfl rfl (le rfl) (fun B => ?_)
 refine Zs<|Zr<|Za Z<|Za Z<|Ze<|Zg<|Zs<|Zs<|Zr<|Zm Z<|Yc Z Z Z moment_c_h<|Zv (Y.not Z)<|Ze<|Zg<|?_
 refine Zq (Con.moment now) (fun h1 g1 => ?_) fun h1 g1 => ?_
 ·have hm := (Con.moment_iff now).1 h1
  refine Tr.cond_f Z (congrArg Bool.not h1)<|Zt<|Zg<|Zs<|Zs<|Zr<|Zm Z<|Zv (Y.nilCheck Z)<|Zv (Y.fieldAddr Z xfo116_2)<|Zv (Y.load Z xts3 (Kn.at 0 Z) Z)<|Zv (Y.int Z Z Z)<|Ze<|Zg<|?_
  refine Zq (c.state == 6) (fun h2 g2 => ?_) fun h2 g2 => ?_
  ·refine Tr.cond_t Z h2<|Zs<|Zr<|Za Z<|Za Z<|Ze<|Zg<|Zu<|Zn<|Ex.keep [0]<|?_
   exact Ex.ret2 rfl rfl rfl  ⟨Vw.le_refl _,by rw [(Cli.tick_6 (c := c) h1 g2).1]; try rfl,_,by rw [(Cli.tick_6 (c := c) h1 g2).2.1],by rw [(Cli.tick_6 (c := c) h1 g2).2.2]; rfl⟩
  refine Tr.cond_f Z h2<|Zt<|Zg<|Zs<|Zs<|Zr<|Zm Z<|Zm Z<|?_
  refine Yk [0] Z Z Z (turn_c (n := n) (c := c) (now := now) hi g2 hm) (fun v3 V2 H2 _ hR => ?_)
  obtain ⟨hV,rfl,rfl⟩ := hR; replace hV := hV.symm; subst hV
  refine Run.heapTo (H' := [[(bc,.cells #[.string ((Cli.turn c now).name),hv,.int .i64 ((Cli.turn c now).state),.int .u32 ((Cli.turn c now).xid),.int .u32 ((Cli.turn c now).addr),.int .u32 ((Cli.turn c now).server),.int .i64 ((Cli.turn c now).until_),.int .i64 ((Cli.turn c now).one),.int .i64 ((Cli.turn c now).two),.bool ((Cli.turn c now).due),.int .i64 ((Cli.turn c now).tries),.int .i64 ((Cli.turn c now).said),.int .i64 ((Cli.turn c now).asks)] 116 (0,0))]]) Z ?_
  refine Ze<|Zg<|Zs<|Zr<|?_
  obtain ⟨t,ht⟩ : ∃ t,t = Cli.turn c now := ⟨_,rfl⟩
  rw [<- ht]
  have hit : Cli.Inv n t := by rw [ht]; exact hi.turn hm
  have hts := Cli.turn_same c now
  rw [<- ht] at hts
  have hht : Rd V [] 1 hv t.hw.length (t.hw.map byteV) := by rw [hts.1]; exact hh
  have hhl := hit.hw
  have htr := hit.tries
  have hta := hit.addr
  have htv := hit.server
  refine Zm Z<|Zv (Y.nilCheck Z)<|Zv (Y.fieldAddr Z xfo116_9)<|Zv (Y.load Z xts4 (Kn.at 0 Z) Z)<|Zv (Y.not Z)<|Ze<|Zg<|?_
  refine Zq (t.due) (fun h4 g4 => ?_) fun h4 g4 => ?_
  ·refine Tr.cond_f Z (congrArg Bool.not h4)<|Zt<|Zg<|Zs<|Zr<|Zm Z<|Zm Z<|Zm Z<|Zv (Y.nilCheck Z)<|Zv (Y.fieldAddr Z xfo116_9)<|Run.store (s := [(bc,.cells #[.string t.name,hv,.int .i64 t.state,.int .u32 t.xid,.int .u32 t.addr,.int .u32 t.server,.int .i64 t.until_,.int .i64 t.one,.int .i64 t.two,.bool false,.int .i64 t.tries,.int .i64 t.said,.int .i64 t.asks] 116 (0,0))]) Z Z xsz4 (i := 0) Z Z (le Z) Z Z<|?_
   refine Zv (Y.nilCheck Z)<|Zv (Y.fieldAddr Z xfo116_11)<|Run.store (s := [(bc,.cells #[.string t.name,hv,.int .i64 t.state,.int .u32 t.xid,.int .u32 t.addr,.int .u32 t.server,.int .i64 t.until_,.int .i64 t.one,.int .i64 t.two,.bool false,.int .i64 t.tries,.int .i64 now,.int .i64 t.asks] 116 (0,0))]) Z Z xsz3 (i := 0) Z Z (le Z) Z Z<|Ze<|Zg<|Zs<|Zr<|Zm Z<|Zv (Y.nilCheck Z)<|Zv (Y.fieldAddr Z xfo116_10)<|?_
   refine Zv (Y.load Z xts3 (Kn.at 0 Z) Z)<|Zv (Y.add Z Z W)<|Zv (Y.nilCheck Z)<|Zv (Y.fieldAddr Z xfo116_10)<|Run.store (s := [(bc,.cells #[.string t.name,hv,.int .i64 t.state,.int .u32 t.xid,.int .u32 t.addr,.int .u32 t.server,.int .i64 t.until_,.int .i64 t.one,.int .i64 t.two,.bool false,.int .i64 (t.tries + 1),.int .i64 now,.int .i64 t.asks] 116 (0,0))]) Z Z xsz3 (i := 0) Z Z (le Z) Z Z<|?_
   refine Ze<|Zg<|Zs<|Zr<|?_
   refine Run.alloc xzo28 (lt rfl) (fun b5 => ?_)
   refine Ze<|Zg<|Zs<|Zs<|Zr<|Zm Z<|Zv (Y.nilCheck Z)<|Zv (Y.fieldAddr Z xfo116_2)<|Zv (Y.load Z xts3 (Kn.at 1 Z) Z)<|Ze<|Zg<|Zb<|Zs<|Zr<|Zv (Y.int Z Z Z)<|Za Z<|?_
   refine Ze<|Zg<|?_
   refine Zq (t.state == 1) (fun h6 g6 => ?_) fun h6 g6 => ?_
   ·refine Tr.cond_t Z h6<|Zr<|Zm Z<|?_
    refine Yk [1] Z Z Z (says_c_h (c := (⟨t.name,t.hw,t.state,t.xid,t.addr,t.server,t.until_,t.one,t.two,false,t.tries + 1,now,t.asks⟩ : Cli)) (kind := 1) hht hhl.2) (fun v7 V2 H2 hle18 hR => ?_)
    obtain ⟨_,s8,rfl,w20,p10,c11,d12,d13,rfl,hsx14,hox15,hsa16,hsb17⟩ := hR
    obtain ⟨p21,c22,rfl,_⟩ := hsx14.form
    obtain ⟨Vs19,hVe⟩ : ∃ V3 : Vw,V3 = V2 := ⟨_,rfl⟩
    subst hVe
    replace hht := hht.le hle18
    have hVle := hle18
    refine Run.heapTo (H' := [[(b5,.cells #[.int .i64 0,.int .u32 0,.int .i64 0,.int .i64 0,.int .u32 0,.int .u32 0,.int .u32 0,.int .u32 0,.slice none 0 0,.slice none 0 0] 28 (0,0))],[(bc,.cells #[.string t.name,hv,.int .i64 t.state,.int .u32 t.xid,.int .u32 t.addr,.int .u32 t.server,.int .i64 t.until_,.int .i64 t.one,.int .i64 t.two,.bool false,.int .i64 (t.tries + 1),.int .i64 now,.int .i64 t.asks] 116 (0,0))],s8]) Z ?_
    refine Run.store (s := [(b5,.cells #[.int .i64 1,.int .u32 t.xid,.int .i64 0,.int .i64 0,.int .u32 0,.int .u32 0,.int .u32 0,.int .u32 0,.slice p21 t.hw.length c22,.slice p10 2 c11] 28 (0,0))]) Z Z xsz28 (i := 0) Z Z (le Z) Z Z<|Ze<|Zc<|Zg<|Zs<|Zr<|Zv (Y.loadAgg Z xag28 (Kn.at 0 Z) Z)<|?_
    refine Run.buildSlice (l := [(0,.tmp 77)]) (r := [.int .i64 1,.int .u32 t.xid,.int .i64 0,.int .i64 0,.int .u32 0,.int .u32 0,.int .u32 0,.int .u32 0,.slice p21 t.hw.length c22,.slice p10 2 c11]) xes72 xzo28 rfl WD rfl rfl WD (lt rfl) (fun b23 => ?_)
    refine Za Z<|Za Z<|Ze<|Zg<|Zu<|Ex.keepTo (H' := [s8,[(b23,.cells #[.int .i64 1,.int .u32 t.xid,.int .i64 0,.int .i64 0,.int .u32 0,.int .u32 0,.int .u32 0,.int .u32 0,.slice p21 t.hw.length c22,.slice p10 2 c11] 28 (0,0))],[(b5,.cells #[.int .i64 1,.int .u32 t.xid,.int .i64 0,.int .i64 0,.int .u32 0,.int .u32 0,.int .u32 0,.int .u32 0,.slice p21 t.hw.length c22,.slice p10 2 c11] 28 (0,0))],[(bc,.cells #[.string t.name,hv,.int .i64 t.state,.int .u32 t.xid,.int .u32 t.addr,.int .u32 t.server,.int .i64 t.until_,.int .i64 t.one,.int .i64 t.two,.bool false,.int .i64 (t.tries + 1),.int .i64 now,.int .i64 t.asks] 116 (0,0))]]) [3,0,0,0] Z<|?_
    refine Ex.show (fun V24 hleV24 hshV24 => ?_)
    have hso := hox15.shows _ hshV24
    replace hht := hht.le hleV24
    replace hsx14 := hsx14.le hleV24
    replace hsa16 := hsa16.le hleV24
    replace hsb17 := hsb17.le hleV24
    replace hVle := Vw.le_trans hVle hleV24
    refine Ex.keepTo (H' := [[(b23,.cells #[.int .i64 1,.int .u32 t.xid,.int .i64 0,.int .i64 0,.int .u32 0,.int .u32 0,.int .u32 0,.int .u32 0,.slice p21 t.hw.length c22,.slice p10 2 c11] 28 (0,0))],[(b5,.cells #[.int .i64 1,.int .u32 t.xid,.int .i64 0,.int .i64 0,.int .u32 0,.int .u32 0,.int .u32 0,.int .u32 0,.slice p21 t.hw.length c22,.slice p10 2 c11] 28 (0,0))],[(bc,.cells #[.string t.name,hv,.int .i64 t.state,.int .u32 t.xid,.int .u32 t.addr,.int .u32 t.server,.int .i64 t.until_,.int .i64 t.one,.int .i64 t.two,.bool false,.int .i64 (t.tries + 1),.int .i64 now,.int .i64 t.asks] 116 (0,0))]]) [0,0,0] Z ?_
    refine Ex.show (fun V25 hleV25 hshV25 => ?_)
    have hpk := (Ow.lit (e := 28) (k := 10) (b := b23) (n := 1) (cur := #[.int .i64 1,.int .u32 t.xid,.int .i64 0,.int .i64 0,.int .u32 0,.int .u32 0,.int .u32 0,.int .u32 0,.slice p21 t.hw.length c22,.slice p10 2 c11]) rfl WD).shows _ hshV25
    replace hht := hht.le hleV25
    replace hsx14 := hsx14.le hleV25
    replace hsa16 := hsa16.le hleV25
    replace hsb17 := hsb17.le hleV25
    replace hso := hso.le hleV25
    replace hVle := Vw.le_trans hVle hleV25
    have hpb := hshV25 _ _ lookup_one
    refine Ex.keep [1] ?_
    have hkp : Pc.Rk 28 V25 (.slice (some ⟨b23,0,none⟩) 1 1) [Cli.sayP t] := by
      rw [Cli.sayP_1 g6]
      exact ⟨_,.slice p21 t.hw.length c22,.slice p10 2 c11,rfl,hpb,Cli.Said_R (c := t) (kind := 1) hsx14 hso hsa16 hsb17 hit.xid⟩
    exact Ex.ret2 rfl rfl rfl  ⟨hVle,by rw [(Cli.tick_y (c := c) h1 g2 (by rw [<- ht]; exact h4)).1,<- ht,Cli.sayC_n W]; try rfl,_,by rw [(Cli.tick_y (c := c) h1 g2 (by rw [<- ht]; exact h4)).2.1],by rw [(Cli.tick_y (c := c) h1 g2 (by rw [<- ht]; exact h4)).2.2,<- ht]; exact hkp⟩
   refine Tr.cond_f Z h6<|Zs<|Zr<|Zv (Y.int Z Z Z)<|Za Z<|Ze<|Zg<|?_
   refine Zq (t.state == 2) (fun h26 g26 => ?_) fun h26 g26 => ?_
   ·refine Tr.cond_t Z h26<|Zs<|Zs<|Zr<|Zm Z<|Zv (Y.nilCheck Z)<|Zv (Y.fieldAddr Z xfo116_10)<|Zv (Y.load Z xts3 (Kn.at 1 Z) Z)<|Zv (Y.int Z Z Z)<|Ze<|Zg<|?_
    refine Zq ((t.tries + 1) == 1) (fun h27 g27 => ?_) fun h27 g27 => ?_
    ·refine Tr.cond_t Z h27<|Zr<|Zm Z<|Zm Z<|Zv (Y.nilCheck Z)<|Zv (Y.fieldAddr Z xfo116_12)<|Run.store (s := [(bc,.cells #[.string t.name,hv,.int .i64 t.state,.int .u32 t.xid,.int .u32 t.addr,.int .u32 t.server,.int .i64 t.until_,.int .i64 t.one,.int .i64 t.two,.bool false,.int .i64 (t.tries + 1),.int .i64 now,.int .i64 now] 116 (0,0))]) Z Z xsz3 (i := 1) Z Z (le Z) Z Z<|Ze<|Zg<|Zs<|Zr<|Zm Z<|?_
     refine Yk [1] Z Z Z (says_c_h (c := (⟨t.name,t.hw,t.state,t.xid,t.addr,t.server,t.until_,t.one,t.two,false,t.tries + 1,now,now⟩ : Cli)) (kind := 3) hht hhl.2) (fun v28 V2 H2 hle39 hR => ?_)
     obtain ⟨_,s29,rfl,w41,p31,c32,d33,d34,rfl,hsx35,hox36,hsa37,hsb38⟩ := hR
     obtain ⟨p42,c43,rfl,_⟩ := hsx35.form
     obtain ⟨Vs40,hVe⟩ : ∃ V3 : Vw,V3 = V2 := ⟨_,rfl⟩
     subst hVe
     replace hht := hht.le hle39
     have hVle := hle39
     refine Run.heapTo (H' := [[(b5,.cells #[.int .i64 0,.int .u32 0,.int .i64 0,.int .i64 0,.int .u32 0,.int .u32 0,.int .u32 0,.int .u32 0,.slice none 0 0,.slice none 0 0] 28 (0,0))],[(bc,.cells #[.string t.name,hv,.int .i64 t.state,.int .u32 t.xid,.int .u32 t.addr,.int .u32 t.server,.int .i64 t.until_,.int .i64 t.one,.int .i64 t.two,.bool false,.int .i64 (t.tries + 1),.int .i64 now,.int .i64 now] 116 (0,0))],s29]) Z ?_
     refine Run.store (s := [(b5,.cells #[.int .i64 1,.int .u32 t.xid,.int .i64 0,.int .i64 0,.int .u32 0,.int .u32 0,.int .u32 0,.int .u32 0,.slice p42 t.hw.length c43,.slice p31 2 c32] 28 (0,0))]) Z Z xsz28 (i := 0) Z Z (le Z) Z Z<|Ze<|Zg<|Tr.anyD [(bc,.cells #[.string t.name,hv,.int .i64 t.state,.int .u32 t.xid,.int .u32 t.addr,.int .u32 t.server,.int .i64 t.until_,.int .i64 t.one,.int .i64 t.two,.bool false,.int .i64 (t.tries + 1),.int .i64 now,.int .i64 now] 116 (0,0))] xmo<|?_
     refine Zd 0 Z (fun _ => (Y.move rfl))<|Zd 1 Z (fun _ => (Y.nilCheck rfl))<|Zd 2 Z (fun _ => (Y.fieldAddr rfl xfo116_4))<|ZD 3 0 Z Z (fun _ => (Y.load rfl xts24 Kn.vk1 rfl))<|Zd 5 Z (fun _ => (Y.move rfl))<|Zd 6 Z (fun _ => (Y.nilCheck rfl))<|Zd 7 Z (fun _ => (Y.fieldAddr rfl xfo116_5))<|ZD 8 0 Z Z (fun _ => (Y.load rfl xts24 Kn.vk1 rfl))<|?_
     refine RunD.one (i := 4) WK rfl  ?_
     refine Yk [] Z Z Z (long_c (n := t.addr) (code := 50) hit.addr) (fun v44 V2 H2 _ hR => ?_)
     obtain ⟨hV,z45,s46,rfl,rfl,hol47⟩ := hR; replace hV := hV.symm; subst hV; obtain ⟨p48,c49,rfl⟩ := hol47.form
     refine Run.heapTo (H' := [[(b5,.cells #[.int .i64 1,.int .u32 t.xid,.int .i64 0,.int .i64 0,.int .u32 0,.int .u32 0,.int .u32 0,.int .u32 0,.slice p42 t.hw.length c43,.slice p31 2 c32] 28 (0,0))],[(bc,.cells #[.string t.name,hv,.int .i64 t.state,.int .u32 t.xid,.int .u32 t.addr,.int .u32 t.server,.int .i64 t.until_,.int .i64 t.one,.int .i64 t.two,.bool false,.int .i64 (t.tries + 1),.int .i64 now,.int .i64 now] 116 (0,0))],s29,s46]) Z ?_
     refine Ze<|Zf<|?_
     refine RunD.one (i := 9) WK rfl  ?_
     refine Yk [] Z Z Z (long_c (n := t.server) (code := 54) hit.server) (fun v50 V2 H2 _ hR => ?_)
     obtain ⟨hV,z51,s52,rfl,rfl,hol53⟩ := hR; replace hV := hV.symm; subst hV; obtain ⟨p54,c55,rfl⟩ := hol53.form
     refine Run.heapTo (H' := [[(b5,.cells #[.int .i64 1,.int .u32 t.xid,.int .i64 0,.int .i64 0,.int .u32 0,.int .u32 0,.int .u32 0,.int .u32 0,.slice p42 t.hw.length c43,.slice p31 2 c32] 28 (0,0))],[(bc,.cells #[.string t.name,hv,.int .i64 t.state,.int .u32 t.xid,.int .u32 t.addr,.int .u32 t.server,.int .i64 t.until_,.int .i64 t.one,.int .i64 t.two,.bool false,.int .i64 (t.tries + 1),.int .i64 now,.int .i64 now] 116 (0,0))],s29,s46,s52]) Z ?_
     refine Ze<|Zf<|?_
     refine RunD.one (i := 10) WK rfl  ?_
     refine Run.buildSlice (l := [(0,.tmp 69),(1,.tmp 74)]) (r := [.int .i64 50,.slice p48 4 c49,.int .i64 54,.slice p54 4 c55]) xes26 xzo81 rfl WD rfl rfl WD (lt rfl) (fun b56 => ?_)
     refine Ze<|Zf<|?_
     refine RunD.one (i := 11) WK rfl  ?_
     refine Yk [1,2,0] Z Z Z (put_c (n := 2) (xs := [.int .i64 53,d33,.int .i64 61,d34]) hox36 W) (fun v57 V2 H2 _ hR => ?_)
     obtain ⟨hV,rfl,p58,c59,s60,rfl,ho61⟩ := hR; replace hV := hV.symm; subst hV
     refine Run.heapTo (H' := [[(bc,.cells #[.string t.name,hv,.int .i64 t.state,.int .u32 t.xid,.int .u32 t.addr,.int .u32 t.server,.int .i64 t.until_,.int .i64 t.one,.int .i64 t.two,.bool false,.int .i64 (t.tries + 1),.int .i64 now,.int .i64 now] 116 (0,0))],s46,s52,[(b5,.cells #[.int .i64 1,.int .u32 t.xid,.int .i64 0,.int .i64 0,.int .u32 0,.int .u32 0,.int .u32 0,.int .u32 0,.slice p42 t.hw.length c43,.slice p58 (2 + 2) c59] 28 (0,0))],s60]) Z ?_
     refine Ze<|Zf<|RunD.done WK<|Zc<|Zg<|Zs<|Zr<|Zv (Y.loadAgg Z xag28 (Kn.at 3 Z) Z)<|?_
     refine Run.buildSlice (l := [(0,.tmp 77)]) (r := [.int .i64 1,.int .u32 t.xid,.int .i64 0,.int .i64 0,.int .u32 0,.int .u32 0,.int .u32 0,.int .u32 0,.slice p42 t.hw.length c43,.slice p58 (2 + 2) c59]) xes72 xzo28 rfl WD rfl rfl WD (lt rfl) (fun b62 => ?_)
     refine Za Z<|Za Z<|Ze<|Zg<|Zu<|Ex.keepTo (H' := [s46,[(b62,.cells #[.int .i64 1,.int .u32 t.xid,.int .i64 0,.int .i64 0,.int .u32 0,.int .u32 0,.int .u32 0,.int .u32 0,.slice p42 t.hw.length c43,.slice p58 (2 + 2) c59] 28 (0,0))],[(bc,.cells #[.string t.name,hv,.int .i64 t.state,.int .u32 t.xid,.int .u32 t.addr,.int .u32 t.server,.int .i64 t.until_,.int .i64 t.one,.int .i64 t.two,.bool false,.int .i64 (t.tries + 1),.int .i64 now,.int .i64 now] 116 (0,0))],s52,[(b5,.cells #[.int .i64 1,.int .u32 t.xid,.int .i64 0,.int .i64 0,.int .u32 0,.int .u32 0,.int .u32 0,.int .u32 0,.slice p42 t.hw.length c43,.slice p58 (2 + 2) c59] 28 (0,0))],s60]) [2,0,0,0,0,0] Z<|?_
     refine Ex.show (fun V63 hleV63 hshV63 => ?_)
     have hn3 := hol47.shows _ hshV63
     replace hht := hht.le hleV63
     replace hsx35 := hsx35.le hleV63
     replace hsa37 := hsa37.le hleV63
     replace hsb38 := hsb38.le hleV63
     replace hVle := Vw.le_trans hVle hleV63
     refine Ex.keepTo (H' := [s52,[(b62,.cells #[.int .i64 1,.int .u32 t.xid,.int .i64 0,.int .i64 0,.int .u32 0,.int .u32 0,.int .u32 0,.int .u32 0,.slice p42 t.hw.length c43,.slice p58 (2 + 2) c59] 28 (0,0))],[(bc,.cells #[.string t.name,hv,.int .i64 t.state,.int .u32 t.xid,.int .u32 t.addr,.int .u32 t.server,.int .i64 t.until_,.int .i64 t.one,.int .i64 t.two,.bool false,.int .i64 (t.tries + 1),.int .i64 now,.int .i64 now] 116 (0,0))],[(b5,.cells #[.int .i64 1,.int .u32 t.xid,.int .i64 0,.int .i64 0,.int .u32 0,.int .u32 0,.int .u32 0,.int .u32 0,.slice p42 t.hw.length c43,.slice p58 (2 + 2) c59] 28 (0,0))],s60]) [2,0,0,0,0] Z ?_
     refine Ex.show (fun V64 hleV64 hshV64 => ?_)
     have hn4 := hol53.shows _ hshV64
     replace hht := hht.le hleV64
     replace hsx35 := hsx35.le hleV64
     replace hsa37 := hsa37.le hleV64
     replace hsb38 := hsb38.le hleV64
     replace hn3 := hn3.le hleV64
     replace hVle := Vw.le_trans hVle hleV64
     refine Ex.keepTo (H' := [s60,[(b62,.cells #[.int .i64 1,.int .u32 t.xid,.int .i64 0,.int .i64 0,.int .u32 0,.int .u32 0,.int .u32 0,.int .u32 0,.slice p42 t.hw.length c43,.slice p58 (2 + 2) c59] 28 (0,0))],[(bc,.cells #[.string t.name,hv,.int .i64 t.state,.int .u32 t.xid,.int .u32 t.addr,.int .u32 t.server,.int .i64 t.until_,.int .i64 t.one,.int .i64 t.two,.bool false,.int .i64 (t.tries + 1),.int .i64 now,.int .i64 now] 116 (0,0))],[(b5,.cells #[.int .i64 1,.int .u32 t.xid,.int .i64 0,.int .i64 0,.int .u32 0,.int .u32 0,.int .u32 0,.int .u32 0,.slice p42 t.hw.length c43,.slice p58 (2 + 2) c59] 28 (0,0))]]) [3,0,0,0] Z ?_
     refine Ex.show (fun V65 hleV65 hshV65 => ?_)
     have hso := ho61.shows _ hshV65
     replace hht := hht.le hleV65
     replace hsx35 := hsx35.le hleV65
     replace hsa37 := hsa37.le hleV65
     replace hsb38 := hsb38.le hleV65
     replace hn3 := hn3.le hleV65
     replace hn4 := hn4.le hleV65
     replace hVle := Vw.le_trans hVle hleV65
     refine Ex.keepTo (H' := [[(b62,.cells #[.int .i64 1,.int .u32 t.xid,.int .i64 0,.int .i64 0,.int .u32 0,.int .u32 0,.int .u32 0,.int .u32 0,.slice p42 t.hw.length c43,.slice p58 (2 + 2) c59] 28 (0,0))],[(bc,.cells #[.string t.name,hv,.int .i64 t.state,.int .u32 t.xid,.int .u32 t.addr,.int .u32 t.server,.int .i64 t.until_,.int .i64 t.one,.int .i64 t.two,.bool false,.int .i64 (t.tries + 1),.int .i64 now,.int .i64 now] 116 (0,0))],[(b5,.cells #[.int .i64 1,.int .u32 t.xid,.int .i64 0,.int .i64 0,.int .u32 0,.int .u32 0,.int .u32 0,.int .u32 0,.slice p42 t.hw.length c43,.slice p58 (2 + 2) c59] 28 (0,0))]]) [0,0,0] Z ?_
     refine Ex.show (fun V66 hleV66 hshV66 => ?_)
     have hpk := (Ow.lit (e := 28) (k := 10) (b := b62) (n := 1) (cur := #[.int .i64 1,.int .u32 t.xid,.int .i64 0,.int .i64 0,.int .u32 0,.int .u32 0,.int .u32 0,.int .u32 0,.slice p42 t.hw.length c43,.slice p58 (2 + 2) c59]) rfl WD).shows _ hshV66
     replace hht := hht.le hleV66
     replace hsx35 := hsx35.le hleV66
     replace hsa37 := hsa37.le hleV66
     replace hsb38 := hsb38.le hleV66
     replace hn3 := hn3.le hleV66
     replace hn4 := hn4.le hleV66
     replace hso := hso.le hleV66
     replace hVle := Vw.le_trans hVle hleV66
     have hpb := hshV66 _ _ lookup_one
     refine Ex.keep [0] ?_
     have hkp : Pc.Rk 28 V66 (.slice (some ⟨b62,0,none⟩) 1 1) [Cli.sayP t] := by
       rw [Cli.sayP_2 g6 g26]
       exact ⟨_,.slice p42 t.hw.length c43,.slice p58 (2 + 2) c59,rfl,hpb,Cli.Said_R4 (c := t) (kind := 3) hsx35 hso hsa37 hsb38 hn3 hn4 hit.xid⟩
     exact Ex.ret2 rfl rfl rfl  ⟨hVle,by rw [(Cli.tick_y (c := c) h1 g2 (by rw [<- ht]; exact h4)).1,<- ht,Cli.sayC_y ⟨g26,g27⟩]; try rfl,_,by rw [(Cli.tick_y (c := c) h1 g2 (by rw [<- ht]; exact h4)).2.1],by rw [(Cli.tick_y (c := c) h1 g2 (by rw [<- ht]; exact h4)).2.2,<- ht]; exact hkp⟩
    refine Tr.cond_f Z h27<|Zt<|Zg<|Zs<|Zr<|Zm Z<|?_
    refine Yk [1] Z Z Z (says_c_h (c := (⟨t.name,t.hw,t.state,t.xid,t.addr,t.server,t.until_,t.one,t.two,false,t.tries + 1,now,t.asks⟩ : Cli)) (kind := 3) hht hhl.2) (fun v67 V2 H2 hle78 hR => ?_)
    obtain ⟨_,s68,rfl,w80,p70,c71,d72,d73,rfl,hsx74,hox75,hsa76,hsb77⟩ := hR
    obtain ⟨p81,c82,rfl,_⟩ := hsx74.form
    obtain ⟨Vs79,hVe⟩ : ∃ V3 : Vw,V3 = V2 := ⟨_,rfl⟩
    subst hVe
    replace hht := hht.le hle78
    have hVle := hle78
    refine Run.heapTo (H' := [[(b5,.cells #[.int .i64 0,.int .u32 0,.int .i64 0,.int .i64 0,.int .u32 0,.int .u32 0,.int .u32 0,.int .u32 0,.slice none 0 0,.slice none 0 0] 28 (0,0))],[(bc,.cells #[.string t.name,hv,.int .i64 t.state,.int .u32 t.xid,.int .u32 t.addr,.int .u32 t.server,.int .i64 t.until_,.int .i64 t.one,.int .i64 t.two,.bool false,.int .i64 (t.tries + 1),.int .i64 now,.int .i64 t.asks] 116 (0,0))],s68]) Z ?_
    refine Run.store (s := [(b5,.cells #[.int .i64 1,.int .u32 t.xid,.int .i64 0,.int .i64 0,.int .u32 0,.int .u32 0,.int .u32 0,.int .u32 0,.slice p81 t.hw.length c82,.slice p70 2 c71] 28 (0,0))]) Z Z xsz28 (i := 0) Z Z (le Z) Z Z<|Ze<|Zg<|Tr.anyD [(bc,.cells #[.string t.name,hv,.int .i64 t.state,.int .u32 t.xid,.int .u32 t.addr,.int .u32 t.server,.int .i64 t.until_,.int .i64 t.one,.int .i64 t.two,.bool false,.int .i64 (t.tries + 1),.int .i64 now,.int .i64 t.asks] 116 (0,0))] xmo<|?_
    refine Zd 0 Z (fun _ => (Y.move rfl))<|Zd 1 Z (fun _ => (Y.nilCheck rfl))<|Zd 2 Z (fun _ => (Y.fieldAddr rfl xfo116_4))<|ZD 3 0 Z Z (fun _ => (Y.load rfl xts24 Kn.vk1 rfl))<|Zd 5 Z (fun _ => (Y.move rfl))<|Zd 6 Z (fun _ => (Y.nilCheck rfl))<|Zd 7 Z (fun _ => (Y.fieldAddr rfl xfo116_5))<|ZD 8 0 Z Z (fun _ => (Y.load rfl xts24 Kn.vk1 rfl))<|?_
    refine RunD.one (i := 4) WK rfl  ?_
    refine Yk [] Z Z Z (long_c (n := t.addr) (code := 50) hit.addr) (fun v83 V2 H2 _ hR => ?_)
    obtain ⟨hV,z84,s85,rfl,rfl,hol86⟩ := hR; replace hV := hV.symm; subst hV; obtain ⟨p87,c88,rfl⟩ := hol86.form
    refine Run.heapTo (H' := [[(b5,.cells #[.int .i64 1,.int .u32 t.xid,.int .i64 0,.int .i64 0,.int .u32 0,.int .u32 0,.int .u32 0,.int .u32 0,.slice p81 t.hw.length c82,.slice p70 2 c71] 28 (0,0))],[(bc,.cells #[.string t.name,hv,.int .i64 t.state,.int .u32 t.xid,.int .u32 t.addr,.int .u32 t.server,.int .i64 t.until_,.int .i64 t.one,.int .i64 t.two,.bool false,.int .i64 (t.tries + 1),.int .i64 now,.int .i64 t.asks] 116 (0,0))],s68,s85]) Z ?_
    refine Ze<|Zf<|?_
    refine RunD.one (i := 9) WK rfl  ?_
    refine Yk [] Z Z Z (long_c (n := t.server) (code := 54) hit.server) (fun v89 V2 H2 _ hR => ?_)
    obtain ⟨hV,z90,s91,rfl,rfl,hol92⟩ := hR; replace hV := hV.symm; subst hV; obtain ⟨p93,c94,rfl⟩ := hol92.form
    refine Run.heapTo (H' := [[(b5,.cells #[.int .i64 1,.int .u32 t.xid,.int .i64 0,.int .i64 0,.int .u32 0,.int .u32 0,.int .u32 0,.int .u32 0,.slice p81 t.hw.length c82,.slice p70 2 c71] 28 (0,0))],[(bc,.cells #[.string t.name,hv,.int .i64 t.state,.int .u32 t.xid,.int .u32 t.addr,.int .u32 t.server,.int .i64 t.until_,.int .i64 t.one,.int .i64 t.two,.bool false,.int .i64 (t.tries + 1),.int .i64 now,.int .i64 t.asks] 116 (0,0))],s68,s85,s91]) Z ?_
    refine Ze<|Zf<|?_
    refine RunD.one (i := 10) WK rfl  ?_
    refine Run.buildSlice (l := [(0,.tmp 69),(1,.tmp 74)]) (r := [.int .i64 50,.slice p87 4 c88,.int .i64 54,.slice p93 4 c94]) xes26 xzo81 rfl WD rfl rfl WD (lt rfl) (fun b95 => ?_)
    refine Ze<|Zf<|?_
    refine RunD.one (i := 11) WK rfl  ?_
    refine Yk [1,2,0] Z Z Z (put_c (n := 2) (xs := [.int .i64 53,d72,.int .i64 61,d73]) hox75 W) (fun v96 V2 H2 _ hR => ?_)
    obtain ⟨hV,rfl,p97,c98,s99,rfl,ho100⟩ := hR; replace hV := hV.symm; subst hV
    refine Run.heapTo (H' := [[(bc,.cells #[.string t.name,hv,.int .i64 t.state,.int .u32 t.xid,.int .u32 t.addr,.int .u32 t.server,.int .i64 t.until_,.int .i64 t.one,.int .i64 t.two,.bool false,.int .i64 (t.tries + 1),.int .i64 now,.int .i64 t.asks] 116 (0,0))],s85,s91,[(b5,.cells #[.int .i64 1,.int .u32 t.xid,.int .i64 0,.int .i64 0,.int .u32 0,.int .u32 0,.int .u32 0,.int .u32 0,.slice p81 t.hw.length c82,.slice p97 (2 + 2) c98] 28 (0,0))],s99]) Z ?_
    refine Ze<|Zf<|RunD.done WK<|Zc<|Zg<|Zs<|Zr<|Zv (Y.loadAgg Z xag28 (Kn.at 3 Z) Z)<|?_
    refine Run.buildSlice (l := [(0,.tmp 77)]) (r := [.int .i64 1,.int .u32 t.xid,.int .i64 0,.int .i64 0,.int .u32 0,.int .u32 0,.int .u32 0,.int .u32 0,.slice p81 t.hw.length c82,.slice p97 (2 + 2) c98]) xes72 xzo28 rfl WD rfl rfl WD (lt rfl) (fun b101 => ?_)
    refine Za Z<|Za Z<|Ze<|Zg<|Zu<|Ex.keepTo (H' := [s85,[(b101,.cells #[.int .i64 1,.int .u32 t.xid,.int .i64 0,.int .i64 0,.int .u32 0,.int .u32 0,.int .u32 0,.int .u32 0,.slice p81 t.hw.length c82,.slice p97 (2 + 2) c98] 28 (0,0))],[(bc,.cells #[.string t.name,hv,.int .i64 t.state,.int .u32 t.xid,.int .u32 t.addr,.int .u32 t.server,.int .i64 t.until_,.int .i64 t.one,.int .i64 t.two,.bool false,.int .i64 (t.tries + 1),.int .i64 now,.int .i64 t.asks] 116 (0,0))],s91,[(b5,.cells #[.int .i64 1,.int .u32 t.xid,.int .i64 0,.int .i64 0,.int .u32 0,.int .u32 0,.int .u32 0,.int .u32 0,.slice p81 t.hw.length c82,.slice p97 (2 + 2) c98] 28 (0,0))],s99]) [2,0,0,0,0,0] Z<|?_
    refine Ex.show (fun V102 hleV102 hshV102 => ?_)
    have hn3 := hol86.shows _ hshV102
    replace hht := hht.le hleV102
    replace hsx74 := hsx74.le hleV102
    replace hsa76 := hsa76.le hleV102
    replace hsb77 := hsb77.le hleV102
    replace hVle := Vw.le_trans hVle hleV102
    refine Ex.keepTo (H' := [s91,[(b101,.cells #[.int .i64 1,.int .u32 t.xid,.int .i64 0,.int .i64 0,.int .u32 0,.int .u32 0,.int .u32 0,.int .u32 0,.slice p81 t.hw.length c82,.slice p97 (2 + 2) c98] 28 (0,0))],[(bc,.cells #[.string t.name,hv,.int .i64 t.state,.int .u32 t.xid,.int .u32 t.addr,.int .u32 t.server,.int .i64 t.until_,.int .i64 t.one,.int .i64 t.two,.bool false,.int .i64 (t.tries + 1),.int .i64 now,.int .i64 t.asks] 116 (0,0))],[(b5,.cells #[.int .i64 1,.int .u32 t.xid,.int .i64 0,.int .i64 0,.int .u32 0,.int .u32 0,.int .u32 0,.int .u32 0,.slice p81 t.hw.length c82,.slice p97 (2 + 2) c98] 28 (0,0))],s99]) [2,0,0,0,0] Z ?_
    refine Ex.show (fun V103 hleV103 hshV103 => ?_)
    have hn4 := hol92.shows _ hshV103
    replace hht := hht.le hleV103
    replace hsx74 := hsx74.le hleV103
    replace hsa76 := hsa76.le hleV103
    replace hsb77 := hsb77.le hleV103
    replace hn3 := hn3.le hleV103
    replace hVle := Vw.le_trans hVle hleV103
    refine Ex.keepTo (H' := [s99,[(b101,.cells #[.int .i64 1,.int .u32 t.xid,.int .i64 0,.int .i64 0,.int .u32 0,.int .u32 0,.int .u32 0,.int .u32 0,.slice p81 t.hw.length c82,.slice p97 (2 + 2) c98] 28 (0,0))],[(bc,.cells #[.string t.name,hv,.int .i64 t.state,.int .u32 t.xid,.int .u32 t.addr,.int .u32 t.server,.int .i64 t.until_,.int .i64 t.one,.int .i64 t.two,.bool false,.int .i64 (t.tries + 1),.int .i64 now,.int .i64 t.asks] 116 (0,0))],[(b5,.cells #[.int .i64 1,.int .u32 t.xid,.int .i64 0,.int .i64 0,.int .u32 0,.int .u32 0,.int .u32 0,.int .u32 0,.slice p81 t.hw.length c82,.slice p97 (2 + 2) c98] 28 (0,0))]]) [3,0,0,0] Z ?_
    refine Ex.show (fun V104 hleV104 hshV104 => ?_)
    have hso := ho100.shows _ hshV104
    replace hht := hht.le hleV104
    replace hsx74 := hsx74.le hleV104
    replace hsa76 := hsa76.le hleV104
    replace hsb77 := hsb77.le hleV104
    replace hn3 := hn3.le hleV104
    replace hn4 := hn4.le hleV104
    replace hVle := Vw.le_trans hVle hleV104
    refine Ex.keepTo (H' := [[(b101,.cells #[.int .i64 1,.int .u32 t.xid,.int .i64 0,.int .i64 0,.int .u32 0,.int .u32 0,.int .u32 0,.int .u32 0,.slice p81 t.hw.length c82,.slice p97 (2 + 2) c98] 28 (0,0))],[(bc,.cells #[.string t.name,hv,.int .i64 t.state,.int .u32 t.xid,.int .u32 t.addr,.int .u32 t.server,.int .i64 t.until_,.int .i64 t.one,.int .i64 t.two,.bool false,.int .i64 (t.tries + 1),.int .i64 now,.int .i64 t.asks] 116 (0,0))],[(b5,.cells #[.int .i64 1,.int .u32 t.xid,.int .i64 0,.int .i64 0,.int .u32 0,.int .u32 0,.int .u32 0,.int .u32 0,.slice p81 t.hw.length c82,.slice p97 (2 + 2) c98] 28 (0,0))]]) [0,0,0] Z ?_
    refine Ex.show (fun V105 hleV105 hshV105 => ?_)
    have hpk := (Ow.lit (e := 28) (k := 10) (b := b101) (n := 1) (cur := #[.int .i64 1,.int .u32 t.xid,.int .i64 0,.int .i64 0,.int .u32 0,.int .u32 0,.int .u32 0,.int .u32 0,.slice p81 t.hw.length c82,.slice p97 (2 + 2) c98]) rfl WD).shows _ hshV105
    replace hht := hht.le hleV105
    replace hsx74 := hsx74.le hleV105
    replace hsa76 := hsa76.le hleV105
    replace hsb77 := hsb77.le hleV105
    replace hn3 := hn3.le hleV105
    replace hn4 := hn4.le hleV105
    replace hso := hso.le hleV105
    replace hVle := Vw.le_trans hVle hleV105
    have hpb := hshV105 _ _ lookup_one
    refine Ex.keep [0] ?_
    have hkp : Pc.Rk 28 V105 (.slice (some ⟨b101,0,none⟩) 1 1) [Cli.sayP t] := by
      rw [Cli.sayP_2 g6 g26]
      exact ⟨_,.slice p81 t.hw.length c82,.slice p97 (2 + 2) c98,rfl,hpb,Cli.Said_R4 (c := t) (kind := 3) hsx74 hso hsa76 hsb77 hn3 hn4 hit.xid⟩
    exact Ex.ret2 rfl rfl rfl  ⟨hVle,by rw [(Cli.tick_y (c := c) h1 g2 (by rw [<- ht]; exact h4)).1,<- ht,Cli.sayC_n W]; try rfl,_,by rw [(Cli.tick_y (c := c) h1 g2 (by rw [<- ht]; exact h4)).2.1],by rw [(Cli.tick_y (c := c) h1 g2 (by rw [<- ht]; exact h4)).2.2,<- ht]; exact hkp⟩
   refine Tr.cond_f Z h26<|Zs<|Zr<|Zm Z<|?_
   refine Yk [1] Z Z Z (says_c_h (c := (⟨t.name,t.hw,t.state,t.xid,t.addr,t.server,t.until_,t.one,t.two,false,t.tries + 1,now,t.asks⟩ : Cli)) (kind := 3) hht hhl.2) (fun v106 V2 H2 hle117 hR => ?_)
   obtain ⟨_,s107,rfl,w119,p109,c110,d111,d112,rfl,hsx113,hox114,hsa115,hsb116⟩ := hR
   obtain ⟨p120,c121,rfl,_⟩ := hsx113.form
   obtain ⟨Vs118,hVe⟩ : ∃ V3 : Vw,V3 = V2 := ⟨_,rfl⟩
   subst hVe
   replace hht := hht.le hle117
   have hVle := hle117
   refine Run.heapTo (H' := [[(b5,.cells #[.int .i64 0,.int .u32 0,.int .i64 0,.int .i64 0,.int .u32 0,.int .u32 0,.int .u32 0,.int .u32 0,.slice none 0 0,.slice none 0 0] 28 (0,0))],[(bc,.cells #[.string t.name,hv,.int .i64 t.state,.int .u32 t.xid,.int .u32 t.addr,.int .u32 t.server,.int .i64 t.until_,.int .i64 t.one,.int .i64 t.two,.bool false,.int .i64 (t.tries + 1),.int .i64 now,.int .i64 t.asks] 116 (0,0))],s107]) Z ?_
   refine Run.store (s := [(b5,.cells #[.int .i64 1,.int .u32 t.xid,.int .i64 0,.int .i64 0,.int .u32 0,.int .u32 0,.int .u32 0,.int .u32 0,.slice p120 t.hw.length c121,.slice p109 2 c110] 28 (0,0))]) Z Z xsz28 (i := 0) Z Z (le Z) Z Z<|Ze<|Zg<|Zr<|Zm Z<|Zv (Y.nilCheck Z)<|Zv (Y.fieldAddr Z xfo116_4)<|Zv (Y.load Z xts24 (Kn.at 1 Z) Z)<|Zv (Y.fieldAddr Z xfo28_4)<|Run.store (s := [(b5,.cells #[.int .i64 1,.int .u32 t.xid,.int .i64 0,.int .i64 0,.int .u32 t.addr,.int .u32 0,.int .u32 0,.int .u32 0,.slice p120 t.hw.length c121,.slice p109 2 c110] 28 (0,0))]) Z Z xsz24 (i := 0) Z Z (le Z) Z Z<|?_
   refine Ze<|Zc<|Zg<|Zs<|Zr<|Zv (Y.loadAgg Z xag28 (Kn.at 0 Z) Z)<|?_
   refine Run.buildSlice (l := [(0,.tmp 77)]) (r := [.int .i64 1,.int .u32 t.xid,.int .i64 0,.int .i64 0,.int .u32 t.addr,.int .u32 0,.int .u32 0,.int .u32 0,.slice p120 t.hw.length c121,.slice p109 2 c110]) xes72 xzo28 rfl WD rfl rfl WD (lt rfl) (fun b122 => ?_)
   refine Za Z<|Za Z<|Ze<|Zg<|Zu<|Ex.keepTo (H' := [s107,[(b122,.cells #[.int .i64 1,.int .u32 t.xid,.int .i64 0,.int .i64 0,.int .u32 t.addr,.int .u32 0,.int .u32 0,.int .u32 0,.slice p120 t.hw.length c121,.slice p109 2 c110] 28 (0,0))],[(b5,.cells #[.int .i64 1,.int .u32 t.xid,.int .i64 0,.int .i64 0,.int .u32 t.addr,.int .u32 0,.int .u32 0,.int .u32 0,.slice p120 t.hw.length c121,.slice p109 2 c110] 28 (0,0))],[(bc,.cells #[.string t.name,hv,.int .i64 t.state,.int .u32 t.xid,.int .u32 t.addr,.int .u32 t.server,.int .i64 t.until_,.int .i64 t.one,.int .i64 t.two,.bool false,.int .i64 (t.tries + 1),.int .i64 now,.int .i64 t.asks] 116 (0,0))]]) [3,0,0,0] Z<|?_
   refine Ex.show (fun V123 hleV123 hshV123 => ?_)
   have hso := hox114.shows _ hshV123
   replace hht := hht.le hleV123
   replace hsx113 := hsx113.le hleV123
   replace hsa115 := hsa115.le hleV123
   replace hsb116 := hsb116.le hleV123
   replace hVle := Vw.le_trans hVle hleV123
   refine Ex.keepTo (H' := [[(b122,.cells #[.int .i64 1,.int .u32 t.xid,.int .i64 0,.int .i64 0,.int .u32 t.addr,.int .u32 0,.int .u32 0,.int .u32 0,.slice p120 t.hw.length c121,.slice p109 2 c110] 28 (0,0))],[(b5,.cells #[.int .i64 1,.int .u32 t.xid,.int .i64 0,.int .i64 0,.int .u32 t.addr,.int .u32 0,.int .u32 0,.int .u32 0,.slice p120 t.hw.length c121,.slice p109 2 c110] 28 (0,0))],[(bc,.cells #[.string t.name,hv,.int .i64 t.state,.int .u32 t.xid,.int .u32 t.addr,.int .u32 t.server,.int .i64 t.until_,.int .i64 t.one,.int .i64 t.two,.bool false,.int .i64 (t.tries + 1),.int .i64 now,.int .i64 t.asks] 116 (0,0))]]) [0,0,0] Z ?_
   refine Ex.show (fun V124 hleV124 hshV124 => ?_)
   have hpk := (Ow.lit (e := 28) (k := 10) (b := b122) (n := 1) (cur := #[.int .i64 1,.int .u32 t.xid,.int .i64 0,.int .i64 0,.int .u32 t.addr,.int .u32 0,.int .u32 0,.int .u32 0,.slice p120 t.hw.length c121,.slice p109 2 c110]) rfl WD).shows _ hshV124
   replace hht := hht.le hleV124
   replace hsx113 := hsx113.le hleV124
   replace hsa115 := hsa115.le hleV124
   replace hsb116 := hsb116.le hleV124
   replace hso := hso.le hleV124
   replace hVle := Vw.le_trans hVle hleV124
   have hpb := hshV124 _ _ lookup_one
   refine Ex.keep [1] ?_
   have hkp : Pc.Rk 28 V124 (.slice (some ⟨b122,0,none⟩) 1 1) [Cli.sayP t] := by
     rw [Cli.sayP_d g6 g26]
     exact ⟨_,.slice p120 t.hw.length c121,.slice p109 2 c110,rfl,hpb,Cli.R_ci (Cli.Said_R (c := t) (kind := 3) hsx113 hso hsa115 hsb116 hit.xid) t.addr⟩
   exact Ex.ret2 rfl rfl rfl  ⟨hVle,by rw [(Cli.tick_y (c := c) h1 g2 (by rw [<- ht]; exact h4)).1,<- ht,Cli.sayC_n W]; try rfl,_,by rw [(Cli.tick_y (c := c) h1 g2 (by rw [<- ht]; exact h4)).2.1],by rw [(Cli.tick_y (c := c) h1 g2 (by rw [<- ht]; exact h4)).2.2,<- ht]; exact hkp⟩
  refine Tr.cond_t Z (congrArg Bool.not h4)<|Zs<|Zr<|Za Z<|Za Z<|Ze<|Zg<|Zu<|Zn<|Ex.keep [0]<|?_
  exact Ex.ret2 rfl rfl rfl  ⟨Vw.le_refl _,by rw [(Cli.tick_n (c := c) h1 g2 (by rw [<- ht]; exact h4)).1,<- ht]; try rfl,_,by rw [(Cli.tick_n (c := c) h1 g2 (by rw [<- ht]; exact h4)).2.1],by rw [(Cli.tick_n (c := c) h1 g2 (by rw [<- ht]; exact h4)).2.2]; rfl⟩
 refine Tr.cond_t Z (congrArg Bool.not h1)<|Zs<|Zr<|Za Z<|Za Z<|Ze<|Zg<|Zu<|Zn<|Ex.keep [0]<|?_
 exact Ex.ret2 rfl rfl rfl  ⟨Vw.le_refl _,by rw [(Cli.tick_m (c := c) h1).1]; try rfl,_,by rw [(Cli.tick_m (c := c) h1).2.1],by rw [(Cli.tick_m (c := c) h1).2.2]; rfl⟩
end Go.Proofs.YtfgblingojgafaaGreat
namespace Go.Proofs.YtfgblingojgafaaGreat
open Go Go.K
attribute [local irreducible] Code.wp wpList Calls wpQuiet
set_option maxHeartbeats 1000000 in
theorem take_c {V : Vw} {bc : Nat} {c : Cli} {hv hv2 ov : Value} {n now : Int} {p : Pc} (hi : Cli.Inv n c) (hh : Rd V [] 1 hv c.hw.length (c.hw.map byteV)) (hp : Pc.R V p hv2 ov) (hf : Pc.few p = true)  : Does Tryz.prog 31 [(pZ bc),.agg (p.cells hv2 ov),.int .i64 now] V [[(bc,.cells (Cli.cells c hv) 116 (0,0))]] (fun u V' H' => V' = V /\ u = .int .i64 (Cli.takeE c p now) /\ H' = [[(bc,.cells (Cli.cells (Cli.takeC c p now) hv) 116 (0,0))]]) := by
 have hyi := hp.yi
 have hsi := hp.si
 have h51 := Cli.num_u32 p 51 (o := 0) WD
 have h54 := Cli.num_u32 p 54 hp.si
 have h58 := Cli.num_u32 p 58 (o := Pc.num p 51 0 / 2) W
 have h59 := Cli.num_u32 p 59 (o := Pc.num p 51 0 - Pc.num p 51 0 / 8) W
 have hak := hi.asks
 have hst := hi.state
 refine Does.intro Tryz.func31 rfl rfl (le rfl) (fun B => ?_)
 refine Zs<|Zr<|?_
 refine Run.box rfl (lt rfl) (fun b1 => ?_)
 refine Za Z<|Ze<|Zg<|Zs<|Zb<|Zs<|Zr<|Zm Z<|Yc Z Z Z moment_c_h<|Zv (Y.not Z)<|Za Z<|Ze<|Zg<|?_
 refine Zq (Con.moment now) (fun h2 g2 => ?_) fun h2 g2 => ?_
 ·refine Tr.cond_f Z (congrArg Bool.not h2)<|Zs<|Zr<|Zv (Y.loadAgg Z xag28 (Kn.at 0 Z) Z)<|Yc Z Z Z (pright_h hp hf)<|Zv (Y.not Z)<|Zm Z<|?_
  refine Zq (Pc.right p) (fun h3 g3 => ?_) fun h3 g3 => ?_
  ·refine Zp (congrArg Bool.not h3)<|Zv (Y.fieldAddr Z xfo28_0)<|Zp (congrArg Bool.not h3)<|Zv (Y.load Z xts3 (Kn.at 0 Z) Z)<|Zp (congrArg Bool.not h3)<|Zv (Y.int Z Z Z)<|Zv (Y.pick_f Z (congrArg Bool.not h3) Z)<|Za Z<|Ze<|Zg<|?_
   refine Zq (p.op != 2) (fun h4 g4 => ?_) fun h4 g4 => ?_
   ·refine Tr.cond_t Z h4<|Zs<|Zr<|Za Z<|Ze<|Zg<|Zu<|Zk<|Zn<|Ex.keep [1]<|?_
    have e := Cli.take_2 (c := c) h2 (fun q => g4 q.2)
    exact Ex.ret1 rfl rfl  ⟨rfl,by rw [e.1],by rw [e.2]; try rfl⟩
   refine Tr.cond_f Z h4 ?_
   refine Tr.cut V [[(b1,.cells #[.int .i64 p.op,.int .u32 p.xid,.int .i64 p.secs,.int .i64 p.flags,.int .u32 p.ci,.int .u32 p.yi,.int .u32 p.si,.int .u32 p.gi,hv2,ov] 28 (0,0))],[(bc,.cells #[.string c.name,hv,.int .i64 c.state,.int .u32 c.xid,.int .u32 c.addr,.int .u32 c.server,.int .i64 c.until_,.int .i64 c.one,.int .i64 c.two,.bool c.due,.int .i64 c.tries,.int .i64 c.said,.int .i64 c.asks] 116 (0,0))]] [(0,(pZ bc)),(2,.int .i64 now),(4,(pZ b1)),(22,.bool (decide (Cli.old c p)))] ?_ ?_
   ·refine Tr.quiet xmo WK<|ZV (Y.fieldAddr Z xfo28_1)<|ZV (Y.load Z xts23 (Kn.at 0 Z) Z)<|ZM Z<|ZV (Y.nilCheck Z)<|ZV (Y.fieldAddr Z xfo116_3)<|ZV (Y.load Z xts23 (Kn.at 1 Z) Z)<|ZV (Y.int Z Z Z)<|ZM Z<|?_
    refine Zq (p.xid != c.xid) (fun h5 g5 => ?_) fun h5 g5 => ?_
    ·refine ZO h5 Z<|ZO h5 Z<|ZO h5 Z<|ZO h5 Z<|ZO h5 Z<|ZO h5 Z<|ZO h5 Z<|ZO h5 Z<|ZV (Y.pick_t Z h5 Z)<|ZM Z<|ZO Z Z<|ZO Z Z<|ZO Z Z<|ZO Z Z<|ZO Z Z<|ZV (Y.pick_t Z Z Z)<|?_
     refine ZM Z<|ZO Z Z<|ZO Z Z<|ZO Z Z<|ZO Z Z<|ZO Z Z<|ZV (Y.pick_t Z Z Z)<|ZA Z<|ZE<|?_
     exact Ex.cut rfl (by repeat (first | exact subB_nil _ | refine subB_cons (by first | rfl | exact congrArg (fun z => some (Value.int _ z)) W | exact congrArg (fun b => some (Value.bool b)) ((decide_eq_true (show Cli.old c p from .inl W)).symm)) ?_))
    refine ZP h5<|ZV (Y.fieldAddr Z xfo28_8)<|ZP h5<|ZV (Y.load Z xts25 (Kn.at 0 Z) Z)<|ZP h5<|ZM Z<|ZP h5<|ZV (Y.nilCheck Z)<|ZP h5<|ZV (Y.fieldAddr Z xfo116_1)<|ZP h5<|ZV (Y.load Z xts25 (Kn.at 1 Z) Z)<|ZP h5<|YC Z Z Z (equal_h hp.hw hh)<|ZP h5<|ZV (Y.not Z)<|?_
    refine ZV (Y.pick_f Z h5 Z)<|ZM Z<|?_
    refine Zq (p.hw == c.hw) (fun h6 g6 => ?_) fun h6 g6 => ?_
    ·refine ZP (congrArg Bool.not h6)<|ZM Z<|ZP (congrArg Bool.not h6)<|ZV (Y.nilCheck Z)<|ZP (congrArg Bool.not h6)<|ZV (Y.fieldAddr Z xfo116_2)<|ZP (congrArg Bool.not h6)<|ZV (Y.load Z xts3 (Kn.at 1 Z) Z)<|ZP (congrArg Bool.not h6)<|ZV (Y.int Z Z Z)<|ZV (Y.pick_f Z (congrArg Bool.not h6) Z)<|ZM Z<|?_
     refine Zq (c.state == 0) (fun h7 g7 => ?_) fun h7 g7 => ?_
     ·refine ZO h7 Z<|ZO h7 Z<|ZO h7 Z<|ZO h7 Z<|ZO h7 Z<|ZV (Y.pick_t Z h7 Z)<|ZA Z<|ZE<|?_
      exact Ex.cut rfl (by repeat (first | exact subB_nil _ | refine subB_cons (by first | rfl | exact congrArg (fun z => some (Value.int _ z)) W | exact congrArg (fun b => some (Value.bool b)) ((decide_eq_true (show Cli.old c p from .inr (.inr (.inl W)))).symm)) ?_))
     refine ZP h7<|ZM Z<|ZP h7<|ZV (Y.nilCheck Z)<|ZP h7<|ZV (Y.fieldAddr Z xfo116_2)<|ZP h7<|ZV (Y.load Z xts3 (Kn.at 1 Z) Z)<|ZP h7<|ZV (Y.int Z Z Z)<|ZV (Y.pick_f Z h7 Z)<|ZA Z<|ZE<|?_
     exact Ex.cut rfl (by repeat (first | exact subB_nil _ | refine subB_cons (by first | rfl | exact congrArg (fun z => some (Value.int _ z)) W | exact congrArg (fun b => some (Value.bool b)) (by rw [Bool.eq_iff_iff,decide_eq_true_eq,beq_iff_eq]; exact ⟨fun h => .inr (.inr (.inr h)),(by rintro (h | h | h | h) <;> first | omega | exact absurd (by simpa using h6) h)⟩)) ?_))
    refine ZO (congrArg Bool.not h6) Z<|ZO (congrArg Bool.not h6) Z<|ZO (congrArg Bool.not h6) Z<|ZO (congrArg Bool.not h6) Z<|ZO (congrArg Bool.not h6) Z<|ZV (Y.pick_t Z (congrArg Bool.not h6) Z)<|ZM Z<|ZO Z Z<|ZO Z Z<|ZO Z Z<|ZO Z Z<|ZO Z Z<|ZV (Y.pick_t Z Z Z)<|ZA Z<|ZE<|?_
    exact Ex.cut rfl (by repeat (first | exact subB_nil _ | refine subB_cons (by first | rfl | exact congrArg (fun z => some (Value.int _ z)) W | exact congrArg (fun b => some (Value.bool b)) ((decide_eq_true (show Cli.old c p from .inr (.inl (by simpa using h6)))).symm)) ?_))
   refine Zq (decide (Cli.old c p)) (fun h8 g8 => ?_) fun h8 g8 => ?_
   ·refine Tr.cond_t Z h8<|Zs<|Zr<|Za Z<|Ze<|Zg<|Zu<|Zk<|Zn<|Ex.keep [1]<|?_
    have e := Cli.take_8 h2 h3 W (of_decide_eq_true h8)
    exact Ex.ret1 rfl rfl  ⟨rfl,by rw [e.1],by rw [e.2]; try rfl⟩
   refine Tr.cond_f Z h8<|Zt<|Zc<|Zg<|Zs<|Zr<|Zv (Y.loadAgg Z xag28 (Kn.at 0 Z) Z)<|Yc Z Z Z (num_h hp hf)<|Za Z<|Ze<|Zg<|Zs<|Zs<|Zr<|Zv (Y.loadAgg Z xag28 (Kn.at 0 Z) Z)<|Yc Z Z Z (kind_h hp hf)<|?_
   refine Za Z<|Ze<|Zg<|Zb<|?_
   refine Tr.cut V [[(b1,.cells #[.int .i64 p.op,.int .u32 p.xid,.int .i64 p.secs,.int .i64 p.flags,.int .u32 p.ci,.int .u32 p.yi,.int .u32 p.si,.int .u32 p.gi,hv2,ov] 28 (0,0))],[(bc,.cells #[.string c.name,hv,.int .i64 c.state,.int .u32 c.xid,.int .u32 c.addr,.int .u32 c.server,.int .i64 c.until_,.int .i64 c.one,.int .i64 c.two,.bool c.due,.int .i64 c.tries,.int .i64 c.said,.int .i64 c.asks] 116 (0,0))]] [(0,(pZ bc)),(4,(pZ b1)),(7,.int .i64 (Pc.num p 51 0)),(8,.int .i64 (Pc.kind p)),(58,.bool (decide (Cli.offered c p)))] ?_ ?_
   ·refine Zr<|Zm Z<|Zv (Y.int Z Z Z)<|Zm Z<|?_
    refine Zq ((Pc.kind p) == 2) (fun h9 g9 => ?_) fun h9 g9 => ?_
    ·refine Zp h9<|Zm Z<|Zp h9<|Zv (Y.nilCheck Z)<|Zp h9<|Zv (Y.fieldAddr Z xfo116_2)<|Zp h9<|Zv (Y.load Z xts3 (Kn.at 1 Z) Z)<|Zp h9<|Zv (Y.int Z Z Z)<|Zv (Y.pick_t Z h9 Z)<|Zm Z<|?_
     refine Zq (c.state == 1) (fun h10 g10 => ?_) fun h10 g10 => ?_
     ·refine Zp h10<|Zv (Y.fieldAddr Z xfo28_5)<|Zp h10<|Zv (Y.load Z xts24 (Kn.at 0 Z) Z)<|Zp h10<|Zv (Y.int Z Z Z)<|Zv (Y.pick_t Z h10 Z)<|Zm Z<|?_
      refine Zq (p.yi != 0) (fun h11 g11 => ?_) fun h11 g11 => ?_
      ·refine Zp h11<|Zm Z<|Zp h11<|Zv (Y.int Z Z Z)<|Zv (Y.pick_t Z h11 Z)<|Za Z<|Ze<|?_
       exact Ex.cut rfl (by repeat (first | exact subB_nil _ | refine subB_cons (by first | rfl | exact congrArg (fun z => some (Value.int _ z)) W | exact congrArg (fun b => some (Value.bool b)) (by rw [Bool.eq_iff_iff,decide_eq_true_eq,decide_eq_true_eq]; exact ⟨fun h => ⟨by omega,by omega,by omega,h⟩,fun h => h.2.2.2⟩)) ?_))
      refine Zo h11 Z<|Zo h11 Z<|Zv (Y.pick_f Z h11 Z)<|Za Z<|Ze<|?_
      exact Ex.cut rfl (by repeat (first | exact subB_nil _ | refine subB_cons (by first | rfl | exact congrArg (fun z => some (Value.int _ z)) W | exact congrArg (fun b => some (Value.bool b)) ((decide_eq_false (show ¬ Cli.offered c p from (by rintro ⟨h1,h2,h3,h4⟩; first | omega | (exfalso; simp_all; done) | (exfalso; simp_all; omega)))).symm)) ?_))
     refine Zo h10 Z<|Zo h10 Z<|Zo h10 Z<|Zv (Y.pick_f Z h10 Z)<|Zm Z<|Zo Z Z<|Zo Z Z<|Zv (Y.pick_f Z Z Z)<|Za Z<|Ze<|?_
     exact Ex.cut rfl (by repeat (first | exact subB_nil _ | refine subB_cons (by first | rfl | exact congrArg (fun z => some (Value.int _ z)) W | exact congrArg (fun b => some (Value.bool b)) ((decide_eq_false (show ¬ Cli.offered c p from (by rintro ⟨h1,h2,h3,h4⟩; first | omega | (exfalso; simp_all; done) | (exfalso; simp_all; omega)))).symm)) ?_))
    refine Zo h9 Z<|Zo h9 Z<|Zo h9 Z<|Zo h9 Z<|Zo h9 Z<|Zv (Y.pick_f Z h9 Z)<|Zm Z<|Zo Z Z<|Zo Z Z<|Zo Z Z<|Zv (Y.pick_f Z Z Z)<|Zm Z<|Zo Z Z<|Zo Z Z<|Zv (Y.pick_f Z Z Z)<|Za Z<|?_
    refine Ze ?_
    exact Ex.cut rfl (by repeat (first | exact subB_nil _ | refine subB_cons (by first | rfl | exact congrArg (fun z => some (Value.int _ z)) W | exact congrArg (fun b => some (Value.bool b)) ((decide_eq_false (show ¬ Cli.offered c p from (by rintro ⟨h1,h2,h3,h4⟩; first | omega | (exfalso; simp_all; done) | (exfalso; simp_all; omega)))).symm)) ?_))
   refine Zq (decide (Cli.offered c p)) (fun h12 g12 => ?_) fun h12 g12 => ?_
   ·refine Tr.cond_t Z h12<|Zs<|Tr.anyD [(b1,.cells #[.int .i64 p.op,.int .u32 p.xid,.int .i64 p.secs,.int .i64 p.flags,.int .u32 p.ci,.int .u32 p.yi,.int .u32 p.si,.int .u32 p.gi,hv2,ov] 28 (0,0))] xmo<|Zd 0 Z (fun _ => (Y.move rfl))<|Zd 1 Z (fun _ => (Y.move rfl))<|Zd 2 Z (fun _ => (Y.fieldAddr rfl xfo28_5))<|ZD 3 0 Z Z (fun _ => (Y.load rfl xts24 Kn.vk1 rfl))<|ZD 4 0 Z Z (fun _ => (Y.loadAgg rfl xag28 Kn.vk1 rfl))<|?_
    refine Zd 5 Z (fun _ => (Y.fieldAddr rfl xfo28_6))<|ZD 6 0 Z Z (fun _ => (Y.load rfl xts24 Kn.vk1 rfl))<|Zd 7 Z (fun _ => (Y.conv (p.si) rfl xit24_3 (wrap_i64 W)))<|?_
    refine RunD.one (i := 8) WK rfl  ?_
    refine Yc Z Z Z (num_h hp hf)<|Ze<|Zf<|Zd 9 Z (fun _ => (Y.conv (Pc.num p 54 p.si) rfl xit3_24 (wrap_u32 W)))<|Zd 10 Z (fun _ => (Y.nilCheck rfl))<|Zd 11 Z (fun _ => (Y.fieldAddr rfl xfo116_4))<|?_
    refine RunD.one (i := 12) WK rfl  ?_
    refine Run.store (s := [(bc,.cells #[.string c.name,hv,.int .i64 c.state,.int .u32 c.xid,.int .u32 p.yi,.int .u32 c.server,.int .i64 c.until_,.int .i64 c.one,.int .i64 c.two,.bool c.due,.int .i64 c.tries,.int .i64 c.said,.int .i64 c.asks] 116 (0,0))]) Z Z xsz24 (i := 1) Z Z (le Z) Z Z<|Ze<|Zf<|Zd 13 Z (fun _ => (Y.nilCheck rfl))<|Zd 14 Z (fun _ => (Y.fieldAddr rfl xfo116_5))<|?_
    refine RunD.one (i := 15) WK rfl  ?_
    refine Run.store (s := [(bc,.cells #[.string c.name,hv,.int .i64 c.state,.int .u32 c.xid,.int .u32 p.yi,.int .u32 (Pc.num p 54 p.si),.int .i64 c.until_,.int .i64 c.one,.int .i64 c.two,.bool c.due,.int .i64 c.tries,.int .i64 c.said,.int .i64 c.asks] 116 (0,0))]) Z Z xsz24 (i := 1) Z Z (le Z) Z Z<|Ze<|Zf<|RunD.done WK<|Zg<|Zr<|Zm Z<|?_
    refine Yk [1] Z Z Z (speak_c (c := (⟨c.name,c.hw,c.state,c.xid,p.yi,Pc.num p 54 p.si,c.until_,c.one,c.two,c.due,c.tries,c.said,c.asks⟩ : Cli))) (fun v13 V2 H2 _ hR => ?_)
    obtain ⟨hV,rfl,rfl⟩ := hR; replace hV := hV.symm; subst hV
    refine Ze<|Zc<|Zg<|Zs<|Zr<|Za Z<|Ze<|Zg<|Zu<|Ex.keep [1]<|?_
    have e := Cli.take_o h2 h3 W (of_decide_eq_false h8) (of_decide_eq_true h12)
    exact Ex.ret1 rfl rfl  ⟨rfl,by rw [e.1],by rw [e.2]; try rfl⟩
   refine Tr.cond_f Z h12 ?_
   refine Tr.cut V [[(b1,.cells #[.int .i64 p.op,.int .u32 p.xid,.int .i64 p.secs,.int .i64 p.flags,.int .u32 p.ci,.int .u32 p.yi,.int .u32 p.si,.int .u32 p.gi,hv2,ov] 28 (0,0))],[(bc,.cells #[.string c.name,hv,.int .i64 c.state,.int .u32 c.xid,.int .u32 c.addr,.int .u32 c.server,.int .i64 c.until_,.int .i64 c.one,.int .i64 c.two,.bool c.due,.int .i64 c.tries,.int .i64 c.said,.int .i64 c.asks] 116 (0,0))]] [(0,(pZ bc)),(4,(pZ b1)),(7,.int .i64 (Pc.num p 51 0)),(8,.int .i64 (Pc.kind p)),(93,.bool (decide (Cli.acked c p)))] ?_ ?_
   ·refine Tr.quiet xmo WK<|ZM Z<|ZV (Y.int Z Z Z)<|ZM Z<|?_
    refine Zq ((Pc.kind p) == 5) (fun h14 g14 => ?_) fun h14 g14 => ?_
    ·refine ZP h14<|ZM Z<|ZP h14<|YC Z Z Z (ask_c (c := c) (Kn.at 1 Z))<|ZV (Y.pick_t Z h14 Z)<|ZM Z<|?_
     refine Zq (Cli.asking c) (fun h15 g15 => ?_) fun h15 g15 => ?_
     ·refine ZP h15<|ZM Z<|ZP h15<|YC Z Z Z (hold_c (c := c) (Kn.at 1 Z))<|ZP h15<|ZM Z<|?_
      refine Zq (Cli.holding c) (fun h16 g16 => ?_) fun h16 g16 => ?_
      ·refine ZO h16 Z<|ZO h16 Z<|ZO h16 Z<|ZO h16 Z<|ZO h16 Z<|ZP h15<|ZV (Y.pick_t Z h16 Z)<|ZV (Y.pick_t Z h15 Z)<|ZM Z<|ZP Z<|ZV (Y.fieldAddr Z xfo28_5)<|ZP Z<|ZV (Y.load Z xts24 (Kn.at 0 Z) Z)<|ZP Z<|ZM Z<|ZP Z<|?_
       refine ZV (Y.nilCheck Z)<|ZP Z<|ZV (Y.fieldAddr Z xfo116_4)<|ZP Z<|ZV (Y.load Z xts24 (Kn.at 1 Z) Z)<|ZP Z<|ZV (Y.int Z Z Z)<|ZV (Y.pick_t Z Z Z)<|ZM Z<|?_
       refine Zq (p.yi == c.addr) (fun h17 g17 => ?_) fun h17 g17 => ?_
       ·refine ZP h17<|ZM Z<|ZP h17<|ZV (Y.int Z Z Z)<|ZV (Y.pick_t Z h17 Z)<|ZA Z<|ZE<|?_
        exact Ex.cut rfl (by repeat (first | exact subB_nil _ | refine subB_cons (by first | rfl | exact congrArg (fun z => some (Value.int _ z)) W | exact congrArg (fun b => some (Value.bool b)) (by rw [Bool.eq_iff_iff,decide_eq_true_eq,decide_eq_true_eq]; exact ⟨fun h => ⟨by omega,h15,(.inl h16),by omega,h⟩,fun h => h.2.2.2.2⟩)) ?_))
       refine ZO h17 Z<|ZO h17 Z<|ZV (Y.pick_f Z h17 Z)<|ZA Z<|ZE<|?_
       exact Ex.cut rfl (by repeat (first | exact subB_nil _ | refine subB_cons (by first | rfl | exact congrArg (fun z => some (Value.int _ z)) W | exact congrArg (fun b => some (Value.bool b)) ((decide_eq_false (show ¬ Cli.acked c p from (by rintro ⟨h1,h2,h3,h4,h5⟩; have e1 := Cli.ask_iff.1 h2; rcases h3 with h3 | h3 <;> (try have e2 := Cli.hold_iff.1 h3) <;> (first | omega | (exfalso; simp_all; done) | (exfalso; simp_all; omega))))).symm)) ?_))
      refine ZP h16<|ZM Z<|ZP h16<|ZV (Y.nilCheck Z)<|ZP h16<|ZV (Y.fieldAddr Z xfo116_10)<|ZP h16<|ZV (Y.load Z xts3 (Kn.at 1 Z) Z)<|ZP h16<|ZV (Y.int Z Z Z)<|ZP h15<|ZV (Y.pick_f Z h16 Z)<|ZV (Y.pick_t Z h15 Z)<|ZM Z<|?_
      refine Zq (decide (c.tries > 0)) (fun h18 g18 => ?_) fun h18 g18 => ?_
      ·refine ZP h18<|ZV (Y.fieldAddr Z xfo28_5)<|ZP h18<|ZV (Y.load Z xts24 (Kn.at 0 Z) Z)<|ZP h18<|ZM Z<|ZP h18<|ZV (Y.nilCheck Z)<|ZP h18<|ZV (Y.fieldAddr Z xfo116_4)<|ZP h18<|ZV (Y.load Z xts24 (Kn.at 1 Z) Z)<|ZP h18<|ZV (Y.int Z Z Z)<|ZV (Y.pick_t Z h18 Z)<|ZM Z<|?_
       refine Zq (p.yi == c.addr) (fun h19 g19 => ?_) fun h19 g19 => ?_
       ·refine ZP h19<|ZM Z<|ZP h19<|ZV (Y.int Z Z Z)<|ZV (Y.pick_t Z h19 Z)<|ZA Z<|ZE<|?_
        exact Ex.cut rfl (by repeat (first | exact subB_nil _ | refine subB_cons (by first | rfl | exact congrArg (fun z => some (Value.int _ z)) W | exact congrArg (fun b => some (Value.bool b)) (by rw [Bool.eq_iff_iff,decide_eq_true_eq,decide_eq_true_eq]; exact ⟨fun h => ⟨by omega,h15,(.inr W),by omega,h⟩,fun h => h.2.2.2.2⟩)) ?_))
       refine ZO h19 Z<|ZO h19 Z<|ZV (Y.pick_f Z h19 Z)<|ZA Z<|ZE<|?_
       exact Ex.cut rfl (by repeat (first | exact subB_nil _ | refine subB_cons (by first | rfl | exact congrArg (fun z => some (Value.int _ z)) W | exact congrArg (fun b => some (Value.bool b)) ((decide_eq_false (show ¬ Cli.acked c p from (by rintro ⟨h1,h2,h3,h4,h5⟩; have e1 := Cli.ask_iff.1 h2; rcases h3 with h3 | h3 <;> (try have e2 := Cli.hold_iff.1 h3) <;> (first | omega | (exfalso; simp_all; done) | (exfalso; simp_all; omega))))).symm)) ?_))
      refine ZO h18 Z<|ZO h18 Z<|ZO h18 Z<|ZO h18 Z<|ZO h18 Z<|ZO h18 Z<|ZO h18 Z<|ZV (Y.pick_f Z h18 Z)<|ZM Z<|ZO Z Z<|ZO Z Z<|ZV (Y.pick_f Z Z Z)<|ZA Z<|ZE<|?_
      exact Ex.cut rfl (by repeat (first | exact subB_nil _ | refine subB_cons (by first | rfl | exact congrArg (fun z => some (Value.int _ z)) W | exact congrArg (fun b => some (Value.bool b)) ((decide_eq_false (show ¬ Cli.acked c p from (by rintro ⟨h1,h2,h3,h4,h5⟩; have e1 := Cli.ask_iff.1 h2; rcases h3 with h3 | h3 <;> (try have e2 := Cli.hold_iff.1 h3) <;> (first | omega | (exfalso; simp_all; done) | (exfalso; simp_all; omega))))).symm)) ?_))
     refine ZO h15 Z<|ZO h15 Z<|ZO h15 Z<|RunQ.off_u Z Z Z Z (lt Z)<|RunQ.off_u Z Z Z Z (lt Z)<|RunQ.off_u Z Z Z Z (lt Z)<|RunQ.off_u Z Z Z Z (lt Z)<|RunQ.off_u Z Z Z Z (lt Z)<|ZO h15 Z<|ZV (Y.pick_f Z h15 Z)<|ZM Z<|ZO Z Z<|ZO Z Z<|ZO Z Z<|ZO Z Z<|ZO Z Z<|?_
     refine ZO Z Z<|ZO Z Z<|ZV (Y.pick_f Z Z Z)<|ZM Z<|ZO Z Z<|ZO Z Z<|ZV (Y.pick_f Z Z Z)<|ZA Z<|ZE<|?_
     exact Ex.cut rfl (by repeat (first | exact subB_nil _ | refine subB_cons (by first | rfl | exact congrArg (fun z => some (Value.int _ z)) W | exact congrArg (fun b => some (Value.bool b)) ((decide_eq_false (show ¬ Cli.acked c p from (by rintro ⟨h1,h2,h3,h4,h5⟩; have e1 := Cli.ask_iff.1 h2; rcases h3 with h3 | h3 <;> (try have e2 := Cli.hold_iff.1 h3) <;> (first | omega | (exfalso; simp_all; done) | (exfalso; simp_all; omega))))).symm)) ?_))
    refine ZO h14 Z<|ZO h14 Z<|ZV (Y.pick_f Z h14 Z)<|ZM Z<|ZO Z Z<|ZO Z Z<|ZO Z Z<|RunQ.off_u Z Z Z Z (lt Z)<|RunQ.off_u Z Z Z Z (lt Z)<|RunQ.off_u Z Z Z Z (lt Z)<|RunQ.off_u Z Z Z Z (lt Z)<|RunQ.off_u Z Z Z Z (lt Z)<|ZO Z Z<|ZV (Y.pick_f Z Z Z)<|ZM Z<|ZO Z Z<|?_
    refine ZO Z Z<|ZO Z Z<|ZO Z Z<|ZO Z Z<|ZO Z Z<|ZO Z Z<|ZV (Y.pick_f Z Z Z)<|ZM Z<|ZO Z Z<|ZO Z Z<|ZV (Y.pick_f Z Z Z)<|ZA Z<|ZE<|?_
    exact Ex.cut rfl (by repeat (first | exact subB_nil _ | refine subB_cons (by first | rfl | exact congrArg (fun z => some (Value.int _ z)) W | exact congrArg (fun b => some (Value.bool b)) ((decide_eq_false (show ¬ Cli.acked c p from (by rintro ⟨h1,h2,h3,h4,h5⟩; have e1 := Cli.ask_iff.1 h2; rcases h3 with h3 | h3 <;> (try have e2 := Cli.hold_iff.1 h3) <;> (first | omega | (exfalso; simp_all; done) | (exfalso; simp_all; omega))))).symm)) ?_))
   refine Zq (decide (Cli.acked c p)) (fun h20 g20 => ?_) fun h20 g20 => ?_
   ·refine Tr.cond_t Z h20<|Zs<|Zr<|Zm Z<|Zm Z<|Zv (Y.nilCheck Z)<|Zv (Y.fieldAddr Z xfo116_2)<|Run.store (s := [(bc,.cells #[.string c.name,hv,.int .i64 3,.int .u32 c.xid,.int .u32 c.addr,.int .u32 c.server,.int .i64 c.until_,.int .i64 c.one,.int .i64 c.two,.bool c.due,.int .i64 c.tries,.int .i64 c.said,.int .i64 c.asks] 116 (0,0))]) Z Z xsz3 (i := 1) Z Z (le Z) Z Z<|Zv (Y.nilCheck Z)<|Zv (Y.fieldAddr Z xfo116_9)<|?_
    refine Run.store (s := [(bc,.cells #[.string c.name,hv,.int .i64 3,.int .u32 c.xid,.int .u32 c.addr,.int .u32 c.server,.int .i64 c.until_,.int .i64 c.one,.int .i64 c.two,.bool false,.int .i64 c.tries,.int .i64 c.said,.int .i64 c.asks] 116 (0,0))]) Z Z xsz4 (i := 1) Z Z (le Z) Z Z<|Ze<|Zg<|Zs<|Zr<|Zm Z<|Zm Z<|Zv (Y.nilCheck Z)<|Zv (Y.fieldAddr Z xfo116_12)<|Zv (Y.load Z xts3 (Kn.at 1 Z) Z)<|Zm Z<|?_
    refine Zv (Y.add Z Z W)<|Zv (Y.nilCheck Z)<|Zv (Y.fieldAddr Z xfo116_6)<|Run.store (s := [(bc,.cells #[.string c.name,hv,.int .i64 3,.int .u32 c.xid,.int .u32 c.addr,.int .u32 c.server,.int .i64 (c.asks + (Pc.num p 51 0)),.int .i64 c.one,.int .i64 c.two,.bool false,.int .i64 c.tries,.int .i64 c.said,.int .i64 c.asks] 116 (0,0))]) Z Z xsz3 (i := 1) Z Z (le Z) Z Z<|Ze<|Zg<|Zs<|Tr.tail 11 xmo WK<|?_
    refine ZM Z<|ZM Z<|ZV (Y.nilCheck Z)<|ZV (Y.fieldAddr Z xfo116_12)<|ZV (Y.load Z xts3 (Kn.at 1 Z) Z)<|ZV (Y.loadAgg Z xag28 (Kn.at 0 Z) Z)<|ZM Z<|ZV (Y.quo (Pc.num p 51 0 / 2) rfl rfl WD (by rw [Int.tdiv_eq_ediv_of_nonneg h51.1]; exact wrap_i64 W))<|YC Z Z Z (num_h hp hf)<|ZV (Y.add Z Z W)<|ZV (Y.nilCheck Z)<|RunQ.nil_run<|Zv (Y.fieldAddr Z xfo116_7)<|Run.store (s := [(bc,.cells #[.string c.name,hv,.int .i64 3,.int .u32 c.xid,.int .u32 c.addr,.int .u32 c.server,.int .i64 (c.asks + (Pc.num p 51 0)),.int .i64 (c.asks + (Pc.num p 58 (Pc.num p 51 0 / 2))),.int .i64 c.two,.bool false,.int .i64 c.tries,.int .i64 c.said,.int .i64 c.asks] 116 (0,0))]) Z Z xsz3 (i := 1) Z Z (le Z) Z Z<|?_
    refine Ze<|Zg<|Tr.tail 13 xmo WK<|ZM Z<|ZM Z<|ZV (Y.nilCheck Z)<|ZV (Y.fieldAddr Z xfo116_12)<|ZV (Y.load Z xts3 (Kn.at 1 Z) Z)<|ZV (Y.loadAgg Z xag28 (Kn.at 0 Z) Z)<|ZM Z<|ZM Z<|ZV (Y.quo (Pc.num p 51 0 / 8) rfl rfl WD (by rw [Int.tdiv_eq_ediv_of_nonneg h51.1]; exact wrap_i64 W))<|ZV (Y.sub Z Z W)<|YC Z Z Z (num_h hp hf)<|ZV (Y.add Z Z W)<|ZV (Y.nilCheck Z)<|?_
    refine RunQ.nil_run<|Zv (Y.fieldAddr Z xfo116_8)<|Run.store (s := [(bc,.cells #[.string c.name,hv,.int .i64 3,.int .u32 c.xid,.int .u32 c.addr,.int .u32 c.server,.int .i64 (c.asks + (Pc.num p 51 0)),.int .i64 (c.asks + (Pc.num p 58 (Pc.num p 51 0 / 2))),.int .i64 (c.asks + (Pc.num p 59 ((Pc.num p 51 0) - (Pc.num p 51 0 / 8)))),.bool false,.int .i64 c.tries,.int .i64 c.said,.int .i64 c.asks] 116 (0,0))]) Z Z xsz3 (i := 1) Z Z (le Z) Z Z<|?_
    refine Ze<|Zc<|Zg<|Zs<|Zr<|Za Z<|Ze<|Zg<|Zu<|Ex.keep [1]<|?_
    have e := Cli.take_a h2 h3 W (of_decide_eq_false h8) (of_decide_eq_false h12) (of_decide_eq_true h20)
    exact Ex.ret1 rfl rfl  ⟨rfl,by rw [e.1],by rw [e.2]; try rfl⟩
   refine Tr.cond_f Z h20 ?_
   refine Tr.cut V [[(b1,.cells #[.int .i64 p.op,.int .u32 p.xid,.int .i64 p.secs,.int .i64 p.flags,.int .u32 p.ci,.int .u32 p.yi,.int .u32 p.si,.int .u32 p.gi,hv2,ov] 28 (0,0))],[(bc,.cells #[.string c.name,hv,.int .i64 c.state,.int .u32 c.xid,.int .u32 c.addr,.int .u32 c.server,.int .i64 c.until_,.int .i64 c.one,.int .i64 c.two,.bool c.due,.int .i64 c.tries,.int .i64 c.said,.int .i64 c.asks] 116 (0,0))]] [(0,(pZ bc)),(4,(pZ b1)),(165,.bool (decide (Pc.kind p = 6 /\ Cli.asking c = true)))] ?_ ?_
   ·refine Zr<|Zm Z<|Zv (Y.int Z Z Z)<|Zm Z<|?_
    refine Zq ((Pc.kind p) == 6) (fun h21 g21 => ?_) fun h21 g21 => ?_
    ·refine Zp h21<|Zm Z<|Zp h21<|Yc Z Z Z (ask_c (c := c) (Kn.at 1 Z))<|Zv (Y.pick_t Z h21 Z)<|Za Z<|Ze<|?_
     exact Ex.cut rfl (by repeat (first | exact subB_nil _ | refine subB_cons (by first | rfl | exact congrArg (fun z => some (Value.int _ z)) W | exact congrArg (fun b => some (Value.bool b)) (by rw [Bool.eq_iff_iff,decide_eq_true_eq]; exact ⟨fun h => ⟨by omega,h⟩,fun h => h.2⟩)) ?_))
    refine Zo h21 Z<|Zo h21 Z<|Zv (Y.pick_f Z h21 Z)<|Za Z<|Ze<|?_
    exact Ex.cut rfl (by repeat (first | exact subB_nil _ | refine subB_cons (by first | rfl | exact congrArg (fun z => some (Value.int _ z)) W | exact congrArg (fun b => some (Value.bool b)) ((decide_eq_false (show ¬ (Pc.kind p = 6 /\ Cli.asking c = true) from by rintro ⟨h,_⟩; omega)).symm)) ?_))
   refine Zq (decide (Pc.kind p = 6 /\ Cli.asking c = true)) (fun h22 g22 => ?_) fun h22 g22 => ?_
   ·refine Tr.cond_t Z h22<|Zr<|Zm Z<|?_
    refine Yk [1] Z Z Z (drop_c (c := c)) (fun v23 V2 H2 _ hR => ?_)
    obtain ⟨hV,rfl,rfl⟩ := hR; replace hV := hV.symm; subst hV
    refine Ze<|Zc<|Zg<|Zs<|Zr<|Za Z<|Ze<|Zg<|Zu<|Ex.keep [1]<|?_
    have e := Cli.take_k h2 h3 W (of_decide_eq_false h8) (of_decide_eq_false h12) (of_decide_eq_false h20) (of_decide_eq_true h22)
    exact Ex.ret1 rfl rfl  ⟨rfl,by rw [e.1],by rw [e.2]; try rfl⟩
   refine Tr.cond_f Z h22<|Zs<|Zr<|Za Z<|Ze<|Zg<|Zu<|Zk<|Zn<|Ex.keep [1]<|?_
   have e := Cli.take_6 h2 h3 W (of_decide_eq_false h8) (of_decide_eq_false h12) (of_decide_eq_false h20) (of_decide_eq_false h22)
   exact Ex.ret1 rfl rfl  ⟨rfl,by rw [e.1],by rw [e.2]; try rfl⟩
  refine Zo (congrArg Bool.not h3) Z<|Zo (congrArg Bool.not h3) Z<|Zo (congrArg Bool.not h3) Z<|Zv (Y.pick_t Z (congrArg Bool.not h3) Z)<|Za Z<|Ze<|Zg<|Tr.cond_t Z Z<|Zs<|Zr<|Za Z<|Ze<|Zg<|Zu<|Zk<|Zn<|?_
  refine Ex.keep [1] ?_
  have e := Cli.take_2 (c := c) h2 (fun q => by rw [q.1] at h3; cases h3)
  exact Ex.ret1 rfl rfl  ⟨rfl,by rw [e.1],by rw [e.2]; try rfl⟩
 refine Tr.cond_t Z (congrArg Bool.not h2)<|Zs<|Zr<|Za Z<|Ze<|Zg<|Zu<|Zk<|Zn<|Ex.keep [1]<|?_
 have e := Cli.take_1 (c := c) (p := p) h2
 exact Ex.ret1 rfl rfl  ⟨rfl,by rw [e.1],by rw [e.2]; try rfl⟩
end Go.Proofs.YtfgblingojgafaaGreat
