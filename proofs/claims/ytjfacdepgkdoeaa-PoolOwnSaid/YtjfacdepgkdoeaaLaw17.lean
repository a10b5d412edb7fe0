/- The laws of layer 17, walked.
Conditions: as each theorem names them. -/
import Derived.Test.YtjfacdepgkdoeaaProg
import Derived.Test.YtjfacdepgkdoeaaP3
import Derived.Test.YtjfacdepgkdoeaaK17
import Derived.Test.YtjfacdepgkdoeaaPool
set_option linter.unusedSimpArgs false
set_option linter.unusedVariables false
set_option maxRecDepth 4000
namespace Go.Proofs.Ytjfacdepgkdoeaa
open Go Go.K
attribute [local irreducible] Code.wp wpList Calls wpQuiet
theorem Law17_zo27 : zeroOf Try.prog 27 = some (.agg #[.float .f64 0, .float .f64 0]) := by kernel_rfl
theorem Law17_zo28 : zeroOf Try.prog 28 = some (.agg #[.float .f64 0, .float .f64 0]) := by kernel_rfl
theorem Law17_mo : Try.prog.follows .mixedOrders = true := by kernel_rfl
theorem Law17_al23 : arrT Try.prog 23 = some (2, 1) := by kernel_rfl
theorem Law17_ts22 : scal Try.prog 22 = true := by kernel_rfl
theorem Law17_pl27 : placesS Try.prog 27 = some [(0, 1), (1, 1)] := by kernel_rfl
theorem Law17_pl28 : placesS Try.prog 28 = some [(0, 1), (1, 1)] := by kernel_rfl
theorem Law17_sz27 : sizeT Try.prog 27 = some 2 := by kernel_rfl
theorem Law17_sz28 : sizeT Try.prog 28 = some 2 := by kernel_rfl
theorem Law17_ag27 : aggsz Try.prog 27 = some 2 := by kernel_rfl
theorem Law17_ag28 : aggsz Try.prog 28 = some 2 := by kernel_rfl
theorem Law17_zo23 : zeroOf Try.prog 23 = some (.agg #[.float .f64 0, .float .f64 0]) := by kernel_rfl
theorem Law17_ea23 : elemA Try.prog 23 = some 1 := by kernel_rfl

theorem plans_c {y s : Nat} {V : Vw} : Does Try.prog 16 [.agg #[.float .f64 y, .float .f64 s]] V [] (Pv (.tuple #[.agg #[.float .f64 y, .float .f64 s], .agg #[.float .f64 y, .float .f64 s]]) V []) := by
 refine Does.intro Try.func16 rfl rfl (le rfl) (fun B => ?_)
 refine Tr.seq ?_
 refine Tr.region ?_
 refine Run.box rfl (lt rfl) (fun b1 => ?_)
 refine Run.alloc Law17_zo27 (lt rfl) (fun b2 => ?_)
 refine Run.alloc Law17_zo28 (lt rfl) (fun b3 => ?_)
 refine Run.to_end ?_
 refine Ex.go ?_
 refine Tr.seq ?_
 refine Tr.anyD [(b1, .cells #[.float .f64 y, .float .f64 s] 23 (0, 0))] Law17_mo ?_
 refine RunD.pure (i := 0) rfl (by kernel_rfl) (by kernel_rfl) (by kernel_rfl) (fun _ _ _ h => h) (lt rfl) (KnAll.cons (Kn.at 2 rfl) KnAll.nil) (fun _ => (Y.idxArr rfl rfl Law17_al23 (by decide) (by decide))) ?_
 refine RunD.take (i := 1) 0 rfl rfl (by kernel_rfl) (by kernel_rfl) (by kernel_rfl) (fun _ _ _ h => h) (lt rfl) (KnAll.cons (Kn.at 2 rfl) KnAll.nil) (fun _ => (Y.load rfl Law17_ts22 Kn.vk1 rfl)) ?_
 refine RunD.pure (i := 2) rfl (by kernel_rfl) (by kernel_rfl) (by kernel_rfl) (fun _ _ _ h => h) (lt rfl) (KnAll.cons (Kn.at 2 rfl) KnAll.nil) (fun _ => (Y.idxArr rfl rfl Law17_al23 (by decide) (by decide))) ?_
 refine RunD.take (i := 3) 0 rfl rfl (by kernel_rfl) (by kernel_rfl) (by kernel_rfl) (fun _ _ _ h => h) (lt rfl) (KnAll.cons (Kn.at 2 rfl) KnAll.nil) (fun _ => (Y.load rfl Law17_ts22 Kn.vk1 rfl)) ?_
 refine RunD.pure (i := 4) rfl (by kernel_rfl) (by kernel_rfl) (by kernel_rfl) (fun _ _ _ h => h) (lt rfl) (KnAll.cons (Kn.at 2 rfl) KnAll.nil) (fun _ => (Y.buildS (l := [(0, .tmp 5), (1, .tmp 7)]) Law17_zo27 Law17_pl27 rfl rfl)) ?_
 refine RunD.pure (i := 5) rfl (by kernel_rfl) (by kernel_rfl) (by kernel_rfl) (fun _ _ _ h => h) (lt rfl) (KnAll.cons (Kn.at 2 rfl) KnAll.nil) (fun _ => (Y.idxArr rfl rfl Law17_al23 (by decide) (by decide))) ?_
 refine RunD.take (i := 6) 0 rfl rfl (by kernel_rfl) (by kernel_rfl) (by kernel_rfl) (fun _ _ _ h => h) (lt rfl) (KnAll.cons (Kn.at 2 rfl) KnAll.nil) (fun _ => (Y.load rfl Law17_ts22 Kn.vk1 rfl)) ?_
 refine RunD.pure (i := 7) rfl (by kernel_rfl) (by kernel_rfl) (by kernel_rfl) (fun _ _ _ h => h) (lt rfl) (KnAll.cons (Kn.at 2 rfl) KnAll.nil) (fun _ => (Y.idxArr rfl rfl Law17_al23 (by decide) (by decide))) ?_
 refine RunD.take (i := 8) 0 rfl rfl (by kernel_rfl) (by kernel_rfl) (by kernel_rfl) (fun _ _ _ h => h) (lt rfl) (KnAll.cons (Kn.at 2 rfl) KnAll.nil) (fun _ => (Y.load rfl Law17_ts22 Kn.vk1 rfl)) ?_
 refine RunD.pure (i := 9) rfl (by kernel_rfl) (by kernel_rfl) (by kernel_rfl) (fun _ _ _ h => h) (lt rfl) (KnAll.cons (Kn.at 2 rfl) KnAll.nil) (fun _ => (Y.buildS (l := [(0, .tmp 10), (1, .tmp 12)]) Law17_zo28 Law17_pl28 rfl rfl)) ?_
 refine RunD.one (i := 10) (by kernel_rfl) rfl  ?_ 
 refine Run.store (s := [(b2, .cells #[.float .f64 y, .float .f64 s] 27 (0, 0))]) rfl rfl Law17_sz27 (i := 1) rfl rfl (le rfl) rfl rfl ?_
 refine Run.to_end ?_
 refine Ex.anyD (KnAll.cons (Kn.at 2 rfl) KnAll.nil) ?_
 refine RunD.one (i := 11) (by kernel_rfl) rfl  ?_ 
 refine Run.store (s := [(b3, .cells #[.float .f64 y, .float .f64 s] 28 (0, 0))]) rfl rfl Law17_sz28 (i := 0) rfl rfl (le rfl) rfl rfl ?_
 refine Run.to_end ?_
 refine Ex.anyD (KnAll.cons (Kn.at 2 rfl) KnAll.nil) ?_
 refine RunD.done (by kernel_rfl) ?_
 refine Ex.go ?_
 refine Tr.to_ret ?_
 exact Ex.retCells [] rfl rfl rfl Law17_ag27 Law17_ag28 (Kn.at 1 rfl) (Kn.at 0 rfl) rfl rfl ⟨rfl, rfl, rfl⟩

theorem plans_h {y s : Nat} {V : Vw} {H : Hp} : Does Try.prog 16 [.agg #[.float .f64 y, .float .f64 s]] V H (Pv (.tuple #[.agg #[.float .f64 y, .float .f64 s], .agg #[.float .f64 y, .float .f64 s]]) V H) := plans_c.frame

theorem awake17_c  {V : Vw} : Does Try.prog 15 [] V [] (Pv (.bool true) V []) := by
 refine Does.intro Try.func15 rfl rfl (le rfl) (fun B => ?_)
 refine Tr.seq ?_
 refine Tr.region ?_
 refine Run.val (lt rfl) (Y.assign rfl) ?_
 refine Run.to_end ?_
 refine Ex.go ?_
 refine Tr.seq ?_
 refine Tr.region ?_
 refine Run.val (lt rfl) (Y.buildA (l := [(0, .const (.float .f64 4602678819172646912)), (1, .const (.float .f64 4591870180066957722))]) Law17_zo23 Law17_ea23 rfl rfl) ?_
 refine Run.call0 (l := [.tmp 4]) rfl rfl rfl (lt rfl) plans_h ?_
 refine Run.val (lt rfl) (Y.move rfl) ?_
 refine Run.val (lt rfl) (Y.extract rfl rfl) ?_
 refine Run.val (lt rfl) (Y.extract rfl rfl) ?_
 refine Run.alloc Law17_zo27 (lt rfl) (fun b1 => ?_)
 refine Run.alloc Law17_zo28 (lt rfl) (fun b2 => ?_)
 refine Run.store (s := [(b1, .cells #[.float .f64 4602678819172646912, .float .f64 4591870180066957722] 27 (0, 0))]) rfl rfl Law17_sz27 (i := 1) rfl rfl (le rfl) rfl rfl ?_
 refine Run.store (s := [(b2, .cells #[.float .f64 4602678819172646912, .float .f64 4591870180066957722] 28 (0, 0))]) rfl rfl Law17_sz28 (i := 0) rfl rfl (le rfl) rfl rfl ?_
 refine Run.to_end ?_
 refine Ex.go ?_
 refine Tr.seq ?_
 refine Tr.region ?_
 refine Run.val (lt rfl) (Y.loadAgg rfl Law17_ag27 (Kn.at 1 rfl) rfl) ?_
 refine Run.call0 (l := [.tmp 8, .const (.int .i64 0), .const (.int .i64 10), .const (.int .i64 0)]) rfl rfl rfl (lt rfl) gives_h ?_
 refine Run.val (lt rfl) (Y.int rfl rfl rfl) ?_
 refine Run.val (lt rfl) (Y.move rfl) ?_
 refine Run.on rfl rfl rfl (show ((Fl.gives 0 10 0 4602678819172646912 4591870180066957722) == 5) = true from by decide +kernel) ?_
 refine Run.val (lt rfl) (Y.loadAgg rfl Law17_ag27 (Kn.at 1 rfl) rfl) ?_
 refine Run.on rfl rfl rfl (show ((Fl.gives 0 10 0 4602678819172646912 4591870180066957722) == 5) = true from by decide +kernel) ?_
 refine Run.call0 (l := [.tmp 12, .const (.int .i64 1), .const (.int .i64 0), .const (.int .i64 10)]) rfl rfl rfl (lt rfl) gives_h ?_
 refine Run.on rfl rfl rfl (show ((Fl.gives 0 10 0 4602678819172646912 4591870180066957722) == 5) = true from by decide +kernel) ?_
 refine Run.val (lt rfl) (Y.int rfl rfl rfl) ?_
 refine Run.val (lt rfl) (Y.pick_t rfl (show ((Fl.gives 0 10 0 4602678819172646912 4591870180066957722) == 5) = true from by decide +kernel) rfl) ?_
 refine Run.val (lt rfl) (Y.move rfl) ?_
 refine Run.on rfl rfl rfl (show ((Fl.gives 1 0 10 4602678819172646912 4591870180066957722) == 5) = true from by decide +kernel) ?_
 refine Run.val (lt rfl) (Y.loadAgg rfl Law17_ag27 (Kn.at 1 rfl) rfl) ?_
 refine Run.on rfl rfl rfl (show ((Fl.gives 1 0 10 4602678819172646912 4591870180066957722) == 5) = true from by decide +kernel) ?_
 refine Run.call0 (l := [.tmp 17, .const (.int .i64 0), .const (.int .i64 5), .const (.int .i64 5)]) rfl rfl rfl (lt rfl) gives_h ?_
 refine Run.on rfl rfl rfl (show ((Fl.gives 1 0 10 4602678819172646912 4591870180066957722) == 5) = true from by decide +kernel) ?_
 refine Run.val (lt rfl) (Y.int rfl rfl rfl) ?_
 refine Run.val (lt rfl) (Y.pick_t rfl (show ((Fl.gives 1 0 10 4602678819172646912 4591870180066957722) == 5) = true from by decide +kernel) rfl) ?_
 refine Run.val (lt rfl) (Y.assign rfl) ?_
 refine Run.to_end ?_
 refine Ex.go ?_
 refine Tr.to_ret ?_
 refine Ex.keep [] ?_
 exact Ex.ret1 rfl rfl  ⟨congrArg Value.bool (show ((Fl.gives 0 5 5 4602678819172646912 4591870180066957722) == 0) = true by decide +kernel), rfl, rfl⟩

theorem awake17_h {V : Vw} {H : Hp} : Does Try.prog 15 [] V H (Pv (.bool true) V H) := awake17_c.frame
end Go.Proofs.Ytjfacdepgkdoeaa
