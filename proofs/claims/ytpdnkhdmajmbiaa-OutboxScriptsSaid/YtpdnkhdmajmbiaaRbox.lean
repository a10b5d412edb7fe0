/- The reference's box, walked.
Conditions: as each theorem names them. -/
import Derived.Test.YtpdnkhdmajmbiaaProg
import Derived.Test.YtpdnkhdmajmbiaaBC
import Derived.Test.YtpdnkhdmajmbiaaLaw18
import Derived.Test.YtpdnkhdmajmbiaaMessage
import Derived.Test.YtpdnkhdmajmbiaaRef04
import Derived.Test.YtpdnkhdmajmbiaaKC
import Derived.Test.YtpdnkhdmajmbiaaKF
import Derived.Test.YtpdnkhdmajmbiaaLA
import Derived.Test.YtpdnkhdmajmbiaaZG
set_option linter.unusedSimpArgs false
set_option linter.unusedVariables false
set_option maxRecDepth 4000
namespace Go.Proofs.Ytpdnkhdmajmbiaa
open Go Go.K
attribute [local irreducible] Code.wp wpList Calls wpQuiet
theorem Rbox_zo63 : zeroOf Try.prog 63 = some (.agg #[.slice none 0 0, .slice none 0 0, .int .i64 0]) := by kernel_rfl
theorem Rbox_pl63 : placesS Try.prog 63 = some [(0, 1), (1, 1), (2, 1)] := by kernel_rfl
theorem Rbox_fo63_0 : fieldOff Try.prog 63 0 = some 0 := by kernel_rfl
theorem Rbox_ts61 : scal Try.prog 61 = true := by kernel_rfl
theorem Rbox_es61 : elemS Try.prog 61 = some (156, 12) := by kernel_rfl
theorem Rbox_fo156_0 : fieldOff Try.prog 156 0 = some 0 := by kernel_rfl
theorem Rbox_fo35_5 : fieldOff Try.prog 35 5 = some 5 := by kernel_rfl
theorem Rbox_ts30 : scal Try.prog 30 = true := by kernel_rfl
theorem Rbox_fo63_1 : fieldOff Try.prog 63 1 = some 1 := by kernel_rfl
theorem Rbox_ts39 : scal Try.prog 39 = true := by kernel_rfl
theorem Rbox_es39 : elemS Try.prog 39 = some (35, 11) := by kernel_rfl
theorem Rbox_fo63_2 : fieldOff Try.prog 63 2 = some 2 := by kernel_rfl
theorem Rbox_ts3 : scal Try.prog 3 = true := by kernel_rfl
theorem Rbox_ag35 : aggsz Try.prog 35 = some 11 := by kernel_rfl
theorem Rbox_zo35 : zeroOf Try.prog 35 = some (.agg #[.int .i64 0, .int .i64 0, .int .i64 0, .int .i64 0, .int .i64 0, .int .u32 0, .int .i64 0, .string ⟨#[]⟩, .int .i64 0, .int .i64 0, .bool false]) := by kernel_rfl
theorem Rbox_sz35 : sizeT Try.prog 35 = some 11 := by kernel_rfl
theorem Rbox_mo : Try.prog.follows .mixedOrders = true := by kernel_rfl
theorem Rbox_zi35 : zeroInfo Try.prog 35 = some (11, 96, .agg #[.int .i64 0, .int .i64 0, .int .i64 0, .int .i64 0, .int .i64 0, .int .u32 0, .int .i64 0, .string ⟨#[]⟩, .int .i64 0, .int .i64 0, .bool false]) := by kernel_rfl
theorem Rbox_sz39 : sizeT Try.prog 39 = some 1 := by kernel_rfl
theorem Rbox_sz3 : sizeT Try.prog 3 = some 1 := by kernel_rfl
theorem Rbox_fo35_3 : fieldOff Try.prog 35 3 = some 3 := by kernel_rfl
theorem Rbox_zo156 : zeroOf Try.prog 156 = some (.agg #[.int .i64 0, .int .i64 0, .int .i64 0, .int .i64 0, .int .i64 0, .int .u32 0, .int .i64 0, .string ⟨#[]⟩, .int .i64 0, .int .i64 0, .bool false, .int .i64 0]) := by kernel_rfl
theorem Rbox_pl156 : placesS Try.prog 156 = some [(0, 11), (11, 1)] := by kernel_rfl
theorem Rbox_zi156 : zeroInfo Try.prog 156 = some (12, 104, .agg #[.int .i64 0, .int .i64 0, .int .i64 0, .int .i64 0, .int .i64 0, .int .u32 0, .int .i64 0, .string ⟨#[]⟩, .int .i64 0, .int .i64 0, .bool false, .int .i64 0]) := by kernel_rfl
theorem Rbox_sz61 : sizeT Try.prog 61 = some 1 := by kernel_rfl
theorem Rbox_fo35_1 : fieldOff Try.prog 35 1 = some 1 := by kernel_rfl
theorem Rbox_fo35_2 : fieldOff Try.prog 35 2 = some 2 := by kernel_rfl
theorem Rbox_fo35_0 : fieldOff Try.prog 35 0 = some 0 := by kernel_rfl
theorem Rbox_pl35 : placesS Try.prog 35 = some [(0, 1), (1, 1), (2, 1), (3, 1), (4, 1), (5, 1), (6, 1), (7, 1), (8, 1), (9, 1), (10, 1)] := by kernel_rfl
theorem Rbox_fo156_1 : fieldOff Try.prog 156 1 = some 11 := by kernel_rfl
theorem Rbox_tgs35 : tags Try.prog 35 = some [(0, .i64), (0, .i64), (0, .i64), (0, .i64), (0, .i64), (0, .u32), (0, .i64), (2, .i64), (0, .i64), (0, .i64), (1, .i64)] := by kernel_rfl

theorem rnew_c {V : Vw}  : Does Try.prog 27 [] V [] (fun v V' H' => V' = V ∧ ∃ rx, v = .pointer (some ⟨rx, 0, none⟩) ∧ Rb.Is 63 156 35 (⟨[], [], 0⟩ : Rb) rx H') := by
 refine Does.intro Try.func27 rfl rfl (le rfl) (fun B => ?_)
 refine Zs<|Zr<|Za Z<|Ze<|Zg<|Zs<|Zr<|Zv (Y.buildS (l := []) Rbox_zo63 Rbox_pl63 Z Z)<|?_
 refine Run.box rfl (lt rfl) (fun b1 => ?_)
 refine Za Z<|Ze<|Zg<|Zu<|Ex.keepTo (H' := [[(b1, .cells #[.slice none 0 0, .slice none 0 0, .int .i64 0] 63 (0, 0))]]) [0] Z<|Ex.recut (H' := [[(b1, .cells #[.slice none 0 0, .slice none 0 0, .int .i64 0] 63 (0, 0))]] ++ [[], []]) (List.Perm.of_eq (by simp))<|?_
 exact Ex.ret1 rfl rfl  ⟨rfl, b1, rfl, _, _, _, _, _, _, rfl, Ow.nil _ _, Ow.nil _ _⟩

theorem rout_c {V : Vw} {r : Rb} {rx : Nat} {pl pw : Option Addr} {cl cw : Nat} {ql qw : Sg} (hl : Ow 156 12 (.slice pl r.l.length cl) r.l.length (r.l.flatMap roCells) ql) (hw : Ow 35 11 (.slice pw r.w.length cw) r.w.length (r.w.flatMap Msg.cl) qw) (hln : r.l.length ≤ 1000) (hwn : r.w.length ≤ 1000) {a : Int}  : Does Try.prog 60 [.pointer (some ⟨rx, 0, none⟩), .int .u32 a] V [[(rx, .cells #[.slice pl r.l.length cl, .slice pw r.w.length cw, .int .i64 r.xid] 63 (0, 0))], ql, qw] (Pv (.bool (Rb.outB r.l a)) V [[(rx, .cells #[.slice pl r.l.length cl, .slice pw r.w.length cw, .int .i64 r.xid] 63 (0, 0))], ql, qw]) := by
 have hcw := hw.cap
 have hcl := hl.cap
 refine Does.intro Try.func60 rfl rfl (le rfl) (fun B => ?_)
 refine Zs<|Zr<|Za Z<|Ze<|Zg<|Zs<|Zs<|Zr<|Za Z<|Ze<|Zg<|Zb<|?_
 refine ZL (X := Nat) (fun z0 => V) (fun z0 => [[(rx, .cells #[.slice pl r.l.length cl, .slice pw r.w.length cw, .int .i64 r.xid] 63 (0, 0))], ql, qw]) (fun z0 => [(0, .pointer (some ⟨rx, 0, none⟩)), (1, .int .u32 a), (5, .int .i64 (z0 : Int))]) (fun z0 => z0 ≤ r.l.length ∧ ∀ j, j < z0 → (r.l.getD j rod).1.addr ≠ a) (fun z0 => r.l.length - z0) (0 : Nat) ⟨Nat.zero_le _, fun j hj => absurd hj (Nat.not_lt_zero j)⟩ ?_
 rintro i1 ⟨hi, hno⟩
 refine Zs<|Zs<|Zr<|Zm Z<|Zm Z<|Zv (Y.nilCheck Z)<|Zv (Y.fieldAddr Z Rbox_fo63_0)<|Zv (Y.load Z Rbox_ts61 (Kn.at 0 Z) Z)<|Zv (Y.lenSl Z Rbox_es61)<|Zv (Y.int Z Z Z)<|Ze<|Zg<|?_
 rcases Zsplit (decide ((i1 : Int) < ((r.l.length : Nat) : Int))) with ⟨h1, g1⟩ | ⟨h1, g1⟩ <;> try simp only [kb] at g1
 ·refine Tr.cond_t Z h1<|Zt<|Zg<|Zs<|Zb<|Zs<|Zr<|Zm Z<|Zv (Y.nilCheck Z)<|Zv (Y.fieldAddr Z Rbox_fo63_0)<|Zv (Y.load Z Rbox_ts61 (Kn.at 0 Z) Z)<|Zm Z<|Zv (Y.idxR i1 Z Z Rbox_es61 (hl.rd 1 rfl) W W)<|Zv (Y.fieldR Z Rbox_fo156_0 (hl.rd 1 rfl) W)<|Zv (Y.fieldR Z Rbox_fo35_5 (hl.rd 1 rfl) W)<|Zv (Y.ldR Z Rbox_ts30 (hl.rd 1 rfl) (flatm_at ro_enc.len W rod WD rfl))<|?_
  refine Zm Z<|Zv (Y.int Z Z Z)<|Ze<|Zg<|?_
  rcases Zsplit (((r.l.getD i1 rod).1.addr) == a) with ⟨h2, g2⟩ | ⟨h2, g2⟩ <;> try simp only [kb] at g2
  ·refine Tr.cond_t Z h2<|Zs<|Zr<|Za Z<|Ze<|Zg<|Zu<|Zk<|Zn<|Zn<|Zk<|Zn<|Ex.keep [0, 0, 0]<|?_
   exact Ex.ret1 rfl rfl  ⟨by rw [Rb.outB_yes (i := i1) W W], rfl, rfl⟩
  ·refine Tr.cond_f Z h2<|Zt<|Zc<|Zg<|Zr<|Zm Z<|Zv (Y.add Z Z W)<|Za Z<|Ze<|Ex.keep [0, 0, 0]<|?_
   exact ZR (i1 + 1 : Nat) ⟨by omega, upto_succ hno W⟩ W
 ·refine Tr.cond_f Z h1<|Zx<|Zy<|Zy<|Zi<|Zg<|Zs<|Zr<|Za Z<|Ze<|Zg<|Zu<|Ex.keep [0, 0, 0]<|?_
  exact Ex.ret1 rfl rfl  ⟨by rw [Rb.outB_no fun j hj => hno j W], rfl, rfl⟩

set_option maxHeartbeats 1000000 in
theorem rgoes_c {V : Vw} {r : Rb} {rx : Nat} {pl pw : Option Addr} {cl cw : Nat} {ql qw : Sg} (hl : Ow 156 12 (.slice pl r.l.length cl) r.l.length (r.l.flatMap roCells) ql) (hw : Ow 35 11 (.slice pw r.w.length cw) r.w.length (r.w.flatMap Msg.cl) qw) (hln : r.l.length ≤ 1000) (hwn : r.w.length ≤ 1000) {a : Int} (hx : -1 ≤ r.xid ∧ r.xid ≤ 1073741824)  : Does Try.prog 87 [.pointer (some ⟨rx, 0, none⟩), .int .u32 a] V [[(rx, .cells #[.slice pl r.l.length cl, .slice pw r.w.length cw, .int .i64 r.xid] 63 (0, 0))], ql, qw] (fun _ V' H' => V' = V ∧ Rb.Is 63 156 35 (r.goes a) rx H') := by
 have hcw := hw.cap
 have hcl := hl.cap
 refine Does.intro Try.func87 rfl rfl (le rfl) (fun B => ?_)
 refine Zs<|Zr<|Zm Z<|Zm Z<|?_
 refine Run.call [0, 0, 0] (l := [.tmp 7, .tmp 8]) rfl rfl rfl (lt rfl) (rout_c (a := a) hl hw hln hwn) (fun v9 V9 H9 hle9 hR => ?_)
 obtain ⟨rfl, hV, rfl⟩ := hR; replace hV := hV.symm; subst hV
 refine Run.heapTo (H' := [[(rx, .cells #[.slice pl r.l.length cl, .slice pw r.w.length cw, .int .i64 r.xid] 63 (0, 0))], ql, qw]) Z<|Za Z<|Ze<|Zg<|Zs<|Zr<|Za Z<|Ze<|Zg<|Zb<|?_
 refine ZL (X := Nat) (fun z0 => V) (fun z0 => [[(rx, .cells #[.slice pl r.l.length cl, .slice pw r.w.length cw, .int .i64 r.xid] 63 (0, 0))], ql, qw]) (fun z0 => [(0, .pointer (some ⟨rx, 0, none⟩)), (1, .int .u32 a), (4, .bool (Rb.outB r.l a)), (5, .int .i64 (z0 : Int))]) (fun z0 => z0 ≤ r.w.length ∧ ∀ j, j < z0 → (r.w.getD j Msg.zero).addr ≠ a ∨ Rb.outB r.l a = true ∨ r.xid ≥ 1073741824) (fun z0 => r.w.length - z0) (0 : Nat) ⟨Nat.zero_le _, fun j hj => absurd hj (Nat.not_lt_zero j)⟩ ?_
 rintro i1 ⟨hi, hno⟩
 refine Zs<|Zs<|Zr<|Zm Z<|Zm Z<|Zv (Y.nilCheck Z)<|Zv (Y.fieldAddr Z Rbox_fo63_1)<|Zv (Y.load Z Rbox_ts39 (Kn.at 0 Z) Z)<|Zv (Y.lenSl Z Rbox_es39)<|Zv (Y.int Z Z Z)<|Ze<|Zg<|?_
 rcases Zsplit (decide ((i1 : Int) < ((r.w.length : Nat) : Int))) with ⟨h1, g1⟩ | ⟨h1, g1⟩ <;> try simp only [kb] at g1
 ·refine Tr.cond_t Z h1<|Zt<|Zg<|Zs<|Zb<|Zs<|Zs<|Zr<|Zm Z<|Zv (Y.nilCheck Z)<|Zv (Y.fieldAddr Z Rbox_fo63_1)<|Zv (Y.load Z Rbox_ts39 (Kn.at 0 Z) Z)<|Zm Z<|Zv (Y.idxR i1 Z Z Rbox_es39 (hw.rd 2 rfl) W W)<|Zv (Y.fieldR Z Rbox_fo35_5 (hw.rd 2 rfl) W)<|Zv (Y.ldR Z Rbox_ts30 (hw.rd 2 rfl) (flatm_at Msg.cl_enc.len W Msg.zero WD rfl))<|?_
  refine Zm Z<|Zv (Y.int Z Z Z)<|Zm Z<|?_
  rcases Zsplit (((r.w.getD i1 Msg.zero).addr) != a) with ⟨h2, g2⟩ | ⟨h2, g2⟩ <;> try simp only [kb] at g2
  ·refine Zo h2 Z<|Zv (Y.pick_t Z h2 Z)<|Zm Z<|Zo Z Z<|Zo Z Z<|Zo Z Z<|Zo Z Z<|Zo Z Z<|Zv (Y.pick_t Z Z Z)<|Ze<|Zg<|Tr.cond_t Z Z<|Zx<|Zy<|Zi<|Zg<|?_
   refine Zr<|Zm Z<|Zv (Y.add Z Z W)<|Za Z<|Ze<|Ex.keep [0, 0, 0]<|?_
   exact ZR (i1 + 1 : Nat) ⟨by omega, upto_succ hno (by first | exact .inl W | exact .inr (.inl (by assumption)) | exact .inr (.inr W))⟩ W
  ·refine Zp h2<|Zm Z<|Zv (Y.pick_f Z h2 Z)<|Zm Z<|?_
   rcases Zsplit (Rb.outB r.l a) with ⟨h3, g3⟩ | ⟨h3, g3⟩ <;> try simp only [kb] at g3
   ·refine Zo h3 Z<|Zo h3 Z<|Zo h3 Z<|Zo h3 Z<|Zo h3 Z<|Zv (Y.pick_t Z h3 Z)<|Ze<|Zg<|Tr.cond_t Z Z<|Zx<|Zy<|Zi<|Zg<|Zr<|Zm Z<|Zv (Y.add Z Z W)<|?_
    refine Za Z<|Ze<|Ex.keep [0, 0, 0]<|?_
    exact ZR (i1 + 1 : Nat) ⟨by omega, upto_succ hno (by first | exact .inl W | exact .inr (.inl (by assumption)) | exact .inr (.inr W))⟩ W
   ·refine Zp h3<|Zm Z<|Zp h3<|Zv (Y.nilCheck Z)<|Zp h3<|Zv (Y.fieldAddr Z Rbox_fo63_2)<|Zp h3<|Zv (Y.load Z Rbox_ts3 (Kn.at 0 Z) Z)<|Zp h3<|Zv (Y.int Z Z Z)<|Zv (Y.pick_f Z h3 Z)<|Ze<|Zg<|?_
    rcases Zsplit (decide (r.xid ≥ 1073741824)) with ⟨h4, g4⟩ | ⟨h4, g4⟩ <;> try simp only [kb] at g4
    ·refine Tr.cond_t Z h4<|Zx<|Zy<|Zi<|Zg<|Zr<|Zm Z<|Zv (Y.add Z Z W)<|Za Z<|Ze<|Ex.keep [0, 0, 0]<|?_
     exact ZR (i1 + 1 : Nat) ⟨by omega, upto_succ hno (by first | exact .inl W | exact .inr (.inl (by assumption)) | exact .inr (.inr W))⟩ W
    ·refine Tr.cond_f Z h4<|Zt<|Zg<|Zs<|Zr<|Zm Z<|Zv (Y.nilCheck Z)<|Zv (Y.fieldAddr Z Rbox_fo63_1)<|Zv (Y.load Z Rbox_ts39 (Kn.at 0 Z) Z)<|Zm Z<|Zv (Y.idxR i1 Z Z Rbox_es39 (hw.rd 2 rfl) W W)<|Zv (Y.ldRA (vs := [.int .i64 ((r.w.getD i1 Msg.zero).kind), .int .i64 ((r.w.getD i1 Msg.zero).life), .int .i64 ((r.w.getD i1 Msg.zero).seen), .int .i64 ((r.w.getD i1 Msg.zero).xid), .int .i64 ((r.w.getD i1 Msg.zero).state), .int .u32 ((r.w.getD i1 Msg.zero).addr), .int .i64 ((r.w.getD i1 Msg.zero).bind), .string ((r.w.getD i1 Msg.zero).client), .int .i64 ((r.w.getD i1 Msg.zero).pot), .int .i64 ((r.w.getD i1 Msg.zero).at_), .bool ((r.w.getD i1 Msg.zero).ok)]) rfl Rbox_ag35 (hw.rd 2 rfl) rfl WD (fun o ho => flatm_atA Msg.cl_enc.len W Msg.zero o ho))<|?_
     refine Run.alloc Rbox_zo35 (lt rfl) (fun b5 => ?_)
     refine Run.store (s := [(b5, .cells #[.int .i64 ((r.w.getD i1 Msg.zero).kind), .int .i64 ((r.w.getD i1 Msg.zero).life), .int .i64 ((r.w.getD i1 Msg.zero).seen), .int .i64 ((r.w.getD i1 Msg.zero).xid), .int .i64 ((r.w.getD i1 Msg.zero).state), .int .u32 ((r.w.getD i1 Msg.zero).addr), .int .i64 ((r.w.getD i1 Msg.zero).bind), .string ((r.w.getD i1 Msg.zero).client), .int .i64 ((r.w.getD i1 Msg.zero).pot), .int .i64 ((r.w.getD i1 Msg.zero).at_), .bool ((r.w.getD i1 Msg.zero).ok)] 35 (0, 0))]) Z Z Rbox_sz35 (i := 0) Z Z (le Z) Z Z ?_
     refine Ze<|Zg<|Zs<|Tr.anyL [(rx, .cells #[.slice pl r.l.length cl, .slice pw r.w.length cw, .int .i64 r.xid] 63 (0, 0))] 19 Rbox_mo<|RunL.pure (i := 0) rfl WK WK WK WK (fun _ _ _ h => h) (lt rfl) (ZK 1 Z) (fun _ => (Y.move rfl))<|RunL.pure (i := 2) rfl WK WK WK WK (fun _ _ _ h => h) (lt rfl) (ZK 1 Z) (fun _ => (Y.move rfl))<|?_
     refine RunL.pure (i := 3) rfl WK WK WK WK (fun _ _ _ h => h) (lt rfl) (ZK 1 Z) (fun _ => (Y.nilCheck rfl))<|RunL.pure (i := 4) rfl WK WK WK WK (fun _ _ _ h => h) (lt rfl) (ZK 1 Z) (fun _ => (Y.fieldAddr rfl Rbox_fo63_1))<|RunL.take (i := 5) 0 rfl rfl WK WK WK WK (fun _ _ _ h => h) (lt rfl) (ZK 1 Z) (fun _ => (Y.load rfl Rbox_ts39 Kn.vk1 rfl))<|?_
     refine RunL.pure (i := 6) rfl WK WK WK WK (fun _ _ _ h => h) (lt rfl) (ZK 1 Z) (fun _ => (Y.move rfl))<|RunL.pure (i := 7) rfl WK WK WK WK (fun _ _ _ h => h) (lt rfl) (ZK 1 Z) (fun _ => (Y.slice (l := 0) (m := i1) rfl Rbox_es39 rfl rfl W W))<|RunL.pure (i := 9) rfl WK WK WK WK (fun _ _ _ h => h) (lt rfl) (ZK 1 Z) (fun _ => (Y.move rfl))<|?_
     refine RunL.pure (i := 10) rfl WK WK WK WK (fun _ _ _ h => h) (lt rfl) (ZK 1 Z) (fun _ => (Y.nilCheck rfl))<|RunL.pure (i := 11) rfl WK WK WK WK (fun _ _ _ h => h) (lt rfl) (ZK 1 Z) (fun _ => (Y.fieldAddr rfl Rbox_fo63_1))<|RunL.take (i := 12) 0 rfl rfl WK WK WK WK (fun _ _ _ h => h) (lt rfl) (ZK 1 Z) (fun _ => (Y.load rfl Rbox_ts39 Kn.vk1 rfl))<|?_
     refine RunL.pure (i := 13) rfl WK WK WK WK (fun _ _ _ h => h) (lt rfl) (ZK 1 Z) (fun _ => (Y.move rfl))<|RunL.pure (i := 14) rfl WK WK WK WK (fun _ _ _ h => h) (lt rfl) (ZK 1 Z) (fun _ => (Y.add rfl rfl W))<|RunL.pure (i := 15) rfl WK WK WK WK (fun _ _ _ h => h) (lt rfl) (ZK 1 Z) (fun _ => (Y.slice (l := ((i1 : Int) + 1).toNat) (m := r.w.length) rfl Rbox_es39 rfl rfl W W))<|?_
     refine RunL.one (i := 1) WK rfl  ?_ 
     refine Run.buildSlice0 Rbox_es39 (lt rfl) (fun b6 => ?_)
     refine Ze<|Ex.anyL (ZK 2 Z)<|?_
     refine RunL.one (i := 8) WK rfl  ?_ 
     refine Run.append (n := 0) (m := (i1 - 0)) (xs := []) (ys := ((r.w.drop 0).take (i1 - 0)).flatMap Msg.cl) rfl rfl Rbox_es39 Rbox_zi35 WD (j := 0) rfl (Ow.lit (cur := #[]) rfl WD) (Src.of_rd Rbox_es39 (Rd.cut Msg.cl_enc.len (hw.rd 4 rfl) 0 i1 W W)) W W (all_one_flat Msg.cl_enc _) (lt rfl) (fun v7 s8 ho9 hf => ?_)
     obtain ⟨p7, c7, rfl⟩ := hf
     replace ho9 := Ow.app (f := Msg.cl) (l := []) (m := (r.w.drop 0).take (i1 - 0)) ho9
     refine Ze<|Ex.anyL (ZK 2 Z)<|?_
     refine RunL.one (i := 16) WK rfl  ?_ 
     refine Run.append (n := 0 + (i1 - 0)) (m := (r.w.length - (((i1 : Int) + 1).toNat))) (xs := ([] ++ ((r.w.drop 0).take (i1 - 0))).flatMap Msg.cl) (ys := ((r.w.drop (((i1 : Int) + 1).toNat)).take (r.w.length - (((i1 : Int) + 1).toNat))).flatMap Msg.cl) rfl rfl Rbox_es39 Rbox_zi35 WD (j := 0) rfl ho9 (Src.of_rd Rbox_es39 (Rd.cut Msg.cl_enc.len (hw.rd 4 rfl) (((i1 : Int) + 1).toNat) r.w.length W W)) W W (all_one_flat Msg.cl_enc _) (lt rfl) (fun v10 s11 ho12 hf => ?_)
     obtain ⟨p10, c10, rfl⟩ := hf
     replace ho12 := Ow.app (f := Msg.cl) (l := [] ++ ((r.w.drop 0).take (i1 - 0))) (m := (r.w.drop (((i1 : Int) + 1).toNat)).take (r.w.length - (((i1 : Int) + 1).toNat))) ho12
     refine Ze<|Ex.anyL (ZK 2 Z)<|?_
     refine RunL.one (i := 17) WK rfl  ?_ 
     refine Zv (Y.nilCheck Z)<|Ze<|Ex.anyL (ZK 2 Z)<|RunL.pure (i := 18) rfl WK WK WK WK (fun _ _ _ h => h) (lt rfl) (ZK 2 Z) (fun _ => (Y.fieldAddr rfl Rbox_fo63_1))<|?_
     refine RunL.one (i := 19) WK rfl  ?_ 
     refine Run.store (s := [(rx, .cells #[.slice pl r.l.length cl, .slice p10 (0 + (i1 - 0) + (r.w.length - (((i1 : Int) + 1).toNat))) c10, .int .i64 r.xid] 63 (0, 0))]) Z Z Rbox_sz39 (i := 2) Z Z (le Z) Z Z<|Ze<|Ex.anyLz Z<|RunL.done WK<|Zg<|Zs<|Zr<|Run.heapTo (H' := [s11, [(b5, .cells #[.int .i64 ((r.w.getD i1 Msg.zero).kind), .int .i64 ((r.w.getD i1 Msg.zero).life), .int .i64 ((r.w.getD i1 Msg.zero).seen), .int .i64 ((r.w.getD i1 Msg.zero).xid), .int .i64 ((r.w.getD i1 Msg.zero).state), .int .u32 ((r.w.getD i1 Msg.zero).addr), .int .i64 ((r.w.getD i1 Msg.zero).bind), .string ((r.w.getD i1 Msg.zero).client), .int .i64 ((r.w.getD i1 Msg.zero).pot), .int .i64 ((r.w.getD i1 Msg.zero).at_), .bool ((r.w.getD i1 Msg.zero).ok)] 35 (0, 0))], [(rx, .cells #[.slice pl r.l.length cl, .slice p10 (0 + (i1 - 0) + (r.w.length - (((i1 : Int) + 1).toNat))) c10, .int .i64 r.xid] 63 (0, 0))], ql, qw]) Z<|?_
     have hc13 : (([] ++ ((r.w.drop 0).take (i1 - 0))) ++ ((r.w.drop (((i1 : Int) + 1).toNat)).take (r.w.length - (((i1 : Int) + 1).toNat)))) = r.w.take i1 ++ r.w.drop (i1 + 1) := by first | rfl | (simp only [show ((i1 : Int) + 1).toNat = i1 + 1 from by omega]; simp [List.take_of_length_le]) | simp
     have hc13n : (0 + (i1 - 0) + (r.w.length - (((i1 : Int) + 1).toNat))) = (r.w.take i1 ++ r.w.drop (i1 + 1)).length := by rw [← hc13]; first | rfl | (simp only [List.length_append, List.length_take, List.length_drop, List.length_nil, List.length_singleton] <;> omega)
     have h14 := ho12
     rw [hc13] at h14
     rw [hc13n] at h14
     refine Run.heapTo (H' := [s11, [(b5, .cells #[.int .i64 ((r.w.getD i1 Msg.zero).kind), .int .i64 ((r.w.getD i1 Msg.zero).life), .int .i64 ((r.w.getD i1 Msg.zero).seen), .int .i64 ((r.w.getD i1 Msg.zero).xid), .int .i64 ((r.w.getD i1 Msg.zero).state), .int .u32 ((r.w.getD i1 Msg.zero).addr), .int .i64 ((r.w.getD i1 Msg.zero).bind), .string ((r.w.getD i1 Msg.zero).client), .int .i64 ((r.w.getD i1 Msg.zero).pot), .int .i64 ((r.w.getD i1 Msg.zero).at_), .bool ((r.w.getD i1 Msg.zero).ok)] 35 (0, 0))], [(rx, .cells #[.slice pl r.l.length cl, .slice p10 (r.w.take i1 ++ r.w.drop (i1 + 1)).length c10, .int .i64 r.xid] 63 (0, 0))], ql, qw]) (by rw [hc13n]) ?_
     refine Zm Z<|Zv (Y.nilCheck Z)<|Zv (Y.fieldAddr Z Rbox_fo63_2)<|Zv (Y.load Z Rbox_ts3 (Kn.at 2 Z) Z)<|Zv (Y.add Z Z W)<|Zv (Y.nilCheck Z)<|Zv (Y.fieldAddr Z Rbox_fo63_2)<|Run.store (s := [(rx, .cells #[.slice pl r.l.length cl, .slice p10 (r.w.take i1 ++ r.w.drop (i1 + 1)).length c10, .int .i64 (r.xid + 1)] 63 (0, 0))]) Z Z Rbox_sz3 (i := 2) Z Z (le Z) Z Z<|Ze<|Zg<|Zs<|Zr<|Zm Z<|Zv (Y.nilCheck Z)<|Zv (Y.fieldAddr Z Rbox_fo63_2)<|?_
     refine Zv (Y.load Z Rbox_ts3 (Kn.at 2 Z) Z)<|Zv (Y.fieldAddr Z Rbox_fo35_3)<|Run.store (s := [(b5, .cells #[.int .i64 ((r.w.getD i1 Msg.zero).kind), .int .i64 ((r.w.getD i1 Msg.zero).life), .int .i64 ((r.w.getD i1 Msg.zero).seen), .int .i64 (r.xid + 1), .int .i64 ((r.w.getD i1 Msg.zero).state), .int .u32 ((r.w.getD i1 Msg.zero).addr), .int .i64 ((r.w.getD i1 Msg.zero).bind), .string ((r.w.getD i1 Msg.zero).client), .int .i64 ((r.w.getD i1 Msg.zero).pot), .int .i64 ((r.w.getD i1 Msg.zero).at_), .bool ((r.w.getD i1 Msg.zero).ok)] 35 (0, 0))]) Z Z Rbox_sz3 (i := 1) Z Z (le Z) Z Z<|?_
     refine Ze<|Zg<|Zs<|Tr.anyL [(rx, .cells #[.slice pl r.l.length cl, .slice p10 (r.w.take i1 ++ r.w.drop (i1 + 1)).length c10, .int .i64 (r.xid + 1)] 63 (0, 0)), (b5, .cells #[.int .i64 ((r.w.getD i1 Msg.zero).kind), .int .i64 ((r.w.getD i1 Msg.zero).life), .int .i64 ((r.w.getD i1 Msg.zero).seen), .int .i64 (r.xid + 1), .int .i64 ((r.w.getD i1 Msg.zero).state), .int .u32 ((r.w.getD i1 Msg.zero).addr), .int .i64 ((r.w.getD i1 Msg.zero).bind), .string ((r.w.getD i1 Msg.zero).client), .int .i64 ((r.w.getD i1 Msg.zero).pot), .int .i64 ((r.w.getD i1 Msg.zero).at_), .bool ((r.w.getD i1 Msg.zero).ok)] 35 (0, 0))] 13 Rbox_mo<|?_
     refine RunL.pure (i := 0) rfl WK WK WK WK (fun _ _ _ h => h) (lt rfl) (KnAll.cons (Kn.at 2 rfl) (ZK 1 Z)) (fun _ => (Y.move rfl))<|RunL.pure (i := 2) rfl WK WK WK WK (fun _ _ _ h => h) (lt rfl) (KnAll.cons (Kn.at 2 rfl) (ZK 1 Z)) (fun _ => (Y.move rfl))<|RunL.pure (i := 3) rfl WK WK WK WK (fun _ _ _ h => h) (lt rfl) (KnAll.cons (Kn.at 2 rfl) (ZK 1 Z)) (fun _ => (Y.nilCheck rfl))<|?_
     refine RunL.pure (i := 4) rfl WK WK WK WK (fun _ _ _ h => h) (lt rfl) (KnAll.cons (Kn.at 2 rfl) (ZK 1 Z)) (fun _ => (Y.fieldAddr rfl Rbox_fo63_0))<|RunL.take (i := 5) 0 rfl rfl WK WK WK WK (fun _ _ _ h => h) (lt rfl) (KnAll.cons (Kn.at 2 rfl) (ZK 1 Z)) (fun _ => (Y.load rfl Rbox_ts61 Kn.vk1 rfl))<|RunL.take (i := 7) 1 rfl rfl WK WK WK WK (fun _ _ _ h => h) (lt rfl) (KnAll.cons (Kn.at 2 rfl) (ZK 1 Z)) (fun _ => (Y.loadAgg rfl Rbox_ag35 Kn.vk1 rfl))<|?_
     refine RunL.pure (i := 8) rfl WK WK WK WK (fun _ _ _ h => h) (lt rfl) (KnAll.cons (Kn.at 2 rfl) (ZK 1 Z)) (fun _ => (Y.buildS (l := [(0, .tmp 84), (1, .const (.int .i64 (-1)))]) Rbox_zo156 Rbox_pl156 rfl rfl)) ?_
     refine RunL.two (i := 1) (j := 9) WK rfl rfl  ?_ ?_ 
     ·refine Run.buildSlice0 Rbox_es61 (lt rfl) (fun b15 => ?_)
      refine Ze<|Ex.anyL (KnAll.cons (Kn.at 3 Z) (ZK 2 Z))<|?_
      refine RunL.two (i := 6) (j := 9) WK rfl rfl  ?_ ?_ 
      ·refine Run.append (n := 0) (m := r.l.length) (xs := []) (ys := r.l.flatMap roCells) rfl rfl Rbox_es61 Rbox_zi156 WD (j := 0) rfl (Ow.lit (cur := #[]) rfl WD) (Src.of_rd Rbox_es61 (hl.rd 4 rfl)) W W (all_one_flat ro_enc _) (lt rfl) (fun v16 s17 ho18 hf => ?_)
       obtain ⟨p16, c16, rfl⟩ := hf
       replace ho18 := Ow.app (f := roCells) (l := []) (m := r.l) ho18
       refine Ze<|Ex.anyL (KnAll.cons (Kn.at 3 Z) (ZK 2 Z))<|?_
       refine RunL.one (i := 9) WK rfl  ?_ 
       refine Run.buildSlice (l := [(0, .tmp 85)]) (r := [.int .i64 ((r.w.getD i1 Msg.zero).kind), .int .i64 ((r.w.getD i1 Msg.zero).life), .int .i64 ((r.w.getD i1 Msg.zero).seen), .int .i64 (r.xid + 1), .int .i64 ((r.w.getD i1 Msg.zero).state), .int .u32 ((r.w.getD i1 Msg.zero).addr), .int .i64 ((r.w.getD i1 Msg.zero).bind), .string ((r.w.getD i1 Msg.zero).client), .int .i64 ((r.w.getD i1 Msg.zero).pot), .int .i64 ((r.w.getD i1 Msg.zero).at_), .bool ((r.w.getD i1 Msg.zero).ok), .int .i64 (-1)]) Rbox_es61 Rbox_zo156 rfl WD rfl rfl WD (lt rfl) (fun b19 => ?_)
       refine Ze<|Ex.anyL (KnAll.cons (Kn.at 4 Z) (ZK 3 Z))<|?_
       refine RunL.one (i := 10) WK rfl  ?_ 
       refine Run.append (n := 0 + r.l.length) (m := 1) (xs := ([] ++ r.l).flatMap roCells) (ys := [.int .i64 ((r.w.getD i1 Msg.zero).kind), .int .i64 ((r.w.getD i1 Msg.zero).life), .int .i64 ((r.w.getD i1 Msg.zero).seen), .int .i64 (r.xid + 1), .int .i64 ((r.w.getD i1 Msg.zero).state), .int .u32 ((r.w.getD i1 Msg.zero).addr), .int .i64 ((r.w.getD i1 Msg.zero).bind), .string ((r.w.getD i1 Msg.zero).client), .int .i64 ((r.w.getD i1 Msg.zero).pot), .int .i64 ((r.w.getD i1 Msg.zero).at_), .bool ((r.w.getD i1 Msg.zero).ok), .int .i64 (-1)]) rfl rfl Rbox_es61 Rbox_zi156 WD (j := 1) rfl ho18 (Src.of_rd Rbox_es61 (Rd.one (Kn.at 0 rfl) rfl)) W W rfl (lt rfl) (fun v20 s21 ho22 hf => ?_)
       obtain ⟨p20, c20, rfl⟩ := hf
       replace ho22 := Ow.app1 (f := roCells) (l := [] ++ r.l) (x := (((⟨(r.w.getD i1 Msg.zero).kind, (r.w.getD i1 Msg.zero).life, (r.w.getD i1 Msg.zero).seen, r.xid + 1, (r.w.getD i1 Msg.zero).state, (r.w.getD i1 Msg.zero).addr, (r.w.getD i1 Msg.zero).bind, (r.w.getD i1 Msg.zero).client, (r.w.getD i1 Msg.zero).pot, (r.w.getD i1 Msg.zero).at_, (r.w.getD i1 Msg.zero).ok⟩ : Msg), (-1)) : Msg × Int)) ho22
       refine Ze<|Ex.anyL (KnAll.cons (Kn.at 4 Z) (ZK 3 Z))<|?_
       refine RunL.one (i := 11) WK rfl  ?_ 
       refine Zv (Y.nilCheck Z)<|Ze<|Ex.anyL (KnAll.cons (Kn.at 4 Z) (ZK 3 Z))<|RunL.pure (i := 12) rfl WK WK WK WK (fun _ _ _ h => h) (lt rfl) (KnAll.cons (Kn.at 4 rfl) (ZK 3 Z)) (fun _ => (Y.fieldAddr rfl Rbox_fo63_0))<|?_
       refine RunL.one (i := 13) WK rfl  ?_ 
       refine Run.store (s := [(rx, .cells #[.slice p20 (0 + r.l.length + 1) c20, .slice p10 (r.w.take i1 ++ r.w.drop (i1 + 1)).length c10, .int .i64 (r.xid + 1)] 63 (0, 0))]) Z Z Rbox_sz61 (i := 4) Z Z (le Z) Z Z<|Ze<|Ex.anyLz Z<|RunL.done WK<|Zg<|Zu<|Zk<|Zn<|Zn<|Zk<|Ex.perm (H' := [[(b19, .cells #[.int .i64 ((r.w.getD i1 Msg.zero).kind), .int .i64 ((r.w.getD i1 Msg.zero).life), .int .i64 ((r.w.getD i1 Msg.zero).seen), .int .i64 (r.xid + 1), .int .i64 ((r.w.getD i1 Msg.zero).state), .int .u32 ((r.w.getD i1 Msg.zero).addr), .int .i64 ((r.w.getD i1 Msg.zero).bind), .string ((r.w.getD i1 Msg.zero).client), .int .i64 ((r.w.getD i1 Msg.zero).pot), .int .i64 ((r.w.getD i1 Msg.zero).at_), .bool ((r.w.getD i1 Msg.zero).ok), .int .i64 (-1)] 156 (0, 0))], s21, s11, [(b5, .cells #[.int .i64 ((r.w.getD i1 Msg.zero).kind), .int .i64 ((r.w.getD i1 Msg.zero).life), .int .i64 ((r.w.getD i1 Msg.zero).seen), .int .i64 (r.xid + 1), .int .i64 ((r.w.getD i1 Msg.zero).state), .int .u32 ((r.w.getD i1 Msg.zero).addr), .int .i64 ((r.w.getD i1 Msg.zero).bind), .string ((r.w.getD i1 Msg.zero).client), .int .i64 ((r.w.getD i1 Msg.zero).pot), .int .i64 ((r.w.getD i1 Msg.zero).at_), .bool ((r.w.getD i1 Msg.zero).ok)] 35 (0, 0))], [(rx, .cells #[.slice p20 (0 + r.l.length + 1) c20, .slice p10 (r.w.take i1 ++ r.w.drop (i1 + 1)).length c10, .int .i64 (r.xid + 1)] 63 (0, 0))], ql, qw]) (List.Perm.of_eq Z)<|?_
       have hc23 : (([] ++ r.l) ++ [(((⟨(r.w.getD i1 Msg.zero).kind, (r.w.getD i1 Msg.zero).life, (r.w.getD i1 Msg.zero).seen, r.xid + 1, (r.w.getD i1 Msg.zero).state, (r.w.getD i1 Msg.zero).addr, (r.w.getD i1 Msg.zero).bind, (r.w.getD i1 Msg.zero).client, (r.w.getD i1 Msg.zero).pot, (r.w.getD i1 Msg.zero).at_, (r.w.getD i1 Msg.zero).ok⟩ : Msg), (-1)) : Msg × Int)]) = r.l ++ [(({ r.w.getD i1 Msg.zero with xid := r.xid + 1 } : Msg), -1)] := by first | rfl | (simp only [show ((i1 : Int) + 1).toNat = i1 + 1 from by omega]; simp [List.take_of_length_le]) | simp
       have hc23n : (0 + r.l.length + 1) = (r.l ++ [(({ r.w.getD i1 Msg.zero with xid := r.xid + 1 } : Msg), -1)]).length := by rw [← hc23]; first | rfl | (simp only [List.length_append, List.length_take, List.length_drop, List.length_nil, List.length_singleton] <;> omega)
       have h24 := ho22
       rw [hc23] at h24
       rw [hc23n] at h24
       refine Ex.perm (H' := [[(b19, .cells #[.int .i64 ((r.w.getD i1 Msg.zero).kind), .int .i64 ((r.w.getD i1 Msg.zero).life), .int .i64 ((r.w.getD i1 Msg.zero).seen), .int .i64 (r.xid + 1), .int .i64 ((r.w.getD i1 Msg.zero).state), .int .u32 ((r.w.getD i1 Msg.zero).addr), .int .i64 ((r.w.getD i1 Msg.zero).bind), .string ((r.w.getD i1 Msg.zero).client), .int .i64 ((r.w.getD i1 Msg.zero).pot), .int .i64 ((r.w.getD i1 Msg.zero).at_), .bool ((r.w.getD i1 Msg.zero).ok), .int .i64 (-1)] 156 (0, 0))], s21, s11, [(b5, .cells #[.int .i64 ((r.w.getD i1 Msg.zero).kind), .int .i64 ((r.w.getD i1 Msg.zero).life), .int .i64 ((r.w.getD i1 Msg.zero).seen), .int .i64 (r.xid + 1), .int .i64 ((r.w.getD i1 Msg.zero).state), .int .u32 ((r.w.getD i1 Msg.zero).addr), .int .i64 ((r.w.getD i1 Msg.zero).bind), .string ((r.w.getD i1 Msg.zero).client), .int .i64 ((r.w.getD i1 Msg.zero).pot), .int .i64 ((r.w.getD i1 Msg.zero).at_), .bool ((r.w.getD i1 Msg.zero).ok)] 35 (0, 0))], [(rx, .cells #[.slice p20 (r.l ++ [(({ r.w.getD i1 Msg.zero with xid := r.xid + 1 } : Msg), -1)]).length c20, .slice p10 (r.w.take i1 ++ r.w.drop (i1 + 1)).length c10, .int .i64 (r.xid + 1)] 63 (0, 0))], ql, qw]) (List.Perm.of_eq (by rw [hc23n])) ?_
       refine Ex.keepTo (H' := [[(rx, .cells #[.slice p20 (r.l ++ [(({ r.w.getD i1 Msg.zero with xid := r.xid + 1 } : Msg), -1)]).length c20, .slice p10 (r.w.take i1 ++ r.w.drop (i1 + 1)).length c10, .int .i64 (r.xid + 1)] 63 (0, 0))], s21, s11]) [4, 1, 1] Z ?_
       have hg := Rb.goes_at (r := r) (a := a) (i := i1) (fun j hj => (hno j hj).resolve_right (by intro h9; rcases h9 with h9 | h9; exact absurd (h9.symm.trans h3) WD; omega)) W W h3 W
       exact Ex.ret0 rfl ⟨rfl, by rw [hg]; exact ⟨_, _, _, _, _, _, rfl, h24, h14⟩⟩
      ·refine Run.buildSlice (l := [(0, .tmp 85)]) (r := [.int .i64 ((r.w.getD i1 Msg.zero).kind), .int .i64 ((r.w.getD i1 Msg.zero).life), .int .i64 ((r.w.getD i1 Msg.zero).seen), .int .i64 (r.xid + 1), .int .i64 ((r.w.getD i1 Msg.zero).state), .int .u32 ((r.w.getD i1 Msg.zero).addr), .int .i64 ((r.w.getD i1 Msg.zero).bind), .string ((r.w.getD i1 Msg.zero).client), .int .i64 ((r.w.getD i1 Msg.zero).pot), .int .i64 ((r.w.getD i1 Msg.zero).at_), .bool ((r.w.getD i1 Msg.zero).ok), .int .i64 (-1)]) Rbox_es61 Rbox_zo156 rfl WD rfl rfl WD (lt rfl) (fun b25 => ?_)
       refine Ze<|Ex.anyL (KnAll.cons (Kn.at 4 Z) (ZK 3 Z))<|?_
       refine RunL.one (i := 6) WK rfl  ?_ 
       refine Run.append (n := 0) (m := r.l.length) (xs := []) (ys := r.l.flatMap roCells) rfl rfl Rbox_es61 Rbox_zi156 WD (j := 1) rfl (Ow.lit (cur := #[]) rfl WD) (Src.of_rd Rbox_es61 (hl.rd 5 rfl)) W W (all_one_flat ro_enc _) (lt rfl) (fun v26 s27 ho28 hf => ?_)
       obtain ⟨p26, c26, rfl⟩ := hf
       replace ho28 := Ow.app (f := roCells) (l := []) (m := r.l) ho28
       refine Ze<|Ex.anyL (KnAll.cons (Kn.at 4 Z) (ZK 3 Z))<|?_
       refine RunL.one (i := 10) WK rfl  ?_ 
       refine Run.append (n := 0 + r.l.length) (m := 1) (xs := ([] ++ r.l).flatMap roCells) (ys := [.int .i64 ((r.w.getD i1 Msg.zero).kind), .int .i64 ((r.w.getD i1 Msg.zero).life), .int .i64 ((r.w.getD i1 Msg.zero).seen), .int .i64 (r.xid + 1), .int .i64 ((r.w.getD i1 Msg.zero).state), .int .u32 ((r.w.getD i1 Msg.zero).addr), .int .i64 ((r.w.getD i1 Msg.zero).bind), .string ((r.w.getD i1 Msg.zero).client), .int .i64 ((r.w.getD i1 Msg.zero).pot), .int .i64 ((r.w.getD i1 Msg.zero).at_), .bool ((r.w.getD i1 Msg.zero).ok), .int .i64 (-1)]) rfl rfl Rbox_es61 Rbox_zi156 WD (j := 1) rfl ho28 (Src.of_rd Rbox_es61 (Rd.one (Kn.at 0 rfl) rfl)) W W rfl (lt rfl) (fun v29 s30 ho31 hf => ?_)
       obtain ⟨p29, c29, rfl⟩ := hf
       replace ho31 := Ow.app1 (f := roCells) (l := [] ++ r.l) (x := (((⟨(r.w.getD i1 Msg.zero).kind, (r.w.getD i1 Msg.zero).life, (r.w.getD i1 Msg.zero).seen, r.xid + 1, (r.w.getD i1 Msg.zero).state, (r.w.getD i1 Msg.zero).addr, (r.w.getD i1 Msg.zero).bind, (r.w.getD i1 Msg.zero).client, (r.w.getD i1 Msg.zero).pot, (r.w.getD i1 Msg.zero).at_, (r.w.getD i1 Msg.zero).ok⟩ : Msg), (-1)) : Msg × Int)) ho31
       refine Ze<|Ex.anyL (KnAll.cons (Kn.at 4 Z) (ZK 3 Z))<|?_
       refine RunL.one (i := 11) WK rfl  ?_ 
       refine Zv (Y.nilCheck Z)<|Ze<|Ex.anyL (KnAll.cons (Kn.at 4 Z) (ZK 3 Z))<|RunL.pure (i := 12) rfl WK WK WK WK (fun _ _ _ h => h) (lt rfl) (KnAll.cons (Kn.at 4 rfl) (ZK 3 Z)) (fun _ => (Y.fieldAddr rfl Rbox_fo63_0))<|?_
       refine RunL.one (i := 13) WK rfl  ?_ 
       refine Run.store (s := [(rx, .cells #[.slice p29 (0 + r.l.length + 1) c29, .slice p10 (r.w.take i1 ++ r.w.drop (i1 + 1)).length c10, .int .i64 (r.xid + 1)] 63 (0, 0))]) Z Z Rbox_sz61 (i := 4) Z Z (le Z) Z Z<|Ze<|Ex.anyLz Z<|RunL.done WK<|Zg<|Zu<|Zk<|Zn<|Zn<|Zk<|Ex.perm (H' := [[(b25, .cells #[.int .i64 ((r.w.getD i1 Msg.zero).kind), .int .i64 ((r.w.getD i1 Msg.zero).life), .int .i64 ((r.w.getD i1 Msg.zero).seen), .int .i64 (r.xid + 1), .int .i64 ((r.w.getD i1 Msg.zero).state), .int .u32 ((r.w.getD i1 Msg.zero).addr), .int .i64 ((r.w.getD i1 Msg.zero).bind), .string ((r.w.getD i1 Msg.zero).client), .int .i64 ((r.w.getD i1 Msg.zero).pot), .int .i64 ((r.w.getD i1 Msg.zero).at_), .bool ((r.w.getD i1 Msg.zero).ok), .int .i64 (-1)] 156 (0, 0))], s30, s11, [(b5, .cells #[.int .i64 ((r.w.getD i1 Msg.zero).kind), .int .i64 ((r.w.getD i1 Msg.zero).life), .int .i64 ((r.w.getD i1 Msg.zero).seen), .int .i64 (r.xid + 1), .int .i64 ((r.w.getD i1 Msg.zero).state), .int .u32 ((r.w.getD i1 Msg.zero).addr), .int .i64 ((r.w.getD i1 Msg.zero).bind), .string ((r.w.getD i1 Msg.zero).client), .int .i64 ((r.w.getD i1 Msg.zero).pot), .int .i64 ((r.w.getD i1 Msg.zero).at_), .bool ((r.w.getD i1 Msg.zero).ok)] 35 (0, 0))], [(rx, .cells #[.slice p29 (0 + r.l.length + 1) c29, .slice p10 (r.w.take i1 ++ r.w.drop (i1 + 1)).length c10, .int .i64 (r.xid + 1)] 63 (0, 0))], ql, qw]) (List.Perm.of_eq Z)<|?_
       have hc32 : (([] ++ r.l) ++ [(((⟨(r.w.getD i1 Msg.zero).kind, (r.w.getD i1 Msg.zero).life, (r.w.getD i1 Msg.zero).seen, r.xid + 1, (r.w.getD i1 Msg.zero).state, (r.w.getD i1 Msg.zero).addr, (r.w.getD i1 Msg.zero).bind, (r.w.getD i1 Msg.zero).client, (r.w.getD i1 Msg.zero).pot, (r.w.getD i1 Msg.zero).at_, (r.w.getD i1 Msg.zero).ok⟩ : Msg), (-1)) : Msg × Int)]) = r.l ++ [(({ r.w.getD i1 Msg.zero with xid := r.xid + 1 } : Msg), -1)] := by first | rfl | (simp only [show ((i1 : Int) + 1).toNat = i1 + 1 from by omega]; simp [List.take_of_length_le]) | simp
       have hc32n : (0 + r.l.length + 1) = (r.l ++ [(({ r.w.getD i1 Msg.zero with xid := r.xid + 1 } : Msg), -1)]).length := by rw [← hc32]; first | rfl | (simp only [List.length_append, List.length_take, List.length_drop, List.length_nil, List.length_singleton] <;> omega)
       have h33 := ho31
       rw [hc32] at h33
       rw [hc32n] at h33
       refine Ex.perm (H' := [[(b25, .cells #[.int .i64 ((r.w.getD i1 Msg.zero).kind), .int .i64 ((r.w.getD i1 Msg.zero).life), .int .i64 ((r.w.getD i1 Msg.zero).seen), .int .i64 (r.xid + 1), .int .i64 ((r.w.getD i1 Msg.zero).state), .int .u32 ((r.w.getD i1 Msg.zero).addr), .int .i64 ((r.w.getD i1 Msg.zero).bind), .string ((r.w.getD i1 Msg.zero).client), .int .i64 ((r.w.getD i1 Msg.zero).pot), .int .i64 ((r.w.getD i1 Msg.zero).at_), .bool ((r.w.getD i1 Msg.zero).ok), .int .i64 (-1)] 156 (0, 0))], s30, s11, [(b5, .cells #[.int .i64 ((r.w.getD i1 Msg.zero).kind), .int .i64 ((r.w.getD i1 Msg.zero).life), .int .i64 ((r.w.getD i1 Msg.zero).seen), .int .i64 (r.xid + 1), .int .i64 ((r.w.getD i1 Msg.zero).state), .int .u32 ((r.w.getD i1 Msg.zero).addr), .int .i64 ((r.w.getD i1 Msg.zero).bind), .string ((r.w.getD i1 Msg.zero).client), .int .i64 ((r.w.getD i1 Msg.zero).pot), .int .i64 ((r.w.getD i1 Msg.zero).at_), .bool ((r.w.getD i1 Msg.zero).ok)] 35 (0, 0))], [(rx, .cells #[.slice p29 (r.l ++ [(({ r.w.getD i1 Msg.zero with xid := r.xid + 1 } : Msg), -1)]).length c29, .slice p10 (r.w.take i1 ++ r.w.drop (i1 + 1)).length c10, .int .i64 (r.xid + 1)] 63 (0, 0))], ql, qw]) (List.Perm.of_eq (by rw [hc32n])) ?_
       refine Ex.keepTo (H' := [[(rx, .cells #[.slice p29 (r.l ++ [(({ r.w.getD i1 Msg.zero with xid := r.xid + 1 } : Msg), -1)]).length c29, .slice p10 (r.w.take i1 ++ r.w.drop (i1 + 1)).length c10, .int .i64 (r.xid + 1)] 63 (0, 0))], s30, s11]) [4, 1, 1] Z ?_
       have hg := Rb.goes_at (r := r) (a := a) (i := i1) (fun j hj => (hno j hj).resolve_right (by intro h9; rcases h9 with h9 | h9; exact absurd (h9.symm.trans h3) WD; omega)) W W h3 W
       exact Ex.ret0 rfl ⟨rfl, by rw [hg]; exact ⟨_, _, _, _, _, _, rfl, h33, h14⟩⟩
     ·refine Run.buildSlice (l := [(0, .tmp 85)]) (r := [.int .i64 ((r.w.getD i1 Msg.zero).kind), .int .i64 ((r.w.getD i1 Msg.zero).life), .int .i64 ((r.w.getD i1 Msg.zero).seen), .int .i64 (r.xid + 1), .int .i64 ((r.w.getD i1 Msg.zero).state), .int .u32 ((r.w.getD i1 Msg.zero).addr), .int .i64 ((r.w.getD i1 Msg.zero).bind), .string ((r.w.getD i1 Msg.zero).client), .int .i64 ((r.w.getD i1 Msg.zero).pot), .int .i64 ((r.w.getD i1 Msg.zero).at_), .bool ((r.w.getD i1 Msg.zero).ok), .int .i64 (-1)]) Rbox_es61 Rbox_zo156 rfl WD rfl rfl WD (lt rfl) (fun b34 => ?_)
      refine Ze<|Ex.anyL (KnAll.cons (Kn.at 3 Z) (ZK 2 Z))<|?_
      refine RunL.one (i := 1) WK rfl  ?_ 
      refine Run.buildSlice0 Rbox_es61 (lt rfl) (fun b35 => ?_)
      refine Ze<|Ex.anyL (KnAll.cons (Kn.at 4 Z) (ZK 3 Z))<|?_
      refine RunL.one (i := 6) WK rfl  ?_ 
      refine Run.append (n := 0) (m := r.l.length) (xs := []) (ys := r.l.flatMap roCells) rfl rfl Rbox_es61 Rbox_zi156 WD (j := 0) rfl (Ow.lit (cur := #[]) rfl WD) (Src.of_rd Rbox_es61 (hl.rd 5 rfl)) W W (all_one_flat ro_enc _) (lt rfl) (fun v36 s37 ho38 hf => ?_)
      obtain ⟨p36, c36, rfl⟩ := hf
      replace ho38 := Ow.app (f := roCells) (l := []) (m := r.l) ho38
      refine Ze<|Ex.anyL (KnAll.cons (Kn.at 4 Z) (ZK 3 Z))<|?_
      refine RunL.one (i := 10) WK rfl  ?_ 
      refine Run.append (n := 0 + r.l.length) (m := 1) (xs := ([] ++ r.l).flatMap roCells) (ys := [.int .i64 ((r.w.getD i1 Msg.zero).kind), .int .i64 ((r.w.getD i1 Msg.zero).life), .int .i64 ((r.w.getD i1 Msg.zero).seen), .int .i64 (r.xid + 1), .int .i64 ((r.w.getD i1 Msg.zero).state), .int .u32 ((r.w.getD i1 Msg.zero).addr), .int .i64 ((r.w.getD i1 Msg.zero).bind), .string ((r.w.getD i1 Msg.zero).client), .int .i64 ((r.w.getD i1 Msg.zero).pot), .int .i64 ((r.w.getD i1 Msg.zero).at_), .bool ((r.w.getD i1 Msg.zero).ok), .int .i64 (-1)]) rfl rfl Rbox_es61 Rbox_zi156 WD (j := 0) rfl ho38 (Src.of_rd Rbox_es61 (Rd.one (Kn.at 1 rfl) rfl)) W W rfl (lt rfl) (fun v39 s40 ho41 hf => ?_)
      obtain ⟨p39, c39, rfl⟩ := hf
      replace ho41 := Ow.app1 (f := roCells) (l := [] ++ r.l) (x := (((⟨(r.w.getD i1 Msg.zero).kind, (r.w.getD i1 Msg.zero).life, (r.w.getD i1 Msg.zero).seen, r.xid + 1, (r.w.getD i1 Msg.zero).state, (r.w.getD i1 Msg.zero).addr, (r.w.getD i1 Msg.zero).bind, (r.w.getD i1 Msg.zero).client, (r.w.getD i1 Msg.zero).pot, (r.w.getD i1 Msg.zero).at_, (r.w.getD i1 Msg.zero).ok⟩ : Msg), (-1)) : Msg × Int)) ho41
      refine Ze<|Ex.anyL (KnAll.cons (Kn.at 4 Z) (ZK 3 Z))<|?_
      refine RunL.one (i := 11) WK rfl  ?_ 
      refine Zv (Y.nilCheck Z)<|Ze<|Ex.anyL (KnAll.cons (Kn.at 4 Z) (ZK 3 Z))<|RunL.pure (i := 12) rfl WK WK WK WK (fun _ _ _ h => h) (lt rfl) (KnAll.cons (Kn.at 4 rfl) (ZK 3 Z)) (fun _ => (Y.fieldAddr rfl Rbox_fo63_0))<|?_
      refine RunL.one (i := 13) WK rfl  ?_ 
      refine Run.store (s := [(rx, .cells #[.slice p39 (0 + r.l.length + 1) c39, .slice p10 (r.w.take i1 ++ r.w.drop (i1 + 1)).length c10, .int .i64 (r.xid + 1)] 63 (0, 0))]) Z Z Rbox_sz61 (i := 4) Z Z (le Z) Z Z<|Ze<|Ex.anyLz Z<|RunL.done WK<|Zg<|Zu<|Zk<|Zn<|Zn<|Zk<|Ex.perm (H' := [s40, [(b34, .cells #[.int .i64 ((r.w.getD i1 Msg.zero).kind), .int .i64 ((r.w.getD i1 Msg.zero).life), .int .i64 ((r.w.getD i1 Msg.zero).seen), .int .i64 (r.xid + 1), .int .i64 ((r.w.getD i1 Msg.zero).state), .int .u32 ((r.w.getD i1 Msg.zero).addr), .int .i64 ((r.w.getD i1 Msg.zero).bind), .string ((r.w.getD i1 Msg.zero).client), .int .i64 ((r.w.getD i1 Msg.zero).pot), .int .i64 ((r.w.getD i1 Msg.zero).at_), .bool ((r.w.getD i1 Msg.zero).ok), .int .i64 (-1)] 156 (0, 0))], s11, [(b5, .cells #[.int .i64 ((r.w.getD i1 Msg.zero).kind), .int .i64 ((r.w.getD i1 Msg.zero).life), .int .i64 ((r.w.getD i1 Msg.zero).seen), .int .i64 (r.xid + 1), .int .i64 ((r.w.getD i1 Msg.zero).state), .int .u32 ((r.w.getD i1 Msg.zero).addr), .int .i64 ((r.w.getD i1 Msg.zero).bind), .string ((r.w.getD i1 Msg.zero).client), .int .i64 ((r.w.getD i1 Msg.zero).pot), .int .i64 ((r.w.getD i1 Msg.zero).at_), .bool ((r.w.getD i1 Msg.zero).ok)] 35 (0, 0))], [(rx, .cells #[.slice p39 (0 + r.l.length + 1) c39, .slice p10 (r.w.take i1 ++ r.w.drop (i1 + 1)).length c10, .int .i64 (r.xid + 1)] 63 (0, 0))], ql, qw]) (List.Perm.of_eq Z)<|?_
      have hc42 : (([] ++ r.l) ++ [(((⟨(r.w.getD i1 Msg.zero).kind, (r.w.getD i1 Msg.zero).life, (r.w.getD i1 Msg.zero).seen, r.xid + 1, (r.w.getD i1 Msg.zero).state, (r.w.getD i1 Msg.zero).addr, (r.w.getD i1 Msg.zero).bind, (r.w.getD i1 Msg.zero).client, (r.w.getD i1 Msg.zero).pot, (r.w.getD i1 Msg.zero).at_, (r.w.getD i1 Msg.zero).ok⟩ : Msg), (-1)) : Msg × Int)]) = r.l ++ [(({ r.w.getD i1 Msg.zero with xid := r.xid + 1 } : Msg), -1)] := by first | rfl | (simp only [show ((i1 : Int) + 1).toNat = i1 + 1 from by omega]; simp [List.take_of_length_le]) | simp
      have hc42n : (0 + r.l.length + 1) = (r.l ++ [(({ r.w.getD i1 Msg.zero with xid := r.xid + 1 } : Msg), -1)]).length := by rw [← hc42]; first | rfl | (simp only [List.length_append, List.length_take, List.length_drop, List.length_nil, List.length_singleton] <;> omega)
      have h43 := ho41
      rw [hc42] at h43
      rw [hc42n] at h43
      refine Ex.perm (H' := [s40, [(b34, .cells #[.int .i64 ((r.w.getD i1 Msg.zero).kind), .int .i64 ((r.w.getD i1 Msg.zero).life), .int .i64 ((r.w.getD i1 Msg.zero).seen), .int .i64 (r.xid + 1), .int .i64 ((r.w.getD i1 Msg.zero).state), .int .u32 ((r.w.getD i1 Msg.zero).addr), .int .i64 ((r.w.getD i1 Msg.zero).bind), .string ((r.w.getD i1 Msg.zero).client), .int .i64 ((r.w.getD i1 Msg.zero).pot), .int .i64 ((r.w.getD i1 Msg.zero).at_), .bool ((r.w.getD i1 Msg.zero).ok), .int .i64 (-1)] 156 (0, 0))], s11, [(b5, .cells #[.int .i64 ((r.w.getD i1 Msg.zero).kind), .int .i64 ((r.w.getD i1 Msg.zero).life), .int .i64 ((r.w.getD i1 Msg.zero).seen), .int .i64 (r.xid + 1), .int .i64 ((r.w.getD i1 Msg.zero).state), .int .u32 ((r.w.getD i1 Msg.zero).addr), .int .i64 ((r.w.getD i1 Msg.zero).bind), .string ((r.w.getD i1 Msg.zero).client), .int .i64 ((r.w.getD i1 Msg.zero).pot), .int .i64 ((r.w.getD i1 Msg.zero).at_), .bool ((r.w.getD i1 Msg.zero).ok)] 35 (0, 0))], [(rx, .cells #[.slice p39 (r.l ++ [(({ r.w.getD i1 Msg.zero with xid := r.xid + 1 } : Msg), -1)]).length c39, .slice p10 (r.w.take i1 ++ r.w.drop (i1 + 1)).length c10, .int .i64 (r.xid + 1)] 63 (0, 0))], ql, qw]) (List.Perm.of_eq (by rw [hc42n])) ?_
      refine Ex.keepTo (H' := [[(rx, .cells #[.slice p39 (r.l ++ [(({ r.w.getD i1 Msg.zero with xid := r.xid + 1 } : Msg), -1)]).length c39, .slice p10 (r.w.take i1 ++ r.w.drop (i1 + 1)).length c10, .int .i64 (r.xid + 1)] 63 (0, 0))], s40, s11]) [4, 0, 1] Z ?_
      have hg := Rb.goes_at (r := r) (a := a) (i := i1) (fun j hj => (hno j hj).resolve_right (by intro h9; rcases h9 with h9 | h9; exact absurd (h9.symm.trans h3) WD; omega)) W W h3 W
      exact Ex.ret0 rfl ⟨rfl, by rw [hg]; exact ⟨_, _, _, _, _, _, rfl, h43, h14⟩⟩
 ·refine Tr.cond_f Z h1<|Zx<|Zy<|Zy<|Zi<|Ex.keepTo (H' := [[(rx, .cells #[.slice pl r.l.length cl, .slice pw r.w.length cw, .int .i64 r.xid] 63 (0, 0))], ql, qw]) [0, 0, 0] Z<|?_
  have hg : r.goes a = r := Rb.goes_not (by by_cases hc : Rb.outB r.l a = true ∨ r.xid ≥ 1073741824; exact .inr hc; exact .inl fun j hj => (hno j W).resolve_right hc)
  exact Ex.end0 rfl ⟨rfl, by rw [hg]; exact ⟨_, _, _, _, _, _, rfl, hl, hw⟩⟩

set_option maxHeartbeats 1000000 in
theorem rput_c {V : Vw} {r : Rb} {rx : Nat} {pl pw : Option Addr} {cl cw : Nat} {ql qw : Sg} (hl : Ow 156 12 (.slice pl r.l.length cl) r.l.length (r.l.flatMap roCells) ql) (hw : Ow 35 11 (.slice pw r.w.length cw) r.w.length (r.w.flatMap Msg.cl) qw) (hln : r.l.length ≤ 1000) (hwn : r.w.length ≤ 1000) {m : Msg} (hw9 : r.w.length < 1000) (hx : -1 ≤ r.xid ∧ r.xid ≤ 1073741824)  : Does Try.prog 55 [.pointer (some ⟨rx, 0, none⟩), .agg #[.int .i64 m.kind, .int .i64 m.life, .int .i64 m.seen, .int .i64 m.xid, .int .i64 m.state, .int .u32 m.addr, .int .i64 m.bind, .string m.client, .int .i64 m.pot, .int .i64 m.at_, .bool m.ok]] V [[(rx, .cells #[.slice pl r.l.length cl, .slice pw r.w.length cw, .int .i64 r.xid] 63 (0, 0))], ql, qw] (fun v V' H' => V' = V ∧ v = .int .i64 (r.put m).1 ∧ Rb.Is 63 156 35 ((r.put m).2) rx H') := by
 have hcw := hw.cap
 have hcl := hl.cap
 refine Does.intro Try.func55 rfl rfl (le rfl) (fun B => ?_)
 refine Zs<|Zr<|?_
 refine Run.box rfl (lt rfl) (fun b1 => ?_)
 refine Za Z<|Ze<|Zg<|Zs<|Zr<|Zv (Y.fieldAddr Z Rbox_fo35_1)<|Run.store (s := [(b1, .cells #[.int .i64 m.kind, .int .i64 1, .int .i64 m.seen, .int .i64 m.xid, .int .i64 m.state, .int .u32 m.addr, .int .i64 m.bind, .string m.client, .int .i64 m.pot, .int .i64 m.at_, .bool m.ok] 35 (0, 0))]) Z Z Rbox_sz3 (i := 0) Z Z (le Z) Z Z<|Ze<|Zg<|Zs<|Zr<|Zv (Y.fieldAddr Z Rbox_fo35_2)<|Run.store (s := [(b1, .cells #[.int .i64 m.kind, .int .i64 1, .int .i64 0, .int .i64 m.xid, .int .i64 m.state, .int .u32 m.addr, .int .i64 m.bind, .string m.client, .int .i64 m.pot, .int .i64 m.at_, .bool m.ok] 35 (0, 0))]) Z Z Rbox_sz3 (i := 0) Z Z (le Z) Z Z<|?_
 refine Ze<|Zg<|Zs<|Zr<|Zv (Y.fieldAddr Z Rbox_fo35_3)<|Run.store (s := [(b1, .cells #[.int .i64 m.kind, .int .i64 1, .int .i64 0, .int .i64 1, .int .i64 m.state, .int .u32 m.addr, .int .i64 m.bind, .string m.client, .int .i64 m.pot, .int .i64 m.at_, .bool m.ok] 35 (0, 0))]) Z Z Rbox_sz3 (i := 0) Z Z (le Z) Z Z<|Ze<|Zg<|Zs<|Zr<|Zv (Y.loadAgg Z Rbox_ag35 (Kn.at 0 Z) Z)<|Run.call0 (l := [.tmp 11]) Z Z Z (lt Z) (rright_c (m := Ob.ask m))<|?_
 refine Za Z<|Ze<|Zg<|Zs<|Zs<|Zr<|Zm Z<|Zv (Y.not Z)<|Zm Z<|?_
 rcases Zsplit (Msg.right (Ob.ask m)) with ⟨h2, g2⟩ | ⟨h2, g2⟩ <;> try simp only [kb] at g2
 ·refine Zp (congrArg Bool.not h2)<|Zv (Y.fieldAddr Z Rbox_fo35_0)<|Zp (congrArg Bool.not h2)<|Zv (Y.load Z Rbox_ts3 (Kn.at 0 Z) Z)<|Zp (congrArg Bool.not h2)<|Zv (Y.int Z Z Z)<|Zv (Y.pick_f Z (congrArg Bool.not h2) Z)<|Ze<|Zg<|?_
  rcases Zsplit (m.kind != 2) with ⟨h3, g3⟩ | ⟨h3, g3⟩ <;> try simp only [kb] at g3
  ·refine Tr.cond_t Z h3<|Zs<|Zr<|Za Z<|Ze<|Zg<|Zu<|Zn<|Ex.keepTo (H' := [[(rx, .cells #[.slice pl r.l.length cl, .slice pw r.w.length cw, .int .i64 r.xid] 63 (0, 0))], ql, qw]) [1, 1, 1] Z<|?_
   exact Ex.ret1 rfl rfl  ⟨rfl, by rw [Rb.put_form (.inl W)], by rw [Rb.put_form (.inl W)]; exact ⟨_, _, _, _, _, _, rfl, hl, hw⟩⟩
  ·refine Tr.cond_f Z h3<|Zt<|Zg<|Zs<|Zs<|Zr<|Zm Z<|Zv (Y.nilCheck Z)<|Zv (Y.fieldAddr Z Rbox_fo63_2)<|Zv (Y.load Z Rbox_ts3 (Kn.at 1 Z) Z)<|Zv (Y.int Z Z Z)<|Ze<|Zg<|?_
   rcases Zsplit (decide (r.xid ≥ 1073741824)) with ⟨h4, g4⟩ | ⟨h4, g4⟩ <;> try simp only [kb] at g4
   ·refine Tr.cond_t Z h4<|Zs<|Zr<|Za Z<|Ze<|Zg<|Zu<|Zn<|Ex.keepTo (H' := [[(rx, .cells #[.slice pl r.l.length cl, .slice pw r.w.length cw, .int .i64 r.xid] 63 (0, 0))], ql, qw]) [1, 1, 1] Z<|?_
    exact Ex.ret1 rfl rfl  ⟨rfl, by rw [Rb.put_full W h2 W], by rw [Rb.put_full W h2 W]; exact ⟨_, _, _, _, _, _, rfl, hl, hw⟩⟩
   ·refine Tr.cond_f Z h4<|Zt<|Zg<|Zs<|Zr<|Zv (Y.fieldAddr Z Rbox_fo35_1)<|Run.store (s := [(b1, .cells #[.int .i64 m.kind, .int .i64 0, .int .i64 0, .int .i64 1, .int .i64 m.state, .int .u32 m.addr, .int .i64 m.bind, .string m.client, .int .i64 m.pot, .int .i64 m.at_, .bool m.ok] 35 (0, 0))]) Z Z Rbox_sz3 (i := 0) Z Z (le Z) Z Z<|Ze<|Zg<|Zs<|Zr<|Zv (Y.fieldAddr Z Rbox_fo35_3)<|Run.store (s := [(b1, .cells #[.int .i64 m.kind, .int .i64 0, .int .i64 0, .int .i64 0, .int .i64 m.state, .int .u32 m.addr, .int .i64 m.bind, .string m.client, .int .i64 m.pot, .int .i64 m.at_, .bool m.ok] 35 (0, 0))]) Z Z Rbox_sz3 (i := 0) Z Z (le Z) Z Z<|?_
    refine Ze<|Zg<|Zs<|Zr<|Run.nilseg<|Za Z<|Ze<|Zg<|Zs<|Zs<|Zr<|Za Z<|Ze<|Zg<|Zb<|?_
    refine ZL (X := Nat × Option Addr × Nat × Nat × Sg) (fun z0 => V) (fun z0 => [z0.2.2.2.2, [(b1, .cells #[.int .i64 m.kind, .int .i64 0, .int .i64 0, .int .i64 0, .int .i64 m.state, .int .u32 m.addr, .int .i64 m.bind, .string m.client, .int .i64 m.pot, .int .i64 m.at_, .bool m.ok] 35 (0, 0))], [(rx, .cells #[.slice pl r.l.length cl, .slice pw r.w.length cw, .int .i64 r.xid] 63 (0, 0))], ql, qw]) (fun z0 => [(0, .pointer (some ⟨rx, 0, none⟩)), (3, .pointer (some ⟨b1, 0, none⟩)), (6, .slice z0.2.1 z0.2.2.1 z0.2.2.2.1), (7, .int .i64 (z0.1 : Int))]) (fun z0 => Ow 35 11 (.slice z0.2.1 z0.2.2.1 z0.2.2.2.1) z0.2.2.1 ((Rb.rest (r.w.take z0.1) m.addr).flatMap Msg.cl) z0.2.2.2.2 ∧ z0.2.2.1 = (Rb.rest (r.w.take z0.1) m.addr).length ∧ z0.1 ≤ r.w.length) (fun z0 => r.w.length - z0.1) (⟨0, none, 0, 0, []⟩ : Nat × Option Addr × Nat × Nat × Sg) ⟨Ow.nil _ _, rfl, Nat.zero_le _⟩ ?_
    rintro ⟨i1, p1, n1, k1, q1⟩ ⟨how, hn, hi⟩
    try dsimp only at how hn hi ⊢
    have hsl := List.length_filter_le (fun x : Msg => x.addr != m.addr) (r.w.take i1)
    rw [List.length_take] at hsl
    have hcp := how.cap
    rw [show (r.w.take i1).filter (fun x : Msg => x.addr != m.addr) = Rb.rest (r.w.take i1) m.addr from rfl, ← hn] at hsl
    refine Zs<|Zs<|Zr<|Zm Z<|Zm Z<|Zv (Y.nilCheck Z)<|Zv (Y.fieldAddr Z Rbox_fo63_1)<|Zv (Y.load Z Rbox_ts39 (Kn.at 2 Z) Z)<|Zv (Y.lenSl Z Rbox_es39)<|Zv (Y.int Z Z Z)<|Ze<|Zg<|?_
    rcases Zsplit (decide ((i1 : Int) < ((r.w.length : Nat) : Int))) with ⟨h5, g5⟩ | ⟨h5, g5⟩ <;> try simp only [kb] at g5
    ·refine Tr.cond_t Z h5<|Zt<|Zg<|Zs<|Zb<|Zs<|Tr.quiet Rbox_mo WK<|ZM Z<|ZV (Y.nilCheck Z)<|ZV (Y.fieldAddr Z Rbox_fo63_1)<|ZV (Y.load Z Rbox_ts39 (Kn.at 2 Z) Z)<|ZM Z<|ZV (Y.idxR i1 Z Z Rbox_es39 (hw.rd 4 rfl) W W)<|ZV (Y.fieldR Z Rbox_fo35_5 (hw.rd 4 rfl) W)<|ZV (Y.ldR Z Rbox_ts30 (hw.rd 4 rfl) (flatm_at Msg.cl_enc.len W Msg.zero WD rfl))<|ZV (Y.fieldAddr Z Rbox_fo35_5)<|?_
     refine ZV (Y.load Z Rbox_ts30 (Kn.at 1 Z) Z)<|ZV (Y.int Z Z Z)<|ZE<|Zg<|?_
     rcases Zsplit (((r.w.getD i1 Msg.zero).addr) != m.addr) with ⟨h6, g6⟩ | ⟨h6, g6⟩ <;> try simp only [kb] at g6
     ·refine Tr.cond_t Z h6<|Zr<|Zm Z<|Zm Z<|Zv (Y.nilCheck Z)<|Zv (Y.fieldAddr Z Rbox_fo63_1)<|Zv (Y.load Z Rbox_ts39 (Kn.at 2 Z) Z)<|Zm Z<|Zv (Y.idxR i1 Z Z Rbox_es39 (hw.rd 4 rfl) W W)<|Zv (Y.ldRA (vs := [.int .i64 ((r.w.getD i1 Msg.zero).kind), .int .i64 ((r.w.getD i1 Msg.zero).life), .int .i64 ((r.w.getD i1 Msg.zero).seen), .int .i64 ((r.w.getD i1 Msg.zero).xid), .int .i64 ((r.w.getD i1 Msg.zero).state), .int .u32 ((r.w.getD i1 Msg.zero).addr), .int .i64 ((r.w.getD i1 Msg.zero).bind), .string ((r.w.getD i1 Msg.zero).client), .int .i64 ((r.w.getD i1 Msg.zero).pot), .int .i64 ((r.w.getD i1 Msg.zero).at_), .bool ((r.w.getD i1 Msg.zero).ok)]) rfl Rbox_ag35 (hw.rd 4 rfl) rfl WD (fun o ho => flatm_atA Msg.cl_enc.len W Msg.zero o ho))<|?_
      refine Run.buildSlice (l := [(0, .tmp 54)]) (r := [.int .i64 ((r.w.getD i1 Msg.zero).kind), .int .i64 ((r.w.getD i1 Msg.zero).life), .int .i64 ((r.w.getD i1 Msg.zero).seen), .int .i64 ((r.w.getD i1 Msg.zero).xid), .int .i64 ((r.w.getD i1 Msg.zero).state), .int .u32 ((r.w.getD i1 Msg.zero).addr), .int .i64 ((r.w.getD i1 Msg.zero).bind), .string ((r.w.getD i1 Msg.zero).client), .int .i64 ((r.w.getD i1 Msg.zero).pot), .int .i64 ((r.w.getD i1 Msg.zero).at_), .bool ((r.w.getD i1 Msg.zero).ok)]) Rbox_es39 Rbox_zo35 rfl WD rfl rfl WD (lt rfl) (fun b7 => ?_)
      refine Run.append (n := n1) (m := 1) (xs := (Rb.rest (r.w.take i1) m.addr).flatMap Msg.cl) (ys := [.int .i64 ((r.w.getD i1 Msg.zero).kind), .int .i64 ((r.w.getD i1 Msg.zero).life), .int .i64 ((r.w.getD i1 Msg.zero).seen), .int .i64 ((r.w.getD i1 Msg.zero).xid), .int .i64 ((r.w.getD i1 Msg.zero).state), .int .u32 ((r.w.getD i1 Msg.zero).addr), .int .i64 ((r.w.getD i1 Msg.zero).bind), .string ((r.w.getD i1 Msg.zero).client), .int .i64 ((r.w.getD i1 Msg.zero).pot), .int .i64 ((r.w.getD i1 Msg.zero).at_), .bool ((r.w.getD i1 Msg.zero).ok)]) rfl rfl Rbox_es39 Rbox_zi35 WD (j := 1) rfl how (Src.of_rd Rbox_es39 (Rd.one (Kn.at 0 rfl) rfl)) W W rfl (lt rfl) (fun v8 s9 ho10 hf => ?_)
      obtain ⟨p8, c8, rfl⟩ := hf
      replace ho10 := Ow.app1 (f := Msg.cl) (l := Rb.rest (r.w.take i1) m.addr) (x := (r.w.getD i1 Msg.zero)) ho10
      refine Za Z<|Ze<|Zc<|Zg<|Zr<|Zm Z<|Zv (Y.add Z Z W)<|Za Z<|Ze<|Ex.keep [1, 1, 1, 1, 1]<|?_
      have er := Rb.rest_take (w := r.w) (a := m.addr) (i := i1) W
      rw [if_pos (by assumption)] at er
      exact ZR (⟨i1 + 1, p8, (n1 + 1), c8, s9⟩ : Nat × Option Addr × Nat × Nat × Sg) ⟨by rw [er]; exact ho10, by rw [er]; rw [List.length_append, List.length_singleton]; dsimp only; omega, by omega⟩ (by dsimp only; omega)
     ·refine Tr.cond_f Z h6<|Zt<|Zc<|Zg<|Zr<|Zm Z<|Zv (Y.add Z Z W)<|Za Z<|Ze<|Ex.keep [0, 0, 0, 0, 0]<|?_
      have er := Rb.rest_take (w := r.w) (a := m.addr) (i := i1) W
      rw [if_neg (by simp only [Bool.not_eq_true]; assumption), List.append_nil] at er
      exact ZR (⟨i1 + 1, p1, n1, k1, q1⟩ : Nat × Option Addr × Nat × Nat × Sg) ⟨by rw [er]; exact how, by rw [er]; exact hn, by omega⟩ (by dsimp only; omega)
    ·refine Tr.cond_f Z h5<|Zx<|Zy<|Zy<|Zi<|Zg<|Zs<|Zr<|?_
     obtain rfl : i1 = r.w.length := by omega
     rw [List.take_length] at how hn
     subst hn
     refine Zm Z<|Zm Z<|Zv (Y.loadAgg Z Rbox_ag35 (Kn.at 1 Z) Z)<|?_
     refine Run.buildSlice (l := [(0, .tmp 59)]) (r := [.int .i64 m.kind, .int .i64 0, .int .i64 0, .int .i64 0, .int .i64 m.state, .int .u32 m.addr, .int .i64 m.bind, .string m.client, .int .i64 m.pot, .int .i64 m.at_, .bool m.ok]) Rbox_es39 Rbox_zo35 rfl WD rfl rfl WD (lt rfl) (fun b11 => ?_)
     refine Run.append (n := (Rb.rest r.w m.addr).length) (m := 1) (xs := (Rb.rest r.w m.addr).flatMap Msg.cl) (ys := [.int .i64 m.kind, .int .i64 0, .int .i64 0, .int .i64 0, .int .i64 m.state, .int .u32 m.addr, .int .i64 m.bind, .string m.client, .int .i64 m.pot, .int .i64 m.at_, .bool m.ok]) rfl rfl Rbox_es39 Rbox_zi35 WD (j := 1) rfl how (Src.of_rd Rbox_es39 (Rd.one (Kn.at 0 rfl) rfl)) W W rfl (lt rfl) (fun v12 s13 ho14 hf => ?_)
     obtain ⟨p12, c12, rfl⟩ := hf
     replace ho14 := Ow.app1 (f := Msg.cl) (l := Rb.rest r.w m.addr) (x := (⟨m.kind, 0, 0, 0, m.state, m.addr, m.bind, m.client, m.pot, m.at_, m.ok⟩ : Msg)) ho14
     refine Zv (Y.nilCheck Z)<|Zv (Y.fieldAddr Z Rbox_fo63_1)<|Run.store (s := [(rx, .cells #[.slice pl r.l.length cl, .slice p12 ((Rb.rest r.w m.addr).length + 1) c12, .int .i64 r.xid] 63 (0, 0))]) Z Z Rbox_sz39 (i := 3) Z Z (le Z) Z Z<|Ze<|Zg<|Zs<|Zr<|Run.heapTo (H' := [[(b11, .cells #[.int .i64 m.kind, .int .i64 0, .int .i64 0, .int .i64 0, .int .i64 m.state, .int .u32 m.addr, .int .i64 m.bind, .string m.client, .int .i64 m.pot, .int .i64 m.at_, .bool m.ok] 35 (0, 0))], s13, [(b1, .cells #[.int .i64 m.kind, .int .i64 0, .int .i64 0, .int .i64 0, .int .i64 m.state, .int .u32 m.addr, .int .i64 m.bind, .string m.client, .int .i64 m.pot, .int .i64 m.at_, .bool m.ok] 35 (0, 0))], [(rx, .cells #[.slice pl r.l.length cl, .slice p12 ((Rb.rest r.w m.addr).length + 1) c12, .int .i64 r.xid] 63 (0, 0))], ql, qw]) Z<|?_
     have hc15 : ((Rb.rest r.w m.addr) ++ [(⟨m.kind, 0, 0, 0, m.state, m.addr, m.bind, m.client, m.pot, m.at_, m.ok⟩ : Msg)]) = Rb.rest r.w m.addr ++ [Ob.kept m] := by first | rfl | (simp only [show ((i1 : Int) + 1).toNat = i1 + 1 from by omega]; simp [List.take_of_length_le]) | simp
     have hc15n : ((Rb.rest r.w m.addr).length + 1) = (Rb.rest r.w m.addr ++ [Ob.kept m]).length := by rw [← hc15]; first | rfl | (simp only [List.length_append, List.length_take, List.length_drop, List.length_nil, List.length_singleton] <;> omega)
     have h16 := ho14
     rw [hc15] at h16
     rw [hc15n] at h16
     refine Run.heapTo (H' := [[(b11, .cells #[.int .i64 m.kind, .int .i64 0, .int .i64 0, .int .i64 0, .int .i64 m.state, .int .u32 m.addr, .int .i64 m.bind, .string m.client, .int .i64 m.pot, .int .i64 m.at_, .bool m.ok] 35 (0, 0))], s13, [(b1, .cells #[.int .i64 m.kind, .int .i64 0, .int .i64 0, .int .i64 0, .int .i64 m.state, .int .u32 m.addr, .int .i64 m.bind, .string m.client, .int .i64 m.pot, .int .i64 m.at_, .bool m.ok] 35 (0, 0))], [(rx, .cells #[.slice pl r.l.length cl, .slice p12 (Rb.rest r.w m.addr ++ [Ob.kept m]).length c12, .int .i64 r.xid] 63 (0, 0))], ql, qw]) (by rw [hc15n]) ?_
     refine Zm Z<|Zv (Y.fieldAddr Z Rbox_fo35_5)<|Zv (Y.load Z Rbox_ts30 (Kn.at 2 Z) Z)<|?_
     refine Run.call [3, 3, 1] (l := [.tmp 64, .tmp 66]) rfl rfl rfl (lt rfl) (rgoes_c (r := (⟨r.l, Rb.rest r.w m.addr ++ [Ob.kept m], r.xid⟩ : Rb)) (a := m.addr) hl h16 hln (by have := List.length_filter_le (fun x => x.addr != m.addr) r.w; show (Rb.rest r.w m.addr ++ [Ob.kept m]).length ≤ 1000; rw [List.length_append, List.length_singleton]; unfold Rb.rest; omega) hx) (fun v9 V9 H9 hle9 hR => ?_)
     obtain ⟨hV, pl9, cl9, pw9, cw9, ql9, qw9, rfl, hl9, hw9⟩ := hR; replace hV := hV.symm; subst hV
     refine Run.heapTo (H' := [[(b11, .cells #[.int .i64 m.kind, .int .i64 0, .int .i64 0, .int .i64 0, .int .i64 m.state, .int .u32 m.addr, .int .i64 m.bind, .string m.client, .int .i64 m.pot, .int .i64 m.at_, .bool m.ok] 35 (0, 0))], [(b1, .cells #[.int .i64 m.kind, .int .i64 0, .int .i64 0, .int .i64 0, .int .i64 m.state, .int .u32 m.addr, .int .i64 m.bind, .string m.client, .int .i64 m.pot, .int .i64 m.at_, .bool m.ok] 35 (0, 0))], qw, [(rx, .cells #[.slice pl9 (Rb.goes (⟨r.l, Rb.rest r.w m.addr ++ [Ob.kept m], r.xid⟩ : Rb) m.addr).l.length cl9, .slice pw9 (Rb.goes (⟨r.l, Rb.rest r.w m.addr ++ [Ob.kept m], r.xid⟩ : Rb) m.addr).w.length cw9, .int .i64 ((Rb.goes (⟨r.l, Rb.rest r.w m.addr ++ [Ob.kept m], r.xid⟩ : Rb) m.addr).xid)] 63 (0, 0))], ql9, qw9]) Z ?_
     refine Run.heapTo (H' := [[(b11, .cells #[.int .i64 m.kind, .int .i64 0, .int .i64 0, .int .i64 0, .int .i64 m.state, .int .u32 m.addr, .int .i64 m.bind, .string m.client, .int .i64 m.pot, .int .i64 m.at_, .bool m.ok] 35 (0, 0))], [(b1, .cells #[.int .i64 m.kind, .int .i64 0, .int .i64 0, .int .i64 0, .int .i64 m.state, .int .u32 m.addr, .int .i64 m.bind, .string m.client, .int .i64 m.pot, .int .i64 m.at_, .bool m.ok] 35 (0, 0))], qw, [(rx, .cells #[.slice pl9 (Rb.goes (⟨r.l, Rb.rest r.w m.addr ++ [Ob.kept m], r.xid⟩ : Rb) m.addr).l.length cl9, .slice pw9 (Rb.goes (⟨r.l, Rb.rest r.w m.addr ++ [Ob.kept m], r.xid⟩ : Rb) m.addr).w.length cw9, .int .i64 ((Rb.goes (⟨r.l, Rb.rest r.w m.addr ++ [Ob.kept m], r.xid⟩ : Rb) m.addr).xid)] 63 (0, 0))], ql9, qw9]) Z ?_
     refine Ze<|Zg<|Zs<|Zr<|Za Z<|Ze<|Zg<|Zu<|Ex.keepTo (H' := [[(rx, .cells #[.slice pl9 (Rb.goes (⟨r.l, Rb.rest r.w m.addr ++ [Ob.kept m], r.xid⟩ : Rb) m.addr).l.length cl9, .slice pw9 (Rb.goes (⟨r.l, Rb.rest r.w m.addr ++ [Ob.kept m], r.xid⟩ : Rb) m.addr).w.length cw9, .int .i64 ((Rb.goes (⟨r.l, Rb.rest r.w m.addr ++ [Ob.kept m], r.xid⟩ : Rb) m.addr).xid)] 63 (0, 0))], ql9, qw9]) [3, 3, 3] Z<|?_
     exact Ex.ret1 rfl rfl  ⟨rfl, by rw [Rb.put_ok W h2 W], by rw [Rb.put_ok W h2 W]; exact ⟨_, _, _, _, _, _, rfl, hl9, hw9⟩⟩
 ·refine Zo (congrArg Bool.not h2) Z<|Zo (congrArg Bool.not h2) Z<|Zo (congrArg Bool.not h2) Z<|Zv (Y.pick_t Z (congrArg Bool.not h2) Z)<|Ze<|Zg<|Tr.cond_t Z Z<|Zs<|Zr<|Za Z<|Ze<|Zg<|Zu<|Zn<|Ex.keepTo (H' := [[(rx, .cells #[.slice pl r.l.length cl, .slice pw r.w.length cw, .int .i64 r.xid] 63 (0, 0))], ql, qw]) [1, 1, 1] Z<|?_
  exact Ex.ret1 rfl rfl  ⟨rfl, by rw [Rb.put_form (.inr h2)], by rw [Rb.put_form (.inr h2)]; exact ⟨_, _, _, _, _, _, rfl, hl, hw⟩⟩

set_option maxHeartbeats 1000000 in
theorem racked_c {V : Vw} {r : Rb} {rx : Nat} {pl pw : Option Addr} {cl cw : Nat} {ql qw : Sg} (hl : Ow 156 12 (.slice pl r.l.length cl) r.l.length (r.l.flatMap roCells) ql) (hw : Ow 35 11 (.slice pw r.w.length cw) r.w.length (r.w.flatMap Msg.cl) qw) (hln : r.l.length ≤ 1000) (hwn : r.w.length ≤ 1000) {k : Int} (hx : -1 ≤ r.xid ∧ r.xid ≤ 1073741824)  : Does Try.prog 56 [.pointer (some ⟨rx, 0, none⟩), .int .i64 k] V [[(rx, .cells #[.slice pl r.l.length cl, .slice pw r.w.length cw, .int .i64 r.xid] 63 (0, 0))], ql, qw] (fun v V' H' => V' = V ∧ v = .tuple #[.agg (r.acked k).1.cells, .bool (r.acked k).2.1] ∧ Rb.Is 63 156 35 ((r.acked k).2.2) rx H') := by
 have hcw := hw.cap
 have hcl := hl.cap
 refine Does.intro Try.func56 rfl rfl (le rfl) (fun B => ?_)
 refine Zs<|Zr<|?_
 refine Run.alloc Rbox_zo35 (lt rfl) (fun b1 => ?_)
 refine Za Z<|Ze<|Zg<|Zs<|Zs<|Zr<|Za Z<|Ze<|Zg<|Zb<|?_
 refine ZL (X := Nat) (fun z0 => V) (fun z0 => [[(b1, .cells #[.int .i64 0, .int .i64 0, .int .i64 0, .int .i64 0, .int .i64 0, .int .u32 0, .int .i64 0, .string ⟨#[]⟩, .int .i64 0, .int .i64 0, .bool false] 35 (0, 0))], [(rx, .cells #[.slice pl r.l.length cl, .slice pw r.w.length cw, .int .i64 r.xid] 63 (0, 0))], ql, qw]) (fun z0 => [(0, .pointer (some ⟨rx, 0, none⟩)), (1, .int .i64 k), (4, .pointer (some ⟨b1, 0, none⟩)), (6, .int .i64 (z0 : Int))]) (fun z0 => z0 ≤ r.l.length ∧ ∀ j, j < z0 → (r.l.getD j rod).1.xid ≠ k) (fun z0 => r.l.length - z0) (0 : Nat) ⟨Nat.zero_le _, fun j hj => absurd hj (Nat.not_lt_zero j)⟩ ?_
 rintro i1 ⟨hi, hno⟩
 refine Zs<|Zs<|Zr<|Zm Z<|Zm Z<|Zv (Y.nilCheck Z)<|Zv (Y.fieldAddr Z Rbox_fo63_0)<|Zv (Y.load Z Rbox_ts61 (Kn.at 1 Z) Z)<|Zv (Y.lenSl Z Rbox_es61)<|Zv (Y.int Z Z Z)<|Ze<|Zg<|?_
 rcases Zsplit (decide ((i1 : Int) < ((r.l.length : Nat) : Int))) with ⟨h2, g2⟩ | ⟨h2, g2⟩ <;> try simp only [kb] at g2
 ·refine Tr.cond_t Z h2<|Zt<|Zg<|Zs<|Zb<|Zs<|Zr<|Zm Z<|Zv (Y.nilCheck Z)<|Zv (Y.fieldAddr Z Rbox_fo63_0)<|Zv (Y.load Z Rbox_ts61 (Kn.at 1 Z) Z)<|Zm Z<|Zv (Y.idxR i1 Z Z Rbox_es61 (hl.rd 2 rfl) W W)<|Zv (Y.fieldR Z Rbox_fo156_0 (hl.rd 2 rfl) W)<|Zv (Y.fieldR Z Rbox_fo35_3 (hl.rd 2 rfl) W)<|Zv (Y.ldR Z Rbox_ts3 (hl.rd 2 rfl) (flatm_at ro_enc.len W rod WD rfl))<|?_
  refine Zm Z<|Zv (Y.int Z Z Z)<|Ze<|Zg<|?_
  rcases Zsplit (((r.l.getD i1 rod).1.xid) == k) with ⟨h3, g3⟩ | ⟨h3, g3⟩ <;> try simp only [kb] at g3
  ·refine Tr.cond_t Z h3<|Zs<|Zr<|Zm Z<|Zv (Y.nilCheck Z)<|Zv (Y.fieldAddr Z Rbox_fo63_0)<|Zv (Y.load Z Rbox_ts61 (Kn.at 1 Z) Z)<|Zm Z<|Zv (Y.idxR i1 Z Z Rbox_es61 (hl.rd 2 rfl) W W)<|Zv (Y.fieldR Z Rbox_fo156_0 (hl.rd 2 rfl) W)<|Zv (Y.ldRA (vs := [.int .i64 ((r.l.getD i1 rod).1.kind), .int .i64 ((r.l.getD i1 rod).1.life), .int .i64 ((r.l.getD i1 rod).1.seen), .int .i64 ((r.l.getD i1 rod).1.xid), .int .i64 ((r.l.getD i1 rod).1.state), .int .u32 ((r.l.getD i1 rod).1.addr), .int .i64 ((r.l.getD i1 rod).1.bind), .string ((r.l.getD i1 rod).1.client), .int .i64 ((r.l.getD i1 rod).1.pot), .int .i64 ((r.l.getD i1 rod).1.at_), .bool ((r.l.getD i1 rod).1.ok)]) rfl Rbox_ag35 (hl.rd 2 rfl) rfl WD (flatm_atP ro_enc.len W rod 0 11 WD rfl))<|?_
   refine Run.alloc Rbox_zo35 (lt rfl) (fun b4 => ?_)
   refine Run.store (s := [(b4, .cells #[.int .i64 ((r.l.getD i1 rod).1.kind), .int .i64 ((r.l.getD i1 rod).1.life), .int .i64 ((r.l.getD i1 rod).1.seen), .int .i64 ((r.l.getD i1 rod).1.xid), .int .i64 ((r.l.getD i1 rod).1.state), .int .u32 ((r.l.getD i1 rod).1.addr), .int .i64 ((r.l.getD i1 rod).1.bind), .string ((r.l.getD i1 rod).1.client), .int .i64 ((r.l.getD i1 rod).1.pot), .int .i64 ((r.l.getD i1 rod).1.at_), .bool ((r.l.getD i1 rod).1.ok)] 35 (0, 0))]) Z Z Rbox_sz35 (i := 0) Z Z (le Z) Z Z ?_
   refine Ze<|Zg<|Zs<|Tr.anyL [(rx, .cells #[.slice pl r.l.length cl, .slice pw r.w.length cw, .int .i64 r.xid] 63 (0, 0))] 19 Rbox_mo<|RunL.pure (i := 0) rfl WK WK WK WK (fun _ _ _ h => h) (lt rfl) (ZK 2 Z) (fun _ => (Y.move rfl))<|RunL.pure (i := 2) rfl WK WK WK WK (fun _ _ _ h => h) (lt rfl) (ZK 2 Z) (fun _ => (Y.move rfl))<|?_
   refine RunL.pure (i := 3) rfl WK WK WK WK (fun _ _ _ h => h) (lt rfl) (ZK 2 Z) (fun _ => (Y.nilCheck rfl))<|RunL.pure (i := 4) rfl WK WK WK WK (fun _ _ _ h => h) (lt rfl) (ZK 2 Z) (fun _ => (Y.fieldAddr rfl Rbox_fo63_0))<|RunL.take (i := 5) 0 rfl rfl WK WK WK WK (fun _ _ _ h => h) (lt rfl) (ZK 2 Z) (fun _ => (Y.load rfl Rbox_ts61 Kn.vk1 rfl))<|?_
   refine RunL.pure (i := 6) rfl WK WK WK WK (fun _ _ _ h => h) (lt rfl) (ZK 2 Z) (fun _ => (Y.move rfl))<|RunL.pure (i := 7) rfl WK WK WK WK (fun _ _ _ h => h) (lt rfl) (ZK 2 Z) (fun _ => (Y.slice (l := 0) (m := i1) rfl Rbox_es61 rfl rfl W W))<|RunL.pure (i := 9) rfl WK WK WK WK (fun _ _ _ h => h) (lt rfl) (ZK 2 Z) (fun _ => (Y.move rfl))<|?_
   refine RunL.pure (i := 10) rfl WK WK WK WK (fun _ _ _ h => h) (lt rfl) (ZK 2 Z) (fun _ => (Y.nilCheck rfl))<|RunL.pure (i := 11) rfl WK WK WK WK (fun _ _ _ h => h) (lt rfl) (ZK 2 Z) (fun _ => (Y.fieldAddr rfl Rbox_fo63_0))<|RunL.take (i := 12) 0 rfl rfl WK WK WK WK (fun _ _ _ h => h) (lt rfl) (ZK 2 Z) (fun _ => (Y.load rfl Rbox_ts61 Kn.vk1 rfl))<|?_
   refine RunL.pure (i := 13) rfl WK WK WK WK (fun _ _ _ h => h) (lt rfl) (ZK 2 Z) (fun _ => (Y.move rfl))<|RunL.pure (i := 14) rfl WK WK WK WK (fun _ _ _ h => h) (lt rfl) (ZK 2 Z) (fun _ => (Y.add rfl rfl W))<|RunL.pure (i := 15) rfl WK WK WK WK (fun _ _ _ h => h) (lt rfl) (ZK 2 Z) (fun _ => (Y.slice (l := ((i1 : Int) + 1).toNat) (m := r.l.length) rfl Rbox_es61 rfl rfl W W))<|?_
   refine RunL.one (i := 1) WK rfl  ?_ 
   refine Run.buildSlice0 Rbox_es61 (lt rfl) (fun b5 => ?_)
   refine Ze<|Ex.anyL (ZK 3 Z)<|?_
   refine RunL.one (i := 8) WK rfl  ?_ 
   refine Run.append (n := 0) (m := (i1 - 0)) (xs := []) (ys := ((r.l.drop 0).take (i1 - 0)).flatMap roCells) rfl rfl Rbox_es61 Rbox_zi156 WD (j := 0) rfl (Ow.lit (cur := #[]) rfl WD) (Src.of_rd Rbox_es61 (Rd.cut ro_enc.len (hl.rd 4 rfl) 0 i1 W W)) W W (all_one_flat ro_enc _) (lt rfl) (fun v6 s7 ho8 hf => ?_)
   obtain ⟨p6, c6, rfl⟩ := hf
   replace ho8 := Ow.app (f := roCells) (l := []) (m := (r.l.drop 0).take (i1 - 0)) ho8
   refine Ze<|Ex.anyL (ZK 3 Z)<|?_
   refine RunL.one (i := 16) WK rfl  ?_ 
   refine Run.append (n := 0 + (i1 - 0)) (m := (r.l.length - (((i1 : Int) + 1).toNat))) (xs := ([] ++ ((r.l.drop 0).take (i1 - 0))).flatMap roCells) (ys := ((r.l.drop (((i1 : Int) + 1).toNat)).take (r.l.length - (((i1 : Int) + 1).toNat))).flatMap roCells) rfl rfl Rbox_es61 Rbox_zi156 WD (j := 0) rfl ho8 (Src.of_rd Rbox_es61 (Rd.cut ro_enc.len (hl.rd 4 rfl) (((i1 : Int) + 1).toNat) r.l.length W W)) W W (all_one_flat ro_enc _) (lt rfl) (fun v9 s10 ho11 hf => ?_)
   obtain ⟨p9, c9, rfl⟩ := hf
   replace ho11 := Ow.app (f := roCells) (l := [] ++ ((r.l.drop 0).take (i1 - 0))) (m := (r.l.drop (((i1 : Int) + 1).toNat)).take (r.l.length - (((i1 : Int) + 1).toNat))) ho11
   refine Ze<|Ex.anyL (ZK 3 Z)<|?_
   refine RunL.one (i := 17) WK rfl  ?_ 
   refine Zv (Y.nilCheck Z)<|Ze<|Ex.anyL (ZK 3 Z)<|RunL.pure (i := 18) rfl WK WK WK WK (fun _ _ _ h => h) (lt rfl) (ZK 3 Z) (fun _ => (Y.fieldAddr rfl Rbox_fo63_0))<|?_
   refine RunL.one (i := 19) WK rfl  ?_ 
   refine Run.store (s := [(rx, .cells #[.slice p9 (0 + (i1 - 0) + (r.l.length - (((i1 : Int) + 1).toNat))) c9, .slice pw r.w.length cw, .int .i64 r.xid] 63 (0, 0))]) Z Z Rbox_sz61 (i := 3) Z Z (le Z) Z Z<|Ze<|Ex.anyLz Z<|RunL.done WK<|Zg<|Zs<|Zr<|Run.heapTo (H' := [s10, [(b4, .cells #[.int .i64 ((r.l.getD i1 rod).1.kind), .int .i64 ((r.l.getD i1 rod).1.life), .int .i64 ((r.l.getD i1 rod).1.seen), .int .i64 ((r.l.getD i1 rod).1.xid), .int .i64 ((r.l.getD i1 rod).1.state), .int .u32 ((r.l.getD i1 rod).1.addr), .int .i64 ((r.l.getD i1 rod).1.bind), .string ((r.l.getD i1 rod).1.client), .int .i64 ((r.l.getD i1 rod).1.pot), .int .i64 ((r.l.getD i1 rod).1.at_), .bool ((r.l.getD i1 rod).1.ok)] 35 (0, 0))], [(b1, .cells #[.int .i64 0, .int .i64 0, .int .i64 0, .int .i64 0, .int .i64 0, .int .u32 0, .int .i64 0, .string ⟨#[]⟩, .int .i64 0, .int .i64 0, .bool false] 35 (0, 0))], [(rx, .cells #[.slice p9 (0 + (i1 - 0) + (r.l.length - (((i1 : Int) + 1).toNat))) c9, .slice pw r.w.length cw, .int .i64 r.xid] 63 (0, 0))], ql, qw]) Z<|?_
   have hc12 : (([] ++ ((r.l.drop 0).take (i1 - 0))) ++ ((r.l.drop (((i1 : Int) + 1).toNat)).take (r.l.length - (((i1 : Int) + 1).toNat)))) = r.l.take i1 ++ r.l.drop (i1 + 1) := by first | rfl | (simp only [show ((i1 : Int) + 1).toNat = i1 + 1 from by omega]; simp [List.take_of_length_le]) | simp
   have hc12n : (0 + (i1 - 0) + (r.l.length - (((i1 : Int) + 1).toNat))) = (r.l.take i1 ++ r.l.drop (i1 + 1)).length := by rw [← hc12]; first | rfl | (simp only [List.length_append, List.length_take, List.length_drop, List.length_nil, List.length_singleton] <;> omega)
   have h13 := ho11
   rw [hc12] at h13
   rw [hc12n] at h13
   refine Run.heapTo (H' := [s10, [(b4, .cells #[.int .i64 ((r.l.getD i1 rod).1.kind), .int .i64 ((r.l.getD i1 rod).1.life), .int .i64 ((r.l.getD i1 rod).1.seen), .int .i64 ((r.l.getD i1 rod).1.xid), .int .i64 ((r.l.getD i1 rod).1.state), .int .u32 ((r.l.getD i1 rod).1.addr), .int .i64 ((r.l.getD i1 rod).1.bind), .string ((r.l.getD i1 rod).1.client), .int .i64 ((r.l.getD i1 rod).1.pot), .int .i64 ((r.l.getD i1 rod).1.at_), .bool ((r.l.getD i1 rod).1.ok)] 35 (0, 0))], [(b1, .cells #[.int .i64 0, .int .i64 0, .int .i64 0, .int .i64 0, .int .i64 0, .int .u32 0, .int .i64 0, .string ⟨#[]⟩, .int .i64 0, .int .i64 0, .bool false] 35 (0, 0))], [(rx, .cells #[.slice p9 (r.l.take i1 ++ r.l.drop (i1 + 1)).length c9, .slice pw r.w.length cw, .int .i64 r.xid] 63 (0, 0))], ql, qw]) (by rw [hc12n]) ?_
   refine Zm Z<|Zv (Y.fieldAddr Z Rbox_fo35_5)<|Zv (Y.load Z Rbox_ts30 (Kn.at 1 Z) Z)<|?_
   refine Run.call [3, 0, 3] (l := [.tmp 55, .tmp 57]) rfl rfl rfl (lt rfl) (rgoes_c (r := (⟨r.l.take i1 ++ r.l.drop (i1 + 1), r.w, r.xid⟩ : Rb)) (a := (r.l.getD i1 rod).1.addr) h13 hw (by show (r.l.take i1 ++ r.l.drop (i1 + 1)).length ≤ 1000; rw [List.length_append, List.length_take, List.length_drop]; omega) hwn hx) (fun v9 V9 H9 hle9 hR => ?_)
   obtain ⟨hV, pl9, cl9, pw9, cw9, ql9, qw9, rfl, hl9, hw9⟩ := hR; replace hV := hV.symm; subst hV
   refine Run.heapTo (H' := [[(b4, .cells #[.int .i64 ((r.l.getD i1 rod).1.kind), .int .i64 ((r.l.getD i1 rod).1.life), .int .i64 ((r.l.getD i1 rod).1.seen), .int .i64 ((r.l.getD i1 rod).1.xid), .int .i64 ((r.l.getD i1 rod).1.state), .int .u32 ((r.l.getD i1 rod).1.addr), .int .i64 ((r.l.getD i1 rod).1.bind), .string ((r.l.getD i1 rod).1.client), .int .i64 ((r.l.getD i1 rod).1.pot), .int .i64 ((r.l.getD i1 rod).1.at_), .bool ((r.l.getD i1 rod).1.ok)] 35 (0, 0))], [(b1, .cells #[.int .i64 0, .int .i64 0, .int .i64 0, .int .i64 0, .int .i64 0, .int .u32 0, .int .i64 0, .string ⟨#[]⟩, .int .i64 0, .int .i64 0, .bool false] 35 (0, 0))], ql, [(rx, .cells #[.slice pl9 (Rb.goes (⟨r.l.take i1 ++ r.l.drop (i1 + 1), r.w, r.xid⟩ : Rb) ((r.l.getD i1 rod).1.addr)).l.length cl9, .slice pw9 (Rb.goes (⟨r.l.take i1 ++ r.l.drop (i1 + 1), r.w, r.xid⟩ : Rb) ((r.l.getD i1 rod).1.addr)).w.length cw9, .int .i64 ((Rb.goes (⟨r.l.take i1 ++ r.l.drop (i1 + 1), r.w, r.xid⟩ : Rb) ((r.l.getD i1 rod).1.addr)).xid)] 63 (0, 0))], ql9, qw9]) Z ?_
   refine Run.heapTo (H' := [[(b4, .cells #[.int .i64 ((r.l.getD i1 rod).1.kind), .int .i64 ((r.l.getD i1 rod).1.life), .int .i64 ((r.l.getD i1 rod).1.seen), .int .i64 ((r.l.getD i1 rod).1.xid), .int .i64 ((r.l.getD i1 rod).1.state), .int .u32 ((r.l.getD i1 rod).1.addr), .int .i64 ((r.l.getD i1 rod).1.bind), .string ((r.l.getD i1 rod).1.client), .int .i64 ((r.l.getD i1 rod).1.pot), .int .i64 ((r.l.getD i1 rod).1.at_), .bool ((r.l.getD i1 rod).1.ok)] 35 (0, 0))], [(b1, .cells #[.int .i64 0, .int .i64 0, .int .i64 0, .int .i64 0, .int .i64 0, .int .u32 0, .int .i64 0, .string ⟨#[]⟩, .int .i64 0, .int .i64 0, .bool false] 35 (0, 0))], ql, [(rx, .cells #[.slice pl9 (Rb.goes (⟨r.l.take i1 ++ r.l.drop (i1 + 1), r.w, r.xid⟩ : Rb) ((r.l.getD i1 rod).1.addr)).l.length cl9, .slice pw9 (Rb.goes (⟨r.l.take i1 ++ r.l.drop (i1 + 1), r.w, r.xid⟩ : Rb) ((r.l.getD i1 rod).1.addr)).w.length cw9, .int .i64 ((Rb.goes (⟨r.l.take i1 ++ r.l.drop (i1 + 1), r.w, r.xid⟩ : Rb) ((r.l.getD i1 rod).1.addr)).xid)] 63 (0, 0))], ql9, qw9]) Z ?_
   refine Ze<|Zg<|Zs<|Zr<|Zv (Y.loadAgg Z Rbox_ag35 (Kn.at 0 Z) Z)<|Run.store (s := [(b1, .cells #[.int .i64 ((r.l.getD i1 rod).1.kind), .int .i64 ((r.l.getD i1 rod).1.life), .int .i64 ((r.l.getD i1 rod).1.seen), .int .i64 ((r.l.getD i1 rod).1.xid), .int .i64 ((r.l.getD i1 rod).1.state), .int .u32 ((r.l.getD i1 rod).1.addr), .int .i64 ((r.l.getD i1 rod).1.bind), .string ((r.l.getD i1 rod).1.client), .int .i64 ((r.l.getD i1 rod).1.pot), .int .i64 ((r.l.getD i1 rod).1.at_), .bool ((r.l.getD i1 rod).1.ok)] 35 (0, 0))]) Z Z Rbox_sz35 (i := 1) Z Z (le Z) Z Z<|?_
   refine Za Z<|Ze<|Zg<|Zu<|Zk<|Zn<|Zn<|Zk<|Zn<|?_
   have hg := Rb.acked_at (r := r) (k := k) (i := i1) hno W W
   exact Ex.retCell2 [3, 3, 3] rfl rfl rfl Rbox_ag35 (Kn.at 1 rfl) rfl ⟨rfl, by rw [hg]; rfl, by rw [hg]; exact ⟨_, _, _, _, _, _, rfl, hl9, hw9⟩⟩
  ·refine Tr.cond_f Z h3<|Zt<|Zc<|Zg<|Zr<|Zm Z<|Zv (Y.add Z Z W)<|Za Z<|Ze<|Ex.keep [0, 0, 0, 0]<|?_
   exact ZR (i1 + 1 : Nat) ⟨by omega, upto_succ hno W⟩ W
 ·refine Tr.cond_f Z h2<|Zx<|Zy<|Zy<|Zi<|Zg<|Zs<|Zr<|Zv (Y.buildS (l := []) Rbox_zo35 Rbox_pl35 Z Z)<|Run.store (s := [(b1, .cells #[.int .i64 0, .int .i64 0, .int .i64 0, .int .i64 0, .int .i64 0, .int .u32 0, .int .i64 0, .string ⟨#[]⟩, .int .i64 0, .int .i64 0, .bool false] 35 (0, 0))]) Z Z Rbox_sz35 (i := 0) Z Z (le Z) Z Z<|Za Z<|Ze<|Zg<|Zu<|?_
  have hg := Rb.acked_no (r := r) (k := k) fun j hj => hno j W
  exact Ex.retCell2 [1, 1, 1] rfl rfl rfl Rbox_ag35 (Kn.at 0 rfl) rfl ⟨rfl, by rw [hg]; rfl, by rw [hg]; exact ⟨_, _, _, _, _, _, rfl, hl, hw⟩⟩

set_option maxHeartbeats 1000000 in
theorem rtick_c {V : Vw} {r : Rb} {rx : Nat} {pl pw : Option Addr} {cl cw : Nat} {ql qw : Sg} (hl : Ow 156 12 (.slice pl r.l.length cl) r.l.length (r.l.flatMap roCells) ql) (hw : Ow 35 11 (.slice pw r.w.length cw) r.w.length (r.w.flatMap Msg.cl) qw) (hln : r.l.length ≤ 1000) (hwn : r.w.length ≤ 1000) {now : Int} (hsn : ∀ x, x ∈ r.l → -1 ≤ x.2 ∧ x.2 ≤ 1099511627776)  : Does Try.prog 57 [.pointer (some ⟨rx, 0, none⟩), .int .i64 now] V [[(rx, .cells #[.slice pl r.l.length cl, .slice pw r.w.length cw, .int .i64 r.xid] 63 (0, 0))], ql, qw] (fun v V' H' => V' = V ∧ ∃ p c q H2, v = .tuple #[.slice p (r.tick now).1.length c, .int .i64 (r.tick now).2.1] ∧ Ow 35 11 (.slice p (r.tick now).1.length c) (r.tick now).1.length ((r.tick now).1.flatMap Msg.cl) q ∧ H' = q :: H2 ∧ Rb.Is 63 156 35 ((r.tick now).2.2) rx H2) := by
 have hcw := hw.cap
 have hcl := hl.cap
 refine Does.intro Try.func57 rfl rfl (le rfl) (fun B => ?_)
 refine Zs<|Zr<|Za Z<|Za Z<|Ze<|Zg<|Zs<|Zs<|Zr<|Zm Z<|Zv (Y.int Z Z Z)<|Zm Z<|?_
 rcases Zsplit (decide (now < 0)) with ⟨h1, g1⟩ | ⟨h1, g1⟩ <;> try simp only [kb] at g1
 ·refine Zo h1 Z<|Zo h1 Z<|Zv (Y.pick_t Z h1 Z)<|Ze<|Zg<|Tr.cond_t Z Z<|Zs<|Zr<|Za Z<|Za Z<|Ze<|Zg<|Zu<|Zn<|Ex.keepTo (H' := [[(rx, .cells #[.slice pl r.l.length cl, .slice pw r.w.length cw, .int .i64 r.xid] 63 (0, 0))], ql, qw]) [0, 0, 0] Z<|Ex.recut (H' := [] :: [[(rx, .cells #[.slice pl r.l.length cl, .slice pw r.w.length cw, .int .i64 r.xid] 63 (0, 0))], ql, qw]) (List.Perm.of_eq (by simp))<|?_
  exact Ex.ret2 rfl rfl rfl  ⟨rfl, none, 0, [], _, by rw [Rb.tick_no W]; rfl, by rw [Rb.tick_no W]; exact Ow.nil _ _, rfl, by rw [Rb.tick_no W]; exact ⟨_, _, _, _, _, _, rfl, hl, hw⟩⟩
 ·refine Zp h1<|Zm Z<|Zp h1<|Zv (Y.int Z Z Z)<|Zv (Y.pick_f Z h1 Z)<|Ze<|Zg<|?_
  rcases Zsplit (decide (now > 1099511627776)) with ⟨h2, g2⟩ | ⟨h2, g2⟩ <;> try simp only [kb] at g2
  ·refine Tr.cond_t Z h2<|Zs<|Zr<|Za Z<|Za Z<|Ze<|Zg<|Zu<|Zn<|Ex.keepTo (H' := [[(rx, .cells #[.slice pl r.l.length cl, .slice pw r.w.length cw, .int .i64 r.xid] 63 (0, 0))], ql, qw]) [0, 0, 0] Z<|Ex.recut (H' := [] :: [[(rx, .cells #[.slice pl r.l.length cl, .slice pw r.w.length cw, .int .i64 r.xid] 63 (0, 0))], ql, qw]) (List.Perm.of_eq (by simp))<|?_
   exact Ex.ret2 rfl rfl rfl  ⟨rfl, none, 0, [], _, by rw [Rb.tick_no W]; rfl, by rw [Rb.tick_no W]; exact Ow.nil _ _, rfl, by rw [Rb.tick_no W]; exact ⟨_, _, _, _, _, _, rfl, hl, hw⟩⟩
  ·refine Tr.cond_f Z h2<|Zt<|Zg<|Zs<|Zr<|Run.nilseg<|Za Z<|Ze<|Zg<|Zs<|Zs<|Zr<|Za Z<|Ze<|Zg<|Zb<|?_
   refine ZL (X := Nat × Option Addr × Nat × Nat × Sg × Sg) (fun z0 => V) (fun z0 => [z0.2.2.2.2.1, [(rx, .cells #[.slice pl r.l.length cl, .slice pw r.w.length cw, .int .i64 r.xid] 63 (0, 0))], z0.2.2.2.2.2, qw]) (fun z0 => [(0, .pointer (some ⟨rx, 0, none⟩)), (1, .int .i64 now), (6, .slice z0.2.1 z0.2.2.1 z0.2.2.2.1), (7, .int .i64 (z0.1 : Int))]) (fun z0 => Ow 156 12 (.slice pl r.l.length cl) r.l.length ((Rb.mid now r.l z0.1).flatMap roCells) z0.2.2.2.2.2 ∧ Ow 35 11 (.slice z0.2.1 z0.2.2.1 z0.2.2.2.1) z0.2.2.1 ((Rb.upto now r.l z0.1).flatMap Msg.cl) z0.2.2.2.2.1 ∧ z0.2.2.1 = (Rb.upto now r.l z0.1).length ∧ z0.1 ≤ r.l.length) (fun z0 => r.l.length - z0.1) (⟨0, none, 0, 0, [], ql⟩ : Nat × Option Addr × Nat × Nat × Sg × Sg) ⟨hl, Ow.nil _ _, rfl, Nat.zero_le _⟩ ?_
   rintro ⟨i1, p1, n1, k1, q1, qm⟩ ⟨hlm, how, hn, hi⟩
   try dsimp only at hlm how hn hi ⊢
   have hul := Rb.upto_le now r.l i1
   have hcp := how.cap
   have hml := Rb.mid_len now r.l i1 W
   refine Zs<|Zs<|Zr<|Zm Z<|Zm Z<|Zv (Y.nilCheck Z)<|Zv (Y.fieldAddr Z Rbox_fo63_0)<|Zv (Y.load Z Rbox_ts61 (Kn.at 1 Z) Z)<|Zv (Y.lenSl Z Rbox_es61)<|Zv (Y.int Z Z Z)<|Ze<|Zg<|?_
   rcases Zsplit (decide ((i1 : Int) < ((r.l.length : Nat) : Int))) with ⟨h3, g3⟩ | ⟨h3, g3⟩ <;> try simp only [kb] at g3
   ·refine Tr.cond_t Z h3<|Zt<|Zg<|Zs<|Zb<|Zs<|Zr<|?_
    have hma := Rb.mid_at (now := now) (l := r.l) (i := i1) W
    have hsx := hsn (r.l.getD i1 rod) (Rb.mem_at W)
    have hml := Rb.mid_len now r.l i1 W
    have hsy : -1 ≤ ((Rb.mid now r.l i1).getD i1 rod).2 ∧ ((Rb.mid now r.l i1).getD i1 rod).2 ≤ 1099511627776 := by rw [hma]; exact hsx
    have hs3 : ((Rb.mid now r.l i1).set i1 (((Rb.mid now r.l i1).getD i1 rod).1, now)).length = (Rb.mid now r.l i1).length := List.length_set ..
    refine Zm Z<|Zv (Y.nilCheck Z)<|Zv (Y.fieldAddr Z Rbox_fo63_0)<|Zv (Y.load Z Rbox_ts61 (Kn.at 1 Z) Z)<|Zm Z<|Zv (Y.idxR i1 Z Z Rbox_es61 (hlm.rd 2 rfl) W W)<|Zv (Y.fieldR Z Rbox_fo156_1 (hlm.rd 2 rfl) W)<|Zv (Y.ldR Z Rbox_ts3 (hlm.rd 2 rfl) (flatm_at ro_enc.len W rod WD rfl))<|Zv (Y.int Z Z Z)<|Zm Z<|?_
    rcases Zsplit (decide ((((Rb.mid now r.l i1).getD i1 rod).2) < 0)) with ⟨h4, g4⟩ | ⟨h4, g4⟩ <;> try simp only [kb] at g4
    ·refine Zo h4 Z<|Zo h4 Z<|Zo h4 Z<|Zo h4 Z<|Zo h4 Z<|Zo h4 Z<|Zo h4 Z<|Zo h4 Z<|Zo h4 Z<|Zo h4 Z<|Zo h4 Z<|Zv (Y.pick_t Z h4 Z)<|Ze<|Zg<|Tr.cond_t Z Z<|Zs<|?_
     refine Zr<|Zm Z<|Zv (Y.nilCheck Z)<|Zv (Y.fieldAddr Z Rbox_fo63_0)<|Zv (Y.load Z Rbox_ts61 (Kn.at 1 Z) Z)<|Zm Z<|Zm Z<|Zv (Y.idxR i1 Z Z Rbox_es61 (hlm.rd 2 rfl) W W)<|Zv (Y.fieldR Z Rbox_fo156_1 (hlm.rd 2 rfl) W)<|?_
     refine Run.stO rfl rfl Rbox_sz3 hlm (i := 2) rfl W rfl rfl (fun s5 ho6 => ?_)
     replace ho6 := Ow.upd (l := Rb.mid now r.l i1) (i := i1) (o := 11) (d := rod) (x := (((((Rb.mid now r.l i1).getD i1 rod).1), now) : Msg × Int)) ro_enc.len ho6 W WD rfl
     refine Run.heapTo (H' := [q1, [(rx, .cells #[.slice pl r.l.length cl, .slice pw r.w.length cw, .int .i64 r.xid] 63 (0, 0))], s5, qw]) Z<|Ze<|Zg<|Zr<|Zm Z<|Zm Z<|Zv (Y.nilCheck Z)<|Zv (Y.fieldAddr Z Rbox_fo63_0)<|Zv (Y.load Z Rbox_ts61 (Kn.at 1 Z) Z)<|Zm Z<|Zv (Y.idxR i1 Z Z Rbox_es61 (ho6.rd 2 rfl) W W)<|Zv (Y.fieldR Z Rbox_fo156_0 (ho6.rd 2 rfl) W)<|Zv (Y.ldRA (vs := [.int .i64 ((((Rb.mid now r.l i1).set i1 (((((Rb.mid now r.l i1).getD i1 rod).1), now) : Msg × Int)).getD i1 rod).1.kind), .int .i64 ((((Rb.mid now r.l i1).set i1 (((((Rb.mid now r.l i1).getD i1 rod).1), now) : Msg × Int)).getD i1 rod).1.life), .int .i64 ((((Rb.mid now r.l i1).set i1 (((((Rb.mid now r.l i1).getD i1 rod).1), now) : Msg × Int)).getD i1 rod).1.seen), .int .i64 ((((Rb.mid now r.l i1).set i1 (((((Rb.mid now r.l i1).getD i1 rod).1), now) : Msg × Int)).getD i1 rod).1.xid), .int .i64 ((((Rb.mid now r.l i1).set i1 (((((Rb.mid now r.l i1).getD i1 rod).1), now) : Msg × Int)).getD i1 rod).1.state), .int .u32 ((((Rb.mid now r.l i1).set i1 (((((Rb.mid now r.l i1).getD i1 rod).1), now) : Msg × Int)).getD i1 rod).1.addr), .int .i64 ((((Rb.mid now r.l i1).set i1 (((((Rb.mid now r.l i1).getD i1 rod).1), now) : Msg × Int)).getD i1 rod).1.bind), .string ((((Rb.mid now r.l i1).set i1 (((((Rb.mid now r.l i1).getD i1 rod).1), now) : Msg × Int)).getD i1 rod).1.client), .int .i64 ((((Rb.mid now r.l i1).set i1 (((((Rb.mid now r.l i1).getD i1 rod).1), now) : Msg × Int)).getD i1 rod).1.pot), .int .i64 ((((Rb.mid now r.l i1).set i1 (((((Rb.mid now r.l i1).getD i1 rod).1), now) : Msg × Int)).getD i1 rod).1.at_), .bool ((((Rb.mid now r.l i1).set i1 (((((Rb.mid now r.l i1).getD i1 rod).1), now) : Msg × Int)).getD i1 rod).1.ok)]) rfl Rbox_ag35 (ho6.rd 2 rfl) rfl WD (flatm_atP ro_enc.len W rod 0 11 WD rfl))<|?_
     refine Run.buildSlice (l := [(0, .tmp 61)]) (r := [.int .i64 ((((Rb.mid now r.l i1).set i1 (((((Rb.mid now r.l i1).getD i1 rod).1), now) : Msg × Int)).getD i1 rod).1.kind), .int .i64 ((((Rb.mid now r.l i1).set i1 (((((Rb.mid now r.l i1).getD i1 rod).1), now) : Msg × Int)).getD i1 rod).1.life), .int .i64 ((((Rb.mid now r.l i1).set i1 (((((Rb.mid now r.l i1).getD i1 rod).1), now) : Msg × Int)).getD i1 rod).1.seen), .int .i64 ((((Rb.mid now r.l i1).set i1 (((((Rb.mid now r.l i1).getD i1 rod).1), now) : Msg × Int)).getD i1 rod).1.xid), .int .i64 ((((Rb.mid now r.l i1).set i1 (((((Rb.mid now r.l i1).getD i1 rod).1), now) : Msg × Int)).getD i1 rod).1.state), .int .u32 ((((Rb.mid now r.l i1).set i1 (((((Rb.mid now r.l i1).getD i1 rod).1), now) : Msg × Int)).getD i1 rod).1.addr), .int .i64 ((((Rb.mid now r.l i1).set i1 (((((Rb.mid now r.l i1).getD i1 rod).1), now) : Msg × Int)).getD i1 rod).1.bind), .string ((((Rb.mid now r.l i1).set i1 (((((Rb.mid now r.l i1).getD i1 rod).1), now) : Msg × Int)).getD i1 rod).1.client), .int .i64 ((((Rb.mid now r.l i1).set i1 (((((Rb.mid now r.l i1).getD i1 rod).1), now) : Msg × Int)).getD i1 rod).1.pot), .int .i64 ((((Rb.mid now r.l i1).set i1 (((((Rb.mid now r.l i1).getD i1 rod).1), now) : Msg × Int)).getD i1 rod).1.at_), .bool ((((Rb.mid now r.l i1).set i1 (((((Rb.mid now r.l i1).getD i1 rod).1), now) : Msg × Int)).getD i1 rod).1.ok)]) Rbox_es39 Rbox_zo35 rfl WD rfl rfl WD (lt rfl) (fun b7 => ?_)
     refine Run.append (n := n1) (m := 1) (xs := (Rb.upto now r.l i1).flatMap Msg.cl) (ys := [.int .i64 ((((Rb.mid now r.l i1).set i1 (((((Rb.mid now r.l i1).getD i1 rod).1), now) : Msg × Int)).getD i1 rod).1.kind), .int .i64 ((((Rb.mid now r.l i1).set i1 (((((Rb.mid now r.l i1).getD i1 rod).1), now) : Msg × Int)).getD i1 rod).1.life), .int .i64 ((((Rb.mid now r.l i1).set i1 (((((Rb.mid now r.l i1).getD i1 rod).1), now) : Msg × Int)).getD i1 rod).1.seen), .int .i64 ((((Rb.mid now r.l i1).set i1 (((((Rb.mid now r.l i1).getD i1 rod).1), now) : Msg × Int)).getD i1 rod).1.xid), .int .i64 ((((Rb.mid now r.l i1).set i1 (((((Rb.mid now r.l i1).getD i1 rod).1), now) : Msg × Int)).getD i1 rod).1.state), .int .u32 ((((Rb.mid now r.l i1).set i1 (((((Rb.mid now r.l i1).getD i1 rod).1), now) : Msg × Int)).getD i1 rod).1.addr), .int .i64 ((((Rb.mid now r.l i1).set i1 (((((Rb.mid now r.l i1).getD i1 rod).1), now) : Msg × Int)).getD i1 rod).1.bind), .string ((((Rb.mid now r.l i1).set i1 (((((Rb.mid now r.l i1).getD i1 rod).1), now) : Msg × Int)).getD i1 rod).1.client), .int .i64 ((((Rb.mid now r.l i1).set i1 (((((Rb.mid now r.l i1).getD i1 rod).1), now) : Msg × Int)).getD i1 rod).1.pot), .int .i64 ((((Rb.mid now r.l i1).set i1 (((((Rb.mid now r.l i1).getD i1 rod).1), now) : Msg × Int)).getD i1 rod).1.at_), .bool ((((Rb.mid now r.l i1).set i1 (((((Rb.mid now r.l i1).getD i1 rod).1), now) : Msg × Int)).getD i1 rod).1.ok)]) rfl rfl Rbox_es39 Rbox_zi35 WD (j := 1) rfl how (Src.of_rd Rbox_es39 (Rd.one (Kn.at 0 rfl) rfl)) W W rfl (lt rfl) (fun v8 s9 ho10 hf => ?_)
     obtain ⟨p8, c8, rfl⟩ := hf
     replace ho10 := Ow.app1 (f := Msg.cl) (l := Rb.upto now r.l i1) (x := ((((Rb.mid now r.l i1).set i1 (((((Rb.mid now r.l i1).getD i1 rod).1), now) : Msg × Int)).getD i1 rod).1)) ho10
     refine Za Z<|Ze<|Zc<|Zg<|Zr<|Zm Z<|Zv (Y.add Z Z W)<|Za Z<|Ze<|Ex.keep [1, 1, 1, 1]<|?_
     have hdu : Rb.due now (r.l.getD i1 rod) = true := by rw [← hma]; unfold Rb.due; simp only [Bool.or_eq_true, decide_eq_true_eq]; first | (left; omega) | (right; omega)
     have ho8 := ho6
     rw [hma, Rb.mid_yes W hdu] at ho8
     have ho9 := ho10
     rw [Rb.set_at W, hma] at ho9
     exact ZR (⟨i1 + 1, p8, (n1 + 1), c8, s9, s5⟩ : Nat × Option Addr × Nat × Nat × Sg × Sg) ⟨ho8, by rw [Rb.upto_yes W hdu]; exact ho9, by rw [Rb.upto_yes W hdu, List.length_append, List.length_singleton]; dsimp only; omega, by omega⟩ (by dsimp only; omega)
    ·refine Zp h4<|Zm Z<|Zp h4<|Zm Z<|Zp h4<|Zv (Y.nilCheck Z)<|Zp h4<|Zv (Y.fieldAddr Z Rbox_fo63_0)<|Zp h4<|Zv (Y.load Z Rbox_ts61 (Kn.at 1 Z) Z)<|Zp h4<|Zm Z<|Zp h4<|Zv (Y.idxR i1 Z Z Rbox_es61 (hlm.rd 2 rfl) W W)<|Zp h4<|Zv (Y.fieldR Z Rbox_fo156_1 (hlm.rd 2 rfl) W)<|?_
     refine Zp h4<|Zv (Y.ldR Z Rbox_ts3 (hlm.rd 2 rfl) (flatm_at ro_enc.len W rod WD rfl))<|Zp h4<|Zv (Y.sub Z Z W)<|Zp h4<|Zv (Y.int Z Z Z)<|Zv (Y.pick_f Z h4 Z)<|Ze<|Zg<|?_
     rcases Zsplit (decide ((now - (((Rb.mid now r.l i1).getD i1 rod).2)) ≥ 3)) with ⟨h11, g11⟩ | ⟨h11, g11⟩ <;> try simp only [kb] at g11
     ·refine Tr.cond_t Z h11<|Zs<|Zr<|Zm Z<|Zv (Y.nilCheck Z)<|Zv (Y.fieldAddr Z Rbox_fo63_0)<|Zv (Y.load Z Rbox_ts61 (Kn.at 1 Z) Z)<|Zm Z<|Zm Z<|Zv (Y.idxR i1 Z Z Rbox_es61 (hlm.rd 2 rfl) W W)<|Zv (Y.fieldR Z Rbox_fo156_1 (hlm.rd 2 rfl) W)<|?_
      refine Run.stO rfl rfl Rbox_sz3 hlm (i := 2) rfl W rfl rfl (fun s12 ho13 => ?_)
      replace ho13 := Ow.upd (l := Rb.mid now r.l i1) (i := i1) (o := 11) (d := rod) (x := (((((Rb.mid now r.l i1).getD i1 rod).1), now) : Msg × Int)) ro_enc.len ho13 W WD rfl
      refine Run.heapTo (H' := [q1, [(rx, .cells #[.slice pl r.l.length cl, .slice pw r.w.length cw, .int .i64 r.xid] 63 (0, 0))], s12, qw]) Z<|Ze<|Zg<|Zr<|Zm Z<|Zm Z<|Zv (Y.nilCheck Z)<|Zv (Y.fieldAddr Z Rbox_fo63_0)<|Zv (Y.load Z Rbox_ts61 (Kn.at 1 Z) Z)<|Zm Z<|Zv (Y.idxR i1 Z Z Rbox_es61 (ho13.rd 2 rfl) W W)<|Zv (Y.fieldR Z Rbox_fo156_0 (ho13.rd 2 rfl) W)<|Zv (Y.ldRA (vs := [.int .i64 ((((Rb.mid now r.l i1).set i1 (((((Rb.mid now r.l i1).getD i1 rod).1), now) : Msg × Int)).getD i1 rod).1.kind), .int .i64 ((((Rb.mid now r.l i1).set i1 (((((Rb.mid now r.l i1).getD i1 rod).1), now) : Msg × Int)).getD i1 rod).1.life), .int .i64 ((((Rb.mid now r.l i1).set i1 (((((Rb.mid now r.l i1).getD i1 rod).1), now) : Msg × Int)).getD i1 rod).1.seen), .int .i64 ((((Rb.mid now r.l i1).set i1 (((((Rb.mid now r.l i1).getD i1 rod).1), now) : Msg × Int)).getD i1 rod).1.xid), .int .i64 ((((Rb.mid now r.l i1).set i1 (((((Rb.mid now r.l i1).getD i1 rod).1), now) : Msg × Int)).getD i1 rod).1.state), .int .u32 ((((Rb.mid now r.l i1).set i1 (((((Rb.mid now r.l i1).getD i1 rod).1), now) : Msg × Int)).getD i1 rod).1.addr), .int .i64 ((((Rb.mid now r.l i1).set i1 (((((Rb.mid now r.l i1).getD i1 rod).1), now) : Msg × Int)).getD i1 rod).1.bind), .string ((((Rb.mid now r.l i1).set i1 (((((Rb.mid now r.l i1).getD i1 rod).1), now) : Msg × Int)).getD i1 rod).1.client), .int .i64 ((((Rb.mid now r.l i1).set i1 (((((Rb.mid now r.l i1).getD i1 rod).1), now) : Msg × Int)).getD i1 rod).1.pot), .int .i64 ((((Rb.mid now r.l i1).set i1 (((((Rb.mid now r.l i1).getD i1 rod).1), now) : Msg × Int)).getD i1 rod).1.at_), .bool ((((Rb.mid now r.l i1).set i1 (((((Rb.mid now r.l i1).getD i1 rod).1), now) : Msg × Int)).getD i1 rod).1.ok)]) rfl Rbox_ag35 (ho13.rd 2 rfl) rfl WD (flatm_atP ro_enc.len W rod 0 11 WD rfl))<|?_
      refine Run.buildSlice (l := [(0, .tmp 61)]) (r := [.int .i64 ((((Rb.mid now r.l i1).set i1 (((((Rb.mid now r.l i1).getD i1 rod).1), now) : Msg × Int)).getD i1 rod).1.kind), .int .i64 ((((Rb.mid now r.l i1).set i1 (((((Rb.mid now r.l i1).getD i1 rod).1), now) : Msg × Int)).getD i1 rod).1.life), .int .i64 ((((Rb.mid now r.l i1).set i1 (((((Rb.mid now r.l i1).getD i1 rod).1), now) : Msg × Int)).getD i1 rod).1.seen), .int .i64 ((((Rb.mid now r.l i1).set i1 (((((Rb.mid now r.l i1).getD i1 rod).1), now) : Msg × Int)).getD i1 rod).1.xid), .int .i64 ((((Rb.mid now r.l i1).set i1 (((((Rb.mid now r.l i1).getD i1 rod).1), now) : Msg × Int)).getD i1 rod).1.state), .int .u32 ((((Rb.mid now r.l i1).set i1 (((((Rb.mid now r.l i1).getD i1 rod).1), now) : Msg × Int)).getD i1 rod).1.addr), .int .i64 ((((Rb.mid now r.l i1).set i1 (((((Rb.mid now r.l i1).getD i1 rod).1), now) : Msg × Int)).getD i1 rod).1.bind), .string ((((Rb.mid now r.l i1).set i1 (((((Rb.mid now r.l i1).getD i1 rod).1), now) : Msg × Int)).getD i1 rod).1.client), .int .i64 ((((Rb.mid now r.l i1).set i1 (((((Rb.mid now r.l i1).getD i1 rod).1), now) : Msg × Int)).getD i1 rod).1.pot), .int .i64 ((((Rb.mid now r.l i1).set i1 (((((Rb.mid now r.l i1).getD i1 rod).1), now) : Msg × Int)).getD i1 rod).1.at_), .bool ((((Rb.mid now r.l i1).set i1 (((((Rb.mid now r.l i1).getD i1 rod).1), now) : Msg × Int)).getD i1 rod).1.ok)]) Rbox_es39 Rbox_zo35 rfl WD rfl rfl WD (lt rfl) (fun b14 => ?_)
      refine Run.append (n := n1) (m := 1) (xs := (Rb.upto now r.l i1).flatMap Msg.cl) (ys := [.int .i64 ((((Rb.mid now r.l i1).set i1 (((((Rb.mid now r.l i1).getD i1 rod).1), now) : Msg × Int)).getD i1 rod).1.kind), .int .i64 ((((Rb.mid now r.l i1).set i1 (((((Rb.mid now r.l i1).getD i1 rod).1), now) : Msg × Int)).getD i1 rod).1.life), .int .i64 ((((Rb.mid now r.l i1).set i1 (((((Rb.mid now r.l i1).getD i1 rod).1), now) : Msg × Int)).getD i1 rod).1.seen), .int .i64 ((((Rb.mid now r.l i1).set i1 (((((Rb.mid now r.l i1).getD i1 rod).1), now) : Msg × Int)).getD i1 rod).1.xid), .int .i64 ((((Rb.mid now r.l i1).set i1 (((((Rb.mid now r.l i1).getD i1 rod).1), now) : Msg × Int)).getD i1 rod).1.state), .int .u32 ((((Rb.mid now r.l i1).set i1 (((((Rb.mid now r.l i1).getD i1 rod).1), now) : Msg × Int)).getD i1 rod).1.addr), .int .i64 ((((Rb.mid now r.l i1).set i1 (((((Rb.mid now r.l i1).getD i1 rod).1), now) : Msg × Int)).getD i1 rod).1.bind), .string ((((Rb.mid now r.l i1).set i1 (((((Rb.mid now r.l i1).getD i1 rod).1), now) : Msg × Int)).getD i1 rod).1.client), .int .i64 ((((Rb.mid now r.l i1).set i1 (((((Rb.mid now r.l i1).getD i1 rod).1), now) : Msg × Int)).getD i1 rod).1.pot), .int .i64 ((((Rb.mid now r.l i1).set i1 (((((Rb.mid now r.l i1).getD i1 rod).1), now) : Msg × Int)).getD i1 rod).1.at_), .bool ((((Rb.mid now r.l i1).set i1 (((((Rb.mid now r.l i1).getD i1 rod).1), now) : Msg × Int)).getD i1 rod).1.ok)]) rfl rfl Rbox_es39 Rbox_zi35 WD (j := 1) rfl how (Src.of_rd Rbox_es39 (Rd.one (Kn.at 0 rfl) rfl)) W W rfl (lt rfl) (fun v15 s16 ho17 hf => ?_)
      obtain ⟨p15, c15, rfl⟩ := hf
      replace ho17 := Ow.app1 (f := Msg.cl) (l := Rb.upto now r.l i1) (x := ((((Rb.mid now r.l i1).set i1 (((((Rb.mid now r.l i1).getD i1 rod).1), now) : Msg × Int)).getD i1 rod).1)) ho17
      refine Za Z<|Ze<|Zc<|Zg<|Zr<|Zm Z<|Zv (Y.add Z Z W)<|Za Z<|Ze<|Ex.keep [1, 1, 1, 1]<|?_
      have hdu : Rb.due now (r.l.getD i1 rod) = true := by rw [← hma]; unfold Rb.due; simp only [Bool.or_eq_true, decide_eq_true_eq]; first | (left; omega) | (right; omega)
      have ho8 := ho13
      rw [hma, Rb.mid_yes W hdu] at ho8
      have ho9 := ho17
      rw [Rb.set_at W, hma] at ho9
      exact ZR (⟨i1 + 1, p15, (n1 + 1), c15, s16, s12⟩ : Nat × Option Addr × Nat × Nat × Sg × Sg) ⟨ho8, by rw [Rb.upto_yes W hdu]; exact ho9, by rw [Rb.upto_yes W hdu, List.length_append, List.length_singleton]; dsimp only; omega, by omega⟩ (by dsimp only; omega)
     ·refine Tr.cond_f Z h11<|Zt<|Zc<|Zg<|Zr<|Zm Z<|Zv (Y.add Z Z W)<|Za Z<|Ze<|Ex.keep [0, 0, 0, 0]<|?_
      have hdu : Rb.due now (r.l.getD i1 rod) = false := by rw [← hma]; unfold Rb.due; simp only [Bool.or_eq_false_iff, decide_eq_false_iff_not]; constructor <;> omega
      exact ZR (⟨i1 + 1, p1, n1, k1, q1, qm⟩ : Nat × Option Addr × Nat × Nat × Sg × Sg) ⟨by rw [Rb.mid_no W hdu]; exact hlm, by rw [Rb.upto_no W hdu]; exact how, by rw [Rb.upto_no W hdu]; exact hn, by omega⟩ (by dsimp only; omega)
   ·refine Tr.cond_f Z h3<|Zx<|Zy<|Zy<|Zi<|Zg<|Zs<|Zr<|Zm Z<|Za Z<|Za Z<|Ze<|Zg<|Zu<|?_
    obtain rfl : i1 = r.l.length := by omega
    subst hn
    refine Ex.keepTo (H' := [q1, [(rx, .cells #[.slice pl r.l.length cl, .slice pw r.w.length cw, .int .i64 r.xid] 63 (0, 0))], qm, qw]) [0, 0, 0, 0] Z ?_
    have hml2 := Rb.mid_len now r.l r.l.length (Nat.le_refl _)
    exact Ex.ret2 rfl rfl rfl  ⟨rfl, p1, k1, q1, _, by rw [Rb.tick_ok W], by rw [Rb.tick_ok W]; exact how, rfl, by rw [Rb.tick_ok W]; exact ⟨pl, cl, pw, cw, qm, qw, by simp only [hml2], by simp only [hml2]; exact hlm, hw⟩⟩

theorem rclear_c {V : Vw} {r : Rb} {rx : Nat} {pl pw : Option Addr} {cl cw : Nat} {ql qw : Sg} (hl : Ow 156 12 (.slice pl r.l.length cl) r.l.length (r.l.flatMap roCells) ql) (hw : Ow 35 11 (.slice pw r.w.length cw) r.w.length (r.w.flatMap Msg.cl) qw) (hln : r.l.length ≤ 1000) (hwn : r.w.length ≤ 1000)  : Does Try.prog 59 [.pointer (some ⟨rx, 0, none⟩)] V [[(rx, .cells #[.slice pl r.l.length cl, .slice pw r.w.length cw, .int .i64 r.xid] 63 (0, 0))], ql, qw] (fun _ V' H' => V' = V ∧ Rb.Is 63 156 35 r.clear rx H') := by
 have hcw := hw.cap
 have hcl := hl.cap
 refine Does.intro Try.func59 rfl rfl (le rfl) (fun B => ?_)
 refine Zs<|Zr<|Zm Z<|Zv (Y.nilCheck Z)<|Zv (Y.fieldAddr Z Rbox_fo63_0)<|Run.store (s := [(rx, .cells #[.slice none 0 0, .slice pw r.w.length cw, .int .i64 r.xid] 63 (0, 0))]) Z Z Rbox_sz61 (i := 0) Z Z (le Z) Z Z<|Ze<|Zg<|Zr<|Zm Z<|Zv (Y.nilCheck Z)<|Zv (Y.fieldAddr Z Rbox_fo63_1)<|Run.store (s := [(rx, .cells #[.slice none 0 0, .slice none 0 0, .int .i64 r.xid] 63 (0, 0))]) Z Z Rbox_sz39 (i := 0) Z Z (le Z) Z Z<|Ze<|Ex.keepTo (H' := [[(rx, .cells #[.slice none 0 0, .slice none 0 0, .int .i64 r.xid] 63 (0, 0))]]) [0] Z<|?_
 refine Ex.recut (H' := [[(rx, .cells #[.slice none 0 0, .slice none 0 0, .int .i64 r.xid] 63 (0, 0))]] ++ [[], []]) (List.Perm.of_eq (by simp)) ?_
 exact Ex.end0 rfl ⟨rfl, _, _, _, _, _, _, rfl, Ow.nil _ _, Ow.nil _ _⟩

theorem rlen_c {V : Vw} {r : Rb} {rx : Nat} {pl pw : Option Addr} {cl cw : Nat} {ql qw : Sg} (hl : Ow 156 12 (.slice pl r.l.length cl) r.l.length (r.l.flatMap roCells) ql) (hw : Ow 35 11 (.slice pw r.w.length cw) r.w.length (r.w.flatMap Msg.cl) qw) (hln : r.l.length ≤ 1000) (hwn : r.w.length ≤ 1000)  : Does Try.prog 29 [.pointer (some ⟨rx, 0, none⟩)] V [[(rx, .cells #[.slice pl r.l.length cl, .slice pw r.w.length cw, .int .i64 r.xid] 63 (0, 0))], ql, qw] (Pv (.int .i64 ((r.len : Nat) : Int)) V [[(rx, .cells #[.slice pl r.l.length cl, .slice pw r.w.length cw, .int .i64 r.xid] 63 (0, 0))], ql, qw]) := by
 have hcw := hw.cap
 have hcl := hl.cap
 refine Does.intro Try.func29 rfl rfl (le rfl) (fun B => ?_)
 refine Zs<|Zr<|Za Z<|Ze<|Zg<|Zs<|Zr<|Zm Z<|Zv (Y.nilCheck Z)<|Zv (Y.fieldAddr Z Rbox_fo63_0)<|Zv (Y.load Z Rbox_ts61 (Kn.at 0 Z) Z)<|Zv (Y.lenSl Z Rbox_es61)<|Za Z<|Ze<|Zg<|Zs<|?_
 refine Zs<|Zr<|Za Z<|Ze<|Zg<|Zb<|?_
 refine ZL (X := Nat) (fun z0 => V) (fun z0 => [[(rx, .cells #[.slice pl r.l.length cl, .slice pw r.w.length cw, .int .i64 r.xid] 63 (0, 0))], ql, qw]) (fun z0 => [(0, .pointer (some ⟨rx, 0, none⟩)), (3, .int .i64 ((r.l.length + (r.w.take z0).countP (fun m => !Rb.outB r.l m.addr) : Nat) : Int)), (4, .int .i64 (z0 : Int))]) (fun z0 => z0 ≤ r.w.length) (fun z0 => r.w.length - z0) (0 : Nat) (Nat.zero_le _) ?_
 rintro i1 hi
 have hcl := List.countP_le_length (p := fun m : Msg => !Rb.outB r.l m.addr) (l := r.w.take i1)
 rw [List.length_take] at hcl
 refine Zs<|Zs<|Zr<|Zm Z<|Zm Z<|Zv (Y.nilCheck Z)<|Zv (Y.fieldAddr Z Rbox_fo63_1)<|Zv (Y.load Z Rbox_ts39 (Kn.at 0 Z) Z)<|Zv (Y.lenSl Z Rbox_es39)<|Zv (Y.int Z Z Z)<|Ze<|Zg<|?_
 rcases Zsplit (decide ((i1 : Int) < ((r.w.length : Nat) : Int))) with ⟨h1, g1⟩ | ⟨h1, g1⟩ <;> try simp only [kb] at g1
 ·refine Tr.cond_t Z h1<|Zt<|Zg<|Zs<|Zb<|Zs<|Zr<|Zm Z<|Zm Z<|Zv (Y.nilCheck Z)<|Zv (Y.fieldAddr Z Rbox_fo63_1)<|Zv (Y.load Z Rbox_ts39 (Kn.at 0 Z) Z)<|Zm Z<|Zv (Y.idxR i1 Z Z Rbox_es39 (hw.rd 2 rfl) W W)<|Zv (Y.fieldR Z Rbox_fo35_5 (hw.rd 2 rfl) W)<|Zv (Y.ldR Z Rbox_ts30 (hw.rd 2 rfl) (flatm_at Msg.cl_enc.len W Msg.zero WD rfl))<|?_
  refine Run.call [0, 0, 0] (l := [.tmp 20, .tmp 28]) rfl rfl rfl (lt rfl) (rout_c (a := (r.w.getD i1 Msg.zero).addr) hl hw hln hwn) (fun v9 V9 H9 hle9 hR => ?_)
  obtain ⟨rfl, hV, rfl⟩ := hR; replace hV := hV.symm; subst hV
  refine Run.heapTo (H' := [[(rx, .cells #[.slice pl r.l.length cl, .slice pw r.w.length cw, .int .i64 r.xid] 63 (0, 0))], ql, qw]) Z<|Za Z<|Ze<|Zg<|Zs<|Zr<|Zm Z<|Zv (Y.not Z)<|Ze<|Zg<|?_
  rcases Zsplit (Rb.outB r.l ((r.w.getD i1 Msg.zero).addr)) with ⟨h2, g2⟩ | ⟨h2, g2⟩ <;> try simp only [kb] at g2
  ·refine Tr.cond_f Z (congrArg Bool.not h2)<|Zt<|Zc<|Zg<|Zr<|Zm Z<|Zv (Y.add Z Z W)<|Za Z<|Ze<|Ex.keep [0, 0, 0]<|?_
   have ec := Rb.count_s (l := r.l) (w := r.w) (i := i1) W
   rw [h2] at ec
   exact ZR (i1 + 1 : Nat) W W (by repeat (first | exact subB_nil _ | refine subB_cons (by first | rfl | exact congrArg (fun z => some (Value.int _ z)) W | exact congrArg (fun z => some (Value.int _ z)) (by (try dsimp only); simp only [if_true, Bool.false_eq_true, if_false] at ec; omega)) ?_))
  ·refine Tr.cond_t Z (congrArg Bool.not h2)<|Zr<|Zm Z<|Zv (Y.add Z Z W)<|Za Z<|Ze<|Zc<|Zg<|Zr<|Zm Z<|Zv (Y.add Z Z W)<|Za Z<|Ze<|Ex.keep [0, 0, 0]<|?_
   have ec := Rb.count_s (l := r.l) (w := r.w) (i := i1) W
   rw [h2] at ec
   exact ZR (i1 + 1 : Nat) W W (by repeat (first | exact subB_nil _ | refine subB_cons (by first | rfl | exact congrArg (fun z => some (Value.int _ z)) W | exact congrArg (fun z => some (Value.int _ z)) (by (try dsimp only); simp only [if_true, Bool.false_eq_true, if_false] at ec; omega)) ?_))
 ·refine Tr.cond_f Z h1<|Zx<|Zy<|Zy<|Zi<|Zg<|Zs<|Zr<|Zm Z<|Za Z<|Ze<|Zg<|Zu<|Ex.keep [0, 0, 0]<|?_
  exact Ex.ret1 rfl rfl  ⟨congrArg (fun z : Nat => Value.int _ (z : Int)) (by unfold Rb.len; rw [List.take_of_length_le W]), rfl, rfl⟩

theorem rbusy_c {V : Vw} {r : Rb} {rx : Nat} {pl pw : Option Addr} {cl cw : Nat} {ql qw : Sg} (hl : Ow 156 12 (.slice pl r.l.length cl) r.l.length (r.l.flatMap roCells) ql) (hw : Ow 35 11 (.slice pw r.w.length cw) r.w.length (r.w.flatMap Msg.cl) qw) (hln : r.l.length ≤ 1000) (hwn : r.w.length ≤ 1000) {a : Int}  : Does Try.prog 31 [.pointer (some ⟨rx, 0, none⟩), .int .u32 a] V [[(rx, .cells #[.slice pl r.l.length cl, .slice pw r.w.length cw, .int .i64 r.xid] 63 (0, 0))], ql, qw] (Pv (.bool (r.busy a)) V [[(rx, .cells #[.slice pl r.l.length cl, .slice pw r.w.length cw, .int .i64 r.xid] 63 (0, 0))], ql, qw]) := by
 have hcw := hw.cap
 have hcl := hl.cap
 refine Does.intro Try.func31 rfl rfl (le rfl) (fun B => ?_)
 refine Zs<|Zr<|Za Z<|Ze<|Zg<|Zs<|Zs<|Zr<|Za Z<|Ze<|Zg<|Zb<|?_
 refine ZL (X := Nat) (fun z0 => V) (fun z0 => [[(rx, .cells #[.slice pl r.l.length cl, .slice pw r.w.length cw, .int .i64 r.xid] 63 (0, 0))], ql, qw]) (fun z0 => [(0, .pointer (some ⟨rx, 0, none⟩)), (1, .int .u32 a), (5, .int .i64 (z0 : Int))]) (fun z0 => z0 ≤ r.w.length ∧ ∀ j, j < z0 → (r.w.getD j Msg.zero).addr ≠ a) (fun z0 => r.w.length - z0) (0 : Nat) ⟨Nat.zero_le _, fun j hj => absurd hj (Nat.not_lt_zero j)⟩ ?_
 rintro i1 ⟨hi, hno⟩
 refine Zs<|Zs<|Zr<|Zm Z<|Zm Z<|Zv (Y.nilCheck Z)<|Zv (Y.fieldAddr Z Rbox_fo63_1)<|Zv (Y.load Z Rbox_ts39 (Kn.at 0 Z) Z)<|Zv (Y.lenSl Z Rbox_es39)<|Zv (Y.int Z Z Z)<|Ze<|Zg<|?_
 rcases Zsplit (decide ((i1 : Int) < ((r.w.length : Nat) : Int))) with ⟨h1, g1⟩ | ⟨h1, g1⟩ <;> try simp only [kb] at g1
 ·refine Tr.cond_t Z h1<|Zt<|Zg<|Zs<|Zb<|Zs<|Zr<|Zm Z<|Zv (Y.nilCheck Z)<|Zv (Y.fieldAddr Z Rbox_fo63_1)<|Zv (Y.load Z Rbox_ts39 (Kn.at 0 Z) Z)<|Zm Z<|Zv (Y.idxR i1 Z Z Rbox_es39 (hw.rd 2 rfl) W W)<|Zv (Y.fieldR Z Rbox_fo35_5 (hw.rd 2 rfl) W)<|Zv (Y.ldR Z Rbox_ts30 (hw.rd 2 rfl) (flatm_at Msg.cl_enc.len W Msg.zero WD rfl))<|Zm Z<|?_
  refine Zv (Y.int Z Z Z)<|Ze<|Zg<|?_
  rcases Zsplit (((r.w.getD i1 Msg.zero).addr) == a) with ⟨h2, g2⟩ | ⟨h2, g2⟩ <;> try simp only [kb] at g2
  ·refine Tr.cond_t Z h2<|Zs<|Zr<|Za Z<|Ze<|Zg<|Zu<|Zk<|Zn<|Zn<|Zk<|Zn<|Ex.keep [0, 0, 0]<|?_
   exact Ex.ret1 rfl rfl  ⟨by unfold Rb.busy; rw [Rb.any_yes (i := i1) W W]; rfl, rfl, rfl⟩
  ·refine Tr.cond_f Z h2<|Zt<|Zc<|Zg<|Zr<|Zm Z<|Zv (Y.add Z Z W)<|Za Z<|Ze<|Ex.keep [0, 0, 0]<|?_
   exact ZR (i1 + 1 : Nat) ⟨by omega, upto_succ hno W⟩ W
 ·refine Tr.cond_f Z h1<|Zx<|Zy<|Zy<|Zi<|Zg<|Zs<|Zr<|Zm Z<|Zm Z<|?_
  refine Run.call [0, 0, 0] (l := [.tmp 25, .tmp 26]) rfl rfl rfl (lt rfl) (rout_c (a := a) hl hw hln hwn) (fun v9 V9 H9 hle9 hR => ?_)
  obtain ⟨rfl, hV, rfl⟩ := hR; replace hV := hV.symm; subst hV
  refine Run.heapTo (H' := [[(rx, .cells #[.slice pl r.l.length cl, .slice pw r.w.length cw, .int .i64 r.xid] 63 (0, 0))], ql, qw]) Z<|Za Z<|Ze<|Zg<|Zu<|Ex.keep [0, 0, 0]<|?_
  exact Ex.ret1 rfl rfl  ⟨by unfold Rb.busy; rw [Rb.any_no fun j hj => hno j W]; rfl, rfl, rfl⟩

theorem same18_c {V : Vw} {H : Hp} {a b : List Msg} {p1 p2 : Option Addr} {k1 k2 : Nat} (ha : Rd V H 11 (.slice p1 a.length k1) a.length (a.flatMap Msg.cl)) (hb : Rd V H 11 (.slice p2 b.length k2) b.length (b.flatMap Msg.cl)) (he : a = b) (hn : a.length ≤ 1000000000)  : Does Try.prog 58 [.slice p1 a.length k1, .slice p2 b.length k2] V H (Pv (.bool true) V H) := by
 have hle := congrArg List.length he
 refine Does.intro Try.func58 rfl rfl (le rfl) (fun B => ?_)
 refine Zs<|Zr<|Za Z<|Ze<|Zg<|Zs<|Zs<|Zr<|Zm Z<|Zv (Y.lenSl Z Rbox_es39)<|Zm Z<|Zv (Y.lenSl Z Rbox_es39)<|Zv (Y.int Z Z Z)<|Ze<|Zg<|Tr.cond_f rfl (by rw [hle]; simp)<|?_
 refine Zt<|Zg<|Zs<|Zs<|Zr<|Za Z<|Ze<|Zg<|Zb<|?_
 refine ZL (X := Nat) (fun z0 => V) (fun z0 => H) (fun z0 => [(0, .slice p1 a.length k1), (1, .slice p2 b.length k2), (5, .int .i64 (z0 : Int))]) (fun z0 => z0 ≤ a.length) (fun z0 => a.length - z0) (0 : Nat) (Nat.zero_le _) ?_
 rintro i1 hi
 refine Zs<|Zs<|Zr<|Zm Z<|Zm Z<|Zv (Y.lenSl Z Rbox_es39)<|Zv (Y.int Z Z Z)<|Ze<|Zg<|?_
 rcases Zsplit (decide ((i1 : Int) < ((a.length : Nat) : Int))) with ⟨h1, g1⟩ | ⟨h1, g1⟩ <;> try simp only [kb] at g1
 ·refine Tr.cond_t Z h1<|Zt<|Zg<|Zs<|Zb<|Zs<|Tr.quiet Rbox_mo WK<|ZM Z<|ZM Z<|ZV (Y.idxR i1 Z Z Rbox_es39 ha W W)<|ZV (Y.ldRA (vs := [.int .i64 ((a.getD i1 Msg.zero).kind), .int .i64 ((a.getD i1 Msg.zero).life), .int .i64 ((a.getD i1 Msg.zero).seen), .int .i64 ((a.getD i1 Msg.zero).xid), .int .i64 ((a.getD i1 Msg.zero).state), .int .u32 ((a.getD i1 Msg.zero).addr), .int .i64 ((a.getD i1 Msg.zero).bind), .string ((a.getD i1 Msg.zero).client), .int .i64 ((a.getD i1 Msg.zero).pot), .int .i64 ((a.getD i1 Msg.zero).at_), .bool ((a.getD i1 Msg.zero).ok)]) rfl Rbox_ag35 ha rfl WD (fun o ho => flatm_atA Msg.cl_enc.len W Msg.zero o ho))<|?_
  refine ZM Z<|ZM Z<|ZV (Y.idxR i1 Z Z Rbox_es39 hb W W)<|ZV (Y.ldRA (vs := [.int .i64 ((b.getD i1 Msg.zero).kind), .int .i64 ((b.getD i1 Msg.zero).life), .int .i64 ((b.getD i1 Msg.zero).seen), .int .i64 ((b.getD i1 Msg.zero).xid), .int .i64 ((b.getD i1 Msg.zero).state), .int .u32 ((b.getD i1 Msg.zero).addr), .int .i64 ((b.getD i1 Msg.zero).bind), .string ((b.getD i1 Msg.zero).client), .int .i64 ((b.getD i1 Msg.zero).pot), .int .i64 ((b.getD i1 Msg.zero).at_), .bool ((b.getD i1 Msg.zero).ok)]) rfl Rbox_ag35 hb rfl WD (fun o ho => flatm_atA Msg.cl_enc.len W Msg.zero o ho))<|?_
  refine ZV (Y.neS Z Z Rbox_tgs35 Z Z)<|ZE<|Zg<|Tr.cond_f rfl (congrArg Bool.not (Ob.same_of (by rw [he])))<|Zt<|Zc<|Zg<|Zr<|Zm Z<|Zv (Y.add Z Z W)<|Za Z<|Ze<|?_
  exact ZR (i1 + 1 : Nat) W W
 ·refine Tr.cond_f Z h1<|Zx<|Zy<|Zy<|Zi<|Zg<|Zs<|Zr<|Za Z<|Ze<|Zg<|Zu<|?_
  exact Ex.ret1 rfl rfl  ⟨rfl, rfl, rfl⟩
end Go.Proofs.Ytpdnkhdmajmbiaa
