/- The rules of a grant, walked.
Conditions: as each theorem names them. -/
import Derived.Test.YtfgblingojgafaaGreatSortnum
import Derived.Test.YtfgblingojgafaaGreatProg
import Derived.Test.YtfgblingojgafaaGreatKI
import Derived.Test.YtfgblingojgafaaGreatTC
import Derived.Test.YtfgblingojgafaaGreatFA
import Derived.Test.YtfgblingojgafaaGreatTable1
import Derived.Test.YtfgblingojgafaaGreatTA
set_option linter.unusedSimpArgs false
set_option linter.unusedVariables false
set_option maxRecDepth 4000
namespace Go.Proofs.YtfgblingojgafaaGreat
open Go Go.K
attribute [local irreducible] Code.wp wpList Calls wpQuiet
theorem latest_c {V : Vw} {H : Hp} {l : List Int} {p : Option Addr} {c : Nat} (hv : Rd V H 1 (.slice p l.length c) l.length (l.flatMap nI)) (hn : l.length <= 1000)  : Does Tryz.prog 50 [.slice p l.length c] V H (Pv (.int .i64 (Rul.latest l)) V H) := by
 refine Does.intro Tryz.func50 rfl rfl (le rfl) (fun B => ?_)
 refine Zs<|Zr<|Za Z<|Ze<|Zg<|Zs<|Zr<|Za Z<|Ze<|Zg<|Zs<|Zs<|Zr<|Zm Z<|Zv (Y.lenSl Z xes148)<|Zm Z<|?_
 refine Ze<|Zg<|Zb<|?_
 refine ZL (X := Nat) (fun z0 => V) (fun z0 => H) (fun z0 => [(3,.int .i64 (Rul.latest (l.take z0))),(6,.slice p l.length c),(7,.int .i64 ((l.length : Nat) : Int)),(8,.int .i64 (z0 : Int))]) (fun z0 => z0 <= l.length) (fun z0 => l.length - z0) (0 : Nat) (Nat.zero_le _) ?_ (by repeat (first | exact subB_nil _ | refine subB_cons (by first | rfl | exact congrArg (fun z => some (Value.int _ z)) W | exact congrArg (fun z => some (Value.int _ z)) (Rul.latest_take W).symm) ?_))
 rintro i1 hi
 refine Zs<|Zr<|Zv (Y.int Z Z Z)<|Ze<|Zg<|Zs<|?_
 refine Zq (decide ((i1 : Int) < ((l.length : Nat) : Int))) (fun h1 g1 => ?_) fun h1 g1 => ?_
 ·refine Tr.cond_t Z h1<|Zt<|Zg<|Zs<|Zb<|Zs<|Zr<|Zv (Y.idxR i1 Z Z xes148 hv W W)<|Zv (Y.ldR Z xts3 hv (flatm_at0 nI_enc.len W 0 WD rfl))<|Za Z<|Ze<|Zg<|Zr<|Zm Z<|Zm Z<|Yc Z Z Z (add_c_h (t := (l.getD i1 0)) (d := 0))<|?_
  refine Zv (Y.max2 Z Z)<|Za Z<|Ze<|Zc<|Zg<|Zr<|Zv (Y.add Z Z W)<|Zm Z<|Ze<|?_
  exact ZR (i1 + 1 : Nat) W W (by repeat (first | exact subB_nil _ | refine subB_cons (by first | rfl | exact congrArg (fun z => some (Value.int _ z)) W | exact congrArg (fun z => some (Value.int _ z)) (Rul.latest_take W).symm) ?_))
 refine Tr.cond_f Z h1<|Zx<|Zy<|Zy<|Zi<|Zg<|Zs<|Zr<|Zm Z<|Za Z<|Ze<|Zg<|Zu<|?_
 exact Ex.ret1 rfl rfl  ⟨congrArg (Value.int _) (by rw [List.take_of_length_le W]),rfl,rfl⟩
theorem own_c {V : Vw} {r : Rul}  : Does Tryz.prog 47 [.agg #[.int .i64 r.id,.int .i64 r.lead,.int .i64 r.guard]] V [] (Pv (.int .i64 r.own) V []) := by
 refine Does.intro Tryz.func47 rfl rfl (le rfl) (fun B => ?_)
 refine Zs<|Zr<|?_
 refine Run.box rfl (lt rfl) (fun b1 => ?_)
 refine Za Z<|Ze<|Zg<|Zs<|Zs<|Zr<|Zv (Y.fieldAddr Z xfo58_0)<|Zv (Y.load Z xts3 (Kn.at 0 Z) Z)<|Zv (Y.int Z Z Z)<|Ze<|Zg<|?_
 refine Zq (r.id == 0) (fun h2 g2 => ?_) fun h2 g2 => ?_
 ·refine Tr.cond_t Z h2<|Zs<|Zr<|Za Z<|Ze<|Zg<|Zu<|Zn<|Ex.keep []<|?_
  exact Ex.ret1 rfl rfl  ⟨congrArg (Value.int _) (by unfold Rul.own; rw [if_pos W]),rfl,rfl⟩
 refine Tr.cond_f Z h2<|Zt<|Zg<|Zs<|Zr<|Za Z<|Ze<|Zg<|Zu<|Ex.keep []<|?_
 exact Ex.ret1 rfl rfl  ⟨congrArg (Value.int _) (by unfold Rul.own; rw [if_neg W]),rfl,rfl⟩
theorem until_c {V : Vw} {r : Rul} {now want acked : Int}  : Does Tryz.prog 148 [.agg #[.int .i64 r.id,.int .i64 r.lead,.int .i64 r.guard],.int .i64 now,.int .i64 want,.int .i64 acked] V [] (Pv (.int .i64 (r.until_ now want acked)) V []) := by
 refine Does.intro Tryz.func148 rfl rfl (le rfl) (fun B => ?_)
 refine Zs<|Zr<|?_
 refine Run.box rfl (lt rfl) (fun b1 => ?_)
 refine Za Z<|Ze<|Zg<|Zs<|Tr.anyD [(b1,.cells #[.int .i64 r.id,.int .i64 r.lead,.int .i64 r.guard] 58 (0,0))] xmo<|Zd 0 Z (fun _ => (Y.move rfl))<|Zd 1 Z (fun _ => (Y.move rfl))<|Zd 2 Z (fun _ => (Y.max2 rfl rfl))<|Zd 4 Z (fun _ => (Y.move rfl))<|Zd 5 Z (fun _ => (Y.move rfl))<|Zd 8 Z (fun _ => (Y.fieldAddr rfl xfo58_1))<|ZD 9 0 Z Z (fun _ => (Y.load rfl xts3 Kn.vk1 rfl))<|Zd 10 Z (fun _ => (Y.max2 rfl rfl))<|?_
 refine RunD.two (i := 3) (j := 6) WK rfl rfl  ?_ ?_
 ·refine Yc Z Z Z (add_c_h (t := now) (d := max want 0))<|Ze<|Zf<|?_
  refine RunD.one (i := 6) WK rfl  ?_
  refine Run.buildSlice (l := [(0,.tmp 13),(1,.tmp 14)]) xes148 xzo3 rfl WD rfl rfl WD (lt rfl) (fun b2 => ?_)
  refine Ze<|Zf<|?_
  refine RunD.one (i := 7) WK rfl  ?_
  refine Yc Z Z Z (latest_c (l := [now,acked]) (Rd.one (Kn.at 0 Z) Z) (Nat.le_of_ble_eq_true Z))<|Ze<|Zf<|?_
  refine RunD.one (i := 11) WK rfl  ?_
  refine Yc Z Z Z (add_c_h (t := Rul.latest [now,acked]) (d := max r.lead 0))<|Ze<|Zf<|Zd 12 Z (fun _ => (Y.min2 rfl rfl))<|Zd 13 Z (fun _ => (Y.assign rfl))<|RunD.done WK<|Zg<|Zu<|Ex.keep []<|?_
  exact Ex.ret1 rfl rfl  ⟨rfl,rfl,rfl⟩
 refine Run.buildSlice (l := [(0,.tmp 13),(1,.tmp 14)]) xes148 xzo3 rfl WD rfl rfl WD (lt rfl) (fun b3 => ?_)
 refine Ze<|Zf<|?_
 refine RunD.one (i := 3) WK rfl  ?_
 refine Yc Z Z Z (add_c_h (t := now) (d := max want 0))<|Ze<|Zf<|?_
 refine RunD.one (i := 7) WK rfl  ?_
 refine Yc Z Z Z (latest_c (l := [now,acked]) (Rd.one (Kn.at 0 Z) Z) (Nat.le_of_ble_eq_true Z))<|Ze<|Zf<|?_
 refine RunD.one (i := 11) WK rfl  ?_
 refine Yc Z Z Z (add_c_h (t := Rul.latest [now,acked]) (d := max r.lead 0))<|Ze<|Zf<|Zd 12 Z (fun _ => (Y.min2 rfl rfl))<|Zd 13 Z (fun _ => (Y.assign rfl))<|RunD.done WK<|Zg<|Zu<|Ex.keep []<|?_
 exact Ex.ret1 rfl rfl  ⟨rfl,rfl,rfl⟩
theorem pot_c {V : Vw} {r : Rul} {l : Le} {now want : Int}  : Does Tryz.prog 103 [.agg #[.int .i64 r.id,.int .i64 r.lead,.int .i64 r.guard],.agg #[.int .u32 l.addr,.int .i64 l.bind,.string l.client,.int .i64 l.till,.int .i64 l.acked,.int .i64 l.told,.int .i64 l.at_,.int .i64 l.ver],.int .i64 now,.int .i64 want] V [] (Pv (.int .i64 (Rul.potential l now want)) V []) := by
 refine Does.intro Tryz.func103 rfl rfl (le rfl) (fun B => ?_)
 refine Zs<|Zr<|?_
 refine Run.box rfl (lt rfl) (fun b1 => ?_)
 refine Run.box rfl (lt rfl) (fun b2 => ?_)
 refine Za Z<|Ze<|Zg<|Zs<|Tr.anyD [(b2,.cells #[.int .u32 l.addr,.int .i64 l.bind,.string l.client,.int .i64 l.till,.int .i64 l.acked,.int .i64 l.told,.int .i64 l.at_,.int .i64 l.ver] 43 (0,0))] xmo<|Zd 0 Z (fun _ => (Y.fieldAddr rfl xfo43_3))<|ZD 1 0 Z Z (fun _ => (Y.load rfl xts3 Kn.vk1 rfl))<|Zd 2 Z (fun _ => (Y.move rfl))<|Zd 3 Z (fun _ => (Y.move rfl))<|Zd 4 Z (fun _ => (Y.max2 rfl rfl))<|?_
 refine RunD.one (i := 5) WK rfl  ?_
 refine Yc Z Z Z (add_c_h (t := now) (d := max want 0))<|Ze<|Zf<|Zd 6 Z (fun _ => (Y.max2 rfl rfl))<|Zd 7 Z (fun _ => (Y.assign rfl))<|RunD.done WK<|Zg<|Zu<|Ex.keep []<|?_
 exact Ex.ret1 rfl rfl  ⟨rfl,rfl,rfl⟩
theorem is_c {n : Int} {V : Vw} : Does Tryz.prog 141 [.int .i64 n] V [] (Pv (.bool (decide (0 <= n /\ n < 9))) V []) := by
 refine Does.intro Tryz.func141 rfl rfl (le rfl) (fun B => ?_)
 refine Zs<|Zr<|Za Z<|Ze<|Zg<|Zs<|Zr<|Zm Z<|Zv (Y.int Z Z Z)<|Zm Z<|?_
 refine Zq (decide (n >= 0)) (fun h1 g1 => ?_) fun h1 g1 => ?_
 ·refine Zp h1<|Zm Z<|Zp h1<|Zv (Y.int Z Z Z)<|Zv (Y.pick_t Z h1 Z)<|Za Z<|Ze<|Zg<|Zu<|?_
  exact Ex.ret1 rfl rfl  ⟨by first | (simp; omega) | simp_all | (simp_all; omega),rfl,rfl⟩
 refine Zo h1 Z<|Zo h1 Z<|Zv (Y.pick_f Z h1 Z)<|Za Z<|Ze<|Zg<|Zu<|?_
 exact Ex.ret1 rfl rfl  ⟨by first | (simp; omega) | simp_all | (simp_all; omega),rfl,rfl⟩
theorem glease_c {V : Vw} {r : Rul} {l : Le} {client : ByteArray} {now want : Int}  : Does Tryz.prog 102 [.agg #[.int .i64 r.id,.int .i64 r.lead,.int .i64 r.guard],.agg #[.int .u32 l.addr,.int .i64 l.bind,.string l.client,.int .i64 l.till,.int .i64 l.acked,.int .i64 l.told,.int .i64 l.at_,.int .i64 l.ver],.string client,.int .i64 now,.int .i64 want] V [] (Pv (.agg (r.lease l client now want).cells.toArray) V []) := by
 refine Does.intro Tryz.func102 rfl rfl (le rfl) (fun B => ?_)
 refine Zs<|Zr<|?_
 refine Run.box rfl (lt rfl) (fun b1 => ?_)
 refine Run.box rfl (lt rfl) (fun b2 => ?_)
 refine Run.alloc xzo43 (lt rfl) (fun b3 => ?_)
 refine Ze<|Zg<|Zs<|Zs<|Zr<|Zv (Y.fieldAddr Z xfo43_1)<|Zv (Y.load Z xts3 (Kn.at 1 Z) Z)<|Zv (Y.int Z Z Z)<|Zm Z<|?_
 refine Zq (l.bind != 2) (fun h4 g4 => ?_) fun h4 g4 => ?_
 ·refine Zo h4 Z<|Zo h4 Z<|Zo h4 Z<|Zo h4 Z<|Zv (Y.pick_t Z h4 Z)<|Ze<|Zg<|Tr.cond_t Z Z<|Zs<|Zr<|Zv (Y.fieldAddr Z xfo43_7)<|Zv (Y.load Z xts3 (Kn.at 1 Z) Z)<|Za Z<|Ze<|Zg<|Zs<|?_
  refine Zs<|Tr.anyD [(b1,.cells #[.int .i64 r.id,.int .i64 r.lead,.int .i64 r.guard] 58 (0,0)),(b2,.cells #[.int .u32 l.addr,.int .i64 l.bind,.string l.client,.int .i64 l.till,.int .i64 l.acked,.int .i64 l.told,.int .i64 l.at_,.int .i64 l.ver] 43 (0,0))] xmo<|Zd 0 Z (fun _ => (Y.fieldAddr rfl xfo43_1))<|ZD 1 1 Z Z (fun _ => (Y.load rfl xts3 Kn.vk1 rfl))<|ZD 2 0 Z Z (fun _ => (Y.loadAgg rfl xag58 Kn.vk1 rfl))<|?_
  refine RunD.one (i := 3) WK rfl  ?_
  refine Yc Z Z Z ((own_c (r := r)).frame)<|Ze<|Zf<|Zd 4 Z (fun _ => (Y.int rfl rfl rfl))<|RunD.done WK<|Zg<|?_
  refine Zq (l.bind != r.own) (fun h5 g5 => ?_) fun h5 g5 => ?_
  ·refine Tr.cond_t Z h5<|Zr<|Zm Z<|Yc Z Z Z (add_c_h (t := l.ver) (d := 1))<|Za Z<|Ze<|Zg<|Zr<|Zv (Y.fieldAddr Z xfo43_0)<|Zv (Y.load Z xts24 (Kn.at 1 Z) Z)<|Zm Z<|Zm Z<|Zv (Y.buildS (l := [(0,.tmp 31),(1,.const (.int .i64 2)),(2,.tmp 32),(7,.tmp 33)]) xzo43 xpl43 Z Z)<|Run.store (s := [(b2,.cells #[.int .u32 l.addr,.int .i64 2,.string client,.int .i64 0,.int .i64 0,.int .i64 0,.int .i64 0,.int .i64 (Ck.add l.ver 1)] 43 (0,0))]) Z Z xsz43 (i := 1) Z Z (le Z) Z Z<|?_
   refine Ze<|Zg<|Zs<|Tr.anyL [(b1,.cells #[.int .i64 r.id,.int .i64 r.lead,.int .i64 r.guard] 58 (0,0)),(b2,.cells #[.int .u32 l.addr,.int .i64 2,.string client,.int .i64 0,.int .i64 0,.int .i64 0,.int .i64 0,.int .i64 (Ck.add l.ver 1)] 43 (0,0))] 10 xmo<|Zh 0 Z (fun _ => (Y.fieldAddr rfl xfo43_3))<|ZH 1 1 Z Z (fun _ => (Y.load rfl xts3 Kn.vk1 rfl))<|ZH 2 0 Z Z (fun _ => (Y.loadAgg rfl xag58 Kn.vk1 rfl))<|?_
   refine Zh 3 Z (fun _ => (Y.move rfl))<|Zh 4 Z (fun _ => (Y.move rfl))<|Zh 5 Z (fun _ => (Y.fieldAddr rfl xfo43_4))<|ZH 6 1 Z Z (fun _ => (Y.load rfl xts3 Kn.vk1 rfl))<|?_
   refine RunL.one (i := 7) WK rfl  ?_
   refine Yc Z Z Z ((until_c (r := r) (now := now) (want := want) (acked := 0)).frame)<|Ze<|ZF<|Zh 8 Z (fun _ => (Y.max2 rfl rfl))<|Zh 9 Z (fun _ => (Y.fieldAddr rfl xfo43_3))<|?_
   refine RunL.one (i := 10) WK rfl  ?_
   refine Run.store (s := [(b2,.cells #[.int .u32 l.addr,.int .i64 2,.string client,.int .i64 (max 0 (r.until_ now want 0)),.int .i64 0,.int .i64 0,.int .i64 0,.int .i64 (Ck.add l.ver 1)] 43 (0,0))]) Z Z xsz3 (i := 1) Z Z (le Z) Z Z<|Ze<|Ex.anyLz Z<|RunL.done WK<|Zg<|Zs<|Zr<|Zm Z<|?_
   refine Run.buildSlice (l := [(0,.tmp 45)]) xes148 xzo3 rfl WD rfl rfl WD (lt rfl) (fun b6 => ?_)
   refine Yc Z Z Z (latest_c (l := [now]) (Rd.one (Kn.at 0 Z) Z) (Nat.le_of_ble_eq_true Z))<|Zv (Y.fieldAddr Z xfo43_6)<|Run.store (s := [(b2,.cells #[.int .u32 l.addr,.int .i64 2,.string client,.int .i64 (max 0 (r.until_ now want 0)),.int .i64 0,.int .i64 0,.int .i64 (Rul.latest [now]),.int .i64 (Ck.add l.ver 1)] 43 (0,0))]) Z Z xsz3 (i := 2) Z Z (le Z) Z Z<|Ze<|Zg<|Zs<|Zr<|Zv (Y.loadAgg Z xag43 (Kn.at 2 Z) Z)<|?_
   refine Run.store (s := [(b3,.cells #[.int .u32 l.addr,.int .i64 2,.string client,.int .i64 (max 0 (r.until_ now want 0)),.int .i64 0,.int .i64 0,.int .i64 (Rul.latest [now]),.int .i64 (Ck.add l.ver 1)] 43 (0,0))]) Z Z xsz43 (i := 1) Z Z (le Z) Z Z<|Ze<|Zg<|Zu<|?_
   exact Ex.retCell [] rfl rfl xag43 (Kn.at 1 rfl) rfl ⟨congrArg Value.agg (by rw [Rul.lease_new (.inl W),if_pos W] <;> rfl),rfl,rfl⟩
  refine Tr.cond_f Z h5<|Zt<|Zg<|Zr<|Zv (Y.fieldAddr Z xfo43_0)<|Zv (Y.load Z xts24 (Kn.at 1 Z) Z)<|Zm Z<|Zm Z<|Zv (Y.buildS (l := [(0,.tmp 31),(1,.const (.int .i64 2)),(2,.tmp 32),(7,.tmp 33)]) xzo43 xpl43 Z Z)<|Run.store (s := [(b2,.cells #[.int .u32 l.addr,.int .i64 2,.string client,.int .i64 0,.int .i64 0,.int .i64 0,.int .i64 0,.int .i64 l.ver] 43 (0,0))]) Z Z xsz43 (i := 1) Z Z (le Z) Z Z<|?_
  refine Ze<|Zg<|Zs<|Tr.anyL [(b1,.cells #[.int .i64 r.id,.int .i64 r.lead,.int .i64 r.guard] 58 (0,0)),(b2,.cells #[.int .u32 l.addr,.int .i64 2,.string client,.int .i64 0,.int .i64 0,.int .i64 0,.int .i64 0,.int .i64 l.ver] 43 (0,0))] 10 xmo<|Zh 0 Z (fun _ => (Y.fieldAddr rfl xfo43_3))<|ZH 1 1 Z Z (fun _ => (Y.load rfl xts3 Kn.vk1 rfl))<|ZH 2 0 Z Z (fun _ => (Y.loadAgg rfl xag58 Kn.vk1 rfl))<|?_
  refine Zh 3 Z (fun _ => (Y.move rfl))<|Zh 4 Z (fun _ => (Y.move rfl))<|Zh 5 Z (fun _ => (Y.fieldAddr rfl xfo43_4))<|ZH 6 1 Z Z (fun _ => (Y.load rfl xts3 Kn.vk1 rfl))<|?_
  refine RunL.one (i := 7) WK rfl  ?_
  refine Yc Z Z Z ((until_c (r := r) (now := now) (want := want) (acked := 0)).frame)<|Ze<|ZF<|Zh 8 Z (fun _ => (Y.max2 rfl rfl))<|Zh 9 Z (fun _ => (Y.fieldAddr rfl xfo43_3))<|?_
  refine RunL.one (i := 10) WK rfl  ?_
  refine Run.store (s := [(b2,.cells #[.int .u32 l.addr,.int .i64 2,.string client,.int .i64 (max 0 (r.until_ now want 0)),.int .i64 0,.int .i64 0,.int .i64 0,.int .i64 l.ver] 43 (0,0))]) Z Z xsz3 (i := 1) Z Z (le Z) Z Z<|Ze<|Ex.anyLz Z<|RunL.done WK<|Zg<|Zs<|Zr<|Zm Z<|?_
  refine Run.buildSlice (l := [(0,.tmp 45)]) xes148 xzo3 rfl WD rfl rfl WD (lt rfl) (fun b7 => ?_)
  refine Yc Z Z Z (latest_c (l := [now]) (Rd.one (Kn.at 0 Z) Z) (Nat.le_of_ble_eq_true Z))<|Zv (Y.fieldAddr Z xfo43_6)<|Run.store (s := [(b2,.cells #[.int .u32 l.addr,.int .i64 2,.string client,.int .i64 (max 0 (r.until_ now want 0)),.int .i64 0,.int .i64 0,.int .i64 (Rul.latest [now]),.int .i64 l.ver] 43 (0,0))]) Z Z xsz3 (i := 2) Z Z (le Z) Z Z<|Ze<|Zg<|Zs<|Zr<|Zv (Y.loadAgg Z xag43 (Kn.at 2 Z) Z)<|?_
  refine Run.store (s := [(b3,.cells #[.int .u32 l.addr,.int .i64 2,.string client,.int .i64 (max 0 (r.until_ now want 0)),.int .i64 0,.int .i64 0,.int .i64 (Rul.latest [now]),.int .i64 l.ver] 43 (0,0))]) Z Z xsz43 (i := 1) Z Z (le Z) Z Z<|Ze<|Zg<|Zu<|?_
  exact Ex.retCell [] rfl rfl xag43 (Kn.at 1 rfl) rfl ⟨congrArg Value.agg (by rw [Rul.lease_new (.inl W),if_neg W] <;> rfl),rfl,rfl⟩
 refine Zp h4<|Zv (Y.fieldAddr Z xfo43_2)<|Zp h4<|Zv (Y.load Z xts9 (Kn.at 1 Z) Z)<|Zp h4<|Zm Z<|Zp h4<|Zv (Y.neStr Z Z)<|Zv (Y.pick_f Z h4 Z)<|Ze<|Zg<|?_
 refine Zq (l.client.toList == client.toList) (fun h8 g8 => ?_) fun h8 g8 => ?_
 ·refine Tr.cond_f Z (congrArg Bool.not h8)<|Zt<|Zg<|Zs<|Tr.anyL [(b1,.cells #[.int .i64 r.id,.int .i64 r.lead,.int .i64 r.guard] 58 (0,0)),(b2,.cells #[.int .u32 l.addr,.int .i64 l.bind,.string l.client,.int .i64 l.till,.int .i64 l.acked,.int .i64 l.told,.int .i64 l.at_,.int .i64 l.ver] 43 (0,0))] 10 xmo<|Zh 0 Z (fun _ => (Y.fieldAddr rfl xfo43_3))<|ZH 1 1 Z Z (fun _ => (Y.load rfl xts3 Kn.vk1 rfl))<|?_
  refine ZH 2 0 Z Z (fun _ => (Y.loadAgg rfl xag58 Kn.vk1 rfl))<|Zh 3 Z (fun _ => (Y.move rfl))<|Zh 4 Z (fun _ => (Y.move rfl))<|Zh 5 Z (fun _ => (Y.fieldAddr rfl xfo43_4))<|ZH 6 1 Z Z (fun _ => (Y.load rfl xts3 Kn.vk1 rfl))<|?_
  refine RunL.one (i := 7) WK rfl  ?_
  refine Yc Z Z Z ((until_c (r := r) (now := now) (want := want) (acked := l.acked)).frame)<|Ze<|ZF<|Zh 8 Z (fun _ => (Y.max2 rfl rfl))<|Zh 9 Z (fun _ => (Y.fieldAddr rfl xfo43_3))<|?_
  refine RunL.one (i := 10) WK rfl  ?_
  refine Run.store (s := [(b2,.cells #[.int .u32 l.addr,.int .i64 l.bind,.string l.client,.int .i64 (max l.till (r.until_ now want l.acked)),.int .i64 l.acked,.int .i64 l.told,.int .i64 l.at_,.int .i64 l.ver] 43 (0,0))]) Z Z xsz3 (i := 1) Z Z (le Z) Z Z<|Ze<|Ex.anyLz Z<|RunL.done WK<|Zg<|Zs<|Zr<|Zm Z<|?_
  refine Run.buildSlice (l := [(0,.tmp 45)]) xes148 xzo3 rfl WD rfl rfl WD (lt rfl) (fun b9 => ?_)
  refine Yc Z Z Z (latest_c (l := [now]) (Rd.one (Kn.at 0 Z) Z) (Nat.le_of_ble_eq_true Z))<|Zv (Y.fieldAddr Z xfo43_6)<|Run.store (s := [(b2,.cells #[.int .u32 l.addr,.int .i64 l.bind,.string l.client,.int .i64 (max l.till (r.until_ now want l.acked)),.int .i64 l.acked,.int .i64 l.told,.int .i64 (Rul.latest [now]),.int .i64 l.ver] 43 (0,0))]) Z Z xsz3 (i := 2) Z Z (le Z) Z Z<|Ze<|Zg<|Zs<|Zr<|Zv (Y.loadAgg Z xag43 (Kn.at 2 Z) Z)<|?_
  refine Run.store (s := [(b3,.cells #[.int .u32 l.addr,.int .i64 l.bind,.string l.client,.int .i64 (max l.till (r.until_ now want l.acked)),.int .i64 l.acked,.int .i64 l.told,.int .i64 (Rul.latest [now]),.int .i64 l.ver] 43 (0,0))]) Z Z xsz43 (i := 1) Z Z (le Z) Z Z<|Ze<|Zg<|Zu<|?_
  exact Ex.retCell [] rfl rfl xag43 (Kn.at 1 rfl) rfl ⟨congrArg Value.agg (by rw [Rul.lease_same W h8] <;> rfl),rfl,rfl⟩
 refine Tr.cond_t Z (congrArg Bool.not h8)<|Zs<|Zr<|Zv (Y.fieldAddr Z xfo43_7)<|Zv (Y.load Z xts3 (Kn.at 1 Z) Z)<|Za Z<|Ze<|Zg<|Zs<|Zs<|Tr.anyD [(b1,.cells #[.int .i64 r.id,.int .i64 r.lead,.int .i64 r.guard] 58 (0,0)),(b2,.cells #[.int .u32 l.addr,.int .i64 l.bind,.string l.client,.int .i64 l.till,.int .i64 l.acked,.int .i64 l.told,.int .i64 l.at_,.int .i64 l.ver] 43 (0,0))] xmo<|Zd 0 Z (fun _ => (Y.fieldAddr rfl xfo43_1))<|?_
 refine ZD 1 1 Z Z (fun _ => (Y.load rfl xts3 Kn.vk1 rfl))<|ZD 2 0 Z Z (fun _ => (Y.loadAgg rfl xag58 Kn.vk1 rfl))<|?_
 refine RunD.one (i := 3) WK rfl  ?_
 refine Yc Z Z Z ((own_c (r := r)).frame)<|Ze<|Zf<|Zd 4 Z (fun _ => (Y.int rfl rfl rfl))<|RunD.done WK<|Zg<|?_
 refine Zq (l.bind != r.own) (fun h10 g10 => ?_) fun h10 g10 => ?_
 ·refine Tr.cond_t Z h10<|Zr<|Zm Z<|Yc Z Z Z (add_c_h (t := l.ver) (d := 1))<|Za Z<|Ze<|Zg<|Zr<|Zv (Y.fieldAddr Z xfo43_0)<|Zv (Y.load Z xts24 (Kn.at 1 Z) Z)<|Zm Z<|Zm Z<|Zv (Y.buildS (l := [(0,.tmp 31),(1,.const (.int .i64 2)),(2,.tmp 32),(7,.tmp 33)]) xzo43 xpl43 Z Z)<|Run.store (s := [(b2,.cells #[.int .u32 l.addr,.int .i64 2,.string client,.int .i64 0,.int .i64 0,.int .i64 0,.int .i64 0,.int .i64 (Ck.add l.ver 1)] 43 (0,0))]) Z Z xsz43 (i := 1) Z Z (le Z) Z Z<|?_
  refine Ze<|Zg<|Zs<|Tr.anyL [(b1,.cells #[.int .i64 r.id,.int .i64 r.lead,.int .i64 r.guard] 58 (0,0)),(b2,.cells #[.int .u32 l.addr,.int .i64 2,.string client,.int .i64 0,.int .i64 0,.int .i64 0,.int .i64 0,.int .i64 (Ck.add l.ver 1)] 43 (0,0))] 10 xmo<|Zh 0 Z (fun _ => (Y.fieldAddr rfl xfo43_3))<|ZH 1 1 Z Z (fun _ => (Y.load rfl xts3 Kn.vk1 rfl))<|ZH 2 0 Z Z (fun _ => (Y.loadAgg rfl xag58 Kn.vk1 rfl))<|?_
  refine Zh 3 Z (fun _ => (Y.move rfl))<|Zh 4 Z (fun _ => (Y.move rfl))<|Zh 5 Z (fun _ => (Y.fieldAddr rfl xfo43_4))<|ZH 6 1 Z Z (fun _ => (Y.load rfl xts3 Kn.vk1 rfl))<|?_
  refine RunL.one (i := 7) WK rfl  ?_
  refine Yc Z Z Z ((until_c (r := r) (now := now) (want := want) (acked := 0)).frame)<|Ze<|ZF<|Zh 8 Z (fun _ => (Y.max2 rfl rfl))<|Zh 9 Z (fun _ => (Y.fieldAddr rfl xfo43_3))<|?_
  refine RunL.one (i := 10) WK rfl  ?_
  refine Run.store (s := [(b2,.cells #[.int .u32 l.addr,.int .i64 2,.string client,.int .i64 (max 0 (r.until_ now want 0)),.int .i64 0,.int .i64 0,.int .i64 0,.int .i64 (Ck.add l.ver 1)] 43 (0,0))]) Z Z xsz3 (i := 1) Z Z (le Z) Z Z<|Ze<|Ex.anyLz Z<|RunL.done WK<|Zg<|Zs<|Zr<|Zm Z<|?_
  refine Run.buildSlice (l := [(0,.tmp 45)]) xes148 xzo3 rfl WD rfl rfl WD (lt rfl) (fun b11 => ?_)
  refine Yc Z Z Z (latest_c (l := [now]) (Rd.one (Kn.at 0 Z) Z) (Nat.le_of_ble_eq_true Z))<|Zv (Y.fieldAddr Z xfo43_6)<|Run.store (s := [(b2,.cells #[.int .u32 l.addr,.int .i64 2,.string client,.int .i64 (max 0 (r.until_ now want 0)),.int .i64 0,.int .i64 0,.int .i64 (Rul.latest [now]),.int .i64 (Ck.add l.ver 1)] 43 (0,0))]) Z Z xsz3 (i := 2) Z Z (le Z) Z Z<|Ze<|Zg<|Zs<|Zr<|Zv (Y.loadAgg Z xag43 (Kn.at 2 Z) Z)<|?_
  refine Run.store (s := [(b3,.cells #[.int .u32 l.addr,.int .i64 2,.string client,.int .i64 (max 0 (r.until_ now want 0)),.int .i64 0,.int .i64 0,.int .i64 (Rul.latest [now]),.int .i64 (Ck.add l.ver 1)] 43 (0,0))]) Z Z xsz43 (i := 1) Z Z (le Z) Z Z<|Ze<|Zg<|Zu<|?_
  exact Ex.retCell [] rfl rfl xag43 (Kn.at 1 rfl) rfl ⟨congrArg Value.agg (by rw [Rul.lease_new (.inr h8),if_pos W] <;> rfl),rfl,rfl⟩
 refine Tr.cond_f Z h10<|Zt<|Zg<|Zr<|Zv (Y.fieldAddr Z xfo43_0)<|Zv (Y.load Z xts24 (Kn.at 1 Z) Z)<|Zm Z<|Zm Z<|Zv (Y.buildS (l := [(0,.tmp 31),(1,.const (.int .i64 2)),(2,.tmp 32),(7,.tmp 33)]) xzo43 xpl43 Z Z)<|Run.store (s := [(b2,.cells #[.int .u32 l.addr,.int .i64 2,.string client,.int .i64 0,.int .i64 0,.int .i64 0,.int .i64 0,.int .i64 l.ver] 43 (0,0))]) Z Z xsz43 (i := 1) Z Z (le Z) Z Z<|?_
 refine Ze<|Zg<|Zs<|Tr.anyL [(b1,.cells #[.int .i64 r.id,.int .i64 r.lead,.int .i64 r.guard] 58 (0,0)),(b2,.cells #[.int .u32 l.addr,.int .i64 2,.string client,.int .i64 0,.int .i64 0,.int .i64 0,.int .i64 0,.int .i64 l.ver] 43 (0,0))] 10 xmo<|Zh 0 Z (fun _ => (Y.fieldAddr rfl xfo43_3))<|ZH 1 1 Z Z (fun _ => (Y.load rfl xts3 Kn.vk1 rfl))<|ZH 2 0 Z Z (fun _ => (Y.loadAgg rfl xag58 Kn.vk1 rfl))<|?_
 refine Zh 3 Z (fun _ => (Y.move rfl))<|Zh 4 Z (fun _ => (Y.move rfl))<|Zh 5 Z (fun _ => (Y.fieldAddr rfl xfo43_4))<|ZH 6 1 Z Z (fun _ => (Y.load rfl xts3 Kn.vk1 rfl))<|?_
 refine RunL.one (i := 7) WK rfl  ?_
 refine Yc Z Z Z ((until_c (r := r) (now := now) (want := want) (acked := 0)).frame)<|Ze<|ZF<|Zh 8 Z (fun _ => (Y.max2 rfl rfl))<|Zh 9 Z (fun _ => (Y.fieldAddr rfl xfo43_3))<|?_
 refine RunL.one (i := 10) WK rfl  ?_
 refine Run.store (s := [(b2,.cells #[.int .u32 l.addr,.int .i64 2,.string client,.int .i64 (max 0 (r.until_ now want 0)),.int .i64 0,.int .i64 0,.int .i64 0,.int .i64 l.ver] 43 (0,0))]) Z Z xsz3 (i := 1) Z Z (le Z) Z Z<|Ze<|Ex.anyLz Z<|RunL.done WK<|Zg<|Zs<|Zr<|Zm Z<|?_
 refine Run.buildSlice (l := [(0,.tmp 45)]) xes148 xzo3 rfl WD rfl rfl WD (lt rfl) (fun b12 => ?_)
 refine Yc Z Z Z (latest_c (l := [now]) (Rd.one (Kn.at 0 Z) Z) (Nat.le_of_ble_eq_true Z))<|Zv (Y.fieldAddr Z xfo43_6)<|Run.store (s := [(b2,.cells #[.int .u32 l.addr,.int .i64 2,.string client,.int .i64 (max 0 (r.until_ now want 0)),.int .i64 0,.int .i64 0,.int .i64 (Rul.latest [now]),.int .i64 l.ver] 43 (0,0))]) Z Z xsz3 (i := 2) Z Z (le Z) Z Z<|Ze<|Zg<|Zs<|Zr<|Zv (Y.loadAgg Z xag43 (Kn.at 2 Z) Z)<|?_
 refine Run.store (s := [(b3,.cells #[.int .u32 l.addr,.int .i64 2,.string client,.int .i64 (max 0 (r.until_ now want 0)),.int .i64 0,.int .i64 0,.int .i64 (Rul.latest [now]),.int .i64 l.ver] 43 (0,0))]) Z Z xsz43 (i := 1) Z Z (le Z) Z Z<|Ze<|Zg<|Zu<|?_
 exact Ex.retCell [] rfl rfl xag43 (Kn.at 1 rfl) rfl ⟨congrArg Value.agg (by rw [Rul.lease_new (.inr h8),if_neg W] <;> rfl),rfl,rfl⟩
theorem in14_c {V : Vw} {n : Int}  : Does Tryz.prog 90 [.int .i64 n,.int .i64 14] V [] (Pv (.bool (Rul.serves n)) V []) := by
 refine Does.intro Tryz.func90 rfl rfl (le rfl) (fun B => ?_)
 refine Zs<|Zr<|Za Z<|Ze<|Zg<|Zs<|Zr<|Zm Z<|Zv (Y.int (r := .bool false) Z Z Z)<|Zm Z<|Zp Z<|Zm Z<|Zp Z<|Yc Z Z Z ((is_c (n := n)).frame)<|Zp Z<|Zm Z<|?_
 refine Zq (decide (0 <= n /\ n < 9)) (fun h1 g1 => ?_) fun h1 g1 => ?_
 ·refine Zp h1<|Zm Z<|Zp h1<|Zm Z<|Zp h1<|Zv (Y.shr (Rul.sh14 n) rfl rfl W rfl)<|Zp h1<|Zv (Y.int (r := .int .i64 ((Rul.sh14 n) % 2)) rfl rfl (by simp only [intRes]; rw [and_low2 (Rul.sh14 n) 1 2 1 WD rfl rfl]))<|Zp h1<|Zv (Y.int Z Z Z)<|Zp Z<|Zv (Y.pick_t Z h1 Z)<|Zv (Y.pick_f Z Z Z)<|Za Z<|Ze<|Zg<|?_
  refine Zu<|Ex.keep []<|?_
  exact Ex.ret1 rfl rfl  ⟨congrArg Value.bool (Rul.serves_in (of_decide_eq_true h1)),rfl,rfl⟩
 refine Zo h1 Z<|Zo h1 Z<|Zo h1 Z<|Zo h1 Z<|Zo h1 Z<|Zp Z<|Zv (Y.pick_f Z h1 Z)<|Zv (Y.pick_f Z Z Z)<|Za Z<|Ze<|Zg<|Zu<|Ex.keep []<|?_
 exact Ex.ret1 rfl rfl  ⟨congrArg Value.bool (Rul.serves_out (of_decide_eq_false h1)),rfl,rfl⟩
theorem serves_c {V : Vw} {n : Int}  : Does Tryz.prog 37 [.int .i64 n] V [] (Pv (.bool (Rul.serves n)) V []) := by
 refine Does.intro Tryz.func37 rfl rfl (le rfl) (fun B => ?_)
 refine Zs<|Zr<|Za Z<|Ze<|Zg<|Zs<|Zr<|Zm Z<|Yc Z Z Z ((in14_c (n := n)).frame)<|Za Z<|Ze<|Zg<|Zu<|Ex.keep []<|?_
 exact Ex.ret1 rfl rfl  ⟨rfl,rfl,rfl⟩
theorem over_c {V : Vw} {l : Le}  : Does Tryz.prog 51 [.agg #[.int .u32 l.addr,.int .i64 l.bind,.string l.client,.int .i64 l.till,.int .i64 l.acked,.int .i64 l.told,.int .i64 l.at_,.int .i64 l.ver]] V [] (Pv (.int .i64 (max l.till l.told)) V []) := by
 refine Does.intro Tryz.func51 rfl rfl (le rfl) (fun B => ?_)
 refine Zs<|Zr<|?_
 refine Run.box rfl (lt rfl) (fun b1 => ?_)
 refine Za Z<|Ze<|Zg<|Zs<|Zr<|Zv (Y.fieldAddr Z xfo43_3)<|Zv (Y.load Z xts3 (Kn.at 0 Z) Z)<|Zv (Y.fieldAddr Z xfo43_5)<|Zv (Y.load Z xts3 (Kn.at 0 Z) Z)<|Zv (Y.max2 Z Z)<|Za Z<|Ze<|Zg<|Zu<|Ex.keep []<|?_
 exact Ex.ret1 rfl rfl  ⟨rfl,rfl,rfl⟩
theorem may_c {V : Vw} {r : Rul} {l : Le} {state now entry : Int}  : Does Tryz.prog 19 [.agg #[.int .i64 r.id,.int .i64 r.lead,.int .i64 r.guard],.agg #[.int .u32 l.addr,.int .i64 l.bind,.string l.client,.int .i64 l.till,.int .i64 l.acked,.int .i64 l.told,.int .i64 l.at_,.int .i64 l.ver],.int .i64 state,.int .i64 now,.int .i64 entry] V [] (Pv (.bool (r.may l state now entry)) V []) := by
 refine Does.intro Tryz.func19 rfl rfl (le rfl) (fun B => ?_)
 refine Zs<|Zr<|?_
 refine Run.box rfl (lt rfl) (fun b1 => ?_)
 refine Run.box rfl (lt rfl) (fun b2 => ?_)
 refine Za Z<|Ze<|Zg<|Zs<|Zb<|Zs<|Zr<|Zm Z<|Yc Z Z Z ((serves_c (n := state)).frame)<|Zv (Y.not Z)<|Za Z<|Ze<|Zg<|?_
 refine Zq (Rul.serves state) (fun h3 g3 => ?_) fun h3 g3 => ?_
 ·refine Tr.cond_f Z (congrArg Bool.not h3)<|Zs<|Tr.anyD [(b1,.cells #[.int .i64 r.id,.int .i64 r.lead,.int .i64 r.guard] 58 (0,0)),(b2,.cells #[.int .u32 l.addr,.int .i64 l.bind,.string l.client,.int .i64 l.till,.int .i64 l.acked,.int .i64 l.told,.int .i64 l.at_,.int .i64 l.ver] 43 (0,0))] xmo<|Zd 0 Z (fun _ => (Y.fieldAddr rfl xfo43_1))<|ZD 1 1 Z Z (fun _ => (Y.load rfl xts3 Kn.vk1 rfl))<|?_
  refine ZD 2 0 Z Z (fun _ => (Y.loadAgg rfl xag58 Kn.vk1 rfl)) ?_
  refine RunD.one (i := 3) WK rfl  ?_
  refine Yc Z Z Z ((own_c (r := r)).frame)<|Ze<|Zf<|Zd 4 Z (fun _ => (Y.int rfl rfl rfl))<|Zd 5 Z (fun _ => (Y.assign rfl))<|RunD.done WK<|Zg<|?_
  refine Zq (l.bind == r.own) (fun h4 g4 => ?_) fun h4 g4 => ?_
  ·refine Tr.cond_t Z h4<|Zs<|Zr<|Za Z<|Ze<|Zg<|Zu<|Zk<|Zn<|Ex.keep []<|?_
   exact Ex.ret1 rfl rfl  ⟨congrArg Value.bool (Rul.may_own h3 W).symm,rfl,rfl⟩
  refine Tr.cond_f Z h4<|Zs<|Zr<|Zm Z<|Zv (Y.int Z Z Z)<|Zm Z<|?_
  refine Zq (state != 3) (fun h5 g5 => ?_) fun h5 g5 => ?_
  ·refine Zo h5 Z<|Zo h5 Z<|Zo h5 Z<|Zv (Y.pick_t Z h5 Z)<|Za Z<|Ze<|Zg<|Tr.cond_t Z Z<|Zs<|Zr<|Za Z<|Ze<|Zg<|Zu<|Zk<|Zn<|?_
   refine Ex.keep [] ?_
   exact Ex.ret1 rfl rfl  ⟨congrArg Value.bool (Rul.may_nor h3 W W).symm,rfl,rfl⟩
  refine Zp h5<|Zv (Y.fieldAddr Z xfo43_1)<|Zp h5<|Zv (Y.load Z xts3 (Kn.at 0 Z) Z)<|Zp h5<|Zv (Y.int Z Z Z)<|Zv (Y.pick_f Z h5 Z)<|Za Z<|Ze<|Zg<|?_
  refine Zq (l.bind == 5) (fun h6 g6 => ?_) fun h6 g6 => ?_
  ·refine Tr.cond_t Z h6<|Zs<|Zr<|Za Z<|Ze<|Zg<|Zu<|Zk<|Zn<|Ex.keep []<|?_
   exact Ex.ret1 rfl rfl  ⟨congrArg Value.bool (Rul.may_nor h3 W W).symm,rfl,rfl⟩
  refine Tr.cond_f Z h6<|Zt<|Zc<|Zg<|Zs<|Zr<|Zv (Y.fieldAddr Z xfo58_1)<|Zv (Y.load Z xts3 (Kn.at 1 Z) Z)<|Zv (Y.max2 Z Z)<|Zv (Y.fieldAddr Z xfo58_2)<|Zv (Y.load Z xts3 (Kn.at 1 Z) Z)<|Zv (Y.max2 Z Z)<|Yc Z Z Z (add_c_h (t := max r.lead 0) (d := max r.guard 0))<|Za Z<|Ze<|Zg<|?_
  refine Zs<|Zr<|Zm Z<|Zm Z<|Zv (Y.loadAgg Z xag43 (Kn.at 0 Z) Z)<|Yc Z Z Z ((over_c (l := l)).frame)<|?_
  refine Run.buildSlice (l := [(0,.tmp 38),(1,.tmp 40)]) xes148 xzo3 rfl WD rfl rfl WD (lt rfl) (fun b7 => ?_)
  refine Yc Z Z Z (latest_c (l := [entry,max l.till l.told]) (Rd.one (Kn.at 0 Z) Z) (Nat.le_of_ble_eq_true Z))<|Zm Z<|Yc Z Z Z (past_c_h (now := now) (til := Rul.latest [entry,max l.till l.told]) (grd := Ck.add (max r.lead 0) (max r.guard 0)))<|Za Z<|Ze<|Zg<|Zu<|Ex.keep []<|?_
  exact Ex.ret1 rfl rfl  ⟨congrArg Value.bool (Rul.may_past h3 W W).symm,rfl,rfl⟩
 refine Tr.cond_t Z (congrArg Bool.not h3)<|Zs<|Zr<|Za Z<|Ze<|Zg<|Zu<|Zk<|Zn<|Ex.keep []<|?_
 exact Ex.ret1 rfl rfl  ⟨congrArg Value.bool (Rul.may_no h3).symm,rfl,rfl⟩
end Go.Proofs.YtfgblingojgafaaGreat
namespace Go.Proofs.YtfgblingojgafaaGreat
open Go Go.K
attribute [local irreducible] Code.wp wpList Calls wpQuiet
theorem first_c6 {V : Vw} {n : Int}  : Does Tryz.prog 142 [.int .i64 n] V [] (Pv (.agg (Bk.mks (Bk.fr n)).toArray) V []) := by
 refine Does.intro Tryz.func142 rfl rfl (le rfl) (fun B => ?_)
 refine Zs<|Zr<|?_
 refine Run.alloc xzm178 (lt rfl) (fun b1 => ?_)
 refine Run.heapTo (H' := [[(b1,.cells (Bk.mks fun _ => false).toArray 178 (0,0))]]) rfl<|Ze<|Zg<|Zs<|Zr<|?_
 refine Run.alloc xzm178 (lt rfl) (fun b2 => ?_)
 rw [show Value.cells (.agg (Bk.mks fun _ => false).toArray) = (Bk.mks (Bk.upto (Bk.fr n) 0)).toArray from by rw [Bk.upto_zero]; rfl]
 refine Ze<|Zg<|Zs<|Zs<|Zr<|Zm Z<|Zv (Y.max2 Z Z)<|Zv (Y.min2 Z Z)<|Zm Z<|Ze<|Zg<|Zb<|?_
 refine ZL (X := Nat) (fun z0 => V) (fun z0 => [[(b2,.cells (Bk.mks (Bk.upto (Bk.fr n) z0)).toArray 178 (0,0))],[(b1,.cells (Bk.mks fun _ => false).toArray 178 (0,0))]]) (fun z0 => [(2,(pZ b1)),(3,(pZ b2)),(7,.int .i64 (min (max n 0) 256)),(8,.int .i64 ((z0 : Nat) : Int))]) (fun z0 => (z0 : Int) <= min (max n 0) 256) (fun z0 => 256 - z0) (0 : Nat) (by show (0 : Int) <= _; omega) ?_
 rintro i1 hi
 refine Zs<|Zr<|Zv (Y.int Z Z Z)<|Ze<|Zg<|Zs<|?_
 refine Zq (decide (((i1 : Nat) : Int) < (min (max n 0) 256))) (fun h3 g3 => ?_) fun h3 g3 => ?_
 ·refine Tr.cond_t Z h3<|Zt<|Zg<|Zs<|Zb<|Zs<|Zr<|Zm Z<|Za Z<|Ze<|Zg<|Tr.anyL [(b2,.cells (Bk.mks (Bk.upto (Bk.fr n) i1)).toArray 178 (0,0))] 9 xmo<|Zh 0 Z (fun _ => (Y.move rfl))<|Zh 1 Z (fun _ => (Y.quo (((i1 / 8 : Nat) : Int)) rfl rfl WD (tdivN _ 8 rfl W)))<|Zh 2 Z (fun _ => (Y.idxArr rfl rfl xal178 W W))<|ZH 3 0 Z Z (fun _ => (Y.ldA1 (i1 / 8) rfl rfl xts5 Kn.vk1 (Bk.mks_at _ W)))<|?_
  refine Zh 4 Z (fun _ => (Y.move rfl))<|Zh 5 Z (fun _ => (Y.rem (((i1 % 8 : Nat) : Int)) rfl rfl WD (tmodN _ 8 rfl)))<|Zh 6 Z (fun _ => (Y.shl (((2 ^ (i1 % 8) : Nat) : Int)) rfl rfl W (shl1_u8 (Nat.mod_lt _ WD))))<|Zh 7 Z (fun _ => (Y.int (r := .int .u8 (((Bk.byte (Bk.upto (Bk.fr n) i1) (i1 / 8) + Bk.w2 ((Bk.fr n) i1) (2 ^ (i1 % 8)) : Nat) : Int))) rfl rfl (by simp only [intRes]; rw [or_u8 (Bk.byte_lt _ _) (Bk.pow_lt _),Bk.or_put (Bk.fr_in W)])))<|?_
  refine Zh 8 Z (fun _ => (Y.idxArr rfl rfl xal178 W W)) ?_
  refine RunL.one (i := 9) WK rfl  ?_
  refine Run.stA1 (j := 0) (i1 / 8) rfl rfl rfl xsz5 rfl rfl rfl (by rw [Bk.mks_len]; omega) (Bk.mks_set _ W)<|Run.heapTo (H' := [[(b2,.cells (Bk.mks (Bk.upto (Bk.fr n) (i1 + 1))).toArray 178 (0,0))],[(b1,.cells (Bk.mks fun _ => false).toArray 178 (0,0))]]) rfl<|Ze<|Ex.anyLz Z<|RunL.done WK<|Zc<|Zg<|Zr<|Zv (Y.add Z Z W)<|Zm Z<|Ze<|Ex.keep [0,0]<|?_
  exact ZR (i1 + 1 : Nat) W W
 refine Tr.cond_f Z h3<|Zx<|Zy<|Zy<|Zi<|Zg<|Zs<|Zr<|Zv (Y.ldAll Z xag178 (Kn.at 0 rfl) (by first | exact Bk.mks_len _ | exact Bk.ins_len _ | exact Bk.nots_len _ _))<|Run.stAll (j := 1) Z Z xsz178 Z (Bk.mks_len _) (Bk.mks_len _) (Bk.one_mks _)<|Run.heapTo (H' := [[(b2,.cells (Bk.mks (Bk.upto (Bk.fr n) i1)).toArray 178 (0,0))],[(b1,.cells (Bk.mks (Bk.upto (Bk.fr n) i1)).toArray 178 (0,0))]]) Z<|Ze<|Zg<|Zu<|?_
 exact Ex.retCell [] rfl rfl xag178 (Kn.at 1 rfl) (cells_all (Bk.mks_len _)) ⟨congrArg (fun l : List Value => Value.agg l.toArray) (Bk.fr_all W),rfl,rfl⟩
theorem not_c6 {V : Vw} {f : Nat -> Bool}  : Does Tryz.prog 143 [.agg (Bk.mks f).toArray] V [] (Pv (.agg (Bk.mks (fun k => !f k)).toArray) V []) := by
 refine Does.intro Tryz.func143 rfl rfl (le rfl) (fun B => ?_)
 refine Zs<|Zr<|?_
 refine Run.box rfl (lt rfl) (fun b1 => ?_)
 refine Run.heapTo (H' := [[(b1,.cells (Bk.mks f).toArray 178 (0,0))]]) Z ?_
 rw [<- Bk.nots_zero f]
 refine Run.alloc xzm178 (lt rfl) (fun b2 => ?_)
 refine Run.heapTo (H' := [[(b2,.cells (Bk.mks fun _ => false).toArray 178 (0,0))],[(b1,.cells (Bk.nots f 0).toArray 178 (0,0))]]) rfl<|Ze<|Zg<|Zs<|Zs<|Zr<|Zm Z<|Ze<|Zg<|Zb<|?_
 refine ZL (X := Nat) (fun z0 => V) (fun z0 => [[(b2,.cells (Bk.mks fun _ => false).toArray 178 (0,0))],[(b1,.cells (Bk.nots f z0).toArray 178 (0,0))]]) (fun z0 => [(1,(pZ b1)),(2,(pZ b2)),(4,.int .i64 ((z0 : Nat) : Int))]) (fun z0 => z0 <= 32) (fun z0 => 32 - z0) (0 : Nat) (Nat.zero_le _) ?_
 rintro i1 hi
 refine Zs<|Zr<|Zv (Y.int Z Z Z)<|Ze<|Zg<|Zs<|?_
 refine Zq (decide (((i1 : Nat) : Int) < 32)) (fun h3 g3 => ?_) fun h3 g3 => ?_
 ·refine Tr.cond_t Z h3<|Zt<|Zg<|Zs<|Zb<|Zs<|Zr<|Zm Z<|Za Z<|Ze<|Zg<|Zr<|Zm Z<|Zm Z<|Zv (Y.idxArr Z Z xal178 W W)<|Zv (Y.ldA1 i1 Z Z xts5 (Kn.at 1 rfl) (Bk.nots_self f W))<|?_
  refine Zv (Y.xor8 Z (Bk.byte_lt _ _))<|Zv (Y.idxArr Z Z xal178 W W)<|Run.stA1 (j := 1) i1 rfl rfl rfl xsz5 rfl rfl rfl (by rw [Bk.nots_len]; omega) (Bk.nots_set f W)<|Run.heapTo (H' := [[(b2,.cells (Bk.mks fun _ => false).toArray 178 (0,0))],[(b1,.cells (Bk.nots f (i1 + 1)).toArray 178 (0,0))]]) rfl<|Ze<|Zc<|Zg<|Zr<|Zv (Y.add Z Z W)<|Zm Z<|Ze<|Ex.keep [0,0]<|?_
  exact ZR (i1 + 1 : Nat) W W
 refine Tr.cond_f Z h3<|Zx<|Zy<|Zy<|Zi<|Zg<|Zs<|Zr<|?_
 obtain rfl : i1 = 32 := by omega
 rw [Bk.nots_all]
 refine Zv (Y.ldAll Z xag178 (Kn.at 1 rfl) (by first | exact Bk.mks_len _ | exact Bk.ins_len _ | exact Bk.nots_len _ _))<|Run.stAll (j := 0) Z Z xsz178 Z (Bk.mks_len _) (Bk.mks_len _) (Bk.one_mks _)<|Run.heapTo (H' := [[(b2,.cells (Bk.mks fun k => !f k).toArray 178 (0,0))],[(b1,.cells (Bk.mks fun k => !f k).toArray 178 (0,0))]]) rfl<|Ze<|Zg<|Zu<|?_
 exact Ex.retCell [] rfl rfl xag178 (Kn.at 0 rfl) (cells_all (Bk.mks_len _)) ⟨rfl,rfl,rfl⟩
theorem has_c6 {V : Vw} {f : Nat -> Bool} {n : Nat} (hn : n < 256)  : Does Tryz.prog 144 [.agg (Bk.mks f).toArray,.int .i64 ((n : Nat) : Int)] V [] (Pv (.bool (f n)) V []) := by
 have hbl := Bk.byte_lt f (n / 8)
 have hbd := Nat.div_le_self (Bk.byte f (n / 8)) (2 ^ (n % 8))
 refine Does.intro Tryz.func144 rfl rfl (le rfl) (fun B => ?_)
 refine Zs<|Zr<|?_
 refine Run.box rfl (lt rfl) (fun b1 => ?_)
 refine Run.heapTo (H' := [[(b1,.cells (Bk.mks f).toArray 178 (0,0))]]) Z<|Za Z<|Ze<|Zg<|Zs<|Zr<|Zm Z<|Zv (Y.int Z Z Z)<|Zm Z<|?_
 refine Zq (decide (((n : Nat) : Int) >= 0)) (fun h2 g2 => ?_) fun h2 g2 => ?_
 ·refine Zp h2<|Zm Z<|Zp h2<|Zv (Y.int Z Z Z)<|Zv (Y.pick_t Z h2 Z)<|Zm Z<|?_
  refine Zq (decide (((n : Nat) : Int) < 256)) (fun h3 g3 => ?_) fun h3 g3 => ?_
  ·refine Zp h3<|Zm Z<|Zp h3<|Zv (Y.quo (((n / 8 : Nat) : Int)) rfl rfl WD (tdivN _ 8 rfl W))<|Zp h3<|Zv (Y.idxArr Z Z xal178 W W)<|Zp h3<|Zv (Y.ldA1 (n / 8) rfl rfl xts5 (Kn.at 0 rfl) (Bk.mks_at _ W))<|Zp h3<|Zm Z<|Zp h3<|Zv (Y.rem (((n % 8 : Nat) : Int)) rfl rfl WD (tmodN _ 8 rfl))<|Zp h3<|Zv (Y.shrN Z Z W (shr_pow (Nat.mod_lt _ WD)))<|Zp h3<|Zv (Y.int (r := .int .u8 (((Bk.byte f (n / 8) / 2 ^ (n % 8) % 2 : Nat) : Int))) rfl rfl (by simp only [intRes]; rw [and1_u8 W]))<|?_
   refine Zp h3<|Zv (Y.int Z Z Z)<|Zv (Y.pick_t Z h3 Z)<|Za Z<|Ze<|Zg<|Zu<|Ex.keep []<|?_
   exact Ex.ret1 rfl rfl  ⟨congrArg Value.bool (Bk.has_i f n),rfl,rfl⟩
  omega
 omega
end Go.Proofs.YtfgblingojgafaaGreat
namespace Go.Proofs.YtfgblingojgafaaGreat
open Go Go.K
attribute [local irreducible] Code.wp wpList Calls wpQuiet
theorem btab_c {V : Vw} {n : Nat} (hn : n < 256)  : Does Tryz.prog 170 [.int .u8 ((n : Nat) : Int)] V [] (Pv (.int .u8 ((Bk.tab n : Nat) : Int)) V []) := by
 refine Does.intro Tryz.func170 rfl rfl (le rfl) (fun B => ?_)
 refine Zs<|Zr<|Za Z<|Ze<|Zg<|Zs<|Zr<|Zm Z<|Zv (Y.int (r := .int .u8 (((n * 167 % 256 : Nat) : Int))) rfl rfl (by simp only [intRes]; rw [wrap_u8_mod]; exact congrArg (fun z => some (Value.int _ z)) W))<|Zv (Y.int (r := .int .u8 (((Bk.tab n : Nat) : Int))) rfl rfl (by simp only [intRes]; rw [wrap_u8_mod]; exact congrArg (fun z => some (Value.int _ z)) (by unfold Bk.tab; omega)))<|Za Z<|Ze<|Zg<|Zu<|Ex.keep []<|?_
 exact Ex.ret1 rfl rfl  ⟨rfl,rfl,rfl⟩
theorem bucket_c {V : Vw} {s : ByteArray} (hs : s.size <= 9223372036854775807)  : Does Tryz.prog 145 [.string s] V [] (Pv (.int .i64 ((Bk.bucket s.toList : Nat) : Int)) V []) := by
 have hsl : s.toList.length = s.size := by rw [ByteArray.toList_eq]; rfl
 refine Does.intro Tryz.func145 rfl rfl (le rfl) (fun B => ?_)
 refine Zs<|Zr<|Za Z<|Ze<|Zg<|Zs<|Zr<|Zm Z<|Zv (Y.lenStr Z xst9)<|Zv (Y.conv (((s.size % 256 : Nat) : Int)) rfl xit3_5 (by rw [wrap_u8_mod]; omega))<|Za Z<|Ze<|Zg<|Zs<|Zs<|Zr<|?_
 refine Zm Z<|Zv (Y.lenStr Z xst9)<|Zv (Y.sub Z Z W)<|Za Z<|Ze<|Zg<|Zb<|?_
 refine ZL (X := Nat) (fun z0 => V) (fun z0 => []) (fun z0 => [(0,.string s),(3,.int .u8 ((Bk.down s.toList z0 : Nat) : Int)),(4,.int .i64 ((z0 : Int) - 1))]) (fun z0 => z0 <= s.size) (fun z0 => z0) (s.size : Nat) (Nat.le_refl _) ?_ (by repeat (first | exact subB_nil _ | refine subB_cons (by first | rfl | exact congrArg (fun z => some (Value.int _ z)) W | exact congrArg (fun z => some (Value.int _ ((z : Nat) : Int))) (by rw [<- hsl,Bk.down_all]) | exact congrArg (fun z => some (Value.int _ ((z : Nat) : Int))) (by rw [Bk.down_step (i := k1 - 1) W,show k1 - 1 + 1 = k1 by omega,show ((k1 : Int) - 1).toNat = k1 - 1 by omega])) ?_))
 rintro k1 hk
 refine Zs<|Zs<|Zr<|Zm Z<|Zv (Y.int Z Z Z)<|Ze<|Zg<|?_
 refine Zq (decide (((k1 : Int) - 1) >= 0)) (fun h1 g1 => ?_) fun h1 g1 => ?_
 ·refine Tr.cond_t Z h1<|Zt<|Zg<|Zs<|Zb<|Zr<|Zm Z<|Zm Z<|Zm Z<|Zv (Y.idxStr Z Z xst9 W W)<|Zv (Y.int (r := .int .u8 (((Bk.down s.toList k1 ^^^ (s.toList.getD ((k1 : Int) - 1).toNat 0).toNat : Nat) : Int))) rfl rfl (by simp only [intRes]; rw [xor_u8 (Bk.down_lt _ _) (UInt8.toNat_lt _)]))<|Yc Z Z Z ((btab_c (n := Bk.down s.toList k1 ^^^ (s.toList.getD ((k1 : Int) - 1).toNat 0).toNat) (xor_lt (Bk.down_lt _ _) (UInt8.toNat_lt _))).frame)<|?_
  refine Za Z<|Ze<|Zc<|Zg<|Zr<|Zm Z<|Zv (Y.sub Z Z W)<|Za Z<|Ze<|?_
  exact ZR (k1 - 1 : Nat) W W (by repeat (first | exact subB_nil _ | refine subB_cons (by first | rfl | exact congrArg (fun z => some (Value.int _ z)) W | exact congrArg (fun z => some (Value.int _ ((z : Nat) : Int))) (by rw [<- hsl,Bk.down_all]) | exact congrArg (fun z => some (Value.int _ ((z : Nat) : Int))) (by rw [Bk.down_step (i := k1 - 1) W,show k1 - 1 + 1 = k1 by omega,show ((k1 : Int) - 1).toNat = k1 - 1 by omega])) ?_))
 refine Tr.cond_f Z h1<|Zx<|Zy<|Zy<|Zi<|Zg<|Zs<|Zr<|?_
 have hdl := Bk.down_lt s.toList k1
 refine Zm Z<|Zv (Y.conv (((Bk.down s.toList k1 : Nat) : Int)) rfl xit5_3 (wrap_i64 W))<|Za Z<|Ze<|Zg<|Zu<|Ex.keep []<|?_
 exact Ex.ret1 rfl rfl  ⟨congrArg (Value.int _) (by rw [show k1 = 0 by omega]; rfl),rfl,rfl⟩
end Go.Proofs.YtfgblingojgafaaGreat
namespace Go.Proofs.YtfgblingojgafaaGreat
open Go Go.K
attribute [local irreducible] Code.wp wpList Calls wpQuiet
open Go.Sort
theorem ins_l {V : Vw} {n c b : Nat} {rest : List Value} {d0 : Array Le} {gf : FuncId} {caps : List Value} {cm : Le -> Le -> Int} {x y : Nat}  (hN : n <= 1073741824) (hd : d0.size = n) (hx : x <= n) (hy : y <= n)  (hcmp : ∀ x y : Le,Does Tryz.prog gf (.agg (Le.cells x).toArray :: .agg (Le.cells y).toArray :: caps) V [] (Pv (.int .i64 (cm x y)) V [])) (hswo : SWO (ltc cm))  : Does Tryz.prog 210 [.slice (some ⟨b,0,none⟩) n c,.int .i64 ((x : Nat) : Int),.int .i64 ((y : Nat) : Int),.func (.func gf) #[] caps.toArray] V [sgD Le.cells 43 b rest d0] (fun v V' H' => V' = V /\ v = .tuple #[] /\ H' = [sgD Le.cells 43 b rest (insertionSort (ltc cm) d0 x y)]) := by
 refine Does.intro Tryz.func210 rfl rfl (le rfl) (fun B => ?_)
 refine Zs<|Zr<|Zm Z<|Zv (Y.addN ((x + 1 : Nat) : Int) rfl rfl W W)<|Za Z<|Ze<|Zg<|Zb<|?_
 refine ZL (X := Nat × Array Le) (fun z0 => V) (fun z0 => [sgD Le.cells 43 b rest z0.2]) (fun z0 => [(0,.slice (some ⟨b,0,none⟩) n c),(1,.int .i64 ((x : Nat) : Int)),(2,.int .i64 ((y : Nat) : Int)),(3,.func (.func gf) #[] caps.toArray),(8,.int .i64 ((z0.1 : Nat) : Int))]) (fun z0 => insOuter (ltc cm) x y z0.1 z0.2 = insOuter (ltc cm) x y (x + 1) d0 /\ z0.2.size = n /\ x < z0.1) (fun z0 => y - z0.1) (⟨x + 1,d0⟩ : Nat × Array Le) ⟨rfl,hd,by omega⟩ ?_
 rintro ⟨i,d⟩ ⟨r1,r2,r3⟩
 try dsimp only at r1 r2 r3 ⊢
 refine Zs<|Zs<|Zr<|Zm Z<|Zm Z<|Zv (Y.int Z Z Z)<|Ze<|Zg<|?_
 refine Zq (decide (((i : Nat) : Int) < ((y : Nat) : Int))) (fun h1 g1 => ?_) fun h1 g1 => ?_
 ·refine Tr.cond_t Z h1<|Zt<|Zg<|Zs<|Zb<|Zs<|Zr<|Zm Z<|Za Z<|Ze<|Zg<|Zb<|?_
  refine ZL (X := Nat × Array Le) (fun z0 => V) (fun z0 => [sgD Le.cells 43 b rest z0.2]) (fun z0 => [(0,.slice (some ⟨b,0,none⟩) n c),(1,.int .i64 ((x : Nat) : Int)),(2,.int .i64 ((y : Nat) : Int)),(3,.func (.func gf) #[] caps.toArray),(8,.int .i64 ((i : Nat) : Int)),(9,.int .i64 ((z0.1 : Nat) : Int))]) (fun z0 => insOuter (ltc cm) x y (i + 1) (insInner (ltc cm) x z0.1 z0.2) = insOuter (ltc cm) x y (x + 1) d0 /\ z0.2.size = n /\ z0.1 <= i) (fun z0 => z0.1) (⟨i,d⟩ : Nat × Array Le) ⟨(insOuter_go W).symm.trans r1,r2,Nat.le_refl _⟩ ?_
  rintro ⟨j,f⟩ ⟨k1,k2,k3⟩
  try dsimp only at k1 k2 k3 ⊢
  refine Zs<|Zs<|Tr.quiet xmo WK<|ZM Z<|ZM Z<|ZV (Y.int Z Z Z)<|ZM Z<|?_
  refine Zq (decide (((j : Nat) : Int) > ((x : Nat) : Int))) (fun h2 g2 => ?_) fun h2 g2 => ?_
  ·refine ZP h2<|ZM Z<|ZP h2<|ZM Z<|ZP h2<|ZM Z<|ZP h2<|ZV (Y.idxN j Z Z xes22 W W)<|ZP h2<|ZV (Y.ldA (enc := Le.cells) (d := f) (rest := rest) (e := 43) (i := j) Z xag43 (Kn.at 0 rfl) Le.enc1 WB rfl)<|ZP h2<|ZM Z<|ZP h2<|ZM Z<|ZP h2<|ZV (Y.subN ((j - 1 : Nat) : Int) rfl rfl W W)<|?_
   refine ZP h2<|ZV (Y.idxN (j - 1) rfl rfl xes22 W W)<|ZP h2<|ZV (Y.ldA (enc := Le.cells) (d := f) (rest := rest) (e := 43) (i := (j - 1)) rfl xag43 (Kn.at 0 rfl) Le.enc1 WB rfl)<|ZP h2<|YC Z Z Z ((hcmp (f[j]!) (f[j - 1]!)).frame)<|ZP h2<|ZV (Y.int Z Z Z)<|ZV (Y.pick_t Z h2 Z)<|ZE<|Zg<|?_
   refine Zq (decide ((cm (f[j]!) (f[j - 1]!)) < 0)) (fun h3 g3 => ?_) fun h3 g3 => ?_
   ·refine Tr.cond_t Z h3<|Zt<|Zg<|Zs<|Zb<|Tr.anyT [(b,.cells (cel Le.cells f rest).toArray 43 (0,0))] 15 xmo<|Zwm 0 Z Z (ZK 0 Z)<|Zwm 1 Z Z (ZK 0 Z)<|Zwm 2 Z Z (ZK 0 Z)<|Zwm 3 Z Z (ZK 0 Z)<|Zw 4 Z (ZK 0 Z) (fun _ => (Y.subN ((j - 1 : Nat) : Int) rfl rfl W W))<|Zwm 5 Z Z (ZK 0 Z)<|Zwm 6 Z Z (ZK 0 Z)<|Zw 7 Z (ZK 0 Z) (fun _ => (Y.subN ((j - 1 : Nat) : Int) rfl rfl W W))<|Zw 8 Z (ZK 0 Z) (fun _ => (Y.idxN (j - 1) rfl rfl xes22 W W))<|?_
    refine ZT 9 0 Z Z (ZK 0 Z) (fun _ => (Y.ldA (enc := Le.cells) (d := f) (rest := rest) (e := 43) (i := (j - 1)) rfl xag43 Kn.vk1 Le.enc1 WB rfl))<|Zwm 10 Z Z (ZK 0 Z)<|Zwm 11 Z Z (ZK 0 Z)<|Zw 12 Z (ZK 0 Z) (fun _ => (Y.idxN j rfl rfl xes22 W W))<|ZT 13 0 Z Z (ZK 0 Z) (fun _ => (Y.ldA (enc := Le.cells) (d := f) (rest := rest) (e := 43) (i := j) rfl xag43 Kn.vk1 Le.enc1 WB rfl))<|?_
    refine Zw 14 Z (ZK 0 Z) (fun _ => (Y.idxN j rfl rfl xes22 W W)) ?_
    refine RunT.one (i := 15) WK rfl  ?_
    refine Run.stD (enc := Le.cells) (d := f) (rest := rest) (e := 43) (i := j) (s := 0) (f[j - 1]!) rfl rfl xsz43 rfl Le.enc1 WB rfl<|Ze<|Zz 15<|?_
    refine RunT.one (i := 16) WK rfl  ?_
    refine Zv (Y.idxN (j - 1) rfl rfl xes22 W W)<|Ze<|Zz 16<|?_
    refine RunT.one (i := 17) WK rfl  ?_
    refine Run.stD (enc := Le.cells) (d := (f).setIfInBounds j (f[j - 1]!)) (rest := rest) (e := 43) (i := (j - 1)) (s := 0) (f[j]!) rfl rfl xsz43 rfl Le.enc1 WB rfl<|Run.heapTo (H' := [sgD Le.cells 43 b rest (swp f j (j - 1))]) Z<|Ze<|Zz 17<|RunT.done WK<|Zc<|Zg<|Zr<|Zm Z<|Zv (Y.subN ((j - 1 : Nat) : Int) rfl rfl W W)<|?_
    refine Za Z<|Ze<|?_
    exact ZR (⟨j - 1,swp f j (j - 1)⟩ : Nat × Array Le) ⟨by dsimp only; rw [<- insInner_go W (by assumption)]; exact k1,by simp only [swp_size]; exact k2,by omega⟩ (by dsimp only; omega)
   refine Tr.cond_f Z h3<|Zx<|Zy<|Zy<|Zi<|Zc<|Zg<|Zr<|Zm Z<|Zv (Y.addN ((i + 1 : Nat) : Int) rfl rfl W W)<|Za Z<|Ze<|?_
   exact ZR (⟨i + 1,f⟩ : Nat × Array Le) ⟨(congrArg (insOuter (ltc cm) x y (i + 1)) (insInner_stop (a := x) (by first | (left; omega) | (right; assumption)))).symm.trans k1,k2,by omega⟩ (by dsimp only; omega)
  refine ZO h2 Z<|ZO h2 Z<|ZO h2 Z<|ZO h2 Z<|ZO h2 Z<|ZO h2 Z<|ZO h2 Z<|ZO h2 Z<|ZO h2 Z<|ZO h2 Z<|ZO h2 Z<|ZO h2 Z<|ZV (Y.pick_f Z h2 Z)<|ZE<|Zg<|Tr.cond_f Z Z<|?_
  refine Zx<|Zy<|Zy<|Zi<|Zc<|Zg<|Zr<|Zm Z<|Zv (Y.addN ((i + 1 : Nat) : Int) rfl rfl W W)<|Za Z<|Ze<|?_
  exact ZR (⟨i + 1,f⟩ : Nat × Array Le) ⟨(congrArg (insOuter (ltc cm) x y (i + 1)) (insInner_stop (a := x) (by first | (left; omega) | (right; assumption)))).symm.trans k1,k2,by omega⟩ (by dsimp only; omega)
 refine Tr.cond_f Z h1<|Zx<|Zy<|Zy<|Zi<|Ex.keep [0]<|?_
 exact Ex.end0 rfl ⟨rfl,rfl,by rw [insertionSort,<- r1,insOuter_stop W]; rfl⟩
theorem sift_l {V : Vw} {n c b : Nat} {rest : List Value} {d0 : Array Le} {gf : FuncId} {caps : List Value} {cm : Le -> Le -> Int} {l m f : Nat}  (hN : n <= 1073741824) (hd : d0.size = n) (hl : l <= n) (hm : f + m <= n)  (hcmp : ∀ x y : Le,Does Tryz.prog gf (.agg (Le.cells x).toArray :: .agg (Le.cells y).toArray :: caps) V [] (Pv (.int .i64 (cm x y)) V [])) (hswo : SWO (ltc cm))  : Does Tryz.prog 218 [.slice (some ⟨b,0,none⟩) n c,.int .i64 ((l : Nat) : Int),.int .i64 ((m : Nat) : Int),.int .i64 ((f : Nat) : Int),.func (.func gf) #[] caps.toArray] V [sgD Le.cells 43 b rest d0] (fun v V' H' => V' = V /\ v = .tuple #[] /\ H' = [sgD Le.cells 43 b rest (siftDown (ltc cm) m f l d0)]) := by
 refine Does.intro Tryz.func218 rfl rfl (le rfl) (fun B => ?_)
 refine Zs<|Zr<|Zm Z<|Za Z<|Ze<|Zg<|Zb<|?_
 refine ZL (X := Nat × Array Le) (fun z0 => V) (fun z0 => [sgD Le.cells 43 b rest z0.2]) (fun z0 => [(0,.slice (some ⟨b,0,none⟩) n c),(1,.int .i64 ((l : Nat) : Int)),(2,.int .i64 ((m : Nat) : Int)),(3,.int .i64 ((f : Nat) : Int)),(4,.func (.func gf) #[] caps.toArray),(10,.int .i64 ((z0.1 : Nat) : Int))]) (fun z0 => siftDown (ltc cm) m f z0.1 z0.2 = siftDown (ltc cm) m f l d0 /\ z0.2.size = n /\ z0.1 <= n) (fun z0 => m - z0.1) (⟨l,d0⟩ : Nat × Array Le) ⟨rfl,hd,hl⟩ ?_
 rintro ⟨r,d⟩ ⟨r1,r2,r3⟩
 try dsimp only at r1 r2 r3 ⊢
 refine Zb<|Zs<|Zr<|Zm Z<|Zv (Y.mulN ((2 * r : Nat) : Int) rfl rfl W W)<|Zv (Y.addN (((2 * r) + 1 : Nat) : Int) rfl rfl W W)<|Za Z<|Ze<|Zg<|Zs<|Zs<|Zr<|Zm Z<|Zm Z<|Zv (Y.int Z Z Z)<|Ze<|?_
 refine Zg ?_
 refine Zq (decide ((((2 * r) + 1 : Nat) : Int) >= ((m : Nat) : Int))) (fun h1 g1 => ?_) fun h1 g1 => ?_
 ·refine Tr.cond_t Z h1<|Zx<|Zy<|Ex.exit_out Z<|Zy<|Zi<|Ex.keep [0]<|?_
  exact Ex.end0 rfl ⟨rfl,rfl,by rw [<- r1]; first | rw [sift_end W]; rfl | rw [sift_stop2 W (by assumption) (by assumption)]; rfl | rw [sift_stop1 W (by first | (left; omega) | (right; assumption)) (by assumption)]; rfl⟩
 refine Tr.cond_f Z h1<|Zt<|Zg<|Zs<|Zs<|Tr.quiet xmo WK<|ZM Z<|ZV (Y.addN ((((2 * r) + 1) + 1 : Nat) : Int) rfl rfl W W)<|ZM Z<|ZV (Y.int Z Z Z)<|ZM Z<|?_
 refine Zq (decide (((((2 * r) + 1) + 1 : Nat) : Int) < ((m : Nat) : Int))) (fun h2 g2 => ?_) fun h2 g2 => ?_
 ·refine ZP h2<|ZM Z<|ZP h2<|ZM Z<|ZP h2<|ZM Z<|ZP h2<|ZM Z<|ZP h2<|ZV (Y.addN ((f + ((2 * r) + 1) : Nat) : Int) rfl rfl W W)<|ZP h2<|ZV (Y.idxN (f + ((2 * r) + 1)) rfl rfl xes22 W W)<|ZP h2<|ZV (Y.ldA (enc := Le.cells) (d := d) (rest := rest) (e := 43) (i := (f + ((2 * r) + 1))) rfl xag43 (Kn.at 0 rfl) Le.enc1 WB rfl)<|?_
  refine ZP h2<|ZM Z<|ZP h2<|ZM Z<|ZP h2<|ZM Z<|ZP h2<|ZV (Y.addN ((f + ((2 * r) + 1) : Nat) : Int) rfl rfl W W)<|ZP h2<|ZV (Y.addN (((f + ((2 * r) + 1)) + 1 : Nat) : Int) rfl rfl W W)<|ZP h2<|ZV (Y.idxN ((f + ((2 * r) + 1)) + 1) rfl rfl xes22 W W)<|ZP h2<|ZV (Y.ldA (enc := Le.cells) (d := d) (rest := rest) (e := 43) (i := ((f + ((2 * r) + 1)) + 1)) rfl xag43 (Kn.at 0 rfl) Le.enc1 WB rfl)<|?_
  refine ZP h2<|YC Z Z Z ((hcmp (d[f + ((2 * r) + 1)]!) (d[(f + ((2 * r) + 1)) + 1]!)).frame)<|ZP h2<|ZV (Y.int Z Z Z)<|ZV (Y.pick_t Z h2 Z)<|ZE<|Zg<|?_
  refine Zq (decide ((cm (d[f + ((2 * r) + 1)]!) (d[(f + ((2 * r) + 1)) + 1]!)) < 0)) (fun h3 g3 => ?_) fun h3 g3 => ?_
  ·refine Tr.cond_t Z h3<|Zr<|Zm Z<|Zv (Y.addN ((((2 * r) + 1) + 1 : Nat) : Int) rfl rfl W W)<|Za Z<|Ze<|Zg<|Zs<|Zs<|Tr.quiet xmo WK<|ZM Z<|ZM Z<|ZM Z<|ZM Z<|ZV (Y.addN ((f + r : Nat) : Int) rfl rfl W W)<|ZV (Y.idxN (f + r) rfl rfl xes22 W W)<|?_
   refine ZV (Y.ldA (enc := Le.cells) (d := d) (rest := rest) (e := 43) (i := (f + r)) rfl xag43 (Kn.at 0 rfl) Le.enc1 WB rfl)<|ZM Z<|ZM Z<|ZM Z<|ZV (Y.addN ((f + (((2 * r) + 1) + 1) : Nat) : Int) rfl rfl W W)<|ZV (Y.idxN (f + (((2 * r) + 1) + 1)) rfl rfl xes22 W W)<|ZV (Y.ldA (enc := Le.cells) (d := d) (rest := rest) (e := 43) (i := (f + (((2 * r) + 1) + 1))) rfl xag43 (Kn.at 0 rfl) Le.enc1 WB rfl)<|?_
   refine YC Z Z Z ((hcmp (d[f + r]!) (d[f + (((2 * r) + 1) + 1)]!)).frame)<|ZV (Y.int Z Z Z)<|ZV (Y.not Z)<|ZE<|Zg<|?_
   refine Zq (decide ((cm (d[f + r]!) (d[f + (((2 * r) + 1) + 1)]!)) < 0)) (fun h4 g4 => ?_) fun h4 g4 => ?_
   ·refine Tr.cond_f Z (congrArg Bool.not h4)<|Zt<|Zg<|Zs<|Tr.anyT [(b,.cells (cel Le.cells d rest).toArray 43 (0,0))] 21 xmo<|Zwm 0 Z Z (ZK 0 Z)<|Zwm 1 Z Z (ZK 0 Z)<|Zwm 2 Z Z (ZK 0 Z)<|Zw 3 Z (ZK 0 Z) (fun _ => (Y.addN ((f + r : Nat) : Int) rfl rfl W W))<|Zwm 4 Z Z (ZK 0 Z)<|Zwm 5 Z Z (ZK 0 Z)<|Zwm 6 Z Z (ZK 0 Z)<|Zw 7 Z (ZK 0 Z) (fun _ => (Y.addN ((f + (((2 * r) + 1) + 1) : Nat) : Int) rfl rfl W W))<|?_
    refine Zwm 8 Z Z (ZK 0 Z)<|Zwm 9 Z Z (ZK 0 Z)<|Zwm 10 Z Z (ZK 0 Z)<|Zw 11 Z (ZK 0 Z) (fun _ => (Y.addN ((f + (((2 * r) + 1) + 1) : Nat) : Int) rfl rfl W W))<|Zw 12 Z (ZK 0 Z) (fun _ => (Y.idxN (f + (((2 * r) + 1) + 1)) rfl rfl xes22 W W))<|ZT 13 0 Z Z (ZK 0 Z) (fun _ => (Y.ldA (enc := Le.cells) (d := d) (rest := rest) (e := 43) (i := (f + (((2 * r) + 1) + 1))) rfl xag43 Kn.vk1 Le.enc1 WB rfl))<|?_
    refine Zwm 14 Z Z (ZK 0 Z)<|Zwm 15 Z Z (ZK 0 Z)<|Zwm 16 Z Z (ZK 0 Z)<|Zw 17 Z (ZK 0 Z) (fun _ => (Y.addN ((f + r : Nat) : Int) rfl rfl W W))<|Zw 18 Z (ZK 0 Z) (fun _ => (Y.idxN (f + r) rfl rfl xes22 W W))<|ZT 19 0 Z Z (ZK 0 Z) (fun _ => (Y.ldA (enc := Le.cells) (d := d) (rest := rest) (e := 43) (i := (f + r)) rfl xag43 Kn.vk1 Le.enc1 WB rfl))<|?_
    refine Zw 20 Z (ZK 0 Z) (fun _ => (Y.idxN (f + r) rfl rfl xes22 W W)) ?_
    refine RunT.one (i := 21) WK rfl  ?_
    refine Run.stD (enc := Le.cells) (d := d) (rest := rest) (e := 43) (i := (f + r)) (s := 0) (d[f + (((2 * r) + 1) + 1)]!) rfl rfl xsz43 rfl Le.enc1 WB rfl<|Ze<|Zz 21<|?_
    refine RunT.one (i := 22) WK rfl  ?_
    refine Zv (Y.idxN (f + (((2 * r) + 1) + 1)) rfl rfl xes22 W W)<|Ze<|Zz 22<|?_
    refine RunT.one (i := 23) WK rfl  ?_
    refine Run.stD (enc := Le.cells) (d := (d).setIfInBounds (f + r) (d[f + (((2 * r) + 1) + 1)]!)) (rest := rest) (e := 43) (i := (f + (((2 * r) + 1) + 1))) (s := 0) (d[f + r]!) rfl rfl xsz43 rfl Le.enc1 WB rfl<|Run.heapTo (H' := [sgD Le.cells 43 b rest (swp d (f + r) (f + (((2 * r) + 1) + 1)))]) Z<|Ze<|Zz 23<|RunT.done WK<|Zg<|?_
    refine Zr<|Zm Z<|Za Z<|Ze<|Zc<|?_
    exact ZR (⟨((2 * r) + 1) + 1,swp d (f + r) (f + (((2 * r) + 1) + 1))⟩ : Nat × Array Le) ⟨by first | exact (sift_go2 W (by assumption) (by assumption)).symm.trans r1 | exact (sift_go1 W (by first | (left; omega) | (right; assumption)) (by assumption)).symm.trans r1,by simp only [swp_size]; exact r2,by (try dsimp only); omega⟩ (by dsimp only; omega)
   refine Tr.cond_t Z (congrArg Bool.not h4)<|Zu<|Zn<|Zk<|Zn<|Zk<|Ex.keep [0]<|?_
   exact Ex.ret0 rfl ⟨rfl,rfl,by rw [<- r1]; first | rw [sift_end W]; rfl | rw [sift_stop2 W (by assumption) (by assumption)]; rfl | rw [sift_stop1 W (by first | (left; omega) | (right; assumption)) (by assumption)]; rfl⟩
  refine Tr.cond_f Z h3<|Zt<|Zg<|Zs<|Zs<|Tr.quiet xmo WK<|ZM Z<|ZM Z<|ZM Z<|ZM Z<|ZV (Y.addN ((f + r : Nat) : Int) rfl rfl W W)<|ZV (Y.idxN (f + r) rfl rfl xes22 W W)<|ZV (Y.ldA (enc := Le.cells) (d := d) (rest := rest) (e := 43) (i := (f + r)) rfl xag43 (Kn.at 0 rfl) Le.enc1 WB rfl)<|ZM Z<|ZM Z<|ZM Z<|?_
  refine ZV (Y.addN ((f + ((2 * r) + 1) : Nat) : Int) rfl rfl W W)<|ZV (Y.idxN (f + ((2 * r) + 1)) rfl rfl xes22 W W)<|ZV (Y.ldA (enc := Le.cells) (d := d) (rest := rest) (e := 43) (i := (f + ((2 * r) + 1))) rfl xag43 (Kn.at 0 rfl) Le.enc1 WB rfl)<|YC Z Z Z ((hcmp (d[f + r]!) (d[f + ((2 * r) + 1)]!)).frame)<|?_
  refine ZV (Y.int Z Z Z)<|ZV (Y.not Z)<|ZE<|Zg<|?_
  refine Zq (decide ((cm (d[f + r]!) (d[f + ((2 * r) + 1)]!)) < 0)) (fun h5 g5 => ?_) fun h5 g5 => ?_
  ·refine Tr.cond_f Z (congrArg Bool.not h5)<|Zt<|Zg<|Zs<|Tr.anyT [(b,.cells (cel Le.cells d rest).toArray 43 (0,0))] 21 xmo<|Zwm 0 Z Z (ZK 0 Z)<|Zwm 1 Z Z (ZK 0 Z)<|Zwm 2 Z Z (ZK 0 Z)<|Zw 3 Z (ZK 0 Z) (fun _ => (Y.addN ((f + r : Nat) : Int) rfl rfl W W))<|Zwm 4 Z Z (ZK 0 Z)<|Zwm 5 Z Z (ZK 0 Z)<|Zwm 6 Z Z (ZK 0 Z)<|Zw 7 Z (ZK 0 Z) (fun _ => (Y.addN ((f + ((2 * r) + 1) : Nat) : Int) rfl rfl W W))<|?_
   refine Zwm 8 Z Z (ZK 0 Z)<|Zwm 9 Z Z (ZK 0 Z)<|Zwm 10 Z Z (ZK 0 Z)<|Zw 11 Z (ZK 0 Z) (fun _ => (Y.addN ((f + ((2 * r) + 1) : Nat) : Int) rfl rfl W W))<|Zw 12 Z (ZK 0 Z) (fun _ => (Y.idxN (f + ((2 * r) + 1)) rfl rfl xes22 W W))<|ZT 13 0 Z Z (ZK 0 Z) (fun _ => (Y.ldA (enc := Le.cells) (d := d) (rest := rest) (e := 43) (i := (f + ((2 * r) + 1))) rfl xag43 Kn.vk1 Le.enc1 WB rfl))<|?_
   refine Zwm 14 Z Z (ZK 0 Z)<|Zwm 15 Z Z (ZK 0 Z)<|Zwm 16 Z Z (ZK 0 Z)<|Zw 17 Z (ZK 0 Z) (fun _ => (Y.addN ((f + r : Nat) : Int) rfl rfl W W))<|Zw 18 Z (ZK 0 Z) (fun _ => (Y.idxN (f + r) rfl rfl xes22 W W))<|ZT 19 0 Z Z (ZK 0 Z) (fun _ => (Y.ldA (enc := Le.cells) (d := d) (rest := rest) (e := 43) (i := (f + r)) rfl xag43 Kn.vk1 Le.enc1 WB rfl))<|?_
   refine Zw 20 Z (ZK 0 Z) (fun _ => (Y.idxN (f + r) rfl rfl xes22 W W)) ?_
   refine RunT.one (i := 21) WK rfl  ?_
   refine Run.stD (enc := Le.cells) (d := d) (rest := rest) (e := 43) (i := (f + r)) (s := 0) (d[f + ((2 * r) + 1)]!) rfl rfl xsz43 rfl Le.enc1 WB rfl<|Ze<|Zz 21<|?_
   refine RunT.one (i := 22) WK rfl  ?_
   refine Zv (Y.idxN (f + ((2 * r) + 1)) rfl rfl xes22 W W)<|Ze<|Zz 22<|?_
   refine RunT.one (i := 23) WK rfl  ?_
   refine Run.stD (enc := Le.cells) (d := (d).setIfInBounds (f + r) (d[f + ((2 * r) + 1)]!)) (rest := rest) (e := 43) (i := (f + ((2 * r) + 1))) (s := 0) (d[f + r]!) rfl rfl xsz43 rfl Le.enc1 WB rfl<|Run.heapTo (H' := [sgD Le.cells 43 b rest (swp d (f + r) (f + ((2 * r) + 1)))]) Z<|Ze<|Zz 23<|RunT.done WK<|Zg<|Zr<|Zm Z<|Za Z<|Ze<|Zc<|?_
   exact ZR (⟨(2 * r) + 1,swp d (f + r) (f + ((2 * r) + 1))⟩ : Nat × Array Le) ⟨by first | exact (sift_go2 W (by assumption) (by assumption)).symm.trans r1 | exact (sift_go1 W (by first | (left; omega) | (right; assumption)) (by assumption)).symm.trans r1,by simp only [swp_size]; exact r2,by (try dsimp only); omega⟩ (by dsimp only; omega)
  refine Tr.cond_t Z (congrArg Bool.not h5)<|Zu<|Zn<|Zk<|Zn<|Zk<|Ex.keep [0]<|?_
  exact Ex.ret0 rfl ⟨rfl,rfl,by rw [<- r1]; first | rw [sift_end W]; rfl | rw [sift_stop2 W (by assumption) (by assumption)]; rfl | rw [sift_stop1 W (by first | (left; omega) | (right; assumption)) (by assumption)]; rfl⟩
 refine ZO h2 Z<|ZO h2 Z<|ZO h2 Z<|ZO h2 Z<|ZO h2 Z<|ZO h2 Z<|ZO h2 Z<|ZO h2 Z<|ZO h2 Z<|ZO h2 Z<|ZO h2 Z<|ZO h2 Z<|ZO h2 Z<|ZO h2 Z<|ZO h2 Z<|ZO h2 Z<|?_
 refine ZV (Y.pick_f Z h2 Z)<|ZE<|Zg<|Tr.cond_f Z Z<|Zt<|Zg<|Zs<|Zs<|Tr.quiet xmo WK<|ZM Z<|ZM Z<|ZM Z<|ZM Z<|ZV (Y.addN ((f + r : Nat) : Int) rfl rfl W W)<|ZV (Y.idxN (f + r) rfl rfl xes22 W W)<|ZV (Y.ldA (enc := Le.cells) (d := d) (rest := rest) (e := 43) (i := (f + r)) rfl xag43 (Kn.at 0 rfl) Le.enc1 WB rfl)<|?_
 refine ZM Z<|ZM Z<|ZM Z<|ZV (Y.addN ((f + ((2 * r) + 1) : Nat) : Int) rfl rfl W W)<|ZV (Y.idxN (f + ((2 * r) + 1)) rfl rfl xes22 W W)<|ZV (Y.ldA (enc := Le.cells) (d := d) (rest := rest) (e := 43) (i := (f + ((2 * r) + 1))) rfl xag43 (Kn.at 0 rfl) Le.enc1 WB rfl)<|YC Z Z Z ((hcmp (d[f + r]!) (d[f + ((2 * r) + 1)]!)).frame)<|?_
 refine ZV (Y.int Z Z Z)<|ZV (Y.not Z)<|ZE<|Zg<|?_
 refine Zq (decide ((cm (d[f + r]!) (d[f + ((2 * r) + 1)]!)) < 0)) (fun h6 g6 => ?_) fun h6 g6 => ?_
 ·refine Tr.cond_f Z (congrArg Bool.not h6)<|Zt<|Zg<|Zs<|Tr.anyT [(b,.cells (cel Le.cells d rest).toArray 43 (0,0))] 21 xmo<|Zwm 0 Z Z (ZK 0 Z)<|Zwm 1 Z Z (ZK 0 Z)<|Zwm 2 Z Z (ZK 0 Z)<|Zw 3 Z (ZK 0 Z) (fun _ => (Y.addN ((f + r : Nat) : Int) rfl rfl W W))<|Zwm 4 Z Z (ZK 0 Z)<|Zwm 5 Z Z (ZK 0 Z)<|Zwm 6 Z Z (ZK 0 Z)<|Zw 7 Z (ZK 0 Z) (fun _ => (Y.addN ((f + ((2 * r) + 1) : Nat) : Int) rfl rfl W W))<|?_
  refine Zwm 8 Z Z (ZK 0 Z)<|Zwm 9 Z Z (ZK 0 Z)<|Zwm 10 Z Z (ZK 0 Z)<|Zw 11 Z (ZK 0 Z) (fun _ => (Y.addN ((f + ((2 * r) + 1) : Nat) : Int) rfl rfl W W))<|Zw 12 Z (ZK 0 Z) (fun _ => (Y.idxN (f + ((2 * r) + 1)) rfl rfl xes22 W W))<|ZT 13 0 Z Z (ZK 0 Z) (fun _ => (Y.ldA (enc := Le.cells) (d := d) (rest := rest) (e := 43) (i := (f + ((2 * r) + 1))) rfl xag43 Kn.vk1 Le.enc1 WB rfl))<|?_
  refine Zwm 14 Z Z (ZK 0 Z)<|Zwm 15 Z Z (ZK 0 Z)<|Zwm 16 Z Z (ZK 0 Z)<|Zw 17 Z (ZK 0 Z) (fun _ => (Y.addN ((f + r : Nat) : Int) rfl rfl W W))<|Zw 18 Z (ZK 0 Z) (fun _ => (Y.idxN (f + r) rfl rfl xes22 W W))<|ZT 19 0 Z Z (ZK 0 Z) (fun _ => (Y.ldA (enc := Le.cells) (d := d) (rest := rest) (e := 43) (i := (f + r)) rfl xag43 Kn.vk1 Le.enc1 WB rfl))<|?_
  refine Zw 20 Z (ZK 0 Z) (fun _ => (Y.idxN (f + r) rfl rfl xes22 W W)) ?_
  refine RunT.one (i := 21) WK rfl  ?_
  refine Run.stD (enc := Le.cells) (d := d) (rest := rest) (e := 43) (i := (f + r)) (s := 0) (d[f + ((2 * r) + 1)]!) rfl rfl xsz43 rfl Le.enc1 WB rfl<|Ze<|Zz 21<|?_
  refine RunT.one (i := 22) WK rfl  ?_
  refine Zv (Y.idxN (f + ((2 * r) + 1)) rfl rfl xes22 W W)<|Ze<|Zz 22<|?_
  refine RunT.one (i := 23) WK rfl  ?_
  refine Run.stD (enc := Le.cells) (d := (d).setIfInBounds (f + r) (d[f + ((2 * r) + 1)]!)) (rest := rest) (e := 43) (i := (f + ((2 * r) + 1))) (s := 0) (d[f + r]!) rfl rfl xsz43 rfl Le.enc1 WB rfl<|Run.heapTo (H' := [sgD Le.cells 43 b rest (swp d (f + r) (f + ((2 * r) + 1)))]) Z<|Ze<|Zz 23<|RunT.done WK<|Zg<|Zr<|Zm Z<|Za Z<|Ze<|Zc<|?_
  exact ZR (⟨(2 * r) + 1,swp d (f + r) (f + ((2 * r) + 1))⟩ : Nat × Array Le) ⟨by first | exact (sift_go2 W (by assumption) (by assumption)).symm.trans r1 | exact (sift_go1 W (by first | (left; omega) | (right; assumption)) (by assumption)).symm.trans r1,by simp only [swp_size]; exact r2,by (try dsimp only); omega⟩ (by dsimp only; omega)
 refine Tr.cond_t Z (congrArg Bool.not h6)<|Zu<|Zn<|Zk<|Zn<|Zk<|Ex.keep [0]<|?_
 exact Ex.ret0 rfl ⟨rfl,rfl,by rw [<- r1]; first | rw [sift_end W]; rfl | rw [sift_stop2 W (by assumption) (by assumption)]; rfl | rw [sift_stop1 W (by first | (left; omega) | (right; assumption)) (by assumption)]; rfl⟩
theorem heap_l {V : Vw} {n c b : Nat} {rest : List Value} {d0 : Array Le} {gf : FuncId} {caps : List Value} {cm : Le -> Le -> Int} {x y : Nat}  (hN : n <= 1073741824) (hd : d0.size = n) (hx : x < y) (hy : y <= n)  (hcmp : ∀ x y : Le,Does Tryz.prog gf (.agg (Le.cells x).toArray :: .agg (Le.cells y).toArray :: caps) V [] (Pv (.int .i64 (cm x y)) V [])) (hswo : SWO (ltc cm))  : Does Tryz.prog 211 [.slice (some ⟨b,0,none⟩) n c,.int .i64 ((x : Nat) : Int),.int .i64 ((y : Nat) : Int),.func (.func gf) #[] caps.toArray] V [sgD Le.cells 43 b rest d0] (fun v V' H' => V' = V /\ v = .tuple #[] /\ H' = [sgD Le.cells 43 b rest (heapSort (ltc cm) d0 x y)]) := by
 refine Does.intro Tryz.func211 rfl rfl (le rfl) (fun B => ?_)
 refine Zs<|Zr<|Zm Z<|Za Z<|Ze<|Zg<|Zs<|Zr<|Za Z<|Ze<|Zg<|Zs<|Zr<|Zm Z<|Zm Z<|Zv (Y.subN ((y - x : Nat) : Int) rfl rfl W W)<|?_
 refine Za Z<|Ze<|Zg<|Zs<|Zs<|Zr<|Zm Z<|Zv (Y.subN (((y - x) - 1 : Nat) : Int) rfl rfl W W)<|Zv (Y.quoN (m := (y - x) - 1) (n := 2) rfl rfl W W)<|Za Z<|Ze<|Zg<|Zb<|?_
 refine ZL (X := Int × Array Le) (fun z0 => V) (fun z0 => [sgD Le.cells 43 b rest z0.2]) (fun z0 => [(0,.slice (some ⟨b,0,none⟩) n c),(1,.int .i64 ((x : Nat) : Int)),(2,.int .i64 ((y : Nat) : Int)),(3,.func (.func gf) #[] caps.toArray),(8,.int .i64 ((x : Nat) : Int)),(9,.int .i64 0),(10,.int .i64 ((y - x : Nat) : Int)),(11,.int .i64 z0.1)]) (fun z0 => heapBuild (ltc cm) (y - x) x (z0.1 + 1).toNat z0.2 = heapBuild (ltc cm) (y - x) x ((y - x - 1) / 2 + 1) d0 /\ z0.2.size = n /\ -1 <= z0.1 /\ z0.1 < ((y - x : Nat) : Int)) (fun z0 => (z0.1 + 1).toNat) (⟨(((y - x) - 1) / 2 : Nat),d0⟩ : Int × Array Le) ⟨rfl,hd,by (try dsimp only); omega,by (try dsimp only); omega⟩ ?_
 rintro ⟨i,d⟩ ⟨r1,r2,r3,r4⟩
 try dsimp only at r1 r2 r3 r4 ⊢
 refine Zs<|Zs<|Zr<|Zm Z<|Zv (Y.int Z Z Z)<|Ze<|Zg<|?_
 refine Zq (decide (i >= 0)) (fun h1 g1 => ?_) fun h1 g1 => ?_
 ·obtain ⟨k,rfl⟩ : ∃ k : Nat,i = (k : Int) := ⟨i.toNat,by omega⟩
  refine Tr.cond_t Z h1<|Zt<|Zg<|Zs<|Zb<|Zr<|Zm Z<|Zm Z<|Zm Z<|Zm Z<|Zm Z<|?_
  refine Yk [0] Z Z Z (sift_l (l := k) (m := y - x) (f := x) (d0 := d) hN (by first | assumption | (simp only [swp_size,sift_sz]; assumption)) W W hcmp hswo) (fun v2 V2 H2 hle3 hR => ?_)
  obtain ⟨hV,rfl,rfl⟩ := hR; replace hV := hV.symm; subst hV
  refine Run.heapTo (H' := [sgD Le.cells 43 b rest (siftDown (ltc cm) (y - x) x k d)]) Z<|Ze<|Zc<|Zg<|Zr<|Zm Z<|Zv (Y.sub Z Z W)<|Za Z<|Ze<|?_
  exact ZR (⟨(k : Int) - 1,siftDown (ltc cm) (y - x) x k d⟩ : Int × Array Le) ⟨by dsimp only; rw [show ((k : Int) - 1 + 1).toNat = k by omega]; exact r1,by simp only [sift_sz]; exact r2,by (try dsimp only); omega,by (try dsimp only); omega⟩ (by dsimp only; omega)
 refine Tr.cond_f Z h1<|Zx<|Zy<|Zy<|Zi<|Zg<|Zs<|Zr<|Zm Z<|Zv (Y.subN (((y - x) - 1 : Nat) : Int) rfl rfl W W)<|Za Z<|Ze<|Zg<|Zb<|?_
 refine ZL (X := Int × Array Le) (fun z0 => V) (fun z0 => [sgD Le.cells 43 b rest z0.2]) (fun z0 => [(0,.slice (some ⟨b,0,none⟩) n c),(1,.int .i64 ((x : Nat) : Int)),(2,.int .i64 ((y : Nat) : Int)),(3,.func (.func gf) #[] caps.toArray),(8,.int .i64 ((x : Nat) : Int)),(9,.int .i64 0),(10,.int .i64 ((y - x : Nat) : Int)),(12,.int .i64 z0.1)]) (fun z0 => heapPop (ltc cm) x (z0.1 + 1).toNat z0.2 = heapSort (ltc cm) d0 x y /\ z0.2.size = n /\ -1 <= z0.1 /\ z0.1 < ((y - x : Nat) : Int)) (fun z0 => (z0.1 + 1).toNat) (⟨((y - x) - 1 : Nat),d⟩ : Int × Array Le) ⟨by dsimp only; rw [heapSort,<- r1,show i = -1 by omega,show ((((y - x) - 1 : Nat) : Int) + 1).toNat = y - x by omega]; rfl,r2,by (try dsimp only); omega,by (try dsimp only); omega⟩ ?_
 rintro ⟨u,f⟩ ⟨k1,k2,k3,k4⟩
 try dsimp only at k1 k2 k3 k4 ⊢
 refine Zs<|Zs<|Zr<|Zm Z<|Zv (Y.int Z Z Z)<|Ze<|Zg<|?_
 refine Zq (decide (u >= 0)) (fun h4 g4 => ?_) fun h4 g4 => ?_
 ·obtain ⟨k,rfl⟩ : ∃ k : Nat,u = (k : Int) := ⟨u.toNat,by omega⟩
  refine Tr.cond_t Z h4<|Zt<|Zg<|Zs<|Zb<|Zs<|Tr.anyT [(b,.cells (cel Le.cells f rest).toArray 43 (0,0))] 17 xmo<|Zwm 0 Z Z (ZK 0 Z)<|Zwm 1 Z Z (ZK 0 Z)<|Zwm 2 Z Z (ZK 0 Z)<|Zwm 3 Z Z (ZK 0 Z)<|Zwm 4 Z Z (ZK 0 Z)<|Zw 5 Z (ZK 0 Z) (fun _ => (Y.addN ((x + k : Nat) : Int) rfl rfl W W))<|Zwm 6 Z Z (ZK 0 Z)<|Zwm 7 Z Z (ZK 0 Z)<|Zwm 8 Z Z (ZK 0 Z)<|?_
  refine Zw 9 Z (ZK 0 Z) (fun _ => (Y.addN ((x + k : Nat) : Int) rfl rfl W W))<|Zw 10 Z (ZK 0 Z) (fun _ => (Y.idxN (x + k) rfl rfl xes22 W W))<|ZT 11 0 Z Z (ZK 0 Z) (fun _ => (Y.ldA (enc := Le.cells) (d := f) (rest := rest) (e := 43) (i := (x + k)) rfl xag43 Kn.vk1 Le.enc1 WB rfl))<|Zwm 12 Z Z (ZK 0 Z)<|?_
  refine Zwm 13 Z Z (ZK 0 Z)<|Zw 14 Z (ZK 0 Z) (fun _ => (Y.idxN x rfl rfl xes22 W W))<|ZT 15 0 Z Z (ZK 0 Z) (fun _ => (Y.ldA (enc := Le.cells) (d := f) (rest := rest) (e := 43) (i := x) rfl xag43 Kn.vk1 Le.enc1 WB rfl))<|Zw 16 Z (ZK 0 Z) (fun _ => (Y.idxN x rfl rfl xes22 W W))<|?_
  refine RunT.one (i := 17) WK rfl  ?_
  refine Run.stD (enc := Le.cells) (d := f) (rest := rest) (e := 43) (i := x) (s := 0) (f[x + k]!) rfl rfl xsz43 rfl Le.enc1 WB rfl<|Ze<|Zz 17<|?_
  refine RunT.one (i := 18) WK rfl  ?_
  refine Zv (Y.idxN (x + k) rfl rfl xes22 W W)<|Ze<|Zz 18<|?_
  refine RunT.one (i := 19) WK rfl  ?_
  refine Run.stD (enc := Le.cells) (d := (f).setIfInBounds x (f[x + k]!)) (rest := rest) (e := 43) (i := (x + k)) (s := 0) (f[x]!) rfl rfl xsz43 rfl Le.enc1 WB rfl<|Run.heapTo (H' := [sgD Le.cells 43 b rest (swp f x (x + k))]) Z<|Ze<|Zz 19<|RunT.done WK<|Zg<|Zr<|Zm Z<|Zm Z<|Zm Z<|Zm Z<|Zm Z<|?_
  refine Yk [0] Z Z Z (sift_l (l := 0) (m := k) (f := x) (d0 := swp f x (x + k)) hN (by first | assumption | (simp only [swp_size,sift_sz]; assumption)) W W hcmp hswo) (fun v5 V2 H2 hle6 hR => ?_)
  obtain ⟨hV,rfl,rfl⟩ := hR; replace hV := hV.symm; subst hV
  refine Run.heapTo (H' := [sgD Le.cells 43 b rest (siftDown (ltc cm) k x 0 (swp f x (x + k)))]) Z<|Ze<|Zc<|Zg<|Zr<|Zm Z<|Zv (Y.sub Z Z W)<|Za Z<|Ze<|?_
  exact ZR (⟨(k : Int) - 1,siftDown (ltc cm) k x 0 (swp f x (x + k))⟩ : Int × Array Le) ⟨by dsimp only; rw [show ((k : Int) - 1 + 1).toNat = k by omega]; exact k1,by simp only [sift_sz,swp_size]; exact k2,by (try dsimp only); omega,by (try dsimp only); omega⟩ (by dsimp only; omega)
 refine Tr.cond_f Z h4<|Zx<|Zy<|Zy<|Zi<|Ex.keep [0]<|?_
 exact Ex.end0 rfl ⟨rfl,rfl,by rw [<- k1,show u = -1 by omega]; rfl⟩
theorem rev_l {V : Vw} {n c b : Nat} {rest : List Value} {d0 : Array Le} {gf : FuncId} {caps : List Value} {cm : Le -> Le -> Int} {x y : Nat}  (hN : n <= 1073741824) (hd : d0.size = n) (hx : x < y) (hy : y <= n)  (hcmp : ∀ x y : Le,Does Tryz.prog gf (.agg (Le.cells x).toArray :: .agg (Le.cells y).toArray :: caps) V [] (Pv (.int .i64 (cm x y)) V [])) (hswo : SWO (ltc cm))  : Does Tryz.prog 214 [.slice (some ⟨b,0,none⟩) n c,.int .i64 ((x : Nat) : Int),.int .i64 ((y : Nat) : Int),.func (.func gf) #[] caps.toArray] V [sgD Le.cells 43 b rest d0] (fun v V' H' => V' = V /\ v = .tuple #[] /\ H' = [sgD Le.cells 43 b rest (reverseRange d0 x y)]) := by
 refine Does.intro Tryz.func214 rfl rfl (le rfl) (fun B => ?_)
 refine Zs<|Zr<|Zm Z<|Za Z<|Ze<|Zg<|Zs<|Zr<|Zm Z<|Zv (Y.subN ((y - 1 : Nat) : Int) rfl rfl W W)<|Za Z<|Ze<|Zg<|Zb<|?_
 refine ZL (X := Nat × Nat × Array Le) (fun z0 => V) (fun z0 => [sgD Le.cells 43 b rest z0.2.2]) (fun z0 => [(0,.slice (some ⟨b,0,none⟩) n c),(1,.int .i64 ((x : Nat) : Int)),(2,.int .i64 ((y : Nat) : Int)),(3,.func (.func gf) #[] caps.toArray),(8,.int .i64 ((z0.1 : Nat) : Int)),(9,.int .i64 ((z0.2.1 : Nat) : Int))]) (fun z0 => reverseLoop z0.1 z0.2.1 z0.2.2 = reverseRange d0 x y /\ z0.2.2.size = n /\ z0.2.1 < n) (fun z0 => z0.2.1 - z0.1) (⟨x,y - 1,d0⟩ : Nat × Nat × Array Le) ⟨rfl,hd,by (try dsimp only); omega⟩ ?_
 rintro ⟨i,j,d⟩ ⟨r1,r2,r3⟩
 try dsimp only at r1 r2 r3 ⊢
 refine Zs<|Zs<|Zr<|Zm Z<|Zm Z<|Zv (Y.int Z Z Z)<|Ze<|Zg<|?_
 refine Zq (decide (((i : Nat) : Int) < ((j : Nat) : Int))) (fun h1 g1 => ?_) fun h1 g1 => ?_
 ·refine Tr.cond_t Z h1<|Zt<|Zg<|Zb<|Zs<|Tr.anyT [(b,.cells (cel Le.cells d rest).toArray 43 (0,0))] 13 xmo<|Zwm 0 Z Z (ZK 0 Z)<|Zwm 1 Z Z (ZK 0 Z)<|Zwm 2 Z Z (ZK 0 Z)<|Zwm 3 Z Z (ZK 0 Z)<|Zwm 4 Z Z (ZK 0 Z)<|Zwm 5 Z Z (ZK 0 Z)<|Zw 6 Z (ZK 0 Z) (fun _ => (Y.idxN j rfl rfl xes22 W W))<|ZT 7 0 Z Z (ZK 0 Z) (fun _ => (Y.ldA (enc := Le.cells) (d := d) (rest := rest) (e := 43) (i := j) rfl xag43 Kn.vk1 Le.enc1 WB rfl))<|?_
  refine Zwm 8 Z Z (ZK 0 Z)<|Zwm 9 Z Z (ZK 0 Z)<|Zw 10 Z (ZK 0 Z) (fun _ => (Y.idxN i rfl rfl xes22 W W))<|ZT 11 0 Z Z (ZK 0 Z) (fun _ => (Y.ldA (enc := Le.cells) (d := d) (rest := rest) (e := 43) (i := i) rfl xag43 Kn.vk1 Le.enc1 WB rfl))<|Zw 12 Z (ZK 0 Z) (fun _ => (Y.idxN i rfl rfl xes22 W W))<|?_
  refine RunT.one (i := 13) WK rfl  ?_
  refine Run.stD (enc := Le.cells) (d := d) (rest := rest) (e := 43) (i := i) (s := 0) (d[j]!) rfl rfl xsz43 rfl Le.enc1 WB rfl<|Ze<|Zz 13<|?_
  refine RunT.one (i := 14) WK rfl  ?_
  refine Zv (Y.idxN j Z Z xes22 W W)<|Ze<|Zz 14<|?_
  refine RunT.one (i := 15) WK rfl  ?_
  refine Run.stD (enc := Le.cells) (d := (d).setIfInBounds i (d[j]!)) (rest := rest) (e := 43) (i := j) (s := 0) (d[i]!) rfl rfl xsz43 rfl Le.enc1 WB rfl<|Run.heapTo (H' := [sgD Le.cells 43 b rest (swp d i j)]) Z<|Ze<|Zz 15<|RunT.done WK<|Zg<|Zs<|Zr<|Zm Z<|Zv (Y.addN ((i + 1 : Nat) : Int) rfl rfl W W)<|Za Z<|Ze<|Zg<|Zr<|Zm Z<|Zv (Y.subN ((j - 1 : Nat) : Int) rfl rfl W W)<|?_
  refine Za Z<|Ze<|Zc<|?_
  exact ZR (⟨i + 1,j - 1,swp d i j⟩ : Nat × Nat × Array Le) ⟨(reverseLoop_go W).symm.trans r1,by simp only [swp_size]; exact r2,by (try dsimp only); omega⟩ (by dsimp only; omega)
 refine Tr.cond_f Z h1<|Zx<|Zy<|Zy<|Zi<|Ex.keep [0]<|?_
 exact Ex.end0 rfl ⟨rfl,rfl,by rw [<- r1,reverseLoop_stop W]; rfl⟩
theorem part_l {V : Vw} {n c b : Nat} {rest : List Value} {d0 : Array Le} {gf : FuncId} {caps : List Value} {cm : Le -> Le -> Int} {x y p : Nat}  (hN : n <= 1073741824) (hd : d0.size = n) (hx : x <= p) (hp : p < y) (hy : y <= n)  (hcmp : ∀ x y : Le,Does Tryz.prog gf (.agg (Le.cells x).toArray :: .agg (Le.cells y).toArray :: caps) V [] (Pv (.int .i64 (cm x y)) V [])) (hswo : SWO (ltc cm))  : Does Tryz.prog 217 [.slice (some ⟨b,0,none⟩) n c,.int .i64 ((x : Nat) : Int),.int .i64 ((y : Nat) : Int),.int .i64 ((p : Nat) : Int),.func (.func gf) #[] caps.toArray] V [sgD Le.cells 43 b rest d0] (fun v V' H' => V' = V /\ v = .tuple #[.int .i64 ((partition (ltc cm) d0 x y p).1 : Int),.bool (partition (ltc cm) d0 x y p).2.1] /\ H' = [sgD Le.cells 43 b rest ((partition (ltc cm) d0 x y p).2.2)]) := by
 refine Does.intro Tryz.func217 rfl rfl (le rfl) (fun B => ?_)
 refine Zs<|Zr<|Za Z<|Za Z<|Ze<|Zg<|Zs<|Tr.anyT [(b,.cells (cel Le.cells d0 rest).toArray 43 (0,0))] 13 xmo<|Zwm 0 Z Z (ZK 0 Z)<|Zwm 1 Z Z (ZK 0 Z)<|Zwm 2 Z Z (ZK 0 Z)<|Zwm 3 Z Z (ZK 0 Z)<|Zwm 4 Z Z (ZK 0 Z)<|Zwm 5 Z Z (ZK 0 Z)<|Zw 6 Z (ZK 0 Z) (fun _ => (Y.idxN p rfl rfl xes22 W W))<|ZT 7 0 Z Z (ZK 0 Z) (fun _ => (Y.ldA (enc := Le.cells) (d := d0) (rest := rest) (e := 43) (i := p) rfl xag43 Kn.vk1 Le.enc1 WB rfl))<|?_
 refine Zwm 8 Z Z (ZK 0 Z)<|Zwm 9 Z Z (ZK 0 Z)<|Zw 10 Z (ZK 0 Z) (fun _ => (Y.idxN x rfl rfl xes22 W W))<|ZT 11 0 Z Z (ZK 0 Z) (fun _ => (Y.ldA (enc := Le.cells) (d := d0) (rest := rest) (e := 43) (i := x) rfl xag43 Kn.vk1 Le.enc1 WB rfl))<|Zw 12 Z (ZK 0 Z) (fun _ => (Y.idxN x rfl rfl xes22 W W))<|?_
 refine RunT.one (i := 13) WK rfl  ?_
 refine Run.stD (enc := Le.cells) (d := d0) (rest := rest) (e := 43) (i := x) (s := 0) (d0[p]!) rfl rfl xsz43 rfl Le.enc1 WB rfl<|Ze<|Zz 13<|?_
 refine RunT.one (i := 14) WK rfl  ?_
 refine Zv (Y.idxN p Z Z xes22 W W)<|Ze<|Zz 14<|?_
 refine RunT.one (i := 15) WK rfl  ?_
 refine Run.stD (enc := Le.cells) (d := (d0).setIfInBounds x (d0[p]!)) (rest := rest) (e := 43) (i := p) (s := 0) (d0[x]!) rfl rfl xsz43 rfl Le.enc1 WB rfl<|Run.heapTo (H' := [sgD Le.cells 43 b rest (swp d0 x p)]) Z<|Ze<|Zz 15<|RunT.done WK<|Zg<|Zs<|Zr<|?_
 obtain ⟨d1,hd1⟩ : ∃ z,swp d0 x p = z := ⟨_,rfl⟩
 rw [hd1]
 have sd1 : d1.size = n := by rw [<- hd1]; rw [swp_size]; exact hd
 refine Zm Z<|Zv (Y.addN ((x + 1 : Nat) : Int) rfl rfl W W)<|Zm Z<|Zv (Y.subN ((y - 1 : Nat) : Int) rfl rfl W W)<|Za Z<|Za Z<|Ze<|Zg<|?_
 refine Tr.cutx (X := Nat) (fun i1 => V) (fun i1 => [sgD Le.cells 43 b rest d1]) (fun i1 => [(0,.slice (some ⟨b,0,none⟩) n c),(1,.int .i64 ((x : Nat) : Int)),(2,.int .i64 ((y : Nat) : Int)),(3,.int .i64 ((p : Nat) : Int)),(4,.func (.func gf) #[] caps.toArray),(10,.int .i64 0),(11,.bool false),(12,.int .i64 ((i1 : Nat) : Int)),(13,.int .i64 ((y - 1 : Nat) : Int))]) (fun i1 => up1 (ltc cm) d1 x (y - 1) (x + 1) = i1 /\ x < i1 /\ i1 <= y) ?_ ?_
 ·refine Zb ?_
  refine ZL (X := Nat) (fun z0 => V) (fun z0 => [sgD Le.cells 43 b rest d1]) (fun z0 => [(0,.slice (some ⟨b,0,none⟩) n c),(1,.int .i64 ((x : Nat) : Int)),(2,.int .i64 ((y : Nat) : Int)),(3,.int .i64 ((p : Nat) : Int)),(4,.func (.func gf) #[] caps.toArray),(10,.int .i64 0),(11,.bool false),(12,.int .i64 ((z0 : Nat) : Int)),(13,.int .i64 ((y - 1 : Nat) : Int))]) (fun z0 => up1 (ltc cm) d1 x (y - 1) z0 = up1 (ltc cm) d1 x (y - 1) (x + 1) /\ x < z0 /\ z0 <= y) (fun z0 => y - z0) (x + 1 : Nat) ⟨rfl,by omega,by omega⟩ ?_
  rintro i ⟨r1,r2,r3⟩
  try dsimp only at r1 r2 r3 ⊢
  refine Zs<|Zs<|Tr.quiet xmo WK<|ZM Z<|ZM Z<|ZV (Y.int Z Z Z)<|ZM Z<|?_
  refine Zq (decide (((i : Nat) : Int) <= ((y - 1 : Nat) : Int))) (fun h1 g1 => ?_) fun h1 g1 => ?_
  ·refine ZP h1<|ZM Z<|ZP h1<|ZM Z<|ZP h1<|ZM Z<|ZP h1<|ZV (Y.idxN i Z Z xes22 W W)<|ZP h1<|ZV (Y.ldA (enc := Le.cells) (d := d1) (rest := rest) (e := 43) (i := i) Z xag43 (Kn.at 0 rfl) Le.enc1 WB rfl)<|ZP h1<|ZM Z<|ZP h1<|ZM Z<|ZP h1<|ZV (Y.idxN x Z Z xes22 W W)<|?_
   refine ZP h1<|ZV (Y.ldA (enc := Le.cells) (d := d1) (rest := rest) (e := 43) (i := x) Z xag43 (Kn.at 0 rfl) Le.enc1 WB rfl)<|ZP h1<|YC Z Z Z ((hcmp (d1[i]!) (d1[x]!)).frame)<|ZP h1<|ZV (Y.int Z Z Z)<|ZV (Y.pick_t Z h1 Z)<|ZE<|Zg<|?_
   refine Zq (decide ((cm (d1[i]!) (d1[x]!)) < 0)) (fun h2 g2 => ?_) fun h2 g2 => ?_
   ·refine Tr.cond_t Z h2<|Zt<|Zg<|Zb<|Zr<|Zm Z<|Zv (Y.addN ((i + 1 : Nat) : Int) rfl rfl W W)<|Za Z<|Ze<|Zc<|?_
    exact ZR (i + 1 : Nat) ⟨(up1_go W (by assumption)).trans r1,by omega,by omega⟩ W
   refine Tr.cond_f Z h2<|Zx<|Zy<|Zy<|Zi<|?_
   exact ZX i ⟨r1.symm.trans (up1_stop (by first | (left; omega) | (right; assumption))),r2,r3⟩
  refine ZO h1 Z<|ZO h1 Z<|ZO h1 Z<|ZO h1 Z<|ZO h1 Z<|ZO h1 Z<|ZO h1 Z<|ZO h1 Z<|ZO h1 Z<|ZO h1 Z<|ZO h1 Z<|ZV (Y.pick_f Z h1 Z)<|ZE<|Zg<|Tr.cond_f Z Z<|Zx<|?_
  refine Zy<|Zy<|Zi<|?_
  exact ZX i ⟨r1.symm.trans (up1_stop (by first | (left; omega) | (right; assumption))),r2,r3⟩
 rintro i1 ⟨c1,c2,c3⟩
 refine Tr.cutx (X := Nat) (fun j1 => V) (fun j1 => [sgD Le.cells 43 b rest d1]) (fun j1 => [(0,.slice (some ⟨b,0,none⟩) n c),(1,.int .i64 ((x : Nat) : Int)),(2,.int .i64 ((y : Nat) : Int)),(3,.int .i64 ((p : Nat) : Int)),(4,.func (.func gf) #[] caps.toArray),(10,.int .i64 0),(11,.bool false),(12,.int .i64 ((i1 : Nat) : Int)),(13,.int .i64 ((j1 : Nat) : Int))]) (fun j1 => dn1 (ltc cm) d1 x i1 (y - 1) = j1 /\ i1 <= j1 + 1 /\ j1 < y) ?_ ?_
 ·refine Zb ?_
  refine ZL (X := Nat) (fun z0 => V) (fun z0 => [sgD Le.cells 43 b rest d1]) (fun z0 => [(0,.slice (some ⟨b,0,none⟩) n c),(1,.int .i64 ((x : Nat) : Int)),(2,.int .i64 ((y : Nat) : Int)),(3,.int .i64 ((p : Nat) : Int)),(4,.func (.func gf) #[] caps.toArray),(10,.int .i64 0),(11,.bool false),(12,.int .i64 ((i1 : Nat) : Int)),(13,.int .i64 ((z0 : Nat) : Int))]) (fun z0 => dn1 (ltc cm) d1 x i1 z0 = dn1 (ltc cm) d1 x i1 (y - 1) /\ i1 <= z0 + 1 /\ z0 < y) (fun z0 => z0) (y - 1 : Nat) ⟨rfl,by omega,by omega⟩ ?_
  rintro j ⟨q1,q2,q3⟩
  try dsimp only at q1 q2 q3 ⊢
  refine Zs<|Zs<|Tr.quiet xmo WK<|ZM Z<|ZM Z<|ZV (Y.int Z Z Z)<|ZM Z<|?_
  refine Zq (decide (((i1 : Nat) : Int) <= ((j : Nat) : Int))) (fun h3 g3 => ?_) fun h3 g3 => ?_
  ·refine ZP h3<|ZM Z<|ZP h3<|ZM Z<|ZP h3<|ZM Z<|ZP h3<|ZV (Y.idxN j Z Z xes22 W W)<|ZP h3<|ZV (Y.ldA (enc := Le.cells) (d := d1) (rest := rest) (e := 43) (i := j) Z xag43 (Kn.at 0 rfl) Le.enc1 WB rfl)<|ZP h3<|ZM Z<|ZP h3<|ZM Z<|ZP h3<|ZV (Y.idxN x Z Z xes22 W W)<|?_
   refine ZP h3<|ZV (Y.ldA (enc := Le.cells) (d := d1) (rest := rest) (e := 43) (i := x) Z xag43 (Kn.at 0 rfl) Le.enc1 WB rfl)<|ZP h3<|YC Z Z Z ((hcmp (d1[j]!) (d1[x]!)).frame)<|ZP h3<|ZV (Y.int Z Z Z)<|ZP h3<|ZV (Y.not Z)<|ZV (Y.pick_t Z h3 Z)<|ZE<|Zg<|?_
   refine Zq (decide ((cm (d1[j]!) (d1[x]!)) < 0)) (fun h4 g4 => ?_) fun h4 g4 => ?_
   ·refine Tr.cond_f Z (congrArg Bool.not h4)<|Zx<|Zy<|Zy<|Zi<|?_
    exact ZX j ⟨q1.symm.trans (dn1_stop W (by first | (left; omega) | (right; assumption))),q2,q3⟩
   refine Tr.cond_t Z (congrArg Bool.not h4)<|Zt<|Zg<|Zb<|Zr<|Zm Z<|Zv (Y.subN ((j - 1 : Nat) : Int) rfl rfl W W)<|Za Z<|Ze<|Zc<|?_
   exact ZR (j - 1 : Nat) ⟨(dn1_go W W (by assumption)).trans q1,by omega,by omega⟩ W
  refine ZO h3 Z<|ZO h3 Z<|ZO h3 Z<|ZO h3 Z<|ZO h3 Z<|ZO h3 Z<|ZO h3 Z<|ZO h3 Z<|ZO h3 Z<|ZO h3 Z<|ZO h3 Z<|ZO h3 Z<|ZV (Y.pick_f Z h3 Z)<|ZE<|Zg<|Tr.cond_f Z Z<|?_
  refine Zx<|Zy<|Zy<|Zi<|?_
  exact ZX j ⟨q1.symm.trans (dn1_stop W (by first | (left; omega) | (right; assumption))),q2,q3⟩
 rintro j1 ⟨e1,e2,e3⟩
 refine Zs<|Zs<|Zr<|Zm Z<|Zm Z<|Zv (Y.int Z Z Z)<|Ze<|Zg<|?_
 refine Zq (decide (((i1 : Nat) : Int) > ((j1 : Nat) : Int))) (fun h5 g5 => ?_) fun h5 g5 => ?_
 ·refine Tr.cond_t Z h5<|Zs<|Tr.anyT [(b,.cells (cel Le.cells d1 rest).toArray 43 (0,0))] 13 xmo<|Zwm 0 Z Z (ZK 0 Z)<|Zwm 1 Z Z (ZK 0 Z)<|Zwm 2 Z Z (ZK 0 Z)<|Zwm 3 Z Z (ZK 0 Z)<|Zwm 4 Z Z (ZK 0 Z)<|Zwm 5 Z Z (ZK 0 Z)<|Zw 6 Z (ZK 0 Z) (fun _ => (Y.idxN x rfl rfl xes22 W W))<|ZT 7 0 Z Z (ZK 0 Z) (fun _ => (Y.ldA (enc := Le.cells) (d := d1) (rest := rest) (e := 43) (i := x) rfl xag43 Kn.vk1 Le.enc1 WB rfl))<|?_
  refine Zwm 8 Z Z (ZK 0 Z)<|Zwm 9 Z Z (ZK 0 Z)<|Zw 10 Z (ZK 0 Z) (fun _ => (Y.idxN j1 rfl rfl xes22 W W))<|ZT 11 0 Z Z (ZK 0 Z) (fun _ => (Y.ldA (enc := Le.cells) (d := d1) (rest := rest) (e := 43) (i := j1) rfl xag43 Kn.vk1 Le.enc1 WB rfl))<|Zw 12 Z (ZK 0 Z) (fun _ => (Y.idxN j1 rfl rfl xes22 W W))<|?_
  refine RunT.one (i := 13) WK rfl  ?_
  refine Run.stD (enc := Le.cells) (d := d1) (rest := rest) (e := 43) (i := j1) (s := 0) (d1[x]!) rfl rfl xsz43 rfl Le.enc1 WB rfl<|Ze<|Zz 13<|?_
  refine RunT.one (i := 14) WK rfl  ?_
  refine Zv (Y.idxN x Z Z xes22 W W)<|Ze<|Zz 14<|?_
  refine RunT.one (i := 15) WK rfl  ?_
  refine Run.stD (enc := Le.cells) (d := (d1).setIfInBounds j1 (d1[x]!)) (rest := rest) (e := 43) (i := x) (s := 0) (d1[j1]!) rfl rfl xsz43 rfl Le.enc1 WB rfl<|Run.heapTo (H' := [sgD Le.cells 43 b rest (swp d1 j1 x)]) Z<|Ze<|Zz 15<|RunT.done WK<|Zg<|Zs<|Zr<|Zm Z<|Za Z<|Za Z<|Ze<|Zg<|Zu<|Zn<|Ex.keep [0]<|?_
  exact Ex.ret2 rfl rfl rfl  ⟨rfl,by subst hd1; rw [partition_one c1 e1 W],by subst hd1; rw [partition_one c1 e1 W]; rfl⟩
 refine Tr.cond_f Z h5<|Zt<|Zg<|Zs<|Tr.anyT [(b,.cells (cel Le.cells d1 rest).toArray 43 (0,0))] 13 xmo<|Zwm 0 Z Z (ZK 0 Z)<|Zwm 1 Z Z (ZK 0 Z)<|Zwm 2 Z Z (ZK 0 Z)<|Zwm 3 Z Z (ZK 0 Z)<|Zwm 4 Z Z (ZK 0 Z)<|Zwm 5 Z Z (ZK 0 Z)<|Zw 6 Z (ZK 0 Z) (fun _ => (Y.idxN j1 rfl rfl xes22 W W))<|ZT 7 0 Z Z (ZK 0 Z) (fun _ => (Y.ldA (enc := Le.cells) (d := d1) (rest := rest) (e := 43) (i := j1) rfl xag43 Kn.vk1 Le.enc1 WB rfl))<|?_
 refine Zwm 8 Z Z (ZK 0 Z)<|Zwm 9 Z Z (ZK 0 Z)<|Zw 10 Z (ZK 0 Z) (fun _ => (Y.idxN i1 rfl rfl xes22 W W))<|ZT 11 0 Z Z (ZK 0 Z) (fun _ => (Y.ldA (enc := Le.cells) (d := d1) (rest := rest) (e := 43) (i := i1) rfl xag43 Kn.vk1 Le.enc1 WB rfl))<|Zw 12 Z (ZK 0 Z) (fun _ => (Y.idxN i1 rfl rfl xes22 W W))<|?_
 refine RunT.one (i := 13) WK rfl  ?_
 refine Run.stD (enc := Le.cells) (d := d1) (rest := rest) (e := 43) (i := i1) (s := 0) (d1[j1]!) rfl rfl xsz43 rfl Le.enc1 WB rfl<|Ze<|Zz 13<|?_
 refine RunT.one (i := 14) WK rfl  ?_
 refine Zv (Y.idxN j1 Z Z xes22 W W)<|Ze<|Zz 14<|?_
 refine RunT.one (i := 15) WK rfl  ?_
 refine Run.stD (enc := Le.cells) (d := (d1).setIfInBounds i1 (d1[j1]!)) (rest := rest) (e := 43) (i := j1) (s := 0) (d1[i1]!) rfl rfl xsz43 rfl Le.enc1 WB rfl<|Run.heapTo (H' := [sgD Le.cells 43 b rest (swp d1 i1 j1)]) Z<|Ze<|Zz 15<|RunT.done WK<|Zg<|Zs<|Zr<|?_
 have hx1 := cross1 c1 e1 W W W
 refine Zm Z<|Zv (Y.addN ((i1 + 1 : Nat) : Int) rfl rfl W W)<|Za Z<|Ze<|Zg<|Zs<|Zr<|Zm Z<|Zv (Y.subN ((j1 - 1 : Nat) : Int) rfl rfl W W)<|Za Z<|Ze<|Zg<|Zs<|Zb<|?_
 refine ZL (X := Nat × Nat × Array Le) (fun z0 => V) (fun z0 => [sgD Le.cells 43 b rest z0.2.2]) (fun z0 => [(0,.slice (some ⟨b,0,none⟩) n c),(1,.int .i64 ((x : Nat) : Int)),(2,.int .i64 ((y : Nat) : Int)),(3,.int .i64 ((p : Nat) : Int)),(4,.func (.func gf) #[] caps.toArray),(10,.int .i64 0),(11,.bool false),(12,.int .i64 ((z0.1 : Nat) : Int)),(13,.int .i64 ((z0.2.1 : Nat) : Int))]) (fun z0 => partLoop (ltc cm) x z0.1 z0.2.1 z0.2.2 = partLoop (ltc cm) x (i1 + 1) (j1 - 1) (swp d1 i1 j1) /\ z0.2.2.size = n /\ x < z0.1 /\ z0.1 <= z0.2.1 + 1 /\ z0.2.1 < y) (fun z0 => z0.2.1 + 1 - z0.1) (⟨i1 + 1,j1 - 1,swp d1 i1 j1⟩ : Nat × Nat × Array Le) ⟨rfl,by simp only [swp_size]; exact sd1,by (try dsimp only); omega,by (try dsimp only); omega,by (try dsimp only); omega⟩ ?_
 rintro ⟨i,j,d⟩ ⟨k1,k2,k3,k4,k5⟩
 try dsimp only at k1 k2 k3 k4 k5 ⊢
 refine Zb ?_
 refine Tr.cutx (X := Nat) (fun i2 => V) (fun i2 => [sgD Le.cells 43 b rest d]) (fun i2 => [(0,.slice (some ⟨b,0,none⟩) n c),(1,.int .i64 ((x : Nat) : Int)),(2,.int .i64 ((y : Nat) : Int)),(3,.int .i64 ((p : Nat) : Int)),(4,.func (.func gf) #[] caps.toArray),(10,.int .i64 0),(11,.bool false),(12,.int .i64 ((i2 : Nat) : Int)),(13,.int .i64 ((j : Nat) : Int))]) (fun i2 => up1 (ltc cm) d x j i = i2 /\ i <= i2 /\ i2 <= j + 1) ?_ ?_
 ·refine Zb ?_
  refine ZL (X := Nat) (fun z0 => V) (fun z0 => [sgD Le.cells 43 b rest d]) (fun z0 => [(0,.slice (some ⟨b,0,none⟩) n c),(1,.int .i64 ((x : Nat) : Int)),(2,.int .i64 ((y : Nat) : Int)),(3,.int .i64 ((p : Nat) : Int)),(4,.func (.func gf) #[] caps.toArray),(10,.int .i64 0),(11,.bool false),(12,.int .i64 ((z0 : Nat) : Int)),(13,.int .i64 ((j : Nat) : Int))]) (fun z0 => up1 (ltc cm) d x j z0 = up1 (ltc cm) d x j i /\ i <= z0 /\ z0 <= j + 1) (fun z0 => j + 1 - z0) (i : Nat) ⟨rfl,Nat.le_refl _,by omega⟩ ?_
  rintro u ⟨m1,m2,m3⟩
  try dsimp only at m1 m2 m3 ⊢
  refine Zs<|Zs<|Tr.quiet xmo WK<|ZM Z<|ZM Z<|ZV (Y.int Z Z Z)<|ZM Z<|?_
  refine Zq (decide (((u : Nat) : Int) <= ((j : Nat) : Int))) (fun h6 g6 => ?_) fun h6 g6 => ?_
  ·refine ZP h6<|ZM Z<|ZP h6<|ZM Z<|ZP h6<|ZM Z<|ZP h6<|ZV (Y.idxN u Z Z xes22 W W)<|ZP h6<|ZV (Y.ldA (enc := Le.cells) (d := d) (rest := rest) (e := 43) (i := u) Z xag43 (Kn.at 0 rfl) Le.enc1 WB rfl)<|ZP h6<|ZM Z<|ZP h6<|ZM Z<|ZP h6<|ZV (Y.idxN x Z Z xes22 W W)<|?_
   refine ZP h6<|ZV (Y.ldA (enc := Le.cells) (d := d) (rest := rest) (e := 43) (i := x) Z xag43 (Kn.at 0 rfl) Le.enc1 WB rfl)<|ZP h6<|YC Z Z Z ((hcmp (d[u]!) (d[x]!)).frame)<|ZP h6<|ZV (Y.int Z Z Z)<|ZV (Y.pick_t Z h6 Z)<|ZE<|Zg<|?_
   refine Zq (decide ((cm (d[u]!) (d[x]!)) < 0)) (fun h7 g7 => ?_) fun h7 g7 => ?_
   ·refine Tr.cond_t Z h7<|Zt<|Zg<|Zb<|Zr<|Zm Z<|Zv (Y.addN ((u + 1 : Nat) : Int) rfl rfl W W)<|Za Z<|Ze<|Zc<|?_
    exact ZR (u + 1 : Nat) ⟨(up1_go W (by assumption)).trans m1,by omega,by omega⟩ W
   refine Tr.cond_f Z h7<|Zx<|Zy<|Zy<|Zi<|?_
   exact ZX u ⟨m1.symm.trans (up1_stop (by first | (left; omega) | (right; assumption))),m2,m3⟩
  refine ZO h6 Z<|ZO h6 Z<|ZO h6 Z<|ZO h6 Z<|ZO h6 Z<|ZO h6 Z<|ZO h6 Z<|ZO h6 Z<|ZO h6 Z<|ZO h6 Z<|ZO h6 Z<|ZV (Y.pick_f Z h6 Z)<|ZE<|Zg<|Tr.cond_f Z Z<|Zx<|?_
  refine Zy<|Zy<|Zi<|?_
  exact ZX u ⟨m1.symm.trans (up1_stop (by first | (left; omega) | (right; assumption))),m2,m3⟩
 rintro i2 ⟨f1,f2,f3⟩
 refine Tr.cutx (X := Nat) (fun j2 => V) (fun j2 => [sgD Le.cells 43 b rest d]) (fun j2 => [(0,.slice (some ⟨b,0,none⟩) n c),(1,.int .i64 ((x : Nat) : Int)),(2,.int .i64 ((y : Nat) : Int)),(3,.int .i64 ((p : Nat) : Int)),(4,.func (.func gf) #[] caps.toArray),(10,.int .i64 0),(11,.bool false),(12,.int .i64 ((i2 : Nat) : Int)),(13,.int .i64 ((j2 : Nat) : Int))]) (fun j2 => dn1 (ltc cm) d x i2 j = j2 /\ i2 <= j2 + 1 /\ j2 <= j) ?_ ?_
 ·refine Zb ?_
  refine ZL (X := Nat) (fun z0 => V) (fun z0 => [sgD Le.cells 43 b rest d]) (fun z0 => [(0,.slice (some ⟨b,0,none⟩) n c),(1,.int .i64 ((x : Nat) : Int)),(2,.int .i64 ((y : Nat) : Int)),(3,.int .i64 ((p : Nat) : Int)),(4,.func (.func gf) #[] caps.toArray),(10,.int .i64 0),(11,.bool false),(12,.int .i64 ((i2 : Nat) : Int)),(13,.int .i64 ((z0 : Nat) : Int))]) (fun z0 => dn1 (ltc cm) d x i2 z0 = dn1 (ltc cm) d x i2 j /\ i2 <= z0 + 1 /\ z0 <= j) (fun z0 => z0) (j : Nat) ⟨rfl,by omega,Nat.le_refl _⟩ ?_
  rintro t ⟨n1,n2,n3⟩
  try dsimp only at n1 n2 n3 ⊢
  refine Zs<|Zs<|Tr.quiet xmo WK<|ZM Z<|ZM Z<|ZV (Y.int Z Z Z)<|ZM Z<|?_
  refine Zq (decide (((i2 : Nat) : Int) <= ((t : Nat) : Int))) (fun h8 g8 => ?_) fun h8 g8 => ?_
  ·refine ZP h8<|ZM Z<|ZP h8<|ZM Z<|ZP h8<|ZM Z<|ZP h8<|ZV (Y.idxN t Z Z xes22 W W)<|ZP h8<|ZV (Y.ldA (enc := Le.cells) (d := d) (rest := rest) (e := 43) (i := t) Z xag43 (Kn.at 0 rfl) Le.enc1 WB rfl)<|ZP h8<|ZM Z<|ZP h8<|ZM Z<|ZP h8<|ZV (Y.idxN x Z Z xes22 W W)<|?_
   refine ZP h8<|ZV (Y.ldA (enc := Le.cells) (d := d) (rest := rest) (e := 43) (i := x) Z xag43 (Kn.at 0 rfl) Le.enc1 WB rfl)<|ZP h8<|YC Z Z Z ((hcmp (d[t]!) (d[x]!)).frame)<|ZP h8<|ZV (Y.int Z Z Z)<|ZP h8<|ZV (Y.not Z)<|ZV (Y.pick_t Z h8 Z)<|ZE<|Zg<|?_
   refine Zq (decide ((cm (d[t]!) (d[x]!)) < 0)) (fun h9 g9 => ?_) fun h9 g9 => ?_
   ·refine Tr.cond_f Z (congrArg Bool.not h9)<|Zx<|Zy<|Zy<|Zi<|?_
    exact ZX t ⟨n1.symm.trans (dn1_stop W (by first | (left; omega) | (right; assumption))),n2,n3⟩
   refine Tr.cond_t Z (congrArg Bool.not h9)<|Zt<|Zg<|Zb<|Zr<|Zm Z<|Zv (Y.subN ((t - 1 : Nat) : Int) rfl rfl W W)<|Za Z<|Ze<|Zc<|?_
   exact ZR (t - 1 : Nat) ⟨(dn1_go W W (by assumption)).trans n1,by omega,by omega⟩ W
  refine ZO h8 Z<|ZO h8 Z<|ZO h8 Z<|ZO h8 Z<|ZO h8 Z<|ZO h8 Z<|ZO h8 Z<|ZO h8 Z<|ZO h8 Z<|ZO h8 Z<|ZO h8 Z<|ZO h8 Z<|ZV (Y.pick_f Z h8 Z)<|ZE<|Zg<|Tr.cond_f Z Z<|?_
  refine Zx<|Zy<|Zy<|Zi<|?_
  exact ZX t ⟨n1.symm.trans (dn1_stop W (by first | (left; omega) | (right; assumption))),n2,n3⟩
 rintro j2 ⟨g1,g2,g3⟩
 refine Zs<|Zs<|Zr<|Zm Z<|Zm Z<|Zv (Y.int Z Z Z)<|Ze<|Zg<|?_
 refine Zq (decide (((i2 : Nat) : Int) > ((j2 : Nat) : Int))) (fun h10 g10 => ?_) fun h10 g10 => ?_
 ·refine Tr.cond_t Z h10<|Zx<|Zy<|Ex.exit_out Z<|Zy<|Zi<|Zg<|Zs<|Tr.anyT [(b,.cells (cel Le.cells d rest).toArray 43 (0,0))] 13 xmo<|Zwm 0 Z Z (ZK 0 Z)<|Zwm 1 Z Z (ZK 0 Z)<|Zwm 2 Z Z (ZK 0 Z)<|Zwm 3 Z Z (ZK 0 Z)<|Zwm 4 Z Z (ZK 0 Z)<|Zwm 5 Z Z (ZK 0 Z)<|Zw 6 Z (ZK 0 Z) (fun _ => (Y.idxN x rfl rfl xes22 W W))<|?_
  refine ZT 7 0 Z Z (ZK 0 Z) (fun _ => (Y.ldA (enc := Le.cells) (d := d) (rest := rest) (e := 43) (i := x) rfl xag43 Kn.vk1 Le.enc1 WB rfl))<|Zwm 8 Z Z (ZK 0 Z)<|Zwm 9 Z Z (ZK 0 Z)<|Zw 10 Z (ZK 0 Z) (fun _ => (Y.idxN j2 rfl rfl xes22 W W))<|ZT 11 0 Z Z (ZK 0 Z) (fun _ => (Y.ldA (enc := Le.cells) (d := d) (rest := rest) (e := 43) (i := j2) rfl xag43 Kn.vk1 Le.enc1 WB rfl))<|?_
  refine Zw 12 Z (ZK 0 Z) (fun _ => (Y.idxN j2 rfl rfl xes22 W W)) ?_
  refine RunT.one (i := 13) WK rfl  ?_
  refine Run.stD (enc := Le.cells) (d := d) (rest := rest) (e := 43) (i := j2) (s := 0) (d[x]!) rfl rfl xsz43 rfl Le.enc1 WB rfl<|Ze<|Zz 13<|?_
  refine RunT.one (i := 14) WK rfl  ?_
  refine Zv (Y.idxN x Z Z xes22 W W)<|Ze<|Zz 14<|?_
  refine RunT.one (i := 15) WK rfl  ?_
  refine Run.stD (enc := Le.cells) (d := (d).setIfInBounds j2 (d[x]!)) (rest := rest) (e := 43) (i := x) (s := 0) (d[j2]!) rfl rfl xsz43 rfl Le.enc1 WB rfl<|Run.heapTo (H' := [sgD Le.cells 43 b rest (swp d j2 x)]) Z<|Ze<|Zz 15<|RunT.done WK<|Zg<|Zs<|Zr<|Zm Z<|Za Z<|Za Z<|Ze<|Zg<|Zu<|Ex.keep [0]<|?_
  exact Ex.ret2 rfl rfl rfl  ⟨rfl,by subst hd1; rw [partition_two c1 e1 W (k1.symm.trans (partLoop_end f1 g1 W))],by subst hd1; rw [partition_two c1 e1 W (k1.symm.trans (partLoop_end f1 g1 W))]; rfl⟩
 refine Tr.cond_f Z h10<|Zt<|Zg<|Zs<|Tr.anyT [(b,.cells (cel Le.cells d rest).toArray 43 (0,0))] 13 xmo<|Zwm 0 Z Z (ZK 0 Z)<|Zwm 1 Z Z (ZK 0 Z)<|Zwm 2 Z Z (ZK 0 Z)<|Zwm 3 Z Z (ZK 0 Z)<|Zwm 4 Z Z (ZK 0 Z)<|Zwm 5 Z Z (ZK 0 Z)<|Zw 6 Z (ZK 0 Z) (fun _ => (Y.idxN j2 rfl rfl xes22 W W))<|ZT 7 0 Z Z (ZK 0 Z) (fun _ => (Y.ldA (enc := Le.cells) (d := d) (rest := rest) (e := 43) (i := j2) rfl xag43 Kn.vk1 Le.enc1 WB rfl))<|?_
 refine Zwm 8 Z Z (ZK 0 Z)<|Zwm 9 Z Z (ZK 0 Z)<|Zw 10 Z (ZK 0 Z) (fun _ => (Y.idxN i2 rfl rfl xes22 W W))<|ZT 11 0 Z Z (ZK 0 Z) (fun _ => (Y.ldA (enc := Le.cells) (d := d) (rest := rest) (e := 43) (i := i2) rfl xag43 Kn.vk1 Le.enc1 WB rfl))<|Zw 12 Z (ZK 0 Z) (fun _ => (Y.idxN i2 rfl rfl xes22 W W))<|?_
 refine RunT.one (i := 13) WK rfl  ?_
 refine Run.stD (enc := Le.cells) (d := d) (rest := rest) (e := 43) (i := i2) (s := 0) (d[j2]!) rfl rfl xsz43 rfl Le.enc1 WB rfl<|Ze<|Zz 13<|?_
 refine RunT.one (i := 14) WK rfl  ?_
 refine Zv (Y.idxN j2 Z Z xes22 W W)<|Ze<|Zz 14<|?_
 refine RunT.one (i := 15) WK rfl  ?_
 refine Run.stD (enc := Le.cells) (d := (d).setIfInBounds i2 (d[j2]!)) (rest := rest) (e := 43) (i := j2) (s := 0) (d[i2]!) rfl rfl xsz43 rfl Le.enc1 WB rfl<|Run.heapTo (H' := [sgD Le.cells 43 b rest (swp d i2 j2)]) Z<|Ze<|Zz 15<|RunT.done WK<|Zg<|Zs<|Zr<|Zm Z<|Zv (Y.addN ((i2 + 1 : Nat) : Int) rfl rfl W W)<|Za Z<|Ze<|Zg<|?_
 refine Zr<|Zm Z<|Zv (Y.subN ((j2 - 1 : Nat) : Int) rfl rfl W W)<|Za Z<|Ze<|Zc<|?_
 exact ZR (⟨i2 + 1,j2 - 1,swp d i2 j2⟩ : Nat × Nat × Array Le) ⟨(partLoop_go f1 g1 W).symm.trans k1,by simp only [swp_size]; exact k2,by have := cross1 f1 g1 W W W; dsimp only; omega,by have := cross1 f1 g1 W W W; dsimp only; omega,by (try dsimp only); omega⟩ (by dsimp only; omega)
theorem pareq_l {V : Vw} {n c b : Nat} {rest : List Value} {d0 : Array Le} {gf : FuncId} {caps : List Value} {cm : Le -> Le -> Int} {x y p : Nat}  (hN : n <= 1073741824) (hd : d0.size = n) (hx : x <= p) (hp : p < y) (hy : y <= n)  (hcmp : ∀ x y : Le,Does Tryz.prog gf (.agg (Le.cells x).toArray :: .agg (Le.cells y).toArray :: caps) V [] (Pv (.int .i64 (cm x y)) V [])) (hswo : SWO (ltc cm))  : Does Tryz.prog 216 [.slice (some ⟨b,0,none⟩) n c,.int .i64 ((x : Nat) : Int),.int .i64 ((y : Nat) : Int),.int .i64 ((p : Nat) : Int),.func (.func gf) #[] caps.toArray] V [sgD Le.cells 43 b rest d0] (fun v V' H' => V' = V /\ v = .int .i64 ((partitionEqual (ltc cm) d0 x y p).1 : Int) /\ H' = [sgD Le.cells 43 b rest ((partitionEqual (ltc cm) d0 x y p).2)]) := by
 refine Does.intro Tryz.func216 rfl rfl (le rfl) (fun B => ?_)
 refine Zs<|Zr<|Za Z<|Ze<|Zg<|Zs<|Tr.anyT [(b,.cells (cel Le.cells d0 rest).toArray 43 (0,0))] 13 xmo<|Zwm 0 Z Z (ZK 0 Z)<|Zwm 1 Z Z (ZK 0 Z)<|Zwm 2 Z Z (ZK 0 Z)<|Zwm 3 Z Z (ZK 0 Z)<|Zwm 4 Z Z (ZK 0 Z)<|Zwm 5 Z Z (ZK 0 Z)<|Zw 6 Z (ZK 0 Z) (fun _ => (Y.idxN p rfl rfl xes22 W W))<|ZT 7 0 Z Z (ZK 0 Z) (fun _ => (Y.ldA (enc := Le.cells) (d := d0) (rest := rest) (e := 43) (i := p) rfl xag43 Kn.vk1 Le.enc1 WB rfl))<|?_
 refine Zwm 8 Z Z (ZK 0 Z)<|Zwm 9 Z Z (ZK 0 Z)<|Zw 10 Z (ZK 0 Z) (fun _ => (Y.idxN x rfl rfl xes22 W W))<|ZT 11 0 Z Z (ZK 0 Z) (fun _ => (Y.ldA (enc := Le.cells) (d := d0) (rest := rest) (e := 43) (i := x) rfl xag43 Kn.vk1 Le.enc1 WB rfl))<|Zw 12 Z (ZK 0 Z) (fun _ => (Y.idxN x rfl rfl xes22 W W))<|?_
 refine RunT.one (i := 13) WK rfl  ?_
 refine Run.stD (enc := Le.cells) (d := d0) (rest := rest) (e := 43) (i := x) (s := 0) (d0[p]!) rfl rfl xsz43 rfl Le.enc1 WB rfl<|Ze<|Zz 13<|?_
 refine RunT.one (i := 14) WK rfl  ?_
 refine Zv (Y.idxN p Z Z xes22 W W)<|Ze<|Zz 14<|?_
 refine RunT.one (i := 15) WK rfl  ?_
 refine Run.stD (enc := Le.cells) (d := (d0).setIfInBounds x (d0[p]!)) (rest := rest) (e := 43) (i := p) (s := 0) (d0[x]!) rfl rfl xsz43 rfl Le.enc1 WB rfl<|Run.heapTo (H' := [sgD Le.cells 43 b rest (swp d0 x p)]) Z<|Ze<|Zz 15<|RunT.done WK<|Zg<|Zs<|Zr<|Zm Z<|Zv (Y.addN ((x + 1 : Nat) : Int) rfl rfl W W)<|Zm Z<|Zv (Y.subN ((y - 1 : Nat) : Int) rfl rfl W W)<|?_
 refine Za Z<|Za Z<|Ze<|Zg<|Zs<|Zb<|?_
 refine ZL (X := Nat × Nat × Array Le) (fun z0 => V) (fun z0 => [sgD Le.cells 43 b rest z0.2.2]) (fun z0 => [(0,.slice (some ⟨b,0,none⟩) n c),(1,.int .i64 ((x : Nat) : Int)),(2,.int .i64 ((y : Nat) : Int)),(3,.int .i64 ((p : Nat) : Int)),(4,.func (.func gf) #[] caps.toArray),(10,.int .i64 0),(11,.int .i64 ((z0.1 : Nat) : Int)),(12,.int .i64 ((z0.2.1 : Nat) : Int))]) (fun z0 => partEqLoop (ltc cm) x z0.1 z0.2.1 z0.2.2 = partitionEqual (ltc cm) d0 x y p /\ z0.2.2.size = n /\ x < z0.1 /\ z0.1 <= z0.2.1 + 1 /\ z0.2.1 < y) (fun z0 => z0.2.1 + 1 - z0.1) (⟨x + 1,y - 1,swp d0 x p⟩ : Nat × Nat × Array Le) ⟨rfl,by simp only [swp_size]; exact hd,by (try dsimp only); omega,by (try dsimp only); omega,by (try dsimp only); omega⟩ ?_
 rintro ⟨i,j,d⟩ ⟨k1,k2,k3,k4,k5⟩
 try dsimp only at k1 k2 k3 k4 k5 ⊢
 refine Zb ?_
 refine Tr.cutx (X := Nat) (fun i2 => V) (fun i2 => [sgD Le.cells 43 b rest d]) (fun i2 => [(0,.slice (some ⟨b,0,none⟩) n c),(1,.int .i64 ((x : Nat) : Int)),(2,.int .i64 ((y : Nat) : Int)),(3,.int .i64 ((p : Nat) : Int)),(4,.func (.func gf) #[] caps.toArray),(10,.int .i64 0),(11,.int .i64 ((i2 : Nat) : Int)),(12,.int .i64 ((j : Nat) : Int))]) (fun i2 => up2 (ltc cm) d x j i = i2 /\ i <= i2 /\ i2 <= j + 1) ?_ ?_
 ·refine Zb ?_
  refine ZL (X := Nat) (fun z0 => V) (fun z0 => [sgD Le.cells 43 b rest d]) (fun z0 => [(0,.slice (some ⟨b,0,none⟩) n c),(1,.int .i64 ((x : Nat) : Int)),(2,.int .i64 ((y : Nat) : Int)),(3,.int .i64 ((p : Nat) : Int)),(4,.func (.func gf) #[] caps.toArray),(10,.int .i64 0),(11,.int .i64 ((z0 : Nat) : Int)),(12,.int .i64 ((j : Nat) : Int))]) (fun z0 => up2 (ltc cm) d x j z0 = up2 (ltc cm) d x j i /\ i <= z0 /\ z0 <= j + 1) (fun z0 => j + 1 - z0) (i : Nat) ⟨rfl,Nat.le_refl _,by omega⟩ ?_
  rintro u ⟨m1,m2,m3⟩
  try dsimp only at m1 m2 m3 ⊢
  refine Zs<|Zs<|Tr.quiet xmo WK<|ZM Z<|ZM Z<|ZV (Y.int Z Z Z)<|ZM Z<|?_
  refine Zq (decide (((u : Nat) : Int) <= ((j : Nat) : Int))) (fun h1 g1 => ?_) fun h1 g1 => ?_
  ·refine ZP h1<|ZM Z<|ZP h1<|ZM Z<|ZP h1<|ZM Z<|ZP h1<|ZV (Y.idxN x Z Z xes22 W W)<|ZP h1<|ZV (Y.ldA (enc := Le.cells) (d := d) (rest := rest) (e := 43) (i := x) Z xag43 (Kn.at 0 rfl) Le.enc1 WB rfl)<|ZP h1<|ZM Z<|ZP h1<|ZM Z<|ZP h1<|ZV (Y.idxN u Z Z xes22 W W)<|?_
   refine ZP h1<|ZV (Y.ldA (enc := Le.cells) (d := d) (rest := rest) (e := 43) (i := u) Z xag43 (Kn.at 0 rfl) Le.enc1 WB rfl)<|ZP h1<|YC Z Z Z ((hcmp (d[x]!) (d[u]!)).frame)<|ZP h1<|ZV (Y.int Z Z Z)<|ZP h1<|ZV (Y.not Z)<|ZV (Y.pick_t Z h1 Z)<|ZE<|Zg<|?_
   refine Zq (decide ((cm (d[x]!) (d[u]!)) < 0)) (fun h2 g2 => ?_) fun h2 g2 => ?_
   ·refine Tr.cond_f Z (congrArg Bool.not h2)<|Zx<|Zy<|Zy<|Zi<|?_
    exact ZX u ⟨m1.symm.trans (up2_stop (by first | (left; omega) | (right; assumption))),m2,m3⟩
   refine Tr.cond_t Z (congrArg Bool.not h2)<|Zt<|Zg<|Zb<|Zr<|Zm Z<|Zv (Y.addN ((u + 1 : Nat) : Int) rfl rfl W W)<|Za Z<|Ze<|Zc<|?_
   exact ZR (u + 1 : Nat) ⟨(up2_go W (by assumption)).trans m1,by omega,by omega⟩ W
  refine ZO h1 Z<|ZO h1 Z<|ZO h1 Z<|ZO h1 Z<|ZO h1 Z<|ZO h1 Z<|ZO h1 Z<|ZO h1 Z<|ZO h1 Z<|ZO h1 Z<|ZO h1 Z<|ZO h1 Z<|ZV (Y.pick_f Z h1 Z)<|ZE<|Zg<|Tr.cond_f Z Z<|?_
  refine Zx<|Zy<|Zy<|Zi<|?_
  exact ZX u ⟨m1.symm.trans (up2_stop (by first | (left; omega) | (right; assumption))),m2,m3⟩
 rintro i2 ⟨f1,f2,f3⟩
 refine Tr.cutx (X := Nat) (fun j2 => V) (fun j2 => [sgD Le.cells 43 b rest d]) (fun j2 => [(0,.slice (some ⟨b,0,none⟩) n c),(1,.int .i64 ((x : Nat) : Int)),(2,.int .i64 ((y : Nat) : Int)),(3,.int .i64 ((p : Nat) : Int)),(4,.func (.func gf) #[] caps.toArray),(10,.int .i64 0),(11,.int .i64 ((i2 : Nat) : Int)),(12,.int .i64 ((j2 : Nat) : Int))]) (fun j2 => dn2 (ltc cm) d x i2 j = j2 /\ i2 <= j2 + 1 /\ j2 <= j) ?_ ?_
 ·refine Zb ?_
  refine ZL (X := Nat) (fun z0 => V) (fun z0 => [sgD Le.cells 43 b rest d]) (fun z0 => [(0,.slice (some ⟨b,0,none⟩) n c),(1,.int .i64 ((x : Nat) : Int)),(2,.int .i64 ((y : Nat) : Int)),(3,.int .i64 ((p : Nat) : Int)),(4,.func (.func gf) #[] caps.toArray),(10,.int .i64 0),(11,.int .i64 ((i2 : Nat) : Int)),(12,.int .i64 ((z0 : Nat) : Int))]) (fun z0 => dn2 (ltc cm) d x i2 z0 = dn2 (ltc cm) d x i2 j /\ i2 <= z0 + 1 /\ z0 <= j) (fun z0 => z0) (j : Nat) ⟨rfl,by omega,Nat.le_refl _⟩ ?_
  rintro t ⟨n1,n2,n3⟩
  try dsimp only at n1 n2 n3 ⊢
  refine Zs<|Zs<|Tr.quiet xmo WK<|ZM Z<|ZM Z<|ZV (Y.int Z Z Z)<|ZM Z<|?_
  refine Zq (decide (((i2 : Nat) : Int) <= ((t : Nat) : Int))) (fun h3 g3 => ?_) fun h3 g3 => ?_
  ·refine ZP h3<|ZM Z<|ZP h3<|ZM Z<|ZP h3<|ZM Z<|ZP h3<|ZV (Y.idxN x Z Z xes22 W W)<|ZP h3<|ZV (Y.ldA (enc := Le.cells) (d := d) (rest := rest) (e := 43) (i := x) Z xag43 (Kn.at 0 rfl) Le.enc1 WB rfl)<|ZP h3<|ZM Z<|ZP h3<|ZM Z<|ZP h3<|ZV (Y.idxN t Z Z xes22 W W)<|?_
   refine ZP h3<|ZV (Y.ldA (enc := Le.cells) (d := d) (rest := rest) (e := 43) (i := t) Z xag43 (Kn.at 0 rfl) Le.enc1 WB rfl)<|ZP h3<|YC Z Z Z ((hcmp (d[x]!) (d[t]!)).frame)<|ZP h3<|ZV (Y.int Z Z Z)<|ZV (Y.pick_t Z h3 Z)<|ZE<|Zg<|?_
   refine Zq (decide ((cm (d[x]!) (d[t]!)) < 0)) (fun h4 g4 => ?_) fun h4 g4 => ?_
   ·refine Tr.cond_t Z h4<|Zt<|Zg<|Zb<|Zr<|Zm Z<|Zv (Y.subN ((t - 1 : Nat) : Int) rfl rfl W W)<|Za Z<|Ze<|Zc<|?_
    exact ZR (t - 1 : Nat) ⟨(dn2_go W W (by assumption)).trans n1,by omega,by omega⟩ W
   refine Tr.cond_f Z h4<|Zx<|Zy<|Zy<|Zi<|?_
   exact ZX t ⟨n1.symm.trans (dn2_stop W (by first | (left; omega) | (right; assumption))),n2,n3⟩
  refine ZO h3 Z<|ZO h3 Z<|ZO h3 Z<|ZO h3 Z<|ZO h3 Z<|ZO h3 Z<|ZO h3 Z<|ZO h3 Z<|ZO h3 Z<|ZO h3 Z<|ZO h3 Z<|ZV (Y.pick_f Z h3 Z)<|ZE<|Zg<|Tr.cond_f Z Z<|Zx<|?_
  refine Zy<|Zy<|Zi<|?_
  exact ZX t ⟨n1.symm.trans (dn2_stop W (by first | (left; omega) | (right; assumption))),n2,n3⟩
 rintro j2 ⟨g1,g2,g3⟩
 refine Zs<|Zs<|Zr<|Zm Z<|Zm Z<|Zv (Y.int Z Z Z)<|Ze<|Zg<|?_
 refine Zq (decide (((i2 : Nat) : Int) > ((j2 : Nat) : Int))) (fun h5 g5 => ?_) fun h5 g5 => ?_
 ·refine Tr.cond_t Z h5<|Zx<|Zy<|Ex.exit_out Z<|Zy<|Zi<|Zg<|Zs<|Zr<|Zm Z<|Za Z<|Ze<|Zg<|Zu<|Ex.keep [0]<|?_
  exact Ex.ret1 rfl rfl  ⟨rfl,by rw [<- k1,partEqLoop_end f1 g1 W],by rw [<- k1,partEqLoop_end f1 g1 W]; rfl⟩
 refine Tr.cond_f Z h5<|Zt<|Zg<|Zs<|Tr.anyT [(b,.cells (cel Le.cells d rest).toArray 43 (0,0))] 13 xmo<|Zwm 0 Z Z (ZK 0 Z)<|Zwm 1 Z Z (ZK 0 Z)<|Zwm 2 Z Z (ZK 0 Z)<|Zwm 3 Z Z (ZK 0 Z)<|Zwm 4 Z Z (ZK 0 Z)<|Zwm 5 Z Z (ZK 0 Z)<|Zw 6 Z (ZK 0 Z) (fun _ => (Y.idxN j2 rfl rfl xes22 W W))<|ZT 7 0 Z Z (ZK 0 Z) (fun _ => (Y.ldA (enc := Le.cells) (d := d) (rest := rest) (e := 43) (i := j2) rfl xag43 Kn.vk1 Le.enc1 WB rfl))<|?_
 refine Zwm 8 Z Z (ZK 0 Z)<|Zwm 9 Z Z (ZK 0 Z)<|Zw 10 Z (ZK 0 Z) (fun _ => (Y.idxN i2 rfl rfl xes22 W W))<|ZT 11 0 Z Z (ZK 0 Z) (fun _ => (Y.ldA (enc := Le.cells) (d := d) (rest := rest) (e := 43) (i := i2) rfl xag43 Kn.vk1 Le.enc1 WB rfl))<|Zw 12 Z (ZK 0 Z) (fun _ => (Y.idxN i2 rfl rfl xes22 W W))<|?_
 refine RunT.one (i := 13) WK rfl  ?_
 refine Run.stD (enc := Le.cells) (d := d) (rest := rest) (e := 43) (i := i2) (s := 0) (d[j2]!) rfl rfl xsz43 rfl Le.enc1 WB rfl<|Ze<|Zz 13<|?_
 refine RunT.one (i := 14) WK rfl  ?_
 refine Zv (Y.idxN j2 Z Z xes22 W W)<|Ze<|Zz 14<|?_
 refine RunT.one (i := 15) WK rfl  ?_
 refine Run.stD (enc := Le.cells) (d := (d).setIfInBounds i2 (d[j2]!)) (rest := rest) (e := 43) (i := j2) (s := 0) (d[i2]!) rfl rfl xsz43 rfl Le.enc1 WB rfl<|Run.heapTo (H' := [sgD Le.cells 43 b rest (swp d i2 j2)]) Z<|Ze<|Zz 15<|RunT.done WK<|Zg<|Zs<|Zr<|Zm Z<|Zv (Y.addN ((i2 + 1 : Nat) : Int) rfl rfl W W)<|Za Z<|Ze<|Zg<|?_
 refine Zr<|Zm Z<|Zv (Y.subN ((j2 - 1 : Nat) : Int) rfl rfl W W)<|Za Z<|Ze<|Zc<|?_
 exact ZR (⟨i2 + 1,j2 - 1,swp d i2 j2⟩ : Nat × Nat × Array Le) ⟨(partEqLoop_go f1 g1 W).symm.trans k1,by simp only [swp_size]; exact k2,by have := cross2 f1 g1 W W W; dsimp only; omega,by have := cross2 f1 g1 W W W; dsimp only; omega,by (try dsimp only); omega⟩ (by dsimp only; omega)
end Go.Proofs.YtfgblingojgafaaGreat
