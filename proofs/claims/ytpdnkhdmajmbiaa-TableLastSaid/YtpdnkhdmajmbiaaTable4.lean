/- The reference's table, walked.
Conditions: as each theorem names them. -/
import Derived.Test.YtpdnkhdmajmbiaaProg
import Derived.Test.YtpdnkhdmajmbiaaTable1
import Derived.Test.YtpdnkhdmajmbiaaTC
import Derived.Test.YtpdnkhdmajmbiaaAddr4
import Derived.Test.YtpdnkhdmajmbiaaKC
import Derived.Test.YtpdnkhdmajmbiaaKF
import Derived.Test.YtpdnkhdmajmbiaaKG
import Derived.Test.YtpdnkhdmajmbiaaLA
import Derived.Test.YtpdnkhdmajmbiaaZG
set_option linter.unusedSimpArgs false
set_option linter.unusedVariables false
set_option maxRecDepth 4000
namespace Go.Proofs.Ytpdnkhdmajmbiaa
open Go Go.K
attribute [local irreducible] Code.wp wpList Calls wpQuiet
theorem Table4_fo94_0 : fieldOff Try.prog 94 0 = some 0 := by kernel_rfl
theorem Table4_ts67 : scal Try.prog 67 = true := by kernel_rfl
theorem Table4_es67 : elemS Try.prog 67 = some (69, 8) := by kernel_rfl
theorem Table4_fo69_0 : fieldOff Try.prog 69 0 = some 0 := by kernel_rfl
theorem Table4_ts30 : scal Try.prog 30 = true := by kernel_rfl
theorem Table4_zo69 : zeroOf Try.prog 69 = some (.agg #[.int .u32 0, .int .i64 0, .string ⟨#[]⟩, .int .i64 0, .int .i64 0, .int .i64 0, .int .i64 0, .int .i64 0]) := by kernel_rfl
theorem Table4_pl69 : placesS Try.prog 69 = some [(0, 1), (1, 1), (2, 1), (3, 1), (4, 1), (5, 1), (6, 1), (7, 1)] := by kernel_rfl
theorem Table4_sz69 : sizeT Try.prog 69 = some 8 := by kernel_rfl
theorem Table4_ag69 : aggsz Try.prog 69 = some 8 := by kernel_rfl
theorem Table4_mo : Try.prog.follows .mixedOrders = true := by kernel_rfl
theorem Table4_fo69_1 : fieldOff Try.prog 69 1 = some 1 := by kernel_rfl
theorem Table4_ts3 : scal Try.prog 3 = true := by kernel_rfl
theorem Table4_fo69_2 : fieldOff Try.prog 69 2 = some 2 := by kernel_rfl
theorem Table4_ts9 : scal Try.prog 9 = true := by kernel_rfl
theorem Table4_zi69 : zeroInfo Try.prog 69 = some (8, 72, .agg #[.int .u32 0, .int .i64 0, .string ⟨#[]⟩, .int .i64 0, .int .i64 0, .int .i64 0, .int .i64 0, .int .i64 0]) := by kernel_rfl
theorem Table4_fo69_3 : fieldOff Try.prog 69 3 = some 3 := by kernel_rfl
theorem Table4_zo94 : zeroOf Try.prog 94 = some (.agg #[.slice none 0 0]) := by kernel_rfl
theorem Table4_pl94 : placesS Try.prog 94 = some [(0, 1)] := by kernel_rfl
theorem Table4_sz67 : sizeT Try.prog 67 = some 1 := by kernel_rfl

theorem rfind_c {V : Vw} {l : List Le} {rx : Nat} {pl : Option Addr} {cl : Nat} {ql : Sg} (hl : Ow 69 8 (.slice pl l.length cl) l.length (l.flatMap Le.cells) ql) (hlm : l.length ≤ 256) {a : Int}  : Does Try.prog 76 [.pointer (some ⟨rx, 0, none⟩), .int .u32 a] V [[(rx, .cells #[.slice pl l.length cl] 94 (0, 0))], ql] (fun v V' H' => V' = V ∧ H' = [[(rx, .cells #[.slice pl l.length cl] 94 (0, 0))], ql] ∧ ∃ k : Int, v = .int .i64 k ∧ (k = -1 ∧ Le.get l a = none ∨ ∃ i : Nat, k = (i : Int) ∧ i < l.length ∧ (l.getD i Le.dflt).addr = a ∧ Le.get l a = some (l.getD i Le.dflt))) := by
 have hcl := hl.cap
 refine Does.intro Try.func76 rfl rfl (le rfl) (fun B => ?_)
 refine Zs<|Zr<|Za Z<|Ze<|Zg<|Zs<|Zs<|Zr<|Za Z<|Ze<|Zg<|Zb<|?_
 refine ZL (X := Nat) (fun z0 => V) (fun z0 => [[(rx, .cells #[.slice pl l.length cl] 94 (0, 0))], ql]) (fun z0 => [(0, .pointer (some ⟨rx, 0, none⟩)), (1, .int .u32 a), (5, .int .i64 (z0 : Int))]) (fun z0 => z0 ≤ l.length ∧ ∀ j, j < z0 → (l.getD j Le.dflt).addr ≠ a) (fun z0 => l.length - z0) (0 : Nat) ⟨Nat.zero_le _, fun j hj => absurd hj (Nat.not_lt_zero j)⟩ ?_
 rintro i1 ⟨hi, hno⟩
 refine Zs<|Zs<|Zr<|Zm Z<|Zm Z<|Zv (Y.nilCheck Z)<|Zv (Y.fieldAddr Z Table4_fo94_0)<|Zv (Y.load Z Table4_ts67 (Kn.at 0 Z) Z)<|Zv (Y.lenSl Z Table4_es67)<|Zv (Y.int Z Z Z)<|Ze<|Zg<|?_
 rcases Zsplit (decide ((i1 : Int) < ((l.length : Nat) : Int))) with ⟨h1, g1⟩ | ⟨h1, g1⟩ <;> try simp only [kb] at g1
 ·refine Tr.cond_t Z h1<|Zt<|Zg<|Zs<|Zb<|Zs<|Zr<|Zm Z<|Zv (Y.nilCheck Z)<|Zv (Y.fieldAddr Z Table4_fo94_0)<|Zv (Y.load Z Table4_ts67 (Kn.at 0 Z) Z)<|Zm Z<|Zv (Y.idxR i1 Z Z Table4_es67 (hl.rd 1 rfl) W W)<|Zv (Y.fieldR Z Table4_fo69_0 (hl.rd 1 rfl) W)<|Zv (Y.ldR Z Table4_ts30 (hl.rd 1 rfl) (flatm_at Le.len W Le.dflt WD rfl))<|Zm Z<|?_
  refine Zv (Y.int Z Z Z)<|Ze<|Zg<|?_
  rcases Zsplit (((l.getD i1 Le.dflt).addr) == a) with ⟨h2, g2⟩ | ⟨h2, g2⟩ <;> try simp only [kb] at g2
  ·refine Tr.cond_t Z h2<|Zs<|Zr<|Zm Z<|Za Z<|Ze<|Zg<|Zu<|Zk<|Zn<|Zn<|Zk<|Zn<|Ex.keep [0, 0]<|?_
   exact Ex.ret1 rfl rfl  ⟨rfl, rfl, _, rfl, .inr ⟨i1, rfl, by omega, by omega, Le.get_at hno W W⟩⟩
  ·refine Tr.cond_f Z h2<|Zt<|Zc<|Zg<|Zr<|Zm Z<|Zv (Y.add Z Z W)<|Za Z<|Ze<|Ex.keep [0, 0]<|?_
   exact ZR (i1 + 1 : Nat) ⟨by omega, upto_succ hno W⟩ W
 ·refine Tr.cond_f Z h1<|Zx<|Zy<|Zy<|Zi<|Zg<|Zs<|Zr<|Za Z<|Ze<|Zg<|Zu<|Ex.keep [0, 0]<|?_
  exact Ex.ret1 rfl rfl  ⟨rfl, rfl, _, rfl, .inl ⟨rfl, Le.get_no fun j hj => hno j W⟩⟩

theorem rget_c {V : Vw} {l : List Le} {rx : Nat} {pl : Option Addr} {cl : Nat} {ql : Sg} (hl : Ow 69 8 (.slice pl l.length cl) l.length (l.flatMap Le.cells) ql) (hlm : l.length ≤ 256) {a : Int}  : Does Try.prog 48 [.pointer (some ⟨rx, 0, none⟩), .int .u32 a] V [[(rx, .cells #[.slice pl l.length cl] 94 (0, 0))], ql] (Pv (.tuple #[.agg (Le.getE l a).1.cells.toArray, .int .i64 (Le.getE l a).2]) V [[(rx, .cells #[.slice pl l.length cl] 94 (0, 0))], ql]) := by
 have hcl := hl.cap
 refine Does.intro Try.func48 rfl rfl (le rfl) (fun B => ?_)
 refine Zs<|Zr<|?_
 refine Run.alloc Table4_zo69 (lt rfl) (fun b1 => ?_)
 refine Za Z<|Ze<|Zg<|Zs<|Zr<|Zm Z<|Zm Z<|?_
 refine Run.call [1, 1] (l := [.tmp 7, .tmp 8]) rfl rfl rfl (lt rfl) (rfind_c (a := a) hl hlm) (fun v9 V9 H9 hle9 hR => ?_)
 obtain ⟨hV, rfl, k, rfl, hk⟩ := hR; replace hV := hV.symm; subst hV
 refine Run.heapTo (H' := [[(b1, .cells #[.int .u32 0, .int .i64 0, .string ⟨#[]⟩, .int .i64 0, .int .i64 0, .int .i64 0, .int .i64 0, .int .i64 0] 69 (0, 0))], [(rx, .cells #[.slice pl l.length cl] 94 (0, 0))], ql]) Z<|Run.heapTo (H' := [[(b1, .cells #[.int .u32 0, .int .i64 0, .string ⟨#[]⟩, .int .i64 0, .int .i64 0, .int .i64 0, .int .i64 0, .int .i64 0] 69 (0, 0))], [(rx, .cells #[.slice pl l.length cl] 94 (0, 0))], ql]) Z<|?_
 refine Za Z<|Ze<|Zg<|Zs<|Zs<|Zr<|?_
 rcases hk with ⟨rfl, hg⟩ | ⟨i1, rfl, hi1, ha, hg⟩
 ·refine Zm Z<|Zv (Y.int (r := .bool true) Z Z Z)<|Ze<|Zg<|Tr.cond_t Z Z<|Zs<|Zr<|Zv (Y.buildS (l := []) Table4_zo69 Table4_pl69 Z Z)<|Run.store (s := [(b1, .cells #[.int .u32 0, .int .i64 0, .string ⟨#[]⟩, .int .i64 0, .int .i64 0, .int .i64 0, .int .i64 0, .int .i64 0] 69 (0, 0))]) Z Z Table4_sz69 (i := 0) Z Z (le Z) Z Z<|Za Z<|Ze<|Zg<|Zu<|Zn<|?_
  exact Ex.retCell2 [1, 1] rfl rfl rfl Table4_ag69 (Kn.at 0 rfl) rfl ⟨by unfold Le.getE; rw [hg]; rfl, rfl, rfl⟩
 ·refine Zm Z<|Zv (Y.int Z Z Z)<|Ze<|Zg<|Tr.cond_f rfl (decide_eq_false W)<|Zt<|Zg<|Zs<|Zr<|Zm Z<|Zv (Y.nilCheck Z)<|Zv (Y.fieldAddr Z Table4_fo94_0)<|Zv (Y.load Z Table4_ts67 (Kn.at 1 Z) Z)<|Zm Z<|Zv (Y.idxR i1 Z Z Table4_es67 (hl.rd 2 rfl) W W)<|Zv (Y.ldRA (vs := [.int .u32 ((l.getD i1 Le.dflt).addr), .int .i64 ((l.getD i1 Le.dflt).bind), .string ((l.getD i1 Le.dflt).client), .int .i64 ((l.getD i1 Le.dflt).till), .int .i64 ((l.getD i1 Le.dflt).acked), .int .i64 ((l.getD i1 Le.dflt).told), .int .i64 ((l.getD i1 Le.dflt).at_), .int .i64 ((l.getD i1 Le.dflt).ver)]) rfl Table4_ag69 (hl.rd 2 rfl) rfl WD (fun o ho => flatm_atA Le.len W Le.dflt o ho))<|?_
  refine Run.store (s := [(b1, .cells #[.int .u32 ((l.getD i1 Le.dflt).addr), .int .i64 ((l.getD i1 Le.dflt).bind), .string ((l.getD i1 Le.dflt).client), .int .i64 ((l.getD i1 Le.dflt).till), .int .i64 ((l.getD i1 Le.dflt).acked), .int .i64 ((l.getD i1 Le.dflt).told), .int .i64 ((l.getD i1 Le.dflt).at_), .int .i64 ((l.getD i1 Le.dflt).ver)] 69 (0, 0))]) Z Z Table4_sz69 (i := 0) Z Z (le Z) Z Z<|Za Z<|Ze<|Zg<|Zu<|?_
  exact Ex.retCell2 [1, 1] rfl rfl rfl Table4_ag69 (Kn.at 0 rfl) rfl ⟨by unfold Le.getE; rw [hg]; rfl, rfl, rfl⟩

theorem rset_c {V : Vw} {l : List Le} {rx : Nat} {pl : Option Addr} {cl : Nat} {ql : Sg} (hl : Ow 69 8 (.slice pl l.length cl) l.length (l.flatMap Le.cells) ql) (hlm : l.length ≤ 256) (hr : Le.Ris l) {q : Le} (hs : q.client.size ≤ 9223372036854775807)  : Does Try.prog 63 [.pointer (some ⟨rx, 0, none⟩), .agg #[.int .u32 q.addr, .int .i64 q.bind, .string q.client, .int .i64 q.till, .int .i64 q.acked, .int .i64 q.told, .int .i64 q.at_, .int .i64 q.ver]] V [[(rx, .cells #[.slice pl l.length cl] 94 (0, 0))], ql] (fun v V' H' => V' = V ∧ v = .int .i64 (Le.setE l q).1 ∧ ∃ q2, Ow 69 8 (.slice pl (Le.setE l q).2.length cl) (Le.setE l q).2.length ((Le.setE l q).2.flatMap Le.cells) q2 ∧ H' = [[(rx, .cells #[.slice pl (Le.setE l q).2.length cl] 94 (0, 0))], q2]) := by
 have hcl := hl.cap
 refine Does.intro Try.func63 rfl rfl (le rfl) (fun B => ?_)
 refine Zs<|Zr<|?_
 refine Run.box rfl (lt rfl) (fun b1 => ?_)
 refine Za Z<|Ze<|Zg<|Zs<|Zr<|Zv (Y.loadAgg Z Table4_ag69 (Kn.at 0 Z) Z)<|Run.call0 (l := [.tmp 7]) Z Z Z (lt Z) (rright11_h (q := q) hs)<|Za Z<|Ze<|Zg<|Zs<|Zs<|Zr<|Zm Z<|Zv (Y.not Z)<|Ze<|?_
 refine Zg ?_
 rcases Zsplit (Le.right q) with ⟨h2, g2⟩ | ⟨h2, g2⟩ <;> try simp only [kb] at g2
 ·refine Tr.cond_f Z (congrArg Bool.not h2)<|Zt<|Zg<|Zs<|Zr<|Zm Z<|Zv (Y.fieldAddr Z Table4_fo69_0)<|Zv (Y.load Z Table4_ts30 (Kn.at 0 Z) Z)<|?_
  refine Run.call [1, 1] (l := [.tmp 11, .tmp 13]) rfl rfl rfl (lt rfl) (rfind_c (a := q.addr) hl hlm) (fun v9 V9 H9 hle9 hR => ?_)
  obtain ⟨hV, rfl, k, rfl, hk⟩ := hR; replace hV := hV.symm; subst hV
  refine Run.heapTo (H' := [[(b1, .cells #[.int .u32 q.addr, .int .i64 q.bind, .string q.client, .int .i64 q.till, .int .i64 q.acked, .int .i64 q.told, .int .i64 q.at_, .int .i64 q.ver] 69 (0, 0))], [(rx, .cells #[.slice pl l.length cl] 94 (0, 0))], ql]) Z<|Run.heapTo (H' := [[(b1, .cells #[.int .u32 q.addr, .int .i64 q.bind, .string q.client, .int .i64 q.till, .int .i64 q.acked, .int .i64 q.told, .int .i64 q.at_, .int .i64 q.ver] 69 (0, 0))], [(rx, .cells #[.slice pl l.length cl] 94 (0, 0))], ql]) Z<|?_
  refine Za Z<|Ze<|Zg<|Zs<|Zs<|Zr<|?_
  rcases hk with ⟨rfl, hg⟩ | ⟨i1, rfl, hi1, ha, hg⟩
  ·refine Zm Z<|Zv (Y.int (r := .bool true) Z Z Z)<|Ze<|Zg<|Tr.cond_t Z Z<|Zs<|Zr<|Za Z<|Ze<|Zg<|Zu<|Zn<|Ex.keepTo (H' := [[(rx, .cells #[.slice pl l.length cl] 94 (0, 0))], ql]) [1, 1] Z<|?_
   exact Ex.ret1 rfl rfl  ⟨rfl, by rw [Le.setE_none h2 hg], _, by rw [Le.setE_none h2 hg]; exact hl, by rw [Le.setE_none h2 hg]⟩
  ·refine Zm Z<|Zv (Y.int Z Z Z)<|Ze<|Zg<|Tr.cond_f rfl (decide_eq_false W)<|Zt<|Zg<|Zs<|Tr.anyL [(rx, .cells #[.slice pl l.length cl] 94 (0, 0)), (b1, .cells #[.int .u32 q.addr, .int .i64 q.bind, .string q.client, .int .i64 q.till, .int .i64 q.acked, .int .i64 q.told, .int .i64 q.at_, .int .i64 q.ver] 69 (0, 0))] 7 Table4_mo<|RunL.pure (i := 0) rfl WK WK WK WK (fun _ _ _ h => h) (lt rfl) (KnAll.cons (Kn.at 1 rfl) (ZK 0 Z)) (fun _ => (Y.move rfl))<|?_
   refine RunL.pure (i := 1) rfl WK WK WK WK (fun _ _ _ h => h) (lt rfl) (KnAll.cons (Kn.at 1 rfl) (ZK 0 Z)) (fun _ => (Y.nilCheck rfl))<|RunL.pure (i := 2) rfl WK WK WK WK (fun _ _ _ h => h) (lt rfl) (KnAll.cons (Kn.at 1 rfl) (ZK 0 Z)) (fun _ => (Y.fieldAddr rfl Table4_fo94_0))<|RunL.take (i := 3) 0 rfl rfl WK WK WK WK (fun _ _ _ h => h) (lt rfl) (KnAll.cons (Kn.at 1 rfl) (ZK 0 Z)) (fun _ => (Y.load rfl Table4_ts67 Kn.vk1 rfl))<|?_
   refine RunL.pure (i := 4) rfl WK WK WK WK (fun _ _ _ h => h) (lt rfl) (KnAll.cons (Kn.at 1 rfl) (ZK 0 Z)) (fun _ => (Y.move rfl))<|RunL.take (i := 5) 1 rfl rfl WK WK WK WK (fun _ _ _ h => h) (lt rfl) (KnAll.cons (Kn.at 1 rfl) (ZK 0 Z)) (fun _ => (Y.loadAgg rfl Table4_ag69 Kn.vk1 rfl))<|RunL.pure (i := 6) rfl WK WK WK WK (fun _ _ _ h => h) (lt rfl) (KnAll.cons (Kn.at 1 rfl) (ZK 0 Z)) (fun _ => (Y.idxO i1 rfl rfl Table4_es67 hl W W))<|?_
   refine RunL.one (i := 7) WK rfl  ?_ 
   refine Run.stOA (u := q) (i := i1) (j := 2) Le.enc1 WD rfl rfl Table4_sz69 hl rfl W rfl (fun s3 ho4 => ?_)
   refine Run.heapTo (H' := [[(b1, .cells #[.int .u32 q.addr, .int .i64 q.bind, .string q.client, .int .i64 q.till, .int .i64 q.acked, .int .i64 q.told, .int .i64 q.at_, .int .i64 q.ver] 69 (0, 0))], [(rx, .cells #[.slice pl l.length cl] 94 (0, 0))], s3]) Z<|Ze<|Ex.anyLz Z<|RunL.done WK<|Zg<|Zs<|Zr<|Za Z<|Ze<|Zg<|Zu<|Ex.keepTo (H' := [[(rx, .cells #[.slice pl l.length cl] 94 (0, 0))], s3]) [1, 1] Z<|?_
   have e9 : (Le.setE l q).2 = l.set i1 q := by rw [Le.setE_ok h2 hg]; exact (Le.put_at hr hi1 ha).symm
   have n9 : (Le.setE l q).2.length = l.length := Le.setE_len l q
   exact Ex.ret1 rfl rfl  ⟨rfl, by rw [Le.setE_ok h2 hg], _, by rw [n9, e9]; exact ho4, by rw [n9]⟩
 ·refine Tr.cond_t Z (congrArg Bool.not h2)<|Zs<|Zr<|Za Z<|Ze<|Zg<|Zu<|Zn<|Ex.keepTo (H' := [[(rx, .cells #[.slice pl l.length cl] 94 (0, 0))], ql]) [1, 1] Z<|?_
  exact Ex.ret1 rfl rfl  ⟨rfl, by rw [Le.setE_wrong h2], _, by rw [Le.setE_wrong h2]; exact hl, by rw [Le.setE_wrong h2]⟩

theorem rcount12_c {V : Vw} {l : List Le} {rx : Nat} {pl : Option Addr} {cl : Nat} {ql : Sg} (hl : Ow 69 8 (.slice pl l.length cl) l.length (l.flatMap Le.cells) ql) (hlm : l.length ≤ 256) {b : Int}  : Does Try.prog 51 [.pointer (some ⟨rx, 0, none⟩), .int .i64 b] V [[(rx, .cells #[.slice pl l.length cl] 94 (0, 0))], ql] (Pv (.int .i64 (((Le.bnd l b).length : Nat) : Int)) V [[(rx, .cells #[.slice pl l.length cl] 94 (0, 0))], ql]) := by
 have hcl := hl.cap
 refine Does.intro Try.func51 rfl rfl (le rfl) (fun B => ?_)
 refine Zs<|Zr<|Za Z<|Ze<|Zg<|Zs<|Zr<|Za Z<|Ze<|Zg<|Zs<|Zs<|Zr<|Za Z<|Ze<|Zg<|?_
 refine Zb ?_
 refine ZL (X := Nat × Nat) (fun z0 => V) (fun z0 => [[(rx, .cells #[.slice pl l.length cl] 94 (0, 0))], ql]) (fun z0 => [(0, .pointer (some ⟨rx, 0, none⟩)), (1, .int .i64 b), (5, .int .i64 (z0.2 : Int)), (6, .int .i64 (z0.1 : Int))]) (fun z0 => z0.2 = (Le.bnd (l.take z0.1) b).length ∧ z0.1 ≤ l.length) (fun z0 => l.length - z0.1) (⟨0, 0⟩ : Nat × Nat) ⟨rfl, Nat.zero_le _⟩ ?_
 rintro ⟨i1, n1⟩ ⟨hn, hi⟩
 try dsimp only at hn hi ⊢
 have hbl := Le.fil_le (fun x : Le => x.bind == b) (l.take i1)
 rw [List.length_take] at hbl
 rw [show (l.take i1).filter (fun x : Le => x.bind == b) = Le.bnd (l.take i1) b from rfl, ← hn] at hbl
 refine Zs<|Zs<|Zr<|Zm Z<|Zm Z<|Zv (Y.nilCheck Z)<|Zv (Y.fieldAddr Z Table4_fo94_0)<|Zv (Y.load Z Table4_ts67 (Kn.at 0 Z) Z)<|Zv (Y.lenSl Z Table4_es67)<|Zv (Y.int Z Z Z)<|Ze<|Zg<|?_
 rcases Zsplit (decide ((i1 : Int) < ((l.length : Nat) : Int))) with ⟨h1, g1⟩ | ⟨h1, g1⟩ <;> try simp only [kb] at g1
 ·refine Tr.cond_t Z h1<|Zt<|Zg<|Zs<|Zb<|Zs<|Zr<|Zm Z<|Zv (Y.nilCheck Z)<|Zv (Y.fieldAddr Z Table4_fo94_0)<|Zv (Y.load Z Table4_ts67 (Kn.at 0 Z) Z)<|Zm Z<|Zv (Y.idxR i1 Z Z Table4_es67 (hl.rd 1 rfl) W W)<|Zv (Y.fieldR Z Table4_fo69_1 (hl.rd 1 rfl) W)<|Zv (Y.ldR Z Table4_ts3 (hl.rd 1 rfl) (flatm_at Le.len W Le.dflt WD rfl))<|Zm Z<|?_
  refine Zv (Y.int Z Z Z)<|Ze<|Zg<|?_
  rcases Zsplit (((l.getD i1 Le.dflt).bind) == b) with ⟨h2, g2⟩ | ⟨h2, g2⟩ <;> try simp only [kb] at g2
  ·refine Tr.cond_t Z h2<|Zr<|Zm Z<|Zv (Y.add Z Z W)<|Za Z<|Ze<|Zc<|Zg<|Zr<|Zm Z<|Zv (Y.add Z Z W)<|Za Z<|Ze<|Ex.keep [0, 0]<|?_
   exact ZR (⟨i1 + 1, n1 + 1⟩ : Nat × Nat) ⟨by rw [Le.bnd_yes W W, List.length_append, List.length_singleton]; omega, by omega⟩ (by dsimp only; omega)
  ·refine Tr.cond_f Z h2<|Zt<|Zc<|Zg<|Zr<|Zm Z<|Zv (Y.add Z Z W)<|Za Z<|Ze<|Ex.keep [0, 0]<|?_
   exact ZR (⟨i1 + 1, n1⟩ : Nat × Nat) ⟨by rw [Le.bnd_no W W]; exact hn, by omega⟩ (by dsimp only; omega)
 ·refine Tr.cond_f Z h1<|Zx<|Zy<|Zy<|Zi<|Zg<|Zs<|Zr<|Zm Z<|Za Z<|Ze<|Zg<|Zu<|Ex.keep [0, 0]<|?_
  exact Ex.ret1 rfl rfl  ⟨by rw [hn, show i1 = l.length by omega, List.take_length], rfl, rfl⟩

theorem rfirst_c {V : Vw} {l : List Le} {rx : Nat} {pl : Option Addr} {cl : Nat} {ql : Sg} (hl : Ow 69 8 (.slice pl l.length cl) l.length (l.flatMap Le.cells) ql) (hlm : l.length ≤ 256) {b : Int}  : Does Try.prog 49 [.pointer (some ⟨rx, 0, none⟩), .int .i64 b] V [[(rx, .cells #[.slice pl l.length cl] 94 (0, 0))], ql] (Pv (.tuple #[.int .u32 (Le.first l b).1, .bool (Le.first l b).2]) V [[(rx, .cells #[.slice pl l.length cl] 94 (0, 0))], ql]) := by
 have hcl := hl.cap
 refine Does.intro Try.func49 rfl rfl (le rfl) (fun B => ?_)
 refine Zs<|Zr<|Za Z<|Za Z<|Ze<|Zg<|Zs<|Zs<|Zr<|Za Z<|Ze<|Zg<|Zb<|?_
 refine ZL (X := Nat) (fun z0 => V) (fun z0 => [[(rx, .cells #[.slice pl l.length cl] 94 (0, 0))], ql]) (fun z0 => [(0, .pointer (some ⟨rx, 0, none⟩)), (1, .int .i64 b), (6, .int .i64 (z0 : Int))]) (fun z0 => z0 ≤ l.length ∧ ∀ j, j < z0 → (l.getD j Le.dflt).bind ≠ b) (fun z0 => l.length - z0) (0 : Nat) ⟨Nat.zero_le _, fun j hj => absurd hj (Nat.not_lt_zero j)⟩ ?_
 rintro i1 ⟨hi, hno⟩
 refine Zs<|Zs<|Zr<|Zm Z<|Zm Z<|Zv (Y.nilCheck Z)<|Zv (Y.fieldAddr Z Table4_fo94_0)<|Zv (Y.load Z Table4_ts67 (Kn.at 0 Z) Z)<|Zv (Y.lenSl Z Table4_es67)<|Zv (Y.int Z Z Z)<|Ze<|Zg<|?_
 rcases Zsplit (decide ((i1 : Int) < ((l.length : Nat) : Int))) with ⟨h1, g1⟩ | ⟨h1, g1⟩ <;> try simp only [kb] at g1
 ·refine Tr.cond_t Z h1<|Zt<|Zg<|Zs<|Zb<|Zs<|Zr<|Zm Z<|Zv (Y.nilCheck Z)<|Zv (Y.fieldAddr Z Table4_fo94_0)<|Zv (Y.load Z Table4_ts67 (Kn.at 0 Z) Z)<|Zm Z<|Zv (Y.idxR i1 Z Z Table4_es67 (hl.rd 1 rfl) W W)<|Zv (Y.fieldR Z Table4_fo69_1 (hl.rd 1 rfl) W)<|Zv (Y.ldR Z Table4_ts3 (hl.rd 1 rfl) (flatm_at Le.len W Le.dflt WD rfl))<|Zm Z<|?_
  refine Zv (Y.int Z Z Z)<|Ze<|Zg<|?_
  rcases Zsplit (((l.getD i1 Le.dflt).bind) == b) with ⟨h2, g2⟩ | ⟨h2, g2⟩ <;> try simp only [kb] at g2
  ·refine Tr.cond_t Z h2<|Zs<|Zr<|Zm Z<|Zv (Y.nilCheck Z)<|Zv (Y.fieldAddr Z Table4_fo94_0)<|Zv (Y.load Z Table4_ts67 (Kn.at 0 Z) Z)<|Zm Z<|Zv (Y.idxR i1 Z Z Table4_es67 (hl.rd 1 rfl) W W)<|Zv (Y.fieldR Z Table4_fo69_0 (hl.rd 1 rfl) W)<|Zv (Y.ldR Z Table4_ts30 (hl.rd 1 rfl) (flatm_at Le.len W Le.dflt WD rfl))<|Za Z<|Za Z<|Ze<|Zg<|Zu<|?_
   refine Zk<|Zn<|Zn<|Zk<|Zn<|Ex.keep [0, 0]<|?_
   exact Ex.ret2 rfl rfl rfl  ⟨by rw [Le.first_hit hno W W], rfl, rfl⟩
  ·refine Tr.cond_f Z h2<|Zt<|Zc<|Zg<|Zr<|Zm Z<|Zv (Y.add Z Z W)<|Za Z<|Ze<|Ex.keep [0, 0]<|?_
   exact ZR (i1 + 1 : Nat) ⟨by omega, upto_succ hno W⟩ W
 ·refine Tr.cond_f Z h1<|Zx<|Zy<|Zy<|Zi<|Zg<|Zs<|Zr<|Za Z<|Za Z<|Ze<|Zg<|Zu<|Ex.keep [0, 0]<|?_
  exact Ex.ret2 rfl rfl rfl  ⟨by rw [Le.first_none fun j hj => hno j W], rfl, rfl⟩

theorem rof_c {V : Vw} {l : List Le} {rx : Nat} {pl : Option Addr} {cl : Nat} {ql : Sg} (hl : Ow 69 8 (.slice pl l.length cl) l.length (l.flatMap Le.cells) ql) (hlm : l.length ≤ 256) {c : ByteArray}  : Does Try.prog 45 [.pointer (some ⟨rx, 0, none⟩), .string c] V [[(rx, .cells #[.slice pl l.length cl] 94 (0, 0))], ql] (fun v V' H' => V' = V ∧ ∃ q, Ow 69 8 v (Le.ofc l c).length ((Le.ofc l c).flatMap Le.cells) q ∧ H' = q :: [[(rx, .cells #[.slice pl l.length cl] 94 (0, 0))], ql]) := by
 have hcl := hl.cap
 refine Does.intro Try.func45 rfl rfl (le rfl) (fun B => ?_)
 refine Zs<|Zr<|Za Z<|Ze<|Zg<|Zs<|Zr<|Za Z<|Ze<|Zg<|Zs<|Zs<|Zr<|Run.nilseg<|Za Z<|Ze<|?_
 refine Zg<|Zb<|?_
 refine ZL (X := Nat × Option Addr × Nat × Nat × Sg) (fun z0 => V) (fun z0 => [z0.2.2.2.2, [(rx, .cells #[.slice pl l.length cl] 94 (0, 0))], ql]) (fun z0 => [(0, .pointer (some ⟨rx, 0, none⟩)), (1, .string c), (5, .slice z0.2.1 z0.2.2.1 z0.2.2.2.1), (6, .int .i64 (z0.1 : Int))]) (fun z0 => Ow 69 8 (.slice z0.2.1 z0.2.2.1 z0.2.2.2.1) z0.2.2.1 ((Le.ofc (l.take z0.1) c).flatMap Le.cells) z0.2.2.2.2 ∧ z0.2.2.1 = (Le.ofc (l.take z0.1) c).length ∧ z0.1 ≤ l.length) (fun z0 => l.length - z0.1) (⟨0, none, 0, 0, []⟩ : Nat × Option Addr × Nat × Nat × Sg) ⟨Ow.nil _ _, rfl, Nat.zero_le _⟩ ?_
 rintro ⟨i1, p1, n1, k1, q1⟩ ⟨how, hn, hi⟩
 try dsimp only at how hn hi ⊢
 have hbl : (Le.ofc (l.take i1) c).length ≤ i1 := by have := Le.fil_le (fun x : Le => x.client.toList == c.toList && Le.held x.bind) (l.take i1); rw [List.length_take] at this; unfold Le.ofc; omega
 have hcp := how.cap
 refine Zs<|Zs<|Zr<|Zm Z<|Zm Z<|Zv (Y.nilCheck Z)<|Zv (Y.fieldAddr Z Table4_fo94_0)<|Zv (Y.load Z Table4_ts67 (Kn.at 1 Z) Z)<|Zv (Y.lenSl Z Table4_es67)<|Zv (Y.int Z Z Z)<|Ze<|Zg<|?_
 rcases Zsplit (decide ((i1 : Int) < ((l.length : Nat) : Int))) with ⟨h1, g1⟩ | ⟨h1, g1⟩ <;> try simp only [kb] at g1
 ·refine Tr.cond_t Z h1<|Zt<|Zg<|Zs<|Zb<|Zs<|Zr<|Zm Z<|Zv (Y.nilCheck Z)<|Zv (Y.fieldAddr Z Table4_fo94_0)<|Zv (Y.load Z Table4_ts67 (Kn.at 1 Z) Z)<|Zm Z<|Zv (Y.idxR i1 Z Z Table4_es67 (hl.rd 2 rfl) W W)<|Zv (Y.fieldR Z Table4_fo69_1 (hl.rd 2 rfl) W)<|Zv (Y.ldR Z Table4_ts3 (hl.rd 2 rfl) (flatm_at Le.len W Le.dflt WD rfl))<|Za Z<|?_
  refine Ze<|Zg<|Zs<|Zr<|Zm Z<|Zv (Y.int Z Z Z)<|Zm Z<|?_
  rcases Zsplit (((l.getD i1 Le.dflt).bind) == 2) with ⟨h2, g2⟩ | ⟨h2, g2⟩ <;> try simp only [kb] at g2
  ·refine Zo h2 Z<|Zo h2 Z<|Zv (Y.pick_t Z h2 Z)<|Zm Z<|Zo Z Z<|Zo Z Z<|Zv (Y.pick_t Z Z Z)<|Zm Z<|Zp Z<|Zm Z<|Zp Z<|Zv (Y.nilCheck Z)<|Zp Z<|Zv (Y.fieldAddr Z Table4_fo94_0)<|Zp Z<|Zv (Y.load Z Table4_ts67 (Kn.at 1 Z) Z)<|?_
   refine Zp Z<|Zm Z<|Zp Z<|Zv (Y.idxR i1 Z Z Table4_es67 (hl.rd 2 rfl) W W)<|Zp Z<|Zv (Y.fieldR Z Table4_fo69_2 (hl.rd 2 rfl) W)<|Zp Z<|Zv (Y.ldR Z Table4_ts9 (hl.rd 2 rfl) (flatm_at Le.len W Le.dflt WD rfl))<|Zp Z<|Zm Z<|Zp Z<|Zv (Y.eqStr Z Z)<|Zv (Y.pick_t Z Z Z)<|Ze<|Zg<|?_
   rcases Zsplit (((l.getD i1 Le.dflt).client).toList == c.toList) with ⟨h3, g3⟩ | ⟨h3, g3⟩ <;> try simp only [kb] at g3
   ·refine Tr.cond_t Z h3<|Zr<|Zm Z<|Zm Z<|Zv (Y.nilCheck Z)<|Zv (Y.fieldAddr Z Table4_fo94_0)<|Zv (Y.load Z Table4_ts67 (Kn.at 1 Z) Z)<|Zm Z<|Zv (Y.idxR i1 Z Z Table4_es67 (hl.rd 2 rfl) W W)<|Zv (Y.ldRA (vs := [.int .u32 ((l.getD i1 Le.dflt).addr), .int .i64 ((l.getD i1 Le.dflt).bind), .string ((l.getD i1 Le.dflt).client), .int .i64 ((l.getD i1 Le.dflt).till), .int .i64 ((l.getD i1 Le.dflt).acked), .int .i64 ((l.getD i1 Le.dflt).told), .int .i64 ((l.getD i1 Le.dflt).at_), .int .i64 ((l.getD i1 Le.dflt).ver)]) rfl Table4_ag69 (hl.rd 2 rfl) rfl WD (fun o ho => flatm_atA Le.len W Le.dflt o ho))<|?_
    refine Run.buildSlice (l := [(0, .tmp 54)]) (r := [.int .u32 ((l.getD i1 Le.dflt).addr), .int .i64 ((l.getD i1 Le.dflt).bind), .string ((l.getD i1 Le.dflt).client), .int .i64 ((l.getD i1 Le.dflt).till), .int .i64 ((l.getD i1 Le.dflt).acked), .int .i64 ((l.getD i1 Le.dflt).told), .int .i64 ((l.getD i1 Le.dflt).at_), .int .i64 ((l.getD i1 Le.dflt).ver)]) Table4_es67 Table4_zo69 rfl WD rfl rfl WD (lt rfl) (fun b4 => ?_)
    refine Run.append (n := n1) (m := 1) (xs := (Le.ofc (l.take i1) c).flatMap Le.cells) (ys := [.int .u32 ((l.getD i1 Le.dflt).addr), .int .i64 ((l.getD i1 Le.dflt).bind), .string ((l.getD i1 Le.dflt).client), .int .i64 ((l.getD i1 Le.dflt).till), .int .i64 ((l.getD i1 Le.dflt).acked), .int .i64 ((l.getD i1 Le.dflt).told), .int .i64 ((l.getD i1 Le.dflt).at_), .int .i64 ((l.getD i1 Le.dflt).ver)]) rfl rfl Table4_es67 Table4_zi69 WD (j := 1) rfl how (Src.of_rd Table4_es67 (Rd.one (Kn.at 0 rfl) rfl)) W W rfl (lt rfl) (fun v5 s6 ho7 hf => ?_)
    obtain ⟨p5, c5, rfl⟩ := hf
    replace ho7 := Ow.app1 (f := Le.cells) (l := Le.ofc (l.take i1) c) (x := (l.getD i1 Le.dflt)) ho7
    refine Za Z<|Ze<|Zc<|Zg<|Zr<|Zm Z<|Zv (Y.add Z Z W)<|Za Z<|Ze<|Ex.keep [1, 1, 1]<|?_
    exact ZR (⟨i1 + 1, p5, (n1 + 1), c5, s6⟩ : Nat × Option Addr × Nat × Nat × Sg) ⟨by rw [Le.ofc_yes W h3 W]; exact ho7, by rw [Le.ofc_yes W h3 W, List.length_append, List.length_singleton]; (try dsimp only); omega, by omega⟩ (by dsimp only; omega)
   ·refine Tr.cond_f Z h3<|Zt<|Zc<|Zg<|Zr<|Zm Z<|Zv (Y.add Z Z W)<|Za Z<|Ze<|Ex.keep [0, 0, 0]<|?_
    exact ZR (⟨i1 + 1, p1, n1, k1, q1⟩ : Nat × Option Addr × Nat × Nat × Sg) ⟨by rw [Le.ofc_no W (.inl h3)]; exact how, by rw [Le.ofc_no W (.inl h3)]; exact hn, by omega⟩ (by dsimp only; omega)
  ·refine Zp h2<|Zm Z<|Zp h2<|Zv (Y.int Z Z Z)<|Zv (Y.pick_f Z h2 Z)<|Zm Z<|?_
   rcases Zsplit (((l.getD i1 Le.dflt).bind) == 3) with ⟨h8, g8⟩ | ⟨h8, g8⟩ <;> try simp only [kb] at g8
   ·refine Zo h8 Z<|Zo h8 Z<|Zv (Y.pick_t Z h8 Z)<|Zm Z<|Zp Z<|Zm Z<|Zp Z<|Zv (Y.nilCheck Z)<|Zp Z<|Zv (Y.fieldAddr Z Table4_fo94_0)<|Zp Z<|Zv (Y.load Z Table4_ts67 (Kn.at 1 Z) Z)<|Zp Z<|Zm Z<|Zp Z<|Zv (Y.idxR i1 Z Z Table4_es67 (hl.rd 2 rfl) W W)<|?_
    refine Zp Z<|Zv (Y.fieldR Z Table4_fo69_2 (hl.rd 2 rfl) W)<|Zp Z<|Zv (Y.ldR Z Table4_ts9 (hl.rd 2 rfl) (flatm_at Le.len W Le.dflt WD rfl))<|Zp Z<|Zm Z<|Zp Z<|Zv (Y.eqStr Z Z)<|Zv (Y.pick_t Z Z Z)<|Ze<|Zg<|?_
    rcases Zsplit (((l.getD i1 Le.dflt).client).toList == c.toList) with ⟨h9, g9⟩ | ⟨h9, g9⟩ <;> try simp only [kb] at g9
    ·refine Tr.cond_t Z h9<|Zr<|Zm Z<|Zm Z<|Zv (Y.nilCheck Z)<|Zv (Y.fieldAddr Z Table4_fo94_0)<|Zv (Y.load Z Table4_ts67 (Kn.at 1 Z) Z)<|Zm Z<|Zv (Y.idxR i1 Z Z Table4_es67 (hl.rd 2 rfl) W W)<|Zv (Y.ldRA (vs := [.int .u32 ((l.getD i1 Le.dflt).addr), .int .i64 ((l.getD i1 Le.dflt).bind), .string ((l.getD i1 Le.dflt).client), .int .i64 ((l.getD i1 Le.dflt).till), .int .i64 ((l.getD i1 Le.dflt).acked), .int .i64 ((l.getD i1 Le.dflt).told), .int .i64 ((l.getD i1 Le.dflt).at_), .int .i64 ((l.getD i1 Le.dflt).ver)]) rfl Table4_ag69 (hl.rd 2 rfl) rfl WD (fun o ho => flatm_atA Le.len W Le.dflt o ho))<|?_
     refine Run.buildSlice (l := [(0, .tmp 54)]) (r := [.int .u32 ((l.getD i1 Le.dflt).addr), .int .i64 ((l.getD i1 Le.dflt).bind), .string ((l.getD i1 Le.dflt).client), .int .i64 ((l.getD i1 Le.dflt).till), .int .i64 ((l.getD i1 Le.dflt).acked), .int .i64 ((l.getD i1 Le.dflt).told), .int .i64 ((l.getD i1 Le.dflt).at_), .int .i64 ((l.getD i1 Le.dflt).ver)]) Table4_es67 Table4_zo69 rfl WD rfl rfl WD (lt rfl) (fun b10 => ?_)
     refine Run.append (n := n1) (m := 1) (xs := (Le.ofc (l.take i1) c).flatMap Le.cells) (ys := [.int .u32 ((l.getD i1 Le.dflt).addr), .int .i64 ((l.getD i1 Le.dflt).bind), .string ((l.getD i1 Le.dflt).client), .int .i64 ((l.getD i1 Le.dflt).till), .int .i64 ((l.getD i1 Le.dflt).acked), .int .i64 ((l.getD i1 Le.dflt).told), .int .i64 ((l.getD i1 Le.dflt).at_), .int .i64 ((l.getD i1 Le.dflt).ver)]) rfl rfl Table4_es67 Table4_zi69 WD (j := 1) rfl how (Src.of_rd Table4_es67 (Rd.one (Kn.at 0 rfl) rfl)) W W rfl (lt rfl) (fun v11 s12 ho13 hf => ?_)
     obtain ⟨p11, c11, rfl⟩ := hf
     replace ho13 := Ow.app1 (f := Le.cells) (l := Le.ofc (l.take i1) c) (x := (l.getD i1 Le.dflt)) ho13
     refine Za Z<|Ze<|Zc<|Zg<|Zr<|Zm Z<|Zv (Y.add Z Z W)<|Za Z<|Ze<|Ex.keep [1, 1, 1]<|?_
     exact ZR (⟨i1 + 1, p11, (n1 + 1), c11, s12⟩ : Nat × Option Addr × Nat × Nat × Sg) ⟨by rw [Le.ofc_yes W h9 W]; exact ho13, by rw [Le.ofc_yes W h9 W, List.length_append, List.length_singleton]; (try dsimp only); omega, by omega⟩ (by dsimp only; omega)
    ·refine Tr.cond_f Z h9<|Zt<|Zc<|Zg<|Zr<|Zm Z<|Zv (Y.add Z Z W)<|Za Z<|Ze<|Ex.keep [0, 0, 0]<|?_
     exact ZR (⟨i1 + 1, p1, n1, k1, q1⟩ : Nat × Option Addr × Nat × Nat × Sg) ⟨by rw [Le.ofc_no W (.inl h9)]; exact how, by rw [Le.ofc_no W (.inl h9)]; exact hn, by omega⟩ (by dsimp only; omega)
   ·refine Zp h8<|Zm Z<|Zp h8<|Zv (Y.int Z Z Z)<|Zv (Y.pick_f Z h8 Z)<|Zm Z<|?_
    rcases Zsplit (((l.getD i1 Le.dflt).bind) == 4) with ⟨h14, g14⟩ | ⟨h14, g14⟩ <;> try simp only [kb] at g14
    ·refine Zp h14<|Zm Z<|Zp h14<|Zv (Y.nilCheck Z)<|Zp h14<|Zv (Y.fieldAddr Z Table4_fo94_0)<|Zp h14<|Zv (Y.load Z Table4_ts67 (Kn.at 1 Z) Z)<|Zp h14<|Zm Z<|Zp h14<|Zv (Y.idxR i1 Z Z Table4_es67 (hl.rd 2 rfl) W W)<|Zp h14<|Zv (Y.fieldR Z Table4_fo69_2 (hl.rd 2 rfl) W)<|Zp h14<|Zv (Y.ldR Z Table4_ts9 (hl.rd 2 rfl) (flatm_at Le.len W Le.dflt WD rfl))<|?_
     refine Zp h14<|Zm Z<|Zp h14<|Zv (Y.eqStr Z Z)<|Zv (Y.pick_t Z h14 Z)<|Ze<|Zg<|?_
     rcases Zsplit (((l.getD i1 Le.dflt).client).toList == c.toList) with ⟨h15, g15⟩ | ⟨h15, g15⟩ <;> try simp only [kb] at g15
     ·refine Tr.cond_t Z h15<|Zr<|Zm Z<|Zm Z<|Zv (Y.nilCheck Z)<|Zv (Y.fieldAddr Z Table4_fo94_0)<|Zv (Y.load Z Table4_ts67 (Kn.at 1 Z) Z)<|Zm Z<|Zv (Y.idxR i1 Z Z Table4_es67 (hl.rd 2 rfl) W W)<|Zv (Y.ldRA (vs := [.int .u32 ((l.getD i1 Le.dflt).addr), .int .i64 ((l.getD i1 Le.dflt).bind), .string ((l.getD i1 Le.dflt).client), .int .i64 ((l.getD i1 Le.dflt).till), .int .i64 ((l.getD i1 Le.dflt).acked), .int .i64 ((l.getD i1 Le.dflt).told), .int .i64 ((l.getD i1 Le.dflt).at_), .int .i64 ((l.getD i1 Le.dflt).ver)]) rfl Table4_ag69 (hl.rd 2 rfl) rfl WD (fun o ho => flatm_atA Le.len W Le.dflt o ho))<|?_
      refine Run.buildSlice (l := [(0, .tmp 54)]) (r := [.int .u32 ((l.getD i1 Le.dflt).addr), .int .i64 ((l.getD i1 Le.dflt).bind), .string ((l.getD i1 Le.dflt).client), .int .i64 ((l.getD i1 Le.dflt).till), .int .i64 ((l.getD i1 Le.dflt).acked), .int .i64 ((l.getD i1 Le.dflt).told), .int .i64 ((l.getD i1 Le.dflt).at_), .int .i64 ((l.getD i1 Le.dflt).ver)]) Table4_es67 Table4_zo69 rfl WD rfl rfl WD (lt rfl) (fun b16 => ?_)
      refine Run.append (n := n1) (m := 1) (xs := (Le.ofc (l.take i1) c).flatMap Le.cells) (ys := [.int .u32 ((l.getD i1 Le.dflt).addr), .int .i64 ((l.getD i1 Le.dflt).bind), .string ((l.getD i1 Le.dflt).client), .int .i64 ((l.getD i1 Le.dflt).till), .int .i64 ((l.getD i1 Le.dflt).acked), .int .i64 ((l.getD i1 Le.dflt).told), .int .i64 ((l.getD i1 Le.dflt).at_), .int .i64 ((l.getD i1 Le.dflt).ver)]) rfl rfl Table4_es67 Table4_zi69 WD (j := 1) rfl how (Src.of_rd Table4_es67 (Rd.one (Kn.at 0 rfl) rfl)) W W rfl (lt rfl) (fun v17 s18 ho19 hf => ?_)
      obtain ⟨p17, c17, rfl⟩ := hf
      replace ho19 := Ow.app1 (f := Le.cells) (l := Le.ofc (l.take i1) c) (x := (l.getD i1 Le.dflt)) ho19
      refine Za Z<|Ze<|Zc<|Zg<|Zr<|Zm Z<|Zv (Y.add Z Z W)<|Za Z<|Ze<|Ex.keep [1, 1, 1]<|?_
      exact ZR (⟨i1 + 1, p17, (n1 + 1), c17, s18⟩ : Nat × Option Addr × Nat × Nat × Sg) ⟨by rw [Le.ofc_yes W h15 W]; exact ho19, by rw [Le.ofc_yes W h15 W, List.length_append, List.length_singleton]; (try dsimp only); omega, by omega⟩ (by dsimp only; omega)
     ·refine Tr.cond_f Z h15<|Zt<|Zc<|Zg<|Zr<|Zm Z<|Zv (Y.add Z Z W)<|Za Z<|Ze<|Ex.keep [0, 0, 0]<|?_
      exact ZR (⟨i1 + 1, p1, n1, k1, q1⟩ : Nat × Option Addr × Nat × Nat × Sg) ⟨by rw [Le.ofc_no W (.inl h15)]; exact how, by rw [Le.ofc_no W (.inl h15)]; exact hn, by omega⟩ (by dsimp only; omega)
    ·refine Zo h14 Z<|Zo h14 Z<|Zo h14 Z<|Zo h14 Z<|Zo h14 Z<|Zo h14 Z<|Zo h14 Z<|Zo h14 Z<|Zo h14 Z<|Zo h14 Z<|Zv (Y.pick_f Z h14 Z)<|Ze<|Zg<|Tr.cond_f Z Z<|Zt<|Zc<|?_
     refine Zg<|Zr<|Zm Z<|Zv (Y.add Z Z W)<|Za Z<|Ze<|Ex.keep [0, 0, 0]<|?_
     exact ZR (⟨i1 + 1, p1, n1, k1, q1⟩ : Nat × Option Addr × Nat × Nat × Sg) ⟨by rw [Le.ofc_no W (.inr W)]; exact how, by rw [Le.ofc_no W (.inr W)]; exact hn, by omega⟩ (by dsimp only; omega)
 ·refine Tr.cond_f Z h1<|Zx<|Zy<|Zy<|Zi<|Zg<|Zs<|Zr<|Zm Z<|Za Z<|Ze<|Zg<|Zu<|?_
  obtain rfl : i1 = l.length := by omega
  rw [List.take_length] at how hn
  subst hn
  refine Ex.keepTo (H' := [q1, [(rx, .cells #[.slice pl l.length cl] 94 (0, 0))], ql]) [0, 0, 0] Z ?_
  exact Ex.ret1 rfl rfl  ⟨rfl, q1, how, rfl⟩

set_option maxHeartbeats 1000000 in
theorem rdue_c {V : Vw} {l : List Le} {rx : Nat} {pl : Option Addr} {cl : Nat} {ql : Sg} (hl : Ow 69 8 (.slice pl l.length cl) l.length (l.flatMap Le.cells) ql) (hlm : l.length ≤ 256) {now : Int}  : Does Try.prog 50 [.pointer (some ⟨rx, 0, none⟩), .int .i64 now] V [[(rx, .cells #[.slice pl l.length cl] 94 (0, 0))], ql] (fun v V' H' => V' = V ∧ ∃ q, Ow 69 8 v (Le.dueR now l).length ((Le.dueR now l).flatMap Le.cells) q ∧ H' = q :: [[(rx, .cells #[.slice pl l.length cl] 94 (0, 0))], ql]) := by
 have hcl := hl.cap
 refine Does.intro Try.func50 rfl rfl (le rfl) (fun B => ?_)
 refine Zs<|Zr<|Za Z<|Ze<|Zg<|Zs<|Zr<|Za Z<|Ze<|Zg<|Zs<|Zs<|Zr<|Run.nilseg<|Za Z<|Ze<|?_
 refine Zg<|Zb<|?_
 refine ZL (X := Nat × Option Addr × Nat × Nat × Sg) (fun z0 => V) (fun z0 => [z0.2.2.2.2, [(rx, .cells #[.slice pl l.length cl] 94 (0, 0))], ql]) (fun z0 => [(0, .pointer (some ⟨rx, 0, none⟩)), (1, .int .i64 now), (5, .slice z0.2.1 z0.2.2.1 z0.2.2.2.1), (6, .int .i64 (z0.1 : Int))]) (fun z0 => Ow 69 8 (.slice z0.2.1 z0.2.2.1 z0.2.2.2.1) z0.2.2.1 ((Le.dueR now (l.take z0.1)).flatMap Le.cells) z0.2.2.2.2 ∧ z0.2.2.1 = (Le.dueR now (l.take z0.1)).length ∧ z0.1 ≤ l.length) (fun z0 => l.length - z0.1) (⟨0, none, 0, 0, []⟩ : Nat × Option Addr × Nat × Nat × Sg) ⟨Ow.nil _ _, rfl, Nat.zero_le _⟩ ?_
 rintro ⟨i1, p1, n1, k1, q1⟩ ⟨how, hn, hi⟩
 try dsimp only at how hn hi ⊢
 have hbl : (Le.dueR now (l.take i1)).length ≤ i1 := by have := Le.due_few now (l.take i1); rw [List.length_take] at this; omega
 have hcp := how.cap
 refine Zs<|Zs<|Zr<|Zm Z<|Zm Z<|Zv (Y.nilCheck Z)<|Zv (Y.fieldAddr Z Table4_fo94_0)<|Zv (Y.load Z Table4_ts67 (Kn.at 1 Z) Z)<|Zv (Y.lenSl Z Table4_es67)<|Zv (Y.int Z Z Z)<|Ze<|Zg<|?_
 rcases Zsplit (decide ((i1 : Int) < ((l.length : Nat) : Int))) with ⟨h1, g1⟩ | ⟨h1, g1⟩ <;> try simp only [kb] at g1
 ·refine Tr.cond_t Z h1<|Zt<|Zg<|Zs<|Zb<|Zs<|Zr<|Zm Z<|Zv (Y.nilCheck Z)<|Zv (Y.fieldAddr Z Table4_fo94_0)<|Zv (Y.load Z Table4_ts67 (Kn.at 1 Z) Z)<|Zm Z<|Zv (Y.idxR i1 Z Z Table4_es67 (hl.rd 2 rfl) W W)<|Zv (Y.ldRA (vs := [.int .u32 ((l.getD i1 Le.dflt).addr), .int .i64 ((l.getD i1 Le.dflt).bind), .string ((l.getD i1 Le.dflt).client), .int .i64 ((l.getD i1 Le.dflt).till), .int .i64 ((l.getD i1 Le.dflt).acked), .int .i64 ((l.getD i1 Le.dflt).told), .int .i64 ((l.getD i1 Le.dflt).at_), .int .i64 ((l.getD i1 Le.dflt).ver)]) rfl Table4_ag69 (hl.rd 2 rfl) rfl WD (fun o ho => flatm_atA Le.len W Le.dflt o ho))<|?_
  refine Run.alloc Table4_zo69 (lt rfl) (fun b2 => ?_)
  refine Run.store (s := [(b2, .cells #[.int .u32 ((l.getD i1 Le.dflt).addr), .int .i64 ((l.getD i1 Le.dflt).bind), .string ((l.getD i1 Le.dflt).client), .int .i64 ((l.getD i1 Le.dflt).till), .int .i64 ((l.getD i1 Le.dflt).acked), .int .i64 ((l.getD i1 Le.dflt).told), .int .i64 ((l.getD i1 Le.dflt).at_), .int .i64 ((l.getD i1 Le.dflt).ver)] 69 (0, 0))]) Z Z Table4_sz69 (i := 0) Z Z (le Z) Z Z<|Ze<|Zg<|Zs<|Zs<|Zr<|Zv (Y.fieldAddr Z Table4_fo69_1)<|?_
  refine Zv (Y.load Z Table4_ts3 (Kn.at 0 Z) Z)<|Zv (Y.int Z Z Z)<|Zm Z<|?_
  rcases Zsplit (((l.getD i1 Le.dflt).bind) != 2) with ⟨h3, g3⟩ | ⟨h3, g3⟩ <;> try simp only [kb] at g3
  ·refine Zo h3 Z<|Zo h3 Z<|Zo h3 Z<|Zo h3 Z<|Zv (Y.pick_t Z h3 Z)<|Ze<|Zg<|Tr.cond_t Z Z<|Zx<|Zy<|Zi<|Zg<|Zr<|Zm Z<|Zv (Y.add Z Z W)<|Za Z<|?_
   refine Ze<|Ex.keep [1, 1, 1]<|?_
   exact ZR (⟨i1 + 1, p1, n1, k1, q1⟩ : Nat × Option Addr × Nat × Nat × Sg) ⟨by rw [Le.due_no W W]; exact how, by rw [Le.due_no W W]; exact hn, by omega⟩ (by dsimp only; omega)
  ·refine Zp h3<|Zv (Y.fieldAddr Z Table4_fo69_3)<|Zp h3<|Zv (Y.load Z Table4_ts3 (Kn.at 0 Z) Z)<|Zp h3<|Zm Z<|Zp h3<|Zv (Y.int Z Z Z)<|Zv (Y.pick_f Z h3 Z)<|Ze<|Zg<|?_
   rcases Zsplit (decide (((l.getD i1 Le.dflt).till) > now)) with ⟨h4, g4⟩ | ⟨h4, g4⟩ <;> try simp only [kb] at g4
   ·refine Tr.cond_t Z h4<|Zx<|Zy<|Zi<|Zg<|Zr<|Zm Z<|Zv (Y.add Z Z W)<|Za Z<|Ze<|Ex.keep [1, 1, 1]<|?_
    exact ZR (⟨i1 + 1, p1, n1, k1, q1⟩ : Nat × Option Addr × Nat × Nat × Sg) ⟨by rw [Le.due_no W W]; exact how, by rw [Le.due_no W W]; exact hn, by omega⟩ (by dsimp only; omega)
   ·refine Tr.cond_f Z h4<|Zt<|Zg<|Zs<|Zr<|Za Z<|Ze<|Zg<|Zs<|Zb<|?_
    refine ZL (X := Nat) (fun z0 => V) (fun z0 => [[(b2, .cells #[.int .u32 ((l.getD i1 Le.dflt).addr), .int .i64 ((l.getD i1 Le.dflt).bind), .string ((l.getD i1 Le.dflt).client), .int .i64 ((l.getD i1 Le.dflt).till), .int .i64 ((l.getD i1 Le.dflt).acked), .int .i64 ((l.getD i1 Le.dflt).told), .int .i64 ((l.getD i1 Le.dflt).at_), .int .i64 ((l.getD i1 Le.dflt).ver)] 69 (0, 0))], q1, [(rx, .cells #[.slice pl l.length cl] 94 (0, 0))], ql]) (fun z0 => [(0, .pointer (some ⟨rx, 0, none⟩)), (1, .int .i64 now), (5, .slice p1 n1 k1), (6, .int .i64 (i1 : Int)), (7, .pointer (some ⟨b2, 0, none⟩)), (8, .int .i64 (z0 : Int))]) (fun z0 => z0 ≤ n1 ∧ ∀ j, j < z0 → ((Le.dueR now (l.take i1)).getD j Le.dflt).till ≤ (l.getD i1 Le.dflt).till) (fun z0 => n1 - z0) (0 : Nat) ⟨Nat.zero_le _, fun j hj => absurd hj (Nat.not_lt_zero j)⟩ ?_
    rintro i2 ⟨hi2, hle2⟩
    refine Zs<|Zs<|Tr.quiet Table4_mo WK<|ZM Z<|ZM Z<|ZV (Y.lenSl Z Table4_es67)<|ZV (Y.int Z Z Z)<|ZM Z<|?_
    rcases Zsplit (decide ((i2 : Int) < ((n1 : Nat) : Int))) with ⟨h5, g5⟩ | ⟨h5, g5⟩ <;> try simp only [kb] at g5
    ·refine ZP h5<|ZM Z<|ZP h5<|ZM Z<|ZP h5<|ZV (Y.idxR i2 Z Z Table4_es67 (how.rd 1 rfl) W W)<|ZP h5<|ZV (Y.fieldR Z Table4_fo69_3 (how.rd 1 rfl) W)<|ZP h5<|ZV (Y.ldR Z Table4_ts3 (how.rd 1 rfl) (flatm_at Le.len W Le.dflt WD rfl))<|ZP h5<|ZV (Y.fieldAddr Z Table4_fo69_3)<|ZP h5<|ZV (Y.load Z Table4_ts3 (Kn.at 0 Z) Z)<|ZP h5<|ZV (Y.int Z Z Z)<|?_
     refine ZV (Y.pick_t Z h5 Z)<|ZE<|Zg<|?_
     rcases Zsplit (decide ((((Le.dueR now (l.take i1)).getD i2 Le.dflt).till) ≤ ((l.getD i1 Le.dflt).till))) with ⟨h6, g6⟩ | ⟨h6, g6⟩ <;> try simp only [kb] at g6
     ·refine Tr.cond_t Z h6<|Zt<|Zg<|Zb<|Zr<|Zm Z<|Zv (Y.add Z Z W)<|Za Z<|Ze<|Zc<|Ex.keep [0, 0, 0, 0]<|?_
      exact ZR (i2 + 1 : Nat) ⟨by omega, upto_succ hle2 W⟩ W
     ·refine Tr.cond_f Z h6<|Zx<|Zy<|Zy<|Zi<|Zg<|Zs<|Zr<|?_
      refine Run.buildSlice0 Table4_es67 (lt rfl) (fun b7 => ?_)
      refine Zm Z<|Zm Z<|Zv (Y.slice (l := 0) (m := i2) Z Table4_es67 rfl rfl W W)<|?_
      refine Run.append (n := 0) (m := (i2 - 0)) (xs := []) (ys := (((Le.dueR now (l.take i1)).drop 0).take (i2 - 0)).flatMap Le.cells) rfl rfl Table4_es67 Table4_zi69 WD (j := 0) rfl (Ow.lit (cur := #[]) rfl WD) (Src.of_rd Table4_es67 (Rd.cut Le.len (how.rd 2 rfl) 0 i2 W W)) W W (all_one_flat Le.enc1 _) (lt rfl) (fun v8 s9 ho10 hf => ?_)
      obtain ⟨p8, c8, rfl⟩ := hf
      replace ho10 := Ow.app (f := Le.cells) (l := []) (m := ((Le.dueR now (l.take i1)).drop 0).take (i2 - 0)) ho10
      refine Za Z<|Ze<|Zg<|Zs<|Zr<|Zm Z<|Zv (Y.loadAgg Z Table4_ag69 (Kn.at 1 Z) Z)<|?_
      refine Run.buildSlice (l := [(0, .tmp 57)]) (r := [.int .u32 ((l.getD i1 Le.dflt).addr), .int .i64 ((l.getD i1 Le.dflt).bind), .string ((l.getD i1 Le.dflt).client), .int .i64 ((l.getD i1 Le.dflt).till), .int .i64 ((l.getD i1 Le.dflt).acked), .int .i64 ((l.getD i1 Le.dflt).told), .int .i64 ((l.getD i1 Le.dflt).at_), .int .i64 ((l.getD i1 Le.dflt).ver)]) Table4_es67 Table4_zo69 rfl WD rfl rfl WD (lt rfl) (fun b11 => ?_)
      refine Run.append (n := 0 + (i2 - 0)) (m := 1) (xs := ([] ++ (((Le.dueR now (l.take i1)).drop 0).take (i2 - 0))).flatMap Le.cells) (ys := [.int .u32 ((l.getD i1 Le.dflt).addr), .int .i64 ((l.getD i1 Le.dflt).bind), .string ((l.getD i1 Le.dflt).client), .int .i64 ((l.getD i1 Le.dflt).till), .int .i64 ((l.getD i1 Le.dflt).acked), .int .i64 ((l.getD i1 Le.dflt).told), .int .i64 ((l.getD i1 Le.dflt).at_), .int .i64 ((l.getD i1 Le.dflt).ver)]) rfl rfl Table4_es67 Table4_zi69 WD (j := 1) rfl ho10 (Src.of_rd Table4_es67 (Rd.one (Kn.at 0 rfl) rfl)) W W rfl (lt rfl) (fun v12 s13 ho14 hf => ?_)
      obtain ⟨p12, c12, rfl⟩ := hf
      replace ho14 := Ow.app1 (f := Le.cells) (l := [] ++ (((Le.dueR now (l.take i1)).drop 0).take (i2 - 0))) (x := (l.getD i1 Le.dflt)) ho14
      refine Za Z<|Ze<|Zg<|Zr<|Zm Z<|Zm Z<|Zm Z<|Zv (Y.slice (l := i2) (m := n1) Z Table4_es67 rfl rfl W W)<|?_
      refine Run.append (n := 0 + (i2 - 0) + 1) (m := (n1 - i2)) (xs := (([] ++ (((Le.dueR now (l.take i1)).drop 0).take (i2 - 0))) ++ [(l.getD i1 Le.dflt)]).flatMap Le.cells) (ys := (((Le.dueR now (l.take i1)).drop i2).take (n1 - i2)).flatMap Le.cells) rfl rfl Table4_es67 Table4_zi69 WD (j := 1) rfl ho14 (Src.of_rd Table4_es67 (Rd.cut Le.len (how.rd 3 rfl) i2 n1 W W)) W W (all_one_flat Le.enc1 _) (lt rfl) (fun v15 s16 ho17 hf => ?_)
      obtain ⟨p15, c15, rfl⟩ := hf
      replace ho17 := Ow.app (f := Le.cells) (l := ([] ++ (((Le.dueR now (l.take i1)).drop 0).take (i2 - 0))) ++ [(l.getD i1 Le.dflt)]) (m := ((Le.dueR now (l.take i1)).drop i2).take (n1 - i2)) ho17
      refine Za Z<|Ze<|Zc<|Zg<|Zr<|Zm Z<|Zv (Y.add Z Z W)<|Za Z<|Ze<|?_
      have hds : Le.dspot (l.getD i1 Le.dflt) (Le.dueR now (l.take i1)) = i2 := Le.dspot_at W (fun j hj => hle2 j hj) (by first | (left; omega) | (right; omega))
      have hc18 : ((([] ++ (((Le.dueR now (l.take i1)).drop 0).take (i2 - 0))) ++ [(l.getD i1 Le.dflt)]) ++ (((Le.dueR now (l.take i1)).drop i2).take (n1 - i2))) = Le.dins (l.getD i1 Le.dflt) (Le.dueR now (l.take i1)) := by unfold Le.dins; rw [hds]; simp [List.take_of_length_le, hn]
      have h19 := ho17
      rw [hc18] at h19
      refine Ex.keep [1, 3, 3] ?_
      exact ZR (⟨i1 + 1, p15, (0 + (i2 - 0) + 1 + (n1 - i2)), c15, s16⟩ : Nat × Option Addr × Nat × Nat × Sg) ⟨by rw [Le.due_yes W W W]; exact h19, by rw [Le.due_yes W W W, Le.dins_len]; (try dsimp only); omega, by omega⟩ (by dsimp only; omega)
    ·refine ZO h5 Z<|ZO h5 Z<|ZO h5 Z<|ZO h5 Z<|ZO h5 Z<|ZO h5 Z<|ZO h5 Z<|ZO h5 Z<|ZV (Y.pick_f Z h5 Z)<|ZE<|Zg<|Tr.cond_f Z Z<|Zx<|Zy<|Zy<|Zi<|?_
     refine Zg<|Zs<|Zr<|?_
     refine Run.buildSlice0 Table4_es67 (lt rfl) (fun b20 => ?_)
     refine Zm Z<|Zm Z<|Zv (Y.slice (l := 0) (m := i2) Z Table4_es67 rfl rfl W W)<|?_
     refine Run.append (n := 0) (m := (i2 - 0)) (xs := []) (ys := (((Le.dueR now (l.take i1)).drop 0).take (i2 - 0)).flatMap Le.cells) rfl rfl Table4_es67 Table4_zi69 WD (j := 0) rfl (Ow.lit (cur := #[]) rfl WD) (Src.of_rd Table4_es67 (Rd.cut Le.len (how.rd 2 rfl) 0 i2 W W)) W W (all_one_flat Le.enc1 _) (lt rfl) (fun v21 s22 ho23 hf => ?_)
     obtain ⟨p21, c21, rfl⟩ := hf
     replace ho23 := Ow.app (f := Le.cells) (l := []) (m := ((Le.dueR now (l.take i1)).drop 0).take (i2 - 0)) ho23
     refine Za Z<|Ze<|Zg<|Zs<|Zr<|Zm Z<|Zv (Y.loadAgg Z Table4_ag69 (Kn.at 1 Z) Z)<|?_
     refine Run.buildSlice (l := [(0, .tmp 57)]) (r := [.int .u32 ((l.getD i1 Le.dflt).addr), .int .i64 ((l.getD i1 Le.dflt).bind), .string ((l.getD i1 Le.dflt).client), .int .i64 ((l.getD i1 Le.dflt).till), .int .i64 ((l.getD i1 Le.dflt).acked), .int .i64 ((l.getD i1 Le.dflt).told), .int .i64 ((l.getD i1 Le.dflt).at_), .int .i64 ((l.getD i1 Le.dflt).ver)]) Table4_es67 Table4_zo69 rfl WD rfl rfl WD (lt rfl) (fun b24 => ?_)
     refine Run.append (n := 0 + (i2 - 0)) (m := 1) (xs := ([] ++ (((Le.dueR now (l.take i1)).drop 0).take (i2 - 0))).flatMap Le.cells) (ys := [.int .u32 ((l.getD i1 Le.dflt).addr), .int .i64 ((l.getD i1 Le.dflt).bind), .string ((l.getD i1 Le.dflt).client), .int .i64 ((l.getD i1 Le.dflt).till), .int .i64 ((l.getD i1 Le.dflt).acked), .int .i64 ((l.getD i1 Le.dflt).told), .int .i64 ((l.getD i1 Le.dflt).at_), .int .i64 ((l.getD i1 Le.dflt).ver)]) rfl rfl Table4_es67 Table4_zi69 WD (j := 1) rfl ho23 (Src.of_rd Table4_es67 (Rd.one (Kn.at 0 rfl) rfl)) W W rfl (lt rfl) (fun v25 s26 ho27 hf => ?_)
     obtain ⟨p25, c25, rfl⟩ := hf
     replace ho27 := Ow.app1 (f := Le.cells) (l := [] ++ (((Le.dueR now (l.take i1)).drop 0).take (i2 - 0))) (x := (l.getD i1 Le.dflt)) ho27
     refine Za Z<|Ze<|Zg<|Zr<|Zm Z<|Zm Z<|Zm Z<|Zv (Y.slice (l := i2) (m := n1) Z Table4_es67 rfl rfl W W)<|?_
     refine Run.append (n := 0 + (i2 - 0) + 1) (m := (n1 - i2)) (xs := (([] ++ (((Le.dueR now (l.take i1)).drop 0).take (i2 - 0))) ++ [(l.getD i1 Le.dflt)]).flatMap Le.cells) (ys := (((Le.dueR now (l.take i1)).drop i2).take (n1 - i2)).flatMap Le.cells) rfl rfl Table4_es67 Table4_zi69 WD (j := 1) rfl ho27 (Src.of_rd Table4_es67 (Rd.cut Le.len (how.rd 3 rfl) i2 n1 W W)) W W (all_one_flat Le.enc1 _) (lt rfl) (fun v28 s29 ho30 hf => ?_)
     obtain ⟨p28, c28, rfl⟩ := hf
     replace ho30 := Ow.app (f := Le.cells) (l := ([] ++ (((Le.dueR now (l.take i1)).drop 0).take (i2 - 0))) ++ [(l.getD i1 Le.dflt)]) (m := ((Le.dueR now (l.take i1)).drop i2).take (n1 - i2)) ho30
     refine Za Z<|Ze<|Zc<|Zg<|Zr<|Zm Z<|Zv (Y.add Z Z W)<|Za Z<|Ze<|?_
     have hds : Le.dspot (l.getD i1 Le.dflt) (Le.dueR now (l.take i1)) = i2 := Le.dspot_at W (fun j hj => hle2 j hj) (by first | (left; omega) | (right; omega))
     have hc31 : ((([] ++ (((Le.dueR now (l.take i1)).drop 0).take (i2 - 0))) ++ [(l.getD i1 Le.dflt)]) ++ (((Le.dueR now (l.take i1)).drop i2).take (n1 - i2))) = Le.dins (l.getD i1 Le.dflt) (Le.dueR now (l.take i1)) := by unfold Le.dins; rw [hds]; simp [List.take_of_length_le, hn]
     have h32 := ho30
     rw [hc31] at h32
     refine Ex.keep [1, 3, 3] ?_
     exact ZR (⟨i1 + 1, p28, (0 + (i2 - 0) + 1 + (n1 - i2)), c28, s29⟩ : Nat × Option Addr × Nat × Nat × Sg) ⟨by rw [Le.due_yes W W W]; exact h32, by rw [Le.due_yes W W W, Le.dins_len]; (try dsimp only); omega, by omega⟩ (by dsimp only; omega)
 ·refine Tr.cond_f Z h1<|Zx<|Zy<|Zy<|Zi<|Zg<|Zs<|Zr<|Zm Z<|Za Z<|Ze<|Zg<|Zu<|?_
  obtain rfl : i1 = l.length := by omega
  rw [List.take_length] at how hn
  subst hn
  refine Ex.keepTo (H' := [q1, [(rx, .cells #[.slice pl l.length cl] 94 (0, 0))], ql]) [0, 0, 0] Z ?_
  exact Ex.ret1 rfl rfl  ⟨rfl, q1, how, rfl⟩

theorem rnew12_c {V : Vw} {rs : List Rg} {p : Option Addr} {c : Nat} (hv : Rd V [] 2 (.slice p rs.length c) rs.length (rs.flatMap Rg.cells)) (hlm : rs.length ≤ 1000) (hok : Rg.Oks rs)  : Does Try.prog 62 [.slice p rs.length c] V [] (fun v V' H' => V.le V' ∧ ((Rg.pool rs).2 ≠ 0 ∧ v = .tuple #[.pointer none, .int .i64 (Rg.pool rs).2] ∧ H' = [] ∨ (Rg.pool rs).2 = 0 ∧ ∃ rx pl cl ql, v = .tuple #[.pointer (some ⟨rx, 0, none⟩), .int .i64 0] ∧ Ow 69 8 (.slice pl (Le.new (Rg.adr (Rg.pool rs).1)).length cl) (Le.new (Rg.adr (Rg.pool rs).1)).length ((Le.new (Rg.adr (Rg.pool rs).1)).flatMap Le.cells) ql ∧ H' = [[(rx, .cells #[.slice pl (Le.new (Rg.adr (Rg.pool rs).1)).length cl] 94 (0, 0))], ql])) := by
 refine Does.intro Try.func62 rfl rfl (le rfl) (fun B => ?_)
 refine Zs<|Zr<|Za Z<|Za Z<|Ze<|Zg<|Zs<|Zr<|Zm Z<|?_
 refine Run.call [] (l := [.tmp 11]) rfl rfl rfl (lt rfl) (rpool_h hv hlm hok) (fun v3 V3 H3 hle3 hR => ?_)
 obtain ⟨hle3b, rfl, w3, rfl, hp3⟩ := hR
 obtain ⟨pp, pc, rfl, _⟩ := hp3.form
 have hpl := Rg.pool_len rs
 have hpo := Rg.pool_oks hok
 refine Run.heapTo (H' := []) Z<|Run.heapTo (H' := []) Z<|Zm Z<|Zv (Y.extract Z Z)<|Zv (Y.extract Z Z)<|Za Z<|Za Z<|Ze<|Zg<|Zs<|Zs<|Zr<|Zm Z<|Zv (Y.int Z Z Z)<|Ze<|Zg<|?_
 rcases Zsplit (((Rg.pool rs).2) != 0) with ⟨h1, g1⟩ | ⟨h1, g1⟩ <;> try simp only [kb] at g1
 ·refine Tr.cond_t Z h1<|Zs<|Zr<|Zm Z<|Za Z<|Za Z<|Ze<|Zg<|Zu<|Zn<|Ex.keep []<|?_
  exact Ex.ret2 rfl rfl rfl  ⟨hle3b, .inl ⟨by omega, rfl, rfl⟩⟩
 ·refine Tr.cond_f Z h1<|Zt<|Zg<|Zs<|Zr<|?_
  have hp0 : (Rg.pool rs).2 = 0 := by omega
  obtain ⟨hcan, hcnt⟩ := Rg.pool_can hp0
  have hup := Rg.adr_up hcan
  have hce := Rg.cnt_adr hcan.1
  have hc256 : (Rg.adr (Rg.pool rs).1).length ≤ 256 := by omega
  refine Run.nilseg<|Zv (Y.buildS (l := []) Table4_zo94 Table4_pl94 Z Z)<|?_
  refine Run.box rfl (lt rfl) (fun b2 => ?_)
  refine Za Z<|Ze<|Zg<|Zs<|Zs<|Zr<|Run.keepTo (H' := [[(b2, .cells #[.slice none 0 0] 94 (0, 0))], []]) [0, 0] Z<|Za Z<|Ze<|Zg<|Zb<|?_
  refine ZL (X := Nat × Option Addr × Nat × Nat × Sg) (fun z0 => V3) (fun z0 => [[(b2, .cells #[.slice z0.2.1 z0.2.2.1 z0.2.2.2.1] 94 (0, 0))], z0.2.2.2.2]) (fun z0 => [(4, .slice pp (Rg.pool rs).1.length pc), (6, .pointer (some ⟨b2, 0, none⟩)), (7, .int .i64 (z0.1 : Int))]) (fun z0 => Ow 69 8 (.slice z0.2.1 z0.2.2.1 z0.2.2.2.1) z0.2.2.1 ((Le.new ((Rg.adr (Rg.pool rs).1).take z0.1)).flatMap Le.cells) z0.2.2.2.2 ∧ z0.2.2.1 = (Le.new ((Rg.adr (Rg.pool rs).1).take z0.1)).length ∧ z0.1 ≤ (Rg.adr (Rg.pool rs).1).length) (fun z0 => (Rg.adr (Rg.pool rs).1).length - z0.1) (⟨0, none, 0, 0, []⟩ : Nat × Option Addr × Nat × Nat × Sg) ⟨Ow.nil _ _, rfl, Nat.zero_le _⟩ ?_
  rintro ⟨i1, p1, n1, k1, q1⟩ ⟨how, hn, hi⟩
  try dsimp only at how hn hi ⊢
  have hnl : (Le.new ((Rg.adr (Rg.pool rs).1).take i1)).length = i1 := by rw [Le.new_len, List.length_take]; omega
  have hcp := how.cap
  refine Zs<|Zs<|Zr<|Zm Z<|Zm Z<|Run.call0 (l := [.tmp 21]) rfl rfl rfl (lt rfl) (rcount_h hp3.of_nil W hpo)<|Zv (Y.int Z Z Z)<|Ze<|Zg<|?_
  rcases Zsplit (decide ((i1 : Int) < (Rg.cnt (Rg.pool rs).1))) with ⟨h3, g3⟩ | ⟨h3, g3⟩ <;> try simp only [kb] at g3
  ·refine Tr.cond_t Z h3<|Zt<|Zg<|Zs<|Zb<|Zs<|Zr<|Zm Z<|Zm Z<|Run.call0 (l := [.tmp 27, .tmp 28]) rfl rfl rfl (lt rfl) (rat_h (n := (i1 : Int)) W hcan.1 hp3.of_nil W hpo)<|Zm Z<|Zv (Y.extract Z Z)<|Zv (Y.extract Z Z)<|Za Z<|?_
   have hat := Rg.at_in2 (i := i1) (show i1 < (Rg.adr (Rg.pool rs).1).length by omega)
   rw [hat]
   refine Za Z<|Ze<|Zg<|Tr.anyL [(b2, .cells #[.slice p1 n1 k1] 94 (0, 0))] 11 Table4_mo<|RunL.pure (i := 0) rfl WK WK WK WK (fun _ _ _ h => h) (lt rfl) (ZK 0 Z) (fun _ => (Y.move rfl))<|RunL.pure (i := 1) rfl WK WK WK WK (fun _ _ _ h => h) (lt rfl) (ZK 0 Z) (fun _ => (Y.move rfl))<|RunL.pure (i := 2) rfl WK WK WK WK (fun _ _ _ h => h) (lt rfl) (ZK 0 Z) (fun _ => (Y.nilCheck rfl))<|?_
   refine RunL.pure (i := 3) rfl WK WK WK WK (fun _ _ _ h => h) (lt rfl) (ZK 0 Z) (fun _ => (Y.fieldAddr rfl Table4_fo94_0))<|RunL.take (i := 4) 0 rfl rfl WK WK WK WK (fun _ _ _ h => h) (lt rfl) (ZK 0 Z) (fun _ => (Y.load rfl Table4_ts67 Kn.vk1 rfl))<|RunL.pure (i := 5) rfl WK WK WK WK (fun _ _ _ h => h) (lt rfl) (ZK 0 Z) (fun _ => (Y.move rfl))<|?_
   refine RunL.one (i := 6) WK rfl  ?_ 
   refine Run.call0 (l := [.tmp 37, .const (.int .i64 0), .const (.int .i64 0)]) Z Z Z (lt Z) rbare_c_h<|Ze<|Ex.anyL (ZK 0 Z)<|?_
   refine RunL.one (i := 7) WK rfl  ?_ 
   refine Run.buildSlice (l := [(0, .tmp 38)]) (r := [.int .u32 ((Rg.adr (Rg.pool rs).1).getD i1 0), .int .i64 0, .string ⟨#[]⟩, .int .i64 0, .int .i64 0, .int .i64 0, .int .i64 0, .int .i64 0]) Table4_es67 Table4_zo69 rfl WD rfl rfl WD (lt rfl) (fun b4 => ?_)
   refine Ze<|Ex.anyL (ZK 1 Z)<|?_
   refine RunL.one (i := 8) WK rfl  ?_ 
   refine Run.append (n := n1) (m := 1) (xs := (Le.new ((Rg.adr (Rg.pool rs).1).take i1)).flatMap Le.cells) (ys := [.int .u32 ((Rg.adr (Rg.pool rs).1).getD i1 0), .int .i64 0, .string ⟨#[]⟩, .int .i64 0, .int .i64 0, .int .i64 0, .int .i64 0, .int .i64 0]) rfl rfl Table4_es67 Table4_zi69 WD (j := 2) rfl how (Src.of_rd Table4_es67 (Rd.one (Kn.at 0 rfl) rfl)) W W rfl (lt rfl) (fun v5 s6 ho7 hf => ?_)
   obtain ⟨p5, c5, rfl⟩ := hf
   replace ho7 := Ow.app1 (f := Le.cells) (l := Le.new ((Rg.adr (Rg.pool rs).1).take i1)) (x := (⟨(Rg.adr (Rg.pool rs).1).getD i1 0, 0, ⟨#[]⟩, 0, 0, 0, 0, 0⟩ : Le)) ho7
   refine Ze<|Ex.anyL (ZK 1 Z)<|?_
   refine RunL.one (i := 9) WK rfl  ?_ 
   refine Zv (Y.nilCheck Z)<|Ze<|Ex.anyL (ZK 1 Z)<|RunL.pure (i := 10) rfl WK WK WK WK (fun _ _ _ h => h) (lt rfl) (ZK 1 Z) (fun _ => (Y.fieldAddr rfl Table4_fo94_0))<|?_
   refine RunL.one (i := 11) WK rfl  ?_ 
   refine Run.store (s := [(b2, .cells #[.slice p5 (n1 + 1) c5] 94 (0, 0))]) Z Z Table4_sz67 (i := 1) Z Z (le Z) Z Z<|Ze<|Ex.anyLz Z<|RunL.done WK<|Zc<|Zg<|Zr<|Zm Z<|Zv (Y.add Z Z W)<|Za Z<|Ze<|Ex.keep [1, 1]<|?_
   exact ZR (⟨i1 + 1, p5, (n1 + 1), c5, s6⟩ : Nat × Option Addr × Nat × Nat × Sg) ⟨by rw [Le.new_take W]; exact ho7, by rw [Le.new_take W, List.length_append, List.length_singleton]; (try dsimp only); omega, by omega⟩ (by dsimp only; omega)
  ·refine Tr.cond_f Z h3<|Zx<|Zy<|Zy<|Zi<|Zg<|Zs<|Zr<|Zm Z<|Za Z<|Za Z<|Ze<|Zg<|Zu<|?_
   obtain rfl : i1 = (Rg.adr (Rg.pool rs).1).length := by omega
   rw [List.take_length] at how hn
   refine Ex.keepTo (H' := [[(b2, .cells #[.slice p1 n1 k1] 94 (0, 0))], q1]) [0, 0] Z ?_
   exact Ex.ret2 rfl rfl rfl  ⟨hle3b, .inr ⟨hp0, b2, _, _, q1, rfl, by rw [← hn]; exact how, by rw [← hn]⟩⟩
end Go.Proofs.Ytpdnkhdmajmbiaa
