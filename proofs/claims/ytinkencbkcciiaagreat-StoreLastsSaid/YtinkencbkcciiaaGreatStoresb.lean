/- Stores, walked.
Conditions: as each theorem names them. -/
import Derived.Test.YtinkencbkcciiaaGreatProg
import Derived.Test.YtinkencbkcciiaaGreatStoresa
import Derived.Test.YtinkencbkcciiaaGreatTable5
import Derived.Test.YtinkencbkcciiaaGreatTable4
import Derived.Test.YtinkencbkcciiaaGreatKG
import Derived.Test.YtinkencbkcciiaaGreatDA
import Derived.Test.YtinkencbkcciiaaGreatKC
import Derived.Test.YtinkencbkcciiaaGreatRB
import Derived.Test.YtinkencbkcciiaaGreatTC
import Derived.Test.YtinkencbkcciiaaGreatZG
set_option linter.unusedSimpArgs false
set_option linter.unusedVariables false
set_option maxRecDepth 4000
namespace Go.Proofs.YtinkencbkcciiaaGreat
open Go Go.K
attribute [local irreducible] Code.wp wpList Calls wpQuiet
theorem Storesb_es22 : elemS Tryz.prog 22 = some (5,1) := by kernel_rfl
theorem Storesb_ts5 : scal Tryz.prog 5 = true := by kernel_rfl
theorem Storesb_zo49 : zeroOf Tryz.prog 49 = some (.agg #[.int .u32 0,.int .i64 0,.string ⟨#[]⟩,.int .i64 0,.int .i64 0,.int .i64 0,.int .i64 0,.int .i64 0]) := by kernel_rfl
theorem Storesb_sz49 : sizeT Tryz.prog 49 = some 8 := by kernel_rfl
theorem Storesb_mo : Tryz.prog.follows .mixedOrders = true := by kernel_rfl
theorem Storesb_fo123_1 : fieldOff Tryz.prog 123 1 = some 1 := by kernel_rfl
theorem Storesb_ts60 : scal Tryz.prog 60 = true := by kernel_rfl
theorem Storesb_ag49 : aggsz Tryz.prog 49 = some 8 := by kernel_rfl
theorem Storesb_it5_3 : intT Tryz.prog 5 3 = some .i64 := by kernel_rfl
theorem Storesb_fo123_2 : fieldOff Tryz.prog 123 2 = some 2 := by kernel_rfl
theorem Storesb_sz3 : sizeT Tryz.prog 3 = some 1 := by kernel_rfl
theorem Storesb_fo123_3 : fieldOff Tryz.prog 123 3 = some 3 := by kernel_rfl
theorem Storesb_fo133_1 : fieldOff Tryz.prog 133 1 = some 1 := by kernel_rfl
theorem Storesb_ts79 : scal Tryz.prog 79 = true := by kernel_rfl
theorem Storesb_fo133_2 : fieldOff Tryz.prog 133 2 = some 2 := by kernel_rfl
theorem Storesb_fo133_3 : fieldOff Tryz.prog 133 3 = some 3 := by kernel_rfl
theorem Storesb_fo123_0 : fieldOff Tryz.prog 123 0 = some 0 := by kernel_rfl
theorem Storesb_ts119 : scal Tryz.prog 119 = true := by kernel_rfl
theorem Storesb_fo133_0 : fieldOff Tryz.prog 133 0 = some 0 := by kernel_rfl
theorem Storesb_ts129 : scal Tryz.prog 129 = true := by kernel_rfl
theorem Storesb_it3_5 : intT Tryz.prog 3 5 = some .u8 := by kernel_rfl
theorem Storesb_zo5 : zeroOf Tryz.prog 5 = some (.int .u8 0) := by kernel_rfl
theorem Storesb_fo49_0 : fieldOff Tryz.prog 49 0 = some 0 := by kernel_rfl
theorem Storesb_ts47 : scal Tryz.prog 47 = true := by kernel_rfl
theorem Storesb_fo187_0 : fieldOff Tryz.prog 187 0 = some 0 := by kernel_rfl
theorem Storesb_ts25 : scal Tryz.prog 25 = true := by kernel_rfl
theorem Storesb_fo193_0 : fieldOff Tryz.prog 193 0 = some 0 := by kernel_rfl
theorem Storesb_ts29 : scal Tryz.prog 29 = true := by kernel_rfl
theorem Storesb_ts3 : scal Tryz.prog 3 = true := by kernel_rfl
theorem Storesb_es56 : elemS Tryz.prog 56 = some (22,1) := by kernel_rfl
theorem Storesb_zo22 : zeroOf Tryz.prog 22 = some (.slice none 0 0) := by kernel_rfl
theorem Storesb_es59 : elemS Tryz.prog 59 = some (49,8) := by kernel_rfl
theorem Storesb_tgs49 : tags Tryz.prog 49 = some [(0,.u32),(0,.i64),(2,.i64),(0,.i64),(0,.i64),(0,.i64),(0,.i64),(0,.i64)] := by kernel_rfl
theorem Storesb_zi22 : zeroInfo Tryz.prog 22 = some (1,24,.slice none 0 0) := by kernel_rfl
theorem Storesb_fo135_0 : fieldOff Tryz.prog 135 0 = some 0 := by kernel_rfl
theorem Storesb_ts59 : scal Tryz.prog 59 = true := by kernel_rfl
theorem Storesb_ts22 : scal Tryz.prog 22 = true := by kernel_rfl
theorem Storesb_zo123 : zeroOf Tryz.prog 123 = some (.agg #[.pointer none,.pointer none,.int .i64 0,.int .i64 0]) := by kernel_rfl
theorem Storesb_pl123 : placesS Tryz.prog 123 = some [(0,1),(1,1),(2,1),(3,1)] := by kernel_rfl
theorem Storesb_zo133 : zeroOf Tryz.prog 133 = some (.agg #[.pointer none,.pointer none,.int .i64 0,.int .i64 0]) := by kernel_rfl
theorem Storesb_pl133 : placesS Tryz.prog 133 = some [(0,1),(1,1),(2,1),(3,1)] := by kernel_rfl
def Le.Rin (l : List Le) (rx : Nat) (s : Sg) : Prop := Le.Ris l ∧ l.length ≤ 256 ∧ ∃ pl cl ql,Ow 49 8 (.slice pl l.length cl) l.length (l.flatMap Le.cells) ql ∧ s = ([[(rx,.cells #[.slice pl l.length cl] 135 (0,0))],ql] : Hp).flatten
theorem rset_o {V : Vw} {l : List Le} {rx : Nat} {s : Sg} (hin : Le.Rin l rx s) {q : Le} (hs : q.client.size ≤ 9223372036854775807) : Does Tryz.prog 94 [(pZ rx),.agg q.cells.toArray] V [s] (fun v V' H' => V' = V ∧ v = .int .i64 (Le.setE l q).1 ∧ ∃ s2,Le.Rin (Le.setE l q).2 rx s2 ∧ H' = [s2]) := by
  obtain ⟨hr,hlm,pl,cl,ql,hl,rfl⟩ := hin
  exact (rset_c hl hlm hr hs).one.outcut fun v V' H' ⟨hV,hv,q2,ho,hH⟩ => ⟨[H'.flatten],one_piece H',hV,hv,_,⟨Le.setE_ris hr q,by rw [Le.setE_len]; exact hlm,_,_,q2,ho,by rw [hH]⟩,rfl⟩
theorem rget_o {V : Vw} {l : List Le} {rx : Nat} {s : Sg} (hin : Le.Rin l rx s) {a : Int} : Does Tryz.prog 120 [(pZ rx),.int .u32 a] V [s] (Pv (.tuple #[.agg (Le.getE l a).1.cells.toArray,.int .i64 (Le.getE l a).2]) V [s]) := by
  obtain ⟨hr,hlm,pl,cl,ql,hl,rfl⟩ := hin
  exact (rget_c hl hlm).one.outcut fun v V' H' ⟨hv,hV,hH⟩ => ⟨_,by rw [hH]; exact one_piece _,hv,hV,rfl⟩
theorem dec_c_h {V : Vw} {bs : Bts} {v : Value} (hv : Rd V [] 1 v bs.length (bs.map byteV)) (hl : bs.length ≤ 1500000) {H : Hp} : Does Tryz.prog 146 [v] V H (Pv (.tuple #[.agg (Le.decE bs).1.cells.toArray,.int .i64 (Le.decE bs).2]) V H) := by
  obtain ⟨p,c,rfl,_⟩ := hv.form
  exact (dec_c hv hl).frame
theorem rdec_c_h {V : Vw} {bs : Bts} {v : Value} (hv : Rd V [] 1 v bs.length (bs.map byteV)) (hl : bs.length ≤ 1500000) {H : Hp} : Does Tryz.prog 151 [v] V H (Pv (.tuple #[.agg (Le.decE bs).1.cells.toArray,.int .i64 (Le.decE bs).2]) V H) := by
  obtain ⟨p,c,rfl,_⟩ := hv.form
  exact (rdec_c hv hl).frame
set_option maxHeartbeats 1000000 in
theorem do_c {V : Vw} {bs : Bts} {p : Option Addr} {c : Nat} (hv : Rd V [] 1 (.slice p bs.length c) bs.length (bs.map byteV)) (hl : 1 ≤ bs.length ∧ bs.length ≤ 1000) {s : Sk} {sx lx tx : Nat} {st : Sg} (ht : Le.In 149 s.t tx st)  : Does Tryz.prog 70 [(pZ sx),.slice p bs.length c] V [(cS 123 sx lx tx s),st] (fun _ V' H' => V' = V ∧ ∃ st2,Le.In 149 (s.doR bs).t tx st2 ∧ H' = [(cS 123 sx lx tx (s.doR bs)),st2]) := by
 obtain ⟨k,r,hbs⟩ : ∃ k r,bs = k :: r := by cases bs with | nil => exact absurd hl.1 WD | cons k r => exact ⟨k,r,rfl⟩
 have hlr : bs.length = r.length + 1 := by rw [hbs]; rfl
 have hg0 : bs.getD 0 0 = k := by rw [hbs]; rfl
 have hT : (bs.drop 1).take (bs.length - 1) = r := by rw [hbs]; simp
 have hg1 : ∀ i,bs.getD (i + 1) 0 = r.getD i 0 := fun i => by rw [hbs]; rfl
 have hcp := hv.cap
 have hu0 := u8_lt k
 have hu1 := u8_lt (r.getD 0 0)
 have hvr : Rd V [] 1 (.slice (if c = 1 then p else p.map (·.add (1 * 1))) (bs.length - 1) (c - 1)) r.length (r.map byteV) := (show Rd V [] 1 _ _ _ from (Rd.cut nB_len hv.flatB 1 bs.length W W)).mapB.to (show bs.length - 1 = r.length by omega) |> fun h => by rw [hT] at h; exact h
 refine Does.intro Tryz.func70 rfl rfl (le rfl) (fun B => ?_)
 refine Zs<|Zr<|Zm Z<|Zv (Y.slice (l := 1) (m := bs.length) Z Storesb_es22 rfl rfl W W)<|Za Z<|Ze<|Zg<|Zb<|Zs<|Zr<|Zm Z<|Zv (Y.idxR 0 Z Z Storesb_es22 hv.flatB.of_nil W W)<|Zv (Y.ldR (v := .int .u8 ((k.toNat : Nat) : Int)) rfl Storesb_ts5 hv.flatB.of_nil (by rw [← hg0]; exact flatm_at0 nB_len W 0 WD rfl))<|Zv (Y.int Z Z Z)<|Za Z<|Ze<|?_
 refine Zg ?_
 rcases Zsplit (((k.toNat : Nat) : Int) == 76) with ⟨h1,g1⟩ | ⟨h1,g1⟩ <;> try simp only [kb] at g1
 ·refine Tr.cond_t Z h1<|Zs<|Zr<|Zm Z<|Run.call0 (l := [.tmp 18]) rfl rfl rfl (lt rfl) (dec_c_h (bs := r) hvr W)<|Zm Z<|Zv (Y.extract Z Z)<|Zv (Y.extract Z Z)<|?_
  refine Run.alloc Storesb_zo49 (lt rfl) (fun b2 => ?_)
  refine Run.store (s := [(b2,.cells #[.int .u32 ((Le.decE r).1.addr),.int .i64 ((Le.decE r).1.bind),.string ((Le.decE r).1.client),.int .i64 ((Le.decE r).1.till),.int .i64 ((Le.decE r).1.acked),.int .i64 ((Le.decE r).1.told),.int .i64 ((Le.decE r).1.at_),.int .i64 ((Le.decE r).1.ver)] 49 (0,0))]) Z Z Storesb_sz49 (i := 0) Z Z (le Z) Z Z<|Za Z<|Ze<|Zg<|Zs<|Zr<|Zm Z<|Zv (Y.int Z Z Z)<|Ze<|Zg<|?_
  rcases Zsplit (((Le.decE r).2) == 0) with ⟨h3,g3⟩ | ⟨h3,g3⟩ <;> try simp only [kb] at g3
  ·refine Tr.cond_t Z h3<|Tr.anyD [(sx,.cells #[(pZ lx),(pZ tx),.int .i64 s.state,.int .i64 s.life] 123 (0,0)),(b2,.cells #[.int .u32 ((Le.decE r).1.addr),.int .i64 ((Le.decE r).1.bind),.string ((Le.decE r).1.client),.int .i64 ((Le.decE r).1.till),.int .i64 ((Le.decE r).1.acked),.int .i64 ((Le.decE r).1.told),.int .i64 ((Le.decE r).1.at_),.int .i64 ((Le.decE r).1.ver)] 49 (0,0))] Storesb_mo<|?_
   refine RunD.pure (i := 0) rfl WK WK WK (fun _ _ _ h => h) (lt rfl) (KnAll.cons (Kn.at 1 rfl) (ZK 0 Z)) (fun _ => (Y.move rfl))<|RunD.pure (i := 1) rfl WK WK WK (fun _ _ _ h => h) (lt rfl) (KnAll.cons (Kn.at 1 rfl) (ZK 0 Z)) (fun _ => (Y.nilCheck rfl))<|RunD.pure (i := 2) rfl WK WK WK (fun _ _ _ h => h) (lt rfl) (KnAll.cons (Kn.at 1 rfl) (ZK 0 Z)) (fun _ => (Y.fieldAddr rfl Storesb_fo123_1))<|?_
   refine RunD.take (i := 3) 0 rfl rfl WK WK WK (fun _ _ _ h => h) (lt rfl) (KnAll.cons (Kn.at 1 rfl) (ZK 0 Z)) (fun _ => (Y.load rfl Storesb_ts60 Kn.vk1 rfl))<|RunD.take (i := 4) 1 rfl rfl WK WK WK (fun _ _ _ h => h) (lt rfl) (KnAll.cons (Kn.at 1 rfl) (ZK 0 Z)) (fun _ => (Y.loadAgg rfl Storesb_ag49 Kn.vk1 rfl))<|?_
   refine RunD.one (i := 5) WK rfl  ?_
   refine Run.call [2] (l := [.tmp 27,.tmp 28]) rfl rfl rfl (lt rfl) (set_o (q := (Le.decE r).1) ht (by have := Le.decE_size r; omega)) (fun v4 V4 H4 hle4 hR4 => ?_)
   obtain ⟨hV,rfl,sb4,ht4,rfl⟩ := hR4; replace hV := hV.symm; subst hV
   refine Run.heapTo (H' := [[(b2,.cells #[.int .u32 ((Le.decE r).1.addr),.int .i64 ((Le.decE r).1.bind),.string ((Le.decE r).1.client),.int .i64 ((Le.decE r).1.till),.int .i64 ((Le.decE r).1.acked),.int .i64 ((Le.decE r).1.told),.int .i64 ((Le.decE r).1.at_),.int .i64 ((Le.decE r).1.ver)] 49 (0,0))],(cS 123 sx lx tx s),sb4]) Z ?_
   refine Ze<|Ex.anyD (KnAll.cons (Kn.at 1 Z) (ZK 0 Z))<|RunD.done WK<|Zc<|Ex.keepTo (H' := [(cS 123 sx lx tx s),sb4]) [1,1] Z<|?_
   have e9 : s.doR bs = _ := Sk.do_lease hbs W W
   exact Ex.end0 rfl ⟨rfl,_,by rw [e9]; exact ht4,by rw [e9] <;> rfl⟩
  ·refine Tr.cond_f Z h3<|Zt<|Zc<|Ex.keepTo (H' := [(cS 123 sx lx tx s),st]) [1,1] Z<|?_
   have e9 : s.doR bs = _ := Sk.do_leno hbs W W
   exact Ex.end0 rfl ⟨rfl,_,by rw [e9]; exact ht,by rw [e9] <;> rfl⟩
 ·refine Tr.cond_f Z h1<|Zs<|Zr<|Zm Z<|Zv (Y.idxR 0 Z Z Storesb_es22 hv.flatB.of_nil W W)<|Zv (Y.ldR (v := .int .u8 ((k.toNat : Nat) : Int)) rfl Storesb_ts5 hv.flatB.of_nil (by rw [← hg0]; exact flatm_at0 nB_len W 0 WD rfl))<|Zv (Y.int Z Z Z)<|Zm Z<|?_
  rcases Zsplit (((k.toNat : Nat) : Int) == 83) with ⟨h5,g5⟩ | ⟨h5,g5⟩ <;> try simp only [kb] at g5
  ·refine Zp h5<|Zm Z<|Zp h5<|Zv (Y.lenSl Z Storesb_es22)<|Zp h5<|Zv (Y.int Z Z Z)<|Zv (Y.pick_t Z h5 Z)<|Zm Z<|?_
   rcases Zsplit ((((bs.length - 1) : Nat) : Int) == 1) with ⟨h6,g6⟩ | ⟨h6,g6⟩ <;> try simp only [kb] at g6
   ·refine Zp h6<|Zm Z<|Zp h6<|Zv (Y.idxR 0 Z Z Storesb_es22 (hvr.flatB.of_nil.to W) W W)<|Zp h6<|Zv (Y.ldR Z Storesb_ts5 (hvr.flatB.of_nil.to W) (flatm_at0 nB_len W 0 WD rfl))<|Zp h6<|Zv (Y.int Z Z Z)<|Zv (Y.pick_t Z h6 Z)<|Za Z<|Ze<|Zg<|?_
    rcases Zsplit (decide ((((r.getD 0 0).toNat : Nat) : Int) ≤ 8)) with ⟨h7,g7⟩ | ⟨h7,g7⟩ <;> try simp only [kb] at g7
    ·refine Tr.cond_t Z h7<|Zr<|Zm Z<|Zm Z<|Zv (Y.idxR 0 Z Z Storesb_es22 (hvr.flatB.of_nil.to W) W W)<|Zv (Y.ldR Z Storesb_ts5 (hvr.flatB.of_nil.to W) (flatm_at0 nB_len W 0 WD rfl))<|Zv (Y.conv ((((r.getD 0 0).toNat : Nat) : Int)) rfl Storesb_it5_3 (wrap_i64 W))<|Zv (Y.nilCheck Z)<|Zv (Y.fieldAddr Z Storesb_fo123_2)<|Run.store (s := [(sx,.cells #[(pZ lx),(pZ tx),.int .i64 (((r.getD 0 0).toNat : Nat) : Int),.int .i64 s.life] 123 (0,0))]) Z Z Storesb_sz3 (i := 0) Z Z (le Z) Z Z<|?_
     refine Ze<|Zc<|Ex.keepTo (H' := [[(sx,.cells #[(pZ lx),(pZ tx),.int .i64 (((r.getD 0 0).toNat : Nat) : Int),.int .i64 s.life] 123 (0,0))],st]) [0,0] Z<|?_
     have e9 : s.doR bs = _ := Sk.do_state hbs W W W
     exact Ex.end0 rfl ⟨rfl,_,by rw [e9]; exact ht,by rw [e9] <;> rfl⟩
    ·refine Tr.cond_f Z h7<|Zs<|Zr<|Zm Z<|Zv (Y.idxR 0 Z Z Storesb_es22 hv.flatB.of_nil W W)<|Zv (Y.ldR (v := .int .u8 ((k.toNat : Nat) : Int)) rfl Storesb_ts5 hv.flatB.of_nil (by rw [← hg0]; exact flatm_at0 nB_len W 0 WD rfl))<|Zv (Y.int Z Z Z)<|Zm Z<|?_
     rcases Zsplit (((k.toNat : Nat) : Int) == 70) with ⟨h8,g8⟩ | ⟨h8,g8⟩ <;> try simp only [kb] at g8
     ·refine Zp h8<|Zm Z<|Zp h8<|Zv (Y.lenSl Z Storesb_es22)<|Zp h8<|Zv (Y.int Z Z Z)<|Zv (Y.pick_t Z h8 Z)<|Za Z<|Ze<|Zg<|?_
      rcases Zsplit ((((bs.length - 1) : Nat) : Int) == 4) with ⟨h9,g9⟩ | ⟨h9,g9⟩ <;> try simp only [kb] at g9
      ·refine Tr.cond_t Z h9<|Zs<|Zr<|Za Z<|Ze<|Zg<|Zs<|Zs<|Zr<|Zm Z<|Zv (Y.lenSl Z Storesb_es22)<|Zm Z<|Ze<|Zg<|Zb<|?_
       refine ZL (X := Nat) (fun z0 => V) (fun z0 => [(cS 123 sx lx tx s),st]) (fun z0 => [(0,(pZ sx)),(1,.slice p bs.length c),(4,.slice (if c = 1 then p else p.map (·.add (1 * 1))) (bs.length - 1) (c - 1)),(7,.int .i64 (val (r.take z0))),(63,.slice (if c = 1 then p else p.map (·.add (1 * 1))) (bs.length - 1) (c - 1)),(64,.int .i64 ((bs.length - 1 : Nat) : Int)),(65,.int .i64 (z0 : Int))]) (fun z0 => z0 ≤ 4) (fun z0 => 4 - z0) (0 : Nat) (Nat.zero_le _) ?_
       rintro i1 hi
       have hvs := val_small (l := r.take i1) (by rw [List.length_take]; omega)
       have hub := u8_lt (r.getD i1 0)
       refine Zs<|Zr<|Zv (Y.int Z Z Z)<|Ze<|Zg<|Zs<|?_
       rcases Zsplit (decide ((i1 : Int) < ((bs.length - 1 : Nat) : Int))) with ⟨h10,g10⟩ | ⟨h10,g10⟩ <;> try simp only [kb] at g10
       ·refine Tr.cond_t Z h10<|Zt<|Zg<|Zs<|Zb<|Zs<|Zr<|Zv (Y.idxR i1 Z Z Storesb_es22 (hvr.flatB.of_nil.to W) W W)<|Zv (Y.ldR Z Storesb_ts5 (hvr.flatB.of_nil.to W) (flatm_at0 nB_len W 0 WD rfl))<|Za Z<|Ze<|Zg<|Zr<|Zm Z<|Zv (Y.shl (val (r.take i1) * 256) rfl rfl WD (shl_byte hvs.1 hvs.2))<|Zm Z<|?_
        refine Zv (Y.conv ((((r.getD i1 0).toNat : Nat) : Int)) rfl Storesb_it5_3 (wrap_i64 W))<|Zv (Y.int (r := .int .i64 (val (r.take (i1 + 1)))) rfl rfl (by simp only [intRes]; rw [or_byte hvs.1 hvs.2 W W,val_take W]))<|Za Z<|Ze<|Zc<|Zg<|Zr<|Zv (Y.add Z Z W)<|Zm Z<|Ze<|Ex.keep [0,0]<|?_
        exact ZR (i1 + 1 : Nat) W W
       ·refine Tr.cond_f Z h10<|Zx<|Zy<|Zy<|Zi<|Zg<|Zs<|Zr<|?_
        obtain rfl : i1 = 4 := by omega
        have ev4 : val (r.take 4) = val r := by rw [List.take_of_length_le W]
        rw [ev4]
        refine Zm Z<|Zv (Y.int Z Z Z)<|Ze<|Zg<|?_
        rcases Zsplit (decide ((val r) ≤ 536870912)) with ⟨h11,g11⟩ | ⟨h11,g11⟩ <;> try simp only [kb] at g11
        ·refine Tr.cond_t Z h11<|Zr<|Zm Z<|Zm Z<|Zv (Y.nilCheck Z)<|Zv (Y.fieldAddr Z Storesb_fo123_3)<|Run.store (s := [(sx,.cells #[(pZ lx),(pZ tx),.int .i64 s.state,.int .i64 (val r)] 123 (0,0))]) Z Z Storesb_sz3 (i := 0) Z Z (le Z) Z Z<|Ze<|Zc<|Ex.keepTo (H' := [[(sx,.cells #[(pZ lx),(pZ tx),.int .i64 s.state,.int .i64 (val r)] 123 (0,0))],st]) [0,0] Z<|?_
         have e9 : s.doR bs = _ := Sk.do_life hbs W W W
         exact Ex.end0 rfl ⟨rfl,_,by rw [e9]; exact ht,by rw [e9] <;> rfl⟩
        ·refine Tr.cond_f Z h11<|Zt<|Zc<|Ex.keepTo (H' := [(cS 123 sx lx tx s),st]) [0,0] Z<|?_
         have e9 : s.doR bs = _ := Sk.do_no hbs W W W
         exact Ex.end0 rfl ⟨rfl,_,by rw [e9]; exact ht,by rw [e9] <;> rfl⟩
      ·refine Tr.cond_f Z h9<|Zt<|Zc<|Ex.keepTo (H' := [(cS 123 sx lx tx s),st]) [0,0] Z<|?_
       have e9 : s.doR bs = _ := Sk.do_no hbs W W W
       exact Ex.end0 rfl ⟨rfl,_,by rw [e9]; exact ht,by rw [e9] <;> rfl⟩
     ·refine Zo h8 Z<|Zo h8 Z<|Zo h8 Z<|Zv (Y.pick_f Z h8 Z)<|Za Z<|Ze<|Zg<|Tr.cond_f Z Z<|Zt<|Zc<|Ex.keepTo (H' := [(cS 123 sx lx tx s),st]) [0,0] Z<|?_
      have e9 : s.doR bs = _ := Sk.do_no hbs W W W
      exact Ex.end0 rfl ⟨rfl,_,by rw [e9]; exact ht,by rw [e9] <;> rfl⟩
   ·refine Zo h6 Z<|Zo h6 Z<|Zo h6 Z<|Zo h6 Z<|Zv (Y.pick_f Z h6 Z)<|Za Z<|Ze<|Zg<|Tr.cond_f Z Z<|Zs<|Zr<|Zm Z<|Zv (Y.idxR 0 Z Z Storesb_es22 hv.flatB.of_nil W W)<|Zv (Y.ldR (v := .int .u8 ((k.toNat : Nat) : Int)) rfl Storesb_ts5 hv.flatB.of_nil (by rw [← hg0]; exact flatm_at0 nB_len W 0 WD rfl))<|Zv (Y.int Z Z Z)<|Zm Z<|?_
    rcases Zsplit (((k.toNat : Nat) : Int) == 70) with ⟨h12,g12⟩ | ⟨h12,g12⟩ <;> try simp only [kb] at g12
    ·refine Zp h12<|Zm Z<|Zp h12<|Zv (Y.lenSl Z Storesb_es22)<|Zp h12<|Zv (Y.int Z Z Z)<|Zv (Y.pick_t Z h12 Z)<|Za Z<|Ze<|Zg<|?_
     rcases Zsplit ((((bs.length - 1) : Nat) : Int) == 4) with ⟨h13,g13⟩ | ⟨h13,g13⟩ <;> try simp only [kb] at g13
     ·refine Tr.cond_t Z h13<|Zs<|Zr<|Za Z<|Ze<|Zg<|Zs<|Zs<|Zr<|Zm Z<|Zv (Y.lenSl Z Storesb_es22)<|Zm Z<|Ze<|Zg<|Zb<|?_
      refine ZL (X := Nat) (fun z0 => V) (fun z0 => [(cS 123 sx lx tx s),st]) (fun z0 => [(0,(pZ sx)),(1,.slice p bs.length c),(4,.slice (if c = 1 then p else p.map (·.add (1 * 1))) (bs.length - 1) (c - 1)),(7,.int .i64 (val (r.take z0))),(63,.slice (if c = 1 then p else p.map (·.add (1 * 1))) (bs.length - 1) (c - 1)),(64,.int .i64 ((bs.length - 1 : Nat) : Int)),(65,.int .i64 (z0 : Int))]) (fun z0 => z0 ≤ 4) (fun z0 => 4 - z0) (0 : Nat) (Nat.zero_le _) ?_
      rintro i1 hi
      have hvs := val_small (l := r.take i1) (by rw [List.length_take]; omega)
      have hub := u8_lt (r.getD i1 0)
      refine Zs<|Zr<|Zv (Y.int Z Z Z)<|Ze<|Zg<|Zs<|?_
      rcases Zsplit (decide ((i1 : Int) < ((bs.length - 1 : Nat) : Int))) with ⟨h14,g14⟩ | ⟨h14,g14⟩ <;> try simp only [kb] at g14
      ·refine Tr.cond_t Z h14<|Zt<|Zg<|Zs<|Zb<|Zs<|Zr<|Zv (Y.idxR i1 Z Z Storesb_es22 (hvr.flatB.of_nil.to W) W W)<|Zv (Y.ldR Z Storesb_ts5 (hvr.flatB.of_nil.to W) (flatm_at0 nB_len W 0 WD rfl))<|Za Z<|Ze<|Zg<|Zr<|Zm Z<|Zv (Y.shl (val (r.take i1) * 256) rfl rfl WD (shl_byte hvs.1 hvs.2))<|Zm Z<|?_
       refine Zv (Y.conv ((((r.getD i1 0).toNat : Nat) : Int)) rfl Storesb_it5_3 (wrap_i64 W))<|Zv (Y.int (r := .int .i64 (val (r.take (i1 + 1)))) rfl rfl (by simp only [intRes]; rw [or_byte hvs.1 hvs.2 W W,val_take W]))<|Za Z<|Ze<|Zc<|Zg<|Zr<|Zv (Y.add Z Z W)<|Zm Z<|Ze<|Ex.keep [0,0]<|?_
       exact ZR (i1 + 1 : Nat) W W
      ·refine Tr.cond_f Z h14<|Zx<|Zy<|Zy<|Zi<|Zg<|Zs<|Zr<|?_
       obtain rfl : i1 = 4 := by omega
       have ev4 : val (r.take 4) = val r := by rw [List.take_of_length_le W]
       rw [ev4]
       refine Zm Z<|Zv (Y.int Z Z Z)<|Ze<|Zg<|?_
       rcases Zsplit (decide ((val r) ≤ 536870912)) with ⟨h15,g15⟩ | ⟨h15,g15⟩ <;> try simp only [kb] at g15
       ·refine Tr.cond_t Z h15<|Zr<|Zm Z<|Zm Z<|Zv (Y.nilCheck Z)<|Zv (Y.fieldAddr Z Storesb_fo123_3)<|Run.store (s := [(sx,.cells #[(pZ lx),(pZ tx),.int .i64 s.state,.int .i64 (val r)] 123 (0,0))]) Z Z Storesb_sz3 (i := 0) Z Z (le Z) Z Z<|Ze<|Zc<|Ex.keepTo (H' := [[(sx,.cells #[(pZ lx),(pZ tx),.int .i64 s.state,.int .i64 (val r)] 123 (0,0))],st]) [0,0] Z<|?_
        have e9 : s.doR bs = _ := Sk.do_life hbs W W W
        exact Ex.end0 rfl ⟨rfl,_,by rw [e9]; exact ht,by rw [e9] <;> rfl⟩
       ·refine Tr.cond_f Z h15<|Zt<|Zc<|Ex.keepTo (H' := [(cS 123 sx lx tx s),st]) [0,0] Z<|?_
        have e9 : s.doR bs = _ := Sk.do_no hbs W W W
        exact Ex.end0 rfl ⟨rfl,_,by rw [e9]; exact ht,by rw [e9] <;> rfl⟩
     ·refine Tr.cond_f Z h13<|Zt<|Zc<|Ex.keepTo (H' := [(cS 123 sx lx tx s),st]) [0,0] Z<|?_
      have e9 : s.doR bs = _ := Sk.do_no hbs W W W
      exact Ex.end0 rfl ⟨rfl,_,by rw [e9]; exact ht,by rw [e9] <;> rfl⟩
    ·refine Zo h12 Z<|Zo h12 Z<|Zo h12 Z<|Zv (Y.pick_f Z h12 Z)<|Za Z<|Ze<|Zg<|Tr.cond_f Z Z<|Zt<|Zc<|Ex.keepTo (H' := [(cS 123 sx lx tx s),st]) [0,0] Z<|?_
     have e9 : s.doR bs = _ := Sk.do_no hbs W W W
     exact Ex.end0 rfl ⟨rfl,_,by rw [e9]; exact ht,by rw [e9] <;> rfl⟩
  ·refine Zo h5 Z<|Zo h5 Z<|Zo h5 Z<|Zv (Y.pick_f Z h5 Z)<|Zm Z<|Zo Z Z<|Zo Z Z<|Zo Z Z<|Zo Z Z<|Zv (Y.pick_f Z Z Z)<|Za Z<|Ze<|Zg<|Tr.cond_f Z Z<|Zs<|Zr<|?_
   refine Zm Z<|Zv (Y.idxR 0 Z Z Storesb_es22 hv.flatB.of_nil W W)<|Zv (Y.ldR (v := .int .u8 ((k.toNat : Nat) : Int)) rfl Storesb_ts5 hv.flatB.of_nil (by rw [← hg0]; exact flatm_at0 nB_len W 0 WD rfl))<|Zv (Y.int Z Z Z)<|Zm Z<|?_
   rcases Zsplit (((k.toNat : Nat) : Int) == 70) with ⟨h16,g16⟩ | ⟨h16,g16⟩ <;> try simp only [kb] at g16
   ·refine Zp h16<|Zm Z<|Zp h16<|Zv (Y.lenSl Z Storesb_es22)<|Zp h16<|Zv (Y.int Z Z Z)<|Zv (Y.pick_t Z h16 Z)<|Za Z<|Ze<|Zg<|?_
    rcases Zsplit ((((bs.length - 1) : Nat) : Int) == 4) with ⟨h17,g17⟩ | ⟨h17,g17⟩ <;> try simp only [kb] at g17
    ·refine Tr.cond_t Z h17<|Zs<|Zr<|Za Z<|Ze<|Zg<|Zs<|Zs<|Zr<|Zm Z<|Zv (Y.lenSl Z Storesb_es22)<|Zm Z<|Ze<|Zg<|Zb<|?_
     refine ZL (X := Nat) (fun z0 => V) (fun z0 => [(cS 123 sx lx tx s),st]) (fun z0 => [(0,(pZ sx)),(1,.slice p bs.length c),(4,.slice (if c = 1 then p else p.map (·.add (1 * 1))) (bs.length - 1) (c - 1)),(7,.int .i64 (val (r.take z0))),(63,.slice (if c = 1 then p else p.map (·.add (1 * 1))) (bs.length - 1) (c - 1)),(64,.int .i64 ((bs.length - 1 : Nat) : Int)),(65,.int .i64 (z0 : Int))]) (fun z0 => z0 ≤ 4) (fun z0 => 4 - z0) (0 : Nat) (Nat.zero_le _) ?_
     rintro i1 hi
     have hvs := val_small (l := r.take i1) (by rw [List.length_take]; omega)
     have hub := u8_lt (r.getD i1 0)
     refine Zs<|Zr<|Zv (Y.int Z Z Z)<|Ze<|Zg<|Zs<|?_
     rcases Zsplit (decide ((i1 : Int) < ((bs.length - 1 : Nat) : Int))) with ⟨h18,g18⟩ | ⟨h18,g18⟩ <;> try simp only [kb] at g18
     ·refine Tr.cond_t Z h18<|Zt<|Zg<|Zs<|Zb<|Zs<|Zr<|Zv (Y.idxR i1 Z Z Storesb_es22 (hvr.flatB.of_nil.to W) W W)<|Zv (Y.ldR Z Storesb_ts5 (hvr.flatB.of_nil.to W) (flatm_at0 nB_len W 0 WD rfl))<|Za Z<|Ze<|Zg<|Zr<|Zm Z<|Zv (Y.shl (val (r.take i1) * 256) rfl rfl WD (shl_byte hvs.1 hvs.2))<|Zm Z<|?_
      refine Zv (Y.conv ((((r.getD i1 0).toNat : Nat) : Int)) rfl Storesb_it5_3 (wrap_i64 W))<|Zv (Y.int (r := .int .i64 (val (r.take (i1 + 1)))) rfl rfl (by simp only [intRes]; rw [or_byte hvs.1 hvs.2 W W,val_take W]))<|Za Z<|Ze<|Zc<|Zg<|Zr<|Zv (Y.add Z Z W)<|Zm Z<|Ze<|Ex.keep [0,0]<|?_
      exact ZR (i1 + 1 : Nat) W W
     ·refine Tr.cond_f Z h18<|Zx<|Zy<|Zy<|Zi<|Zg<|Zs<|Zr<|?_
      obtain rfl : i1 = 4 := by omega
      have ev4 : val (r.take 4) = val r := by rw [List.take_of_length_le W]
      rw [ev4]
      refine Zm Z<|Zv (Y.int Z Z Z)<|Ze<|Zg<|?_
      rcases Zsplit (decide ((val r) ≤ 536870912)) with ⟨h19,g19⟩ | ⟨h19,g19⟩ <;> try simp only [kb] at g19
      ·refine Tr.cond_t Z h19<|Zr<|Zm Z<|Zm Z<|Zv (Y.nilCheck Z)<|Zv (Y.fieldAddr Z Storesb_fo123_3)<|Run.store (s := [(sx,.cells #[(pZ lx),(pZ tx),.int .i64 s.state,.int .i64 (val r)] 123 (0,0))]) Z Z Storesb_sz3 (i := 0) Z Z (le Z) Z Z<|Ze<|Zc<|Ex.keepTo (H' := [[(sx,.cells #[(pZ lx),(pZ tx),.int .i64 s.state,.int .i64 (val r)] 123 (0,0))],st]) [0,0] Z<|?_
       have e9 : s.doR bs = _ := Sk.do_life hbs W W W
       exact Ex.end0 rfl ⟨rfl,_,by rw [e9]; exact ht,by rw [e9] <;> rfl⟩
      ·refine Tr.cond_f Z h19<|Zt<|Zc<|Ex.keepTo (H' := [(cS 123 sx lx tx s),st]) [0,0] Z<|?_
       have e9 : s.doR bs = _ := Sk.do_no hbs W W W
       exact Ex.end0 rfl ⟨rfl,_,by rw [e9]; exact ht,by rw [e9] <;> rfl⟩
    ·refine Tr.cond_f Z h17<|Zt<|Zc<|Ex.keepTo (H' := [(cS 123 sx lx tx s),st]) [0,0] Z<|?_
     have e9 : s.doR bs = _ := Sk.do_no hbs W W W
     exact Ex.end0 rfl ⟨rfl,_,by rw [e9]; exact ht,by rw [e9] <;> rfl⟩
   ·refine Zo h16 Z<|Zo h16 Z<|Zo h16 Z<|Zv (Y.pick_f Z h16 Z)<|Za Z<|Ze<|Zg<|Tr.cond_f Z Z<|Zt<|Zc<|Ex.keepTo (H' := [(cS 123 sx lx tx s),st]) [0,0] Z<|?_
    have e9 : s.doR bs = _ := Sk.do_no hbs W W W
    exact Ex.end0 rfl ⟨rfl,_,by rw [e9]; exact ht,by rw [e9] <;> rfl⟩
set_option maxHeartbeats 1000000 in
theorem rdo_c {V : Vw} {bs : Bts} {p : Option Addr} {c : Nat} (hv : Rd V [] 1 (.slice p bs.length c) bs.length (bs.map byteV)) (hl : 1 ≤ bs.length ∧ bs.length ≤ 1000) {s : Sk} {sx lx tx : Nat} {st : Sg} (ht : Le.Rin s.t tx st)  : Does Tryz.prog 74 [(pZ sx),.slice p bs.length c] V [(cS 133 sx lx tx s),st] (fun _ V' H' => V' = V ∧ ∃ st2,Le.Rin (s.doR bs).t tx st2 ∧ H' = [(cS 133 sx lx tx (s.doR bs)),st2]) := by
 obtain ⟨k,r,hbs⟩ : ∃ k r,bs = k :: r := by cases bs with | nil => exact absurd hl.1 WD | cons k r => exact ⟨k,r,rfl⟩
 have hlr : bs.length = r.length + 1 := by rw [hbs]; rfl
 have hg0 : bs.getD 0 0 = k := by rw [hbs]; rfl
 have hT : (bs.drop 1).take (bs.length - 1) = r := by rw [hbs]; simp
 have hg1 : ∀ i,bs.getD (i + 1) 0 = r.getD i 0 := fun i => by rw [hbs]; rfl
 have hcp := hv.cap
 have hu0 := u8_lt k
 have hu1 := u8_lt (r.getD 0 0)
 have hvr : Rd V [] 1 (.slice (if c = 1 then p else p.map (·.add (1 * 1))) (bs.length - 1) (c - 1)) r.length (r.map byteV) := (show Rd V [] 1 _ _ _ from (Rd.cut nB_len hv.flatB 1 bs.length W W)).mapB.to (show bs.length - 1 = r.length by omega) |> fun h => by rw [hT] at h; exact h
 refine Does.intro Tryz.func74 rfl rfl (le rfl) (fun B => ?_)
 refine Zs<|Zs<|Zr<|Zm Z<|Zv (Y.lenSl Z Storesb_es22)<|Zv (Y.int Z Z Z)<|Ze<|Zg<|?_
 rcases Zsplit (((bs.length : Nat) : Int) == 0) with ⟨h1,g1⟩ | ⟨h1,g1⟩ <;> try simp only [kb] at g1
 ·refine Tr.cond_t Z h1<|Zu<|Zn<|Ex.keepTo (H' := [(cS 133 sx lx tx s),st]) [0,0] Z<|?_
  have e9 : s.doR bs = _ := Sk.do_no hbs W W W
  exact Ex.ret0 rfl ⟨rfl,_,by rw [e9]; exact ht,by rw [e9] <;> rfl⟩
 ·refine Tr.cond_f Z h1<|Zt<|Zg<|Zb<|Zs<|Zr<|Zm Z<|Zv (Y.idxR 0 Z Z Storesb_es22 hv.flatB.of_nil W W)<|Zv (Y.ldR (v := .int .u8 ((k.toNat : Nat) : Int)) rfl Storesb_ts5 hv.flatB.of_nil (by rw [← hg0]; exact flatm_at0 nB_len W 0 WD rfl))<|Zv (Y.int Z Z Z)<|Za Z<|Ze<|Zg<|?_
  rcases Zsplit (((k.toNat : Nat) : Int) == 76) with ⟨h2,g2⟩ | ⟨h2,g2⟩ <;> try simp only [kb] at g2
  ·refine Tr.cond_t Z h2<|Zs<|Zr<|Zm Z<|Zv (Y.slice (l := 1) (m := bs.length) Z Storesb_es22 rfl rfl W W)<|Run.call0 (l := [.tmp 18]) rfl rfl rfl (lt rfl) (rdec_c_h (bs := r) hvr W)<|Zm Z<|Zv (Y.extract Z Z)<|Zv (Y.extract Z Z)<|?_
   refine Run.alloc Storesb_zo49 (lt rfl) (fun b3 => ?_)
   refine Run.store (s := [(b3,.cells #[.int .u32 ((Le.decE r).1.addr),.int .i64 ((Le.decE r).1.bind),.string ((Le.decE r).1.client),.int .i64 ((Le.decE r).1.till),.int .i64 ((Le.decE r).1.acked),.int .i64 ((Le.decE r).1.told),.int .i64 ((Le.decE r).1.at_),.int .i64 ((Le.decE r).1.ver)] 49 (0,0))]) Z Z Storesb_sz49 (i := 0) Z Z (le Z) Z Z<|Za Z<|Ze<|Zg<|Zs<|Zr<|Zm Z<|Zv (Y.int Z Z Z)<|Ze<|Zg<|?_
   rcases Zsplit (((Le.decE r).2) == 0) with ⟨h4,g4⟩ | ⟨h4,g4⟩ <;> try simp only [kb] at g4
   ·refine Tr.cond_t Z h4<|Tr.anyD [(sx,.cells #[(pZ lx),(pZ tx),.int .i64 s.state,.int .i64 s.life] 133 (0,0)),(b3,.cells #[.int .u32 ((Le.decE r).1.addr),.int .i64 ((Le.decE r).1.bind),.string ((Le.decE r).1.client),.int .i64 ((Le.decE r).1.till),.int .i64 ((Le.decE r).1.acked),.int .i64 ((Le.decE r).1.told),.int .i64 ((Le.decE r).1.at_),.int .i64 ((Le.decE r).1.ver)] 49 (0,0))] Storesb_mo<|?_
    refine RunD.pure (i := 0) rfl WK WK WK (fun _ _ _ h => h) (lt rfl) (KnAll.cons (Kn.at 1 rfl) (ZK 0 Z)) (fun _ => (Y.move rfl))<|RunD.pure (i := 1) rfl WK WK WK (fun _ _ _ h => h) (lt rfl) (KnAll.cons (Kn.at 1 rfl) (ZK 0 Z)) (fun _ => (Y.nilCheck rfl))<|RunD.pure (i := 2) rfl WK WK WK (fun _ _ _ h => h) (lt rfl) (KnAll.cons (Kn.at 1 rfl) (ZK 0 Z)) (fun _ => (Y.fieldAddr rfl Storesb_fo133_1))<|?_
    refine RunD.take (i := 3) 0 rfl rfl WK WK WK (fun _ _ _ h => h) (lt rfl) (KnAll.cons (Kn.at 1 rfl) (ZK 0 Z)) (fun _ => (Y.load rfl Storesb_ts79 Kn.vk1 rfl))<|RunD.take (i := 4) 1 rfl rfl WK WK WK (fun _ _ _ h => h) (lt rfl) (KnAll.cons (Kn.at 1 rfl) (ZK 0 Z)) (fun _ => (Y.loadAgg rfl Storesb_ag49 Kn.vk1 rfl))<|?_
    refine RunD.one (i := 5) WK rfl  ?_
    refine Run.call [2] (l := [.tmp 27,.tmp 28]) rfl rfl rfl (lt rfl) (rset_o (q := (Le.decE r).1) ht (by have := Le.decE_size r; omega)) (fun v5 V5 H5 hle5 hR5 => ?_)
    obtain ⟨hV,rfl,sb5,ht5,rfl⟩ := hR5; replace hV := hV.symm; subst hV
    refine Run.heapTo (H' := [[(b3,.cells #[.int .u32 ((Le.decE r).1.addr),.int .i64 ((Le.decE r).1.bind),.string ((Le.decE r).1.client),.int .i64 ((Le.decE r).1.till),.int .i64 ((Le.decE r).1.acked),.int .i64 ((Le.decE r).1.told),.int .i64 ((Le.decE r).1.at_),.int .i64 ((Le.decE r).1.ver)] 49 (0,0))],(cS 133 sx lx tx s),sb5]) Z ?_
    refine Ze<|Ex.anyD (KnAll.cons (Kn.at 1 Z) (ZK 0 Z))<|RunD.done WK<|Zc<|Ex.keepTo (H' := [(cS 133 sx lx tx s),sb5]) [1,1] Z<|?_
    have e9 : s.doR bs = _ := Sk.do_lease hbs W W
    exact Ex.end0 rfl ⟨rfl,_,by rw [e9]; exact ht5,by rw [e9] <;> rfl⟩
   ·refine Tr.cond_f Z h4<|Zt<|Zc<|Ex.keepTo (H' := [(cS 133 sx lx tx s),st]) [1,1] Z<|?_
    have e9 : s.doR bs = _ := Sk.do_leno hbs W W
    exact Ex.end0 rfl ⟨rfl,_,by rw [e9]; exact ht,by rw [e9] <;> rfl⟩
  ·refine Tr.cond_f Z h2<|Zs<|Zr<|Zm Z<|Zv (Y.idxR 0 Z Z Storesb_es22 hv.flatB.of_nil W W)<|Zv (Y.ldR (v := .int .u8 ((k.toNat : Nat) : Int)) rfl Storesb_ts5 hv.flatB.of_nil (by rw [← hg0]; exact flatm_at0 nB_len W 0 WD rfl))<|Zv (Y.int Z Z Z)<|Zm Z<|?_
   rcases Zsplit (((k.toNat : Nat) : Int) == 83) with ⟨h6,g6⟩ | ⟨h6,g6⟩ <;> try simp only [kb] at g6
   ·refine Zp h6<|Zm Z<|Zp h6<|Zv (Y.lenSl Z Storesb_es22)<|Zp h6<|Zv (Y.int Z Z Z)<|Zv (Y.pick_t Z h6 Z)<|Zm Z<|?_
    rcases Zsplit (((bs.length : Nat) : Int) == 2) with ⟨h7,g7⟩ | ⟨h7,g7⟩ <;> try simp only [kb] at g7
    ·refine Zp h7<|Zm Z<|Zp h7<|Zv (Y.idxR 1 Z Z Storesb_es22 hv.flatB.of_nil W W)<|Zp h7<|Zv (Y.ldR (v := .int .u8 (((r.getD 0 0).toNat : Nat) : Int)) rfl Storesb_ts5 hv.flatB.of_nil (by rw [← hg1 0]; exact flatm_at0 nB_len W 0 WD rfl))<|Zp h7<|Zv (Y.int Z Z Z)<|Zv (Y.pick_t Z h7 Z)<|Za Z<|Ze<|Zg<|?_
     rcases Zsplit (decide ((((r.getD 0 0).toNat : Nat) : Int) ≤ 8)) with ⟨h8,g8⟩ | ⟨h8,g8⟩ <;> try simp only [kb] at g8
     ·refine Tr.cond_t Z h8<|Zr<|Zm Z<|Zm Z<|Zv (Y.idxR 1 Z Z Storesb_es22 hv.flatB.of_nil W W)<|Zv (Y.ldR (v := .int .u8 (((r.getD 0 0).toNat : Nat) : Int)) rfl Storesb_ts5 hv.flatB.of_nil (by rw [← hg1 0]; exact flatm_at0 nB_len W 0 WD rfl))<|Zv (Y.conv ((((r.getD 0 0).toNat : Nat) : Int)) rfl Storesb_it5_3 (wrap_i64 W))<|Zv (Y.nilCheck Z)<|Zv (Y.fieldAddr Z Storesb_fo133_2)<|Run.store (s := [(sx,.cells #[(pZ lx),(pZ tx),.int .i64 (((r.getD 0 0).toNat : Nat) : Int),.int .i64 s.life] 133 (0,0))]) Z Z Storesb_sz3 (i := 0) Z Z (le Z) Z Z<|?_
      refine Ze<|Zc<|Ex.keepTo (H' := [[(sx,.cells #[(pZ lx),(pZ tx),.int .i64 (((r.getD 0 0).toNat : Nat) : Int),.int .i64 s.life] 133 (0,0))],st]) [0,0] Z<|?_
      have e9 : s.doR bs = _ := Sk.do_state hbs W W W
      exact Ex.end0 rfl ⟨rfl,_,by rw [e9]; exact ht,by rw [e9] <;> rfl⟩
     ·refine Tr.cond_f Z h8<|Zs<|Zr<|Zm Z<|Zv (Y.idxR 0 Z Z Storesb_es22 hv.flatB.of_nil W W)<|Zv (Y.ldR (v := .int .u8 ((k.toNat : Nat) : Int)) rfl Storesb_ts5 hv.flatB.of_nil (by rw [← hg0]; exact flatm_at0 nB_len W 0 WD rfl))<|Zv (Y.int Z Z Z)<|Zm Z<|?_
      rcases Zsplit (((k.toNat : Nat) : Int) == 70) with ⟨h9,g9⟩ | ⟨h9,g9⟩ <;> try simp only [kb] at g9
      ·refine Zp h9<|Zm Z<|Zp h9<|Zv (Y.lenSl Z Storesb_es22)<|Zp h9<|Zv (Y.int Z Z Z)<|Zv (Y.pick_t Z h9 Z)<|Za Z<|Ze<|Zg<|?_
       rcases Zsplit (((bs.length : Nat) : Int) == 5) with ⟨h10,g10⟩ | ⟨h10,g10⟩ <;> try simp only [kb] at g10
       ·refine Tr.cond_t Z h10<|Zs<|Zr<|Za Z<|Ze<|Zg<|Zs<|Zs<|Zr<|Za Z<|Ze<|Zg<|Zb<|?_
        refine ZL (X := Nat) (fun z0 => V) (fun z0 => [(cS 133 sx lx tx s),st]) (fun z0 => [(0,(pZ sx)),(1,.slice p bs.length c),(6,.int .i64 (val (r.take z0))),(7,.int .i64 ((z0 + 1 : Nat) : Int))]) (fun z0 => z0 ≤ 4) (fun z0 => 4 - z0) (0 : Nat) (Nat.zero_le _) ?_
        rintro i1 hi
        have hvs := val_small (l := r.take i1) (by rw [List.length_take]; omega)
        have hub := u8_lt (r.getD i1 0)
        refine Zs<|Zs<|Zr<|Zm Z<|Zv (Y.int Z Z Z)<|Ze<|Zg<|?_
        rcases Zsplit (decide (((i1 + 1 : Nat) : Int) < 5)) with ⟨h11,g11⟩ | ⟨h11,g11⟩ <;> try simp only [kb] at g11
        ·refine Tr.cond_t Z h11<|Zt<|Zg<|Zs<|Zb<|Zr<|Zm Z<|Zv (Y.mul Z Z W)<|Zm Z<|Zm Z<|Zv (Y.idxR (i1 + 1) rfl rfl Storesb_es22 hv.flatB.of_nil W W)<|Zv (Y.ldR (v := .int .u8 (((r.getD i1 0).toNat : Nat) : Int)) rfl Storesb_ts5 hv.flatB.of_nil (by rw [← hg1 i1]; exact flatm_at0 nB_len W 0 WD rfl))<|Zv (Y.conv ((((r.getD i1 0).toNat : Nat) : Int)) rfl Storesb_it5_3 (wrap_i64 W))<|Zv (Y.int (r := .int .i64 (val (r.take (i1 + 1)))) rfl rfl (by simp only [intRes]; rw [wrap_i64 W,val_take W]))<|?_
         refine Za Z<|Ze<|Zc<|Zg<|Zr<|Zm Z<|Zv (Y.add Z Z W)<|Za Z<|Ze<|Ex.keep [0,0]<|?_
         exact ZR (i1 + 1 : Nat) W W
        ·refine Tr.cond_f Z h11<|Zx<|Zy<|Zy<|Zi<|Zg<|Zs<|Zr<|?_
         obtain rfl : i1 = 4 := by omega
         have ev4 : val (r.take 4) = val r := by rw [List.take_of_length_le W]
         rw [ev4]
         refine Zm Z<|Zv (Y.int Z Z Z)<|Ze<|Zg<|?_
         rcases Zsplit (decide ((val r) ≤ 536870912)) with ⟨h12,g12⟩ | ⟨h12,g12⟩ <;> try simp only [kb] at g12
         ·refine Tr.cond_t Z h12<|Zr<|Zm Z<|Zm Z<|Zv (Y.nilCheck Z)<|Zv (Y.fieldAddr Z Storesb_fo133_3)<|Run.store (s := [(sx,.cells #[(pZ lx),(pZ tx),.int .i64 s.state,.int .i64 (val r)] 133 (0,0))]) Z Z Storesb_sz3 (i := 0) Z Z (le Z) Z Z<|Ze<|Zc<|Ex.keepTo (H' := [[(sx,.cells #[(pZ lx),(pZ tx),.int .i64 s.state,.int .i64 (val r)] 133 (0,0))],st]) [0,0] Z<|?_
          have e9 : s.doR bs = _ := Sk.do_life hbs W W W
          exact Ex.end0 rfl ⟨rfl,_,by rw [e9]; exact ht,by rw [e9] <;> rfl⟩
         ·refine Tr.cond_f Z h12<|Zt<|Zc<|Ex.keepTo (H' := [(cS 133 sx lx tx s),st]) [0,0] Z<|?_
          have e9 : s.doR bs = _ := Sk.do_no hbs W W W
          exact Ex.end0 rfl ⟨rfl,_,by rw [e9]; exact ht,by rw [e9] <;> rfl⟩
       ·refine Tr.cond_f Z h10<|Zt<|Zc<|Ex.keepTo (H' := [(cS 133 sx lx tx s),st]) [0,0] Z<|?_
        have e9 : s.doR bs = _ := Sk.do_no hbs W W W
        exact Ex.end0 rfl ⟨rfl,_,by rw [e9]; exact ht,by rw [e9] <;> rfl⟩
      ·refine Zo h9 Z<|Zo h9 Z<|Zo h9 Z<|Zv (Y.pick_f Z h9 Z)<|Za Z<|Ze<|Zg<|Tr.cond_f Z Z<|Zt<|Zc<|Ex.keepTo (H' := [(cS 133 sx lx tx s),st]) [0,0] Z<|?_
       have e9 : s.doR bs = _ := Sk.do_no hbs W W W
       exact Ex.end0 rfl ⟨rfl,_,by rw [e9]; exact ht,by rw [e9] <;> rfl⟩
    ·refine Zo h7 Z<|Zo h7 Z<|Zo h7 Z<|Zo h7 Z<|Zv (Y.pick_f Z h7 Z)<|Za Z<|Ze<|Zg<|Tr.cond_f Z Z<|Zs<|Zr<|Zm Z<|Zv (Y.idxR 0 Z Z Storesb_es22 hv.flatB.of_nil W W)<|Zv (Y.ldR (v := .int .u8 ((k.toNat : Nat) : Int)) rfl Storesb_ts5 hv.flatB.of_nil (by rw [← hg0]; exact flatm_at0 nB_len W 0 WD rfl))<|Zv (Y.int Z Z Z)<|Zm Z<|?_
     rcases Zsplit (((k.toNat : Nat) : Int) == 70) with ⟨h13,g13⟩ | ⟨h13,g13⟩ <;> try simp only [kb] at g13
     ·refine Zp h13<|Zm Z<|Zp h13<|Zv (Y.lenSl Z Storesb_es22)<|Zp h13<|Zv (Y.int Z Z Z)<|Zv (Y.pick_t Z h13 Z)<|Za Z<|Ze<|Zg<|?_
      rcases Zsplit (((bs.length : Nat) : Int) == 5) with ⟨h14,g14⟩ | ⟨h14,g14⟩ <;> try simp only [kb] at g14
      ·refine Tr.cond_t Z h14<|Zs<|Zr<|Za Z<|Ze<|Zg<|Zs<|Zs<|Zr<|Za Z<|Ze<|Zg<|Zb<|?_
       refine ZL (X := Nat) (fun z0 => V) (fun z0 => [(cS 133 sx lx tx s),st]) (fun z0 => [(0,(pZ sx)),(1,.slice p bs.length c),(6,.int .i64 (val (r.take z0))),(7,.int .i64 ((z0 + 1 : Nat) : Int))]) (fun z0 => z0 ≤ 4) (fun z0 => 4 - z0) (0 : Nat) (Nat.zero_le _) ?_
       rintro i1 hi
       have hvs := val_small (l := r.take i1) (by rw [List.length_take]; omega)
       have hub := u8_lt (r.getD i1 0)
       refine Zs<|Zs<|Zr<|Zm Z<|Zv (Y.int Z Z Z)<|Ze<|Zg<|?_
       rcases Zsplit (decide (((i1 + 1 : Nat) : Int) < 5)) with ⟨h15,g15⟩ | ⟨h15,g15⟩ <;> try simp only [kb] at g15
       ·refine Tr.cond_t Z h15<|Zt<|Zg<|Zs<|Zb<|Zr<|Zm Z<|Zv (Y.mul Z Z W)<|Zm Z<|Zm Z<|Zv (Y.idxR (i1 + 1) rfl rfl Storesb_es22 hv.flatB.of_nil W W)<|Zv (Y.ldR (v := .int .u8 (((r.getD i1 0).toNat : Nat) : Int)) rfl Storesb_ts5 hv.flatB.of_nil (by rw [← hg1 i1]; exact flatm_at0 nB_len W 0 WD rfl))<|Zv (Y.conv ((((r.getD i1 0).toNat : Nat) : Int)) rfl Storesb_it5_3 (wrap_i64 W))<|Zv (Y.int (r := .int .i64 (val (r.take (i1 + 1)))) rfl rfl (by simp only [intRes]; rw [wrap_i64 W,val_take W]))<|?_
        refine Za Z<|Ze<|Zc<|Zg<|Zr<|Zm Z<|Zv (Y.add Z Z W)<|Za Z<|Ze<|Ex.keep [0,0]<|?_
        exact ZR (i1 + 1 : Nat) W W
       ·refine Tr.cond_f Z h15<|Zx<|Zy<|Zy<|Zi<|Zg<|Zs<|Zr<|?_
        obtain rfl : i1 = 4 := by omega
        have ev4 : val (r.take 4) = val r := by rw [List.take_of_length_le W]
        rw [ev4]
        refine Zm Z<|Zv (Y.int Z Z Z)<|Ze<|Zg<|?_
        rcases Zsplit (decide ((val r) ≤ 536870912)) with ⟨h16,g16⟩ | ⟨h16,g16⟩ <;> try simp only [kb] at g16
        ·refine Tr.cond_t Z h16<|Zr<|Zm Z<|Zm Z<|Zv (Y.nilCheck Z)<|Zv (Y.fieldAddr Z Storesb_fo133_3)<|Run.store (s := [(sx,.cells #[(pZ lx),(pZ tx),.int .i64 s.state,.int .i64 (val r)] 133 (0,0))]) Z Z Storesb_sz3 (i := 0) Z Z (le Z) Z Z<|Ze<|Zc<|Ex.keepTo (H' := [[(sx,.cells #[(pZ lx),(pZ tx),.int .i64 s.state,.int .i64 (val r)] 133 (0,0))],st]) [0,0] Z<|?_
         have e9 : s.doR bs = _ := Sk.do_life hbs W W W
         exact Ex.end0 rfl ⟨rfl,_,by rw [e9]; exact ht,by rw [e9] <;> rfl⟩
        ·refine Tr.cond_f Z h16<|Zt<|Zc<|Ex.keepTo (H' := [(cS 133 sx lx tx s),st]) [0,0] Z<|?_
         have e9 : s.doR bs = _ := Sk.do_no hbs W W W
         exact Ex.end0 rfl ⟨rfl,_,by rw [e9]; exact ht,by rw [e9] <;> rfl⟩
      ·refine Tr.cond_f Z h14<|Zt<|Zc<|Ex.keepTo (H' := [(cS 133 sx lx tx s),st]) [0,0] Z<|?_
       have e9 : s.doR bs = _ := Sk.do_no hbs W W W
       exact Ex.end0 rfl ⟨rfl,_,by rw [e9]; exact ht,by rw [e9] <;> rfl⟩
     ·refine Zo h13 Z<|Zo h13 Z<|Zo h13 Z<|Zv (Y.pick_f Z h13 Z)<|Za Z<|Ze<|Zg<|Tr.cond_f Z Z<|Zt<|Zc<|Ex.keepTo (H' := [(cS 133 sx lx tx s),st]) [0,0] Z<|?_
      have e9 : s.doR bs = _ := Sk.do_no hbs W W W
      exact Ex.end0 rfl ⟨rfl,_,by rw [e9]; exact ht,by rw [e9] <;> rfl⟩
   ·refine Zo h6 Z<|Zo h6 Z<|Zo h6 Z<|Zv (Y.pick_f Z h6 Z)<|Zm Z<|Zo Z Z<|Zo Z Z<|Zo Z Z<|Zo Z Z<|Zv (Y.pick_f Z Z Z)<|Za Z<|Ze<|Zg<|Tr.cond_f Z Z<|Zs<|Zr<|?_
    refine Zm Z<|Zv (Y.idxR 0 Z Z Storesb_es22 hv.flatB.of_nil W W)<|Zv (Y.ldR (v := .int .u8 ((k.toNat : Nat) : Int)) rfl Storesb_ts5 hv.flatB.of_nil (by rw [← hg0]; exact flatm_at0 nB_len W 0 WD rfl))<|Zv (Y.int Z Z Z)<|Zm Z<|?_
    rcases Zsplit (((k.toNat : Nat) : Int) == 70) with ⟨h17,g17⟩ | ⟨h17,g17⟩ <;> try simp only [kb] at g17
    ·refine Zp h17<|Zm Z<|Zp h17<|Zv (Y.lenSl Z Storesb_es22)<|Zp h17<|Zv (Y.int Z Z Z)<|Zv (Y.pick_t Z h17 Z)<|Za Z<|Ze<|Zg<|?_
     rcases Zsplit (((bs.length : Nat) : Int) == 5) with ⟨h18,g18⟩ | ⟨h18,g18⟩ <;> try simp only [kb] at g18
     ·refine Tr.cond_t Z h18<|Zs<|Zr<|Za Z<|Ze<|Zg<|Zs<|Zs<|Zr<|Za Z<|Ze<|Zg<|Zb<|?_
      refine ZL (X := Nat) (fun z0 => V) (fun z0 => [(cS 133 sx lx tx s),st]) (fun z0 => [(0,(pZ sx)),(1,.slice p bs.length c),(6,.int .i64 (val (r.take z0))),(7,.int .i64 ((z0 + 1 : Nat) : Int))]) (fun z0 => z0 ≤ 4) (fun z0 => 4 - z0) (0 : Nat) (Nat.zero_le _) ?_
      rintro i1 hi
      have hvs := val_small (l := r.take i1) (by rw [List.length_take]; omega)
      have hub := u8_lt (r.getD i1 0)
      refine Zs<|Zs<|Zr<|Zm Z<|Zv (Y.int Z Z Z)<|Ze<|Zg<|?_
      rcases Zsplit (decide (((i1 + 1 : Nat) : Int) < 5)) with ⟨h19,g19⟩ | ⟨h19,g19⟩ <;> try simp only [kb] at g19
      ·refine Tr.cond_t Z h19<|Zt<|Zg<|Zs<|Zb<|Zr<|Zm Z<|Zv (Y.mul Z Z W)<|Zm Z<|Zm Z<|Zv (Y.idxR (i1 + 1) rfl rfl Storesb_es22 hv.flatB.of_nil W W)<|Zv (Y.ldR (v := .int .u8 (((r.getD i1 0).toNat : Nat) : Int)) rfl Storesb_ts5 hv.flatB.of_nil (by rw [← hg1 i1]; exact flatm_at0 nB_len W 0 WD rfl))<|Zv (Y.conv ((((r.getD i1 0).toNat : Nat) : Int)) rfl Storesb_it5_3 (wrap_i64 W))<|Zv (Y.int (r := .int .i64 (val (r.take (i1 + 1)))) rfl rfl (by simp only [intRes]; rw [wrap_i64 W,val_take W]))<|?_
       refine Za Z<|Ze<|Zc<|Zg<|Zr<|Zm Z<|Zv (Y.add Z Z W)<|Za Z<|Ze<|Ex.keep [0,0]<|?_
       exact ZR (i1 + 1 : Nat) W W
      ·refine Tr.cond_f Z h19<|Zx<|Zy<|Zy<|Zi<|Zg<|Zs<|Zr<|?_
       obtain rfl : i1 = 4 := by omega
       have ev4 : val (r.take 4) = val r := by rw [List.take_of_length_le W]
       rw [ev4]
       refine Zm Z<|Zv (Y.int Z Z Z)<|Ze<|Zg<|?_
       rcases Zsplit (decide ((val r) ≤ 536870912)) with ⟨h20,g20⟩ | ⟨h20,g20⟩ <;> try simp only [kb] at g20
       ·refine Tr.cond_t Z h20<|Zr<|Zm Z<|Zm Z<|Zv (Y.nilCheck Z)<|Zv (Y.fieldAddr Z Storesb_fo133_3)<|Run.store (s := [(sx,.cells #[(pZ lx),(pZ tx),.int .i64 s.state,.int .i64 (val r)] 133 (0,0))]) Z Z Storesb_sz3 (i := 0) Z Z (le Z) Z Z<|Ze<|Zc<|Ex.keepTo (H' := [[(sx,.cells #[(pZ lx),(pZ tx),.int .i64 s.state,.int .i64 (val r)] 133 (0,0))],st]) [0,0] Z<|?_
        have e9 : s.doR bs = _ := Sk.do_life hbs W W W
        exact Ex.end0 rfl ⟨rfl,_,by rw [e9]; exact ht,by rw [e9] <;> rfl⟩
       ·refine Tr.cond_f Z h20<|Zt<|Zc<|Ex.keepTo (H' := [(cS 133 sx lx tx s),st]) [0,0] Z<|?_
        have e9 : s.doR bs = _ := Sk.do_no hbs W W W
        exact Ex.end0 rfl ⟨rfl,_,by rw [e9]; exact ht,by rw [e9] <;> rfl⟩
     ·refine Tr.cond_f Z h18<|Zt<|Zc<|Ex.keepTo (H' := [(cS 133 sx lx tx s),st]) [0,0] Z<|?_
      have e9 : s.doR bs = _ := Sk.do_no hbs W W W
      exact Ex.end0 rfl ⟨rfl,_,by rw [e9]; exact ht,by rw [e9] <;> rfl⟩
    ·refine Zo h17 Z<|Zo h17 Z<|Zo h17 Z<|Zv (Y.pick_f Z h17 Z)<|Za Z<|Ze<|Zg<|Tr.cond_f Z Z<|Zt<|Zc<|Ex.keepTo (H' := [(cS 133 sx lx tx s),st]) [0,0] Z<|?_
     have e9 : s.doR bs = _ := Sk.do_no hbs W W W
     exact Ex.end0 rfl ⟨rfl,_,by rw [e9]; exact ht,by rw [e9] <;> rfl⟩
theorem wapp_o {V : Vw} {d : Dk} {dx : Nat} {sd : Sg} (hin : Dk.In 116 d dx sd) {lx : Nat} {bs : Bts} {p : Option Addr} {c : Nat} (hv : Rd V [] 1 (.slice p bs.length c) bs.length (bs.map byteV)) (hok : Fr.okR bs) : Does Tryz.prog 217 [(pZ lx),.slice p bs.length c] V [(cL 187 lx dx),sd] (fun v V' H' => V' = V ∧ v = .int .i64 (d.app (Fr.put bs)).2 ∧ ∃ s2,Dk.In 116 (d.app (Fr.put bs)).1 dx s2 ∧ H' = [(cL 187 lx dx),s2]) := (wapp_c hin hv hok).forget fun v V' H' _ h => ⟨rfl,h.2⟩
theorem wcomp_o {V : Vw} {d : Dk} {dx : Nat} {sd : Sg} (hin : Dk.In 116 d dx sd) {lx : Nat} {xs : List Rc} {p : Option Addr} {c : Nat} {qx : Sg} (hx : Ow 22 1 (.slice p xs.length c) xs.length (xs.flatMap Rc.cell) qx) (hrs : Rc.Rs V xs) (hok : ∀ b,b ∈ xs.map (·.b) → Fr.okR b) (hl : xs.length ≤ 1000) : Does Tryz.prog 91 [(pZ lx),.slice p xs.length c] V [(cL 187 lx dx),sd,qx] (fun v V' H' => V' = V ∧ v = .int .i64 (d.swap (Fr.fl (xs.map (·.b)))).2 ∧ ∃ s2,Dk.In 116 (d.swap (Fr.fl (xs.map (·.b)))).1 dx s2 ∧ H' = [(cL 187 lx dx),s2]) := (wcomp_c hin hx hrs hok hl).forget fun v V' H' _ h => ⟨rfl,h.2⟩
theorem rwapp_o {V : Vw} {d : Dk} {dx : Nat} {sd : Sg} (hin : Dk.In 54 d dx sd) {lx : Nat} {bs : Bts} {p : Option Addr} {c : Nat} (hv : Rd V [] 1 (.slice p bs.length c) bs.length (bs.map byteV)) (hok : Fr.okR bs) : Does Tryz.prog 224 [(pZ lx),.slice p bs.length c] V [(cL 193 lx dx),sd] (fun v V' H' => V' = V ∧ v = .int .i64 (d.app (Fr.put bs)).2 ∧ ∃ s2,Dk.In 54 (d.app (Fr.put bs)).1 dx s2 ∧ H' = [(cL 193 lx dx),s2]) := (rwapp_c hin hv hok).forget fun v V' H' _ h => ⟨rfl,h.2⟩
theorem rwcomp_o {V : Vw} {d : Dk} {dx : Nat} {sd : Sg} (hin : Dk.In 54 d dx sd) {lx : Nat} {xs : List Rc} {p : Option Addr} {c : Nat} {qx : Sg} (hx : Ow 22 1 (.slice p xs.length c) xs.length (xs.flatMap Rc.cell) qx) (hrs : Rc.Rs V xs) (hok : ∀ b,b ∈ xs.map (·.b) → Fr.okR b) (hl : xs.length ≤ 1000) : Does Tryz.prog 157 [(pZ lx),.slice p xs.length c] V [(cL 193 lx dx),sd,qx] (fun v V' H' => V' = V ∧ v = .int .i64 (d.swap (Fr.fl (xs.map (·.b)))).2 ∧ ∃ s2,Dk.In 54 (d.swap (Fr.fl (xs.map (·.b)))).1 dx s2 ∧ H' = [(cL 193 lx dx),s2]) := (rwcomp_c hin hx hrs hok hl).forget fun v V' H' _ h => ⟨rfl,h.2⟩
theorem wlen_o {V : Vw} {d : Dk} {dx : Nat} {sd : Sg} (hin : Dk.In 116 d dx sd) {lx : Nat} : Does Tryz.prog 92 [(pZ lx)] V [(cL 187 lx dx),sd] (fun v V' H' => V' = V ∧ v = .int .i64 (((Fr.scan d.bs).1.length : Nat) : Int) ∧ H' = [(cL 187 lx dx),sd]) := (wlen_c hin).forget fun v V' H' _ h => ⟨rfl,h.2⟩
theorem note_c {V : Vw} {d : Dk} {dx : Nat} {sd : Sg} (hin : Dk.In 116 d dx sd) {s : Sk} (hs : s.Ok) {sx lx tx : Nat} {st : Sg} (ht : Le.In 149 s.t tx st) {bs : Bts} {p : Option Addr} {c : Nat} (hv : Rd V [] 1 (.slice p bs.length c) bs.length (bs.map byteV)) (hok : Fr.okR bs)  : Does Tryz.prog 142 [(pZ sx),.slice p bs.length c] V [(cS 123 sx lx tx s),(cL 187 lx dx),st,sd] (fun v V' H' => V' = V ∧ v = .int .i64 (Sk.note d s bs).2.2 ∧ ∃ st2 sd2,Le.In 149 (Sk.note d s bs).2.1.t tx st2 ∧ Dk.In 116 (Sk.note d s bs).1 dx sd2 ∧ H' = [(cS 123 sx lx tx ((Sk.note d s bs).2.1)),(cL 187 lx dx),st2,sd2]) := by
 refine Does.intro Tryz.func142 rfl rfl (le rfl) (fun B => ?_)
 refine Zs<|Zr<|Za Z<|Ze<|Zg<|Zs<|Zr<|Zm Z<|Zv (Y.nilCheck Z)<|Zv (Y.fieldAddr Z Storesb_fo123_0)<|Zv (Y.load Z Storesb_ts119 (Kn.at 0 Z) Z)<|Zm Z<|?_
 refine Run.call [1,2] (l := [.tmp 9,.tmp 10]) rfl rfl rfl (lt rfl) (wapp_o hin hv hok) (fun v1 V1 H1 hle1 hR1 => ?_)
 obtain ⟨hV,rfl,sd1,hin1,rfl⟩ := hR1; replace hV := hV.symm; subst hV
 refine Run.heapTo (H' := [(cS 123 sx lx tx s),st,(cL 187 lx dx),sd1]) Z<|Run.heapTo (H' := [(cS 123 sx lx tx s),st,(cL 187 lx dx),sd1]) Z<|?_
 refine Za Z<|Ze<|Zg<|Zs<|Zs<|Zr<|Zm Z<|Zv (Y.int Z Z Z)<|Ze<|Zg<|?_
 rcases Zsplit (((d.app (Fr.put bs)).2) == 0) with ⟨h2,g2⟩ | ⟨h2,g2⟩ <;> try simp only [kb] at g2
 ·refine Tr.cond_t Z h2<|Zr<|Zm Z<|Zm Z<|?_
  refine Run.call [0,0] (l := [.tmp 14,.tmp 15]) rfl rfl rfl (lt rfl) (do_c hv hok (s := s) (lx := lx) ht) (fun v3 V3 H3 hle3 hR3 => ?_)
  obtain ⟨hV,sb3,ht3,rfl⟩ := hR3; replace hV := hV.symm; subst hV
  refine Run.heapTo (H' := [(cL 187 lx dx),sd1,(cS 123 sx lx tx (s.doR bs)),sb3]) Z<|Run.heapTo (H' := [(cL 187 lx dx),sd1,(cS 123 sx lx tx (s.doR bs)),sb3]) Z<|?_
  refine Ze<|Zg<|Zs<|Zr<|Zm Z<|Za Z<|Ze<|Zg<|Zu<|Ex.keepTo (H' := [(cS 123 sx lx tx (s.doR bs)),(cL 187 lx dx),sb3,sd1]) [2,0,1,0] Z<|?_
  have e9 : Sk.note d s bs = _ := Sk.note_0 W
  rw [e9]
  exact Ex.ret1 rfl rfl  ⟨rfl,congrArg (Value.int _) W,_,_,ht3,hin1,rfl⟩
 ·refine Tr.cond_f Z h2<|Zt<|Zg<|Zs<|Zr<|Zm Z<|Za Z<|Ze<|Zg<|Zu<|Ex.keepTo (H' := [(cS 123 sx lx tx s),(cL 187 lx dx),st,sd1]) [0,1,0,0] Z<|?_
  have e9 : Sk.note d s bs = _ := Sk.note_e W
  rw [e9]
  exact Ex.ret1 rfl rfl  ⟨rfl,rfl,_,_,ht,hin1,rfl⟩
theorem rnote_c {V : Vw} {d : Dk} {dx : Nat} {sd : Sg} (hin : Dk.In 54 d dx sd) {s : Sk} (hs : s.Ok) {sx lx tx : Nat} {st : Sg} (ht : Le.Rin s.t tx st) {bs : Bts} {p : Option Addr} {c : Nat} (hv : Rd V [] 1 (.slice p bs.length c) bs.length (bs.map byteV)) (hok : Fr.okR bs)  : Does Tryz.prog 153 [(pZ sx),.slice p bs.length c] V [(cS 133 sx lx tx s),(cL 193 lx dx),st,sd] (fun v V' H' => V' = V ∧ v = .int .i64 (Sk.note d s bs).2.2 ∧ ∃ st2 sd2,Le.Rin (Sk.note d s bs).2.1.t tx st2 ∧ Dk.In 54 (Sk.note d s bs).1 dx sd2 ∧ H' = [(cS 133 sx lx tx ((Sk.note d s bs).2.1)),(cL 193 lx dx),st2,sd2]) := by
 refine Does.intro Tryz.func153 rfl rfl (le rfl) (fun B => ?_)
 refine Zs<|Zr<|Za Z<|Ze<|Zg<|Zs<|Zr<|Zm Z<|Zv (Y.nilCheck Z)<|Zv (Y.fieldAddr Z Storesb_fo133_0)<|Zv (Y.load Z Storesb_ts129 (Kn.at 0 Z) Z)<|Zm Z<|?_
 refine Run.call [1,2] (l := [.tmp 9,.tmp 10]) rfl rfl rfl (lt rfl) (rwapp_o hin hv hok) (fun v1 V1 H1 hle1 hR1 => ?_)
 obtain ⟨hV,rfl,sd1,hin1,rfl⟩ := hR1; replace hV := hV.symm; subst hV
 refine Run.heapTo (H' := [(cS 133 sx lx tx s),st,(cL 193 lx dx),sd1]) Z<|Run.heapTo (H' := [(cS 133 sx lx tx s),st,(cL 193 lx dx),sd1]) Z<|?_
 refine Za Z<|Ze<|Zg<|Zs<|Zs<|Zr<|Zm Z<|Zv (Y.int Z Z Z)<|Ze<|Zg<|?_
 rcases Zsplit (((d.app (Fr.put bs)).2) == 0) with ⟨h2,g2⟩ | ⟨h2,g2⟩ <;> try simp only [kb] at g2
 ·refine Tr.cond_t Z h2<|Zr<|Zm Z<|Zm Z<|?_
  refine Run.call [0,0] (l := [.tmp 14,.tmp 15]) rfl rfl rfl (lt rfl) (rdo_c hv hok (s := s) (lx := lx) ht) (fun v3 V3 H3 hle3 hR3 => ?_)
  obtain ⟨hV,sb3,ht3,rfl⟩ := hR3; replace hV := hV.symm; subst hV
  refine Run.heapTo (H' := [(cL 193 lx dx),sd1,(cS 133 sx lx tx (s.doR bs)),sb3]) Z<|Run.heapTo (H' := [(cL 193 lx dx),sd1,(cS 133 sx lx tx (s.doR bs)),sb3]) Z<|?_
  refine Ze<|Zg<|Zs<|Zr<|Zm Z<|Za Z<|Ze<|Zg<|Zu<|Ex.keepTo (H' := [(cS 133 sx lx tx (s.doR bs)),(cL 193 lx dx),sb3,sd1]) [2,0,1,0] Z<|?_
  have e9 : Sk.note d s bs = _ := Sk.note_0 W
  rw [e9]
  exact Ex.ret1 rfl rfl  ⟨rfl,congrArg (Value.int _) W,_,_,ht3,hin1,rfl⟩
 ·refine Tr.cond_f Z h2<|Zt<|Zg<|Zs<|Zr<|Zm Z<|Za Z<|Ze<|Zg<|Zu<|Ex.keepTo (H' := [(cS 133 sx lx tx s),(cL 193 lx dx),st,sd1]) [0,1,0,0] Z<|?_
  have e9 : Sk.note d s bs = _ := Sk.note_e W
  rw [e9]
  exact Ex.ret1 rfl rfl  ⟨rfl,rfl,_,_,ht,hin1,rfl⟩
theorem setst_c {V : Vw} {d : Dk} {dx : Nat} {sd : Sg} (hin : Dk.In 116 d dx sd) {s : Sk} (hs : s.Ok) {sx lx tx : Nat} {st : Sg} (ht : Le.In 149 s.t tx st) {n : Int}  : Does Tryz.prog 62 [(pZ sx),.int .i64 n] V [(cS 123 sx lx tx s),(cL 187 lx dx),st,sd] (fun v V' H' => V.le V' ∧ v = .int .i64 (Sk.setState d s n).2.2 ∧ ∃ st2 sd2,Le.In 149 (Sk.setState d s n).2.1.t tx st2 ∧ Dk.In 116 (Sk.setState d s n).1 dx sd2 ∧ H' = [(cS 123 sx lx tx ((Sk.setState d s n).2.1)),(cL 187 lx dx),st2,sd2]) := by
 refine Does.intro Tryz.func62 rfl rfl (le rfl) (fun B => ?_)
 refine Zs<|Zr<|Za Z<|Ze<|Zg<|Zs<|Zs<|Zr<|Zm Z<|Zv (Y.int Z Z Z)<|Zm Z<|?_
 rcases Zsplit (decide (n < 0)) with ⟨h1,g1⟩ | ⟨h1,g1⟩ <;> try simp only [kb] at g1
 ·refine Zo h1 Z<|Zo h1 Z<|Zv (Y.pick_t Z h1 Z)<|Ze<|Zg<|Tr.cond_t Z Z<|Zs<|Zr<|Za Z<|Ze<|Zg<|Zu<|Zn<|Ex.keepTo (H' := [(cS 123 sx lx tx s),(cL 187 lx dx),st,sd]) [0,0,0,0] Z<|?_
  have e9 : Sk.setState d s n = _ := Sk.st_wrong W
  rw [e9]
  exact Ex.ret1 rfl rfl  ⟨Vw.le_refl _,rfl,_,_,ht,hin,rfl⟩
 ·refine Zp h1<|Zm Z<|Zp h1<|Zv (Y.int Z Z Z)<|Zv (Y.pick_f Z h1 Z)<|Ze<|Zg<|?_
  rcases Zsplit (decide (n > 8)) with ⟨h2,g2⟩ | ⟨h2,g2⟩ <;> try simp only [kb] at g2
  ·refine Tr.cond_t Z h2<|Zs<|Zr<|Za Z<|Ze<|Zg<|Zu<|Zn<|Ex.keepTo (H' := [(cS 123 sx lx tx s),(cL 187 lx dx),st,sd]) [0,0,0,0] Z<|?_
   have e9 : Sk.setState d s n = _ := Sk.st_wrong W
   rw [e9]
   exact Ex.ret1 rfl rfl  ⟨Vw.le_refl _,rfl,_,_,ht,hin,rfl⟩
  ·refine Tr.cond_f Z h2<|Zt<|Zg<|Zs<|Zr<|Zm Z<|Zm Z<|?_
   refine Run.callF (l := [.tmp 12]) rfl rfl rfl (lt rfl) (strec_c (n := n) W) (fun v3 V3 H3 hle3 hR3 => ?_)
   obtain ⟨hV,p3,c3,q3,rfl,ho3,rfl⟩ := hR3; replace hV := hV.symm; subst hV
   refine Run.heapTo (H' := [q3,(cS 123 sx lx tx s),(cL 187 lx dx),st,sd]) Z<|Run.heapTo (H' := [q3,(cS 123 sx lx tx s),(cL 187 lx dx),st,sd]) Z<|?_
   refine Run.keepTo (H' := [q3,(cS 123 sx lx tx s),(cL 187 lx dx),st,sd]) [0,0,0,0,0] Z ?_
   refine Run.show (fun V4 hle4 hsh4 => ?_)
   have hrec : Rd V4 [] 1 (.slice p3 (Sk.stR n).length c3) ((Sk.stR n).length) ((Sk.stR n).map byteV) := ho3.show hsh4
   have hVle := hle4
   refine Run.call [0,0,0,0] (l := [.tmp 11,.tmp 13]) rfl rfl rfl (lt rfl) (note_c hin hs ht hrec (Sk.stR_ok n)) (fun v5 V5 H5 hle5 hR5 => ?_)
   obtain ⟨hV,rfl,sb5,sd5,ht5,hin5,rfl⟩ := hR5; replace hV := hV.symm; subst hV
   refine Run.heapTo (H' := [(cS 123 sx lx tx ((Sk.note d s (Sk.stR n)).2.1)),(cL 187 lx dx),sb5,sd5]) Z<|Run.heapTo (H' := [(cS 123 sx lx tx ((Sk.note d s (Sk.stR n)).2.1)),(cL 187 lx dx),sb5,sd5]) Z<|?_
   refine Za Z<|Ze<|Zg<|Zu<|Ex.keepTo (H' := [(cS 123 sx lx tx ((Sk.note d s (Sk.stR n)).2.1)),(cL 187 lx dx),sb5,sd5]) [0,0,0,0] Z<|?_
   have e9 : Sk.setState d s n = _ := Sk.st_note W
   rw [e9]
   exact Ex.ret1 rfl rfl  ⟨hVle,rfl,_,_,ht5,hin5,rfl⟩
theorem rsetst_c {V : Vw} {d : Dk} {dx : Nat} {sd : Sg} (hin : Dk.In 54 d dx sd) {s : Sk} (hs : s.Ok) {sx lx tx : Nat} {st : Sg} (ht : Le.Rin s.t tx st) {n : Int}  : Does Tryz.prog 76 [(pZ sx),.int .i64 n] V [(cS 133 sx lx tx s),(cL 193 lx dx),st,sd] (fun v V' H' => V.le V' ∧ v = .int .i64 (Sk.setState d s n).2.2 ∧ ∃ st2 sd2,Le.Rin (Sk.setState d s n).2.1.t tx st2 ∧ Dk.In 54 (Sk.setState d s n).1 dx sd2 ∧ H' = [(cS 133 sx lx tx ((Sk.setState d s n).2.1)),(cL 193 lx dx),st2,sd2]) := by
 refine Does.intro Tryz.func76 rfl rfl (le rfl) (fun B => ?_)
 refine Zs<|Zr<|Za Z<|Ze<|Zg<|Zs<|Zs<|Zr<|Zm Z<|Zv (Y.int Z Z Z)<|Zm Z<|?_
 rcases Zsplit (decide (n < 0)) with ⟨h1,g1⟩ | ⟨h1,g1⟩ <;> try simp only [kb] at g1
 ·refine Zo h1 Z<|Zo h1 Z<|Zv (Y.pick_t Z h1 Z)<|Ze<|Zg<|Tr.cond_t Z Z<|Zs<|Zr<|Za Z<|Ze<|Zg<|Zu<|Zn<|Ex.keepTo (H' := [(cS 133 sx lx tx s),(cL 193 lx dx),st,sd]) [0,0,0,0] Z<|?_
  have e9 : Sk.setState d s n = _ := Sk.st_wrong W
  rw [e9]
  exact Ex.ret1 rfl rfl  ⟨Vw.le_refl _,rfl,_,_,ht,hin,rfl⟩
 ·refine Zp h1<|Zm Z<|Zp h1<|Zv (Y.int Z Z Z)<|Zv (Y.pick_f Z h1 Z)<|Ze<|Zg<|?_
  rcases Zsplit (decide (n > 8)) with ⟨h2,g2⟩ | ⟨h2,g2⟩ <;> try simp only [kb] at g2
  ·refine Tr.cond_t Z h2<|Zs<|Zr<|Za Z<|Ze<|Zg<|Zu<|Zn<|Ex.keepTo (H' := [(cS 133 sx lx tx s),(cL 193 lx dx),st,sd]) [0,0,0,0] Z<|?_
   have e9 : Sk.setState d s n = _ := Sk.st_wrong W
   rw [e9]
   exact Ex.ret1 rfl rfl  ⟨Vw.le_refl _,rfl,_,_,ht,hin,rfl⟩
  ·refine Tr.cond_f Z h2<|Zt<|Zg<|Zs<|Zr<|Zm Z<|Zm Z<|Zv (Y.conv (n) rfl Storesb_it3_5 (wrap_u8 W))<|?_
   refine Run.buildSlice (l := [(0,.const (.int .u8 83)),(1,.tmp 13)]) Storesb_es22 Storesb_zo5 rfl WD rfl rfl WD (lt rfl) (fun b3 => ?_)
   have h9 := Ow.lit (e := 5) (k := 1) (b := b3) (n := 2) (cur := #[.int .u8 83,.int .u8 n]) rfl WD
   rw [show (#[.int .u8 83,.int .u8 n] : Array Value).toList = (Sk.stR n).map byteV from Sk.stR_cells W] at h9
   refine Run.keepTo (H' := [[(b3,.cells #[.int .u8 83,.int .u8 n] 5 (0,0))],(cS 133 sx lx tx s),(cL 193 lx dx),st,sd]) [0,0,0,0,0] Z ?_
   refine Run.show (fun V4 hle4 hsh4 => ?_)
   have hrec : Rd V4 [] 1 (.slice (some ⟨b3,0,none⟩) 2 2) (2) ((Sk.stR n).map byteV) := h9.show hsh4
   have hVle := hle4
   refine Run.call [0,0,0,0] (l := [.tmp 11,.tmp 14]) rfl rfl rfl (lt rfl) (rnote_c hin hs ht hrec (Sk.stR_ok n)) (fun v5 V5 H5 hle5 hR5 => ?_)
   obtain ⟨hV,rfl,sb5,sd5,ht5,hin5,rfl⟩ := hR5; replace hV := hV.symm; subst hV
   refine Run.heapTo (H' := [(cS 133 sx lx tx ((Sk.note d s (Sk.stR n)).2.1)),(cL 193 lx dx),sb5,sd5]) Z<|Run.heapTo (H' := [(cS 133 sx lx tx ((Sk.note d s (Sk.stR n)).2.1)),(cL 193 lx dx),sb5,sd5]) Z<|?_
   refine Za Z<|Ze<|Zg<|Zu<|Ex.keepTo (H' := [(cS 133 sx lx tx ((Sk.note d s (Sk.stR n)).2.1)),(cL 193 lx dx),sb5,sd5]) [0,0,0,0] Z<|?_
   have e9 : Sk.setState d s n = _ := Sk.st_note W
   rw [e9]
   exact Ex.ret1 rfl rfl  ⟨hVle,rfl,_,_,ht5,hin5,rfl⟩
theorem setli_c {V : Vw} {d : Dk} {dx : Nat} {sd : Sg} (hin : Dk.In 116 d dx sd) {s : Sk} (hs : s.Ok) {sx lx tx : Nat} {st : Sg} (ht : Le.In 149 s.t tx st) {n : Int}  : Does Tryz.prog 60 [(pZ sx),.int .i64 n] V [(cS 123 sx lx tx s),(cL 187 lx dx),st,sd] (fun v V' H' => V.le V' ∧ v = .int .i64 (Sk.setLife d s n).2.2 ∧ ∃ st2 sd2,Le.In 149 (Sk.setLife d s n).2.1.t tx st2 ∧ Dk.In 116 (Sk.setLife d s n).1 dx sd2 ∧ H' = [(cS 123 sx lx tx ((Sk.setLife d s n).2.1)),(cL 187 lx dx),st2,sd2]) := by
 refine Does.intro Tryz.func60 rfl rfl (le rfl) (fun B => ?_)
 refine Zs<|Zr<|Za Z<|Ze<|Zg<|Zs<|Zs<|Zr<|Zm Z<|Zv (Y.int Z Z Z)<|Zm Z<|?_
 rcases Zsplit (decide (n < 0)) with ⟨h1,g1⟩ | ⟨h1,g1⟩ <;> try simp only [kb] at g1
 ·refine Zo h1 Z<|Zo h1 Z<|Zv (Y.pick_t Z h1 Z)<|Ze<|Zg<|Tr.cond_t Z Z<|Zs<|Zr<|Za Z<|Ze<|Zg<|Zu<|Zn<|Ex.keepTo (H' := [(cS 123 sx lx tx s),(cL 187 lx dx),st,sd]) [0,0,0,0] Z<|?_
  have e9 : Sk.setLife d s n = _ := Sk.li_wrong W
  rw [e9]
  exact Ex.ret1 rfl rfl  ⟨Vw.le_refl _,rfl,_,_,ht,hin,rfl⟩
 ·refine Zp h1<|Zm Z<|Zp h1<|Zv (Y.int Z Z Z)<|Zv (Y.pick_f Z h1 Z)<|Ze<|Zg<|?_
  rcases Zsplit (decide (n > 536870912)) with ⟨h2,g2⟩ | ⟨h2,g2⟩ <;> try simp only [kb] at g2
  ·refine Tr.cond_t Z h2<|Zs<|Zr<|Za Z<|Ze<|Zg<|Zu<|Zn<|Ex.keepTo (H' := [(cS 123 sx lx tx s),(cL 187 lx dx),st,sd]) [0,0,0,0] Z<|?_
   have e9 : Sk.setLife d s n = _ := Sk.li_wrong W
   rw [e9]
   exact Ex.ret1 rfl rfl  ⟨Vw.le_refl _,rfl,_,_,ht,hin,rfl⟩
  ·refine Tr.cond_f Z h2<|Zt<|Zg<|Zs<|Zr<|Zm Z<|Zm Z<|?_
   refine Run.callF (l := [.tmp 12]) rfl rfl rfl (lt rfl) (lirec_c (n := n) W) (fun v3 V3 H3 hle3 hR3 => ?_)
   obtain ⟨hV,p3,c3,q3,rfl,ho3,rfl⟩ := hR3; replace hV := hV.symm; subst hV
   refine Run.heapTo (H' := [q3,(cS 123 sx lx tx s),(cL 187 lx dx),st,sd]) Z<|Run.heapTo (H' := [q3,(cS 123 sx lx tx s),(cL 187 lx dx),st,sd]) Z<|?_
   refine Run.keepTo (H' := [q3,(cS 123 sx lx tx s),(cL 187 lx dx),st,sd]) [0,0,0,0,0] Z ?_
   refine Run.show (fun V4 hle4 hsh4 => ?_)
   have hrec : Rd V4 [] 1 (.slice p3 (Sk.liR n).length c3) ((Sk.liR n).length) ((Sk.liR n).map byteV) := ho3.show hsh4
   have hVle := hle4
   refine Run.call [0,0,0,0] (l := [.tmp 11,.tmp 13]) rfl rfl rfl (lt rfl) (note_c hin hs ht hrec (Sk.liR_ok n)) (fun v5 V5 H5 hle5 hR5 => ?_)
   obtain ⟨hV,rfl,sb5,sd5,ht5,hin5,rfl⟩ := hR5; replace hV := hV.symm; subst hV
   refine Run.heapTo (H' := [(cS 123 sx lx tx ((Sk.note d s (Sk.liR n)).2.1)),(cL 187 lx dx),sb5,sd5]) Z<|Run.heapTo (H' := [(cS 123 sx lx tx ((Sk.note d s (Sk.liR n)).2.1)),(cL 187 lx dx),sb5,sd5]) Z<|?_
   refine Za Z<|Ze<|Zg<|Zu<|Ex.keepTo (H' := [(cS 123 sx lx tx ((Sk.note d s (Sk.liR n)).2.1)),(cL 187 lx dx),sb5,sd5]) [0,0,0,0] Z<|?_
   have e9 : Sk.setLife d s n = _ := Sk.li_note W
   rw [e9]
   exact Ex.ret1 rfl rfl  ⟨hVle,rfl,_,_,ht5,hin5,rfl⟩
theorem rsetli_c {V : Vw} {d : Dk} {dx : Nat} {sd : Sg} (hin : Dk.In 54 d dx sd) {s : Sk} (hs : s.Ok) {sx lx tx : Nat} {st : Sg} (ht : Le.Rin s.t tx st) {n : Int}  : Does Tryz.prog 77 [(pZ sx),.int .i64 n] V [(cS 133 sx lx tx s),(cL 193 lx dx),st,sd] (fun v V' H' => V.le V' ∧ v = .int .i64 (Sk.setLife d s n).2.2 ∧ ∃ st2 sd2,Le.Rin (Sk.setLife d s n).2.1.t tx st2 ∧ Dk.In 54 (Sk.setLife d s n).1 dx sd2 ∧ H' = [(cS 133 sx lx tx ((Sk.setLife d s n).2.1)),(cL 193 lx dx),st2,sd2]) := by
 refine Does.intro Tryz.func77 rfl rfl (le rfl) (fun B => ?_)
 refine Zs<|Zr<|Za Z<|Ze<|Zg<|Zs<|Zs<|Zr<|Zm Z<|Zv (Y.int Z Z Z)<|Zm Z<|?_
 rcases Zsplit (decide (n < 0)) with ⟨h1,g1⟩ | ⟨h1,g1⟩ <;> try simp only [kb] at g1
 ·refine Zo h1 Z<|Zo h1 Z<|Zv (Y.pick_t Z h1 Z)<|Ze<|Zg<|Tr.cond_t Z Z<|Zs<|Zr<|Za Z<|Ze<|Zg<|Zu<|Zn<|Ex.keepTo (H' := [(cS 133 sx lx tx s),(cL 193 lx dx),st,sd]) [0,0,0,0] Z<|?_
  have e9 : Sk.setLife d s n = _ := Sk.li_wrong W
  rw [e9]
  exact Ex.ret1 rfl rfl  ⟨Vw.le_refl _,rfl,_,_,ht,hin,rfl⟩
 ·refine Zp h1<|Zm Z<|Zp h1<|Zv (Y.int Z Z Z)<|Zv (Y.pick_f Z h1 Z)<|Ze<|Zg<|?_
  rcases Zsplit (decide (n > 536870912)) with ⟨h2,g2⟩ | ⟨h2,g2⟩ <;> try simp only [kb] at g2
  ·refine Tr.cond_t Z h2<|Zs<|Zr<|Za Z<|Ze<|Zg<|Zu<|Zn<|Ex.keepTo (H' := [(cS 133 sx lx tx s),(cL 193 lx dx),st,sd]) [0,0,0,0] Z<|?_
   have e9 : Sk.setLife d s n = _ := Sk.li_wrong W
   rw [e9]
   exact Ex.ret1 rfl rfl  ⟨Vw.le_refl _,rfl,_,_,ht,hin,rfl⟩
  ·refine Tr.cond_f Z h2<|Zt<|Zg<|Zs<|Zr<|Zm Z<|Zm Z<|?_
   refine Run.callF (l := [.tmp 12]) rfl rfl rfl (lt rfl) (rlirec_c (n := n) W) (fun v3 V3 H3 hle3 hR3 => ?_)
   obtain ⟨hV,p3,c3,q3,rfl,ho3,rfl⟩ := hR3; replace hV := hV.symm; subst hV
   refine Run.heapTo (H' := [q3,(cS 133 sx lx tx s),(cL 193 lx dx),st,sd]) Z<|Run.heapTo (H' := [q3,(cS 133 sx lx tx s),(cL 193 lx dx),st,sd]) Z<|?_
   refine Run.keepTo (H' := [q3,(cS 133 sx lx tx s),(cL 193 lx dx),st,sd]) [0,0,0,0,0] Z ?_
   refine Run.show (fun V4 hle4 hsh4 => ?_)
   have hrec : Rd V4 [] 1 (.slice p3 (Sk.liR n).length c3) ((Sk.liR n).length) ((Sk.liR n).map byteV) := ho3.show hsh4
   have hVle := hle4
   refine Run.call [0,0,0,0] (l := [.tmp 11,.tmp 13]) rfl rfl rfl (lt rfl) (rnote_c hin hs ht hrec (Sk.liR_ok n)) (fun v5 V5 H5 hle5 hR5 => ?_)
   obtain ⟨hV,rfl,sb5,sd5,ht5,hin5,rfl⟩ := hR5; replace hV := hV.symm; subst hV
   refine Run.heapTo (H' := [(cS 133 sx lx tx ((Sk.note d s (Sk.liR n)).2.1)),(cL 193 lx dx),sb5,sd5]) Z<|Run.heapTo (H' := [(cS 133 sx lx tx ((Sk.note d s (Sk.liR n)).2.1)),(cL 193 lx dx),sb5,sd5]) Z<|?_
   refine Za Z<|Ze<|Zg<|Zu<|Ex.keepTo (H' := [(cS 133 sx lx tx ((Sk.note d s (Sk.liR n)).2.1)),(cL 193 lx dx),sb5,sd5]) [0,0,0,0] Z<|?_
   have e9 : Sk.setLife d s n = _ := Sk.li_note W
   rw [e9]
   exact Ex.ret1 rfl rfl  ⟨hVle,rfl,_,_,ht5,hin5,rfl⟩
theorem put_c {V : Vw} {d : Dk} {dx : Nat} {sd : Sg} (hin : Dk.In 116 d dx sd) {s : Sk} (hs : s.Ok) {sx lx tx : Nat} {st : Sg} (ht : Le.In 149 s.t tx st) {q : Le} (hok : q.Ok)  : Does Tryz.prog 59 [(pZ sx),.agg #[.int .u32 q.addr,.int .i64 q.bind,.string q.client,.int .i64 q.till,.int .i64 q.acked,.int .i64 q.told,.int .i64 q.at_,.int .i64 q.ver]] V [(cS 123 sx lx tx s),(cL 187 lx dx),st,sd] (fun v V' H' => V.le V' ∧ v = .int .i64 (Sk.put d s q).2.2 ∧ ∃ st2 sd2,Le.In 149 (Sk.put d s q).2.1.t tx st2 ∧ Dk.In 116 (Sk.put d s q).1 dx sd2 ∧ H' = [(cS 123 sx lx tx ((Sk.put d s q).2.1)),(cL 187 lx dx),st2,sd2]) := by
 refine Does.intro Tryz.func59 rfl rfl (le rfl) (fun B => ?_)
 refine Zs<|Zr<|?_
 refine Run.box rfl (lt rfl) (fun b1 => ?_)
 refine Za Z<|Ze<|Zg<|Zs<|Zs<|Zr<|Zv (Y.loadAgg Z Storesb_ag49 (Kn.at 0 Z) Z)<|Run.call0 (l := [.tmp 7]) Z Z Z (lt Z) (right_h (q := q) hok.client)<|Zv (Y.not Z)<|Ze<|Zg<|?_
 rcases Zsplit (Le.right q) with ⟨h2,g2⟩ | ⟨h2,g2⟩ <;> try simp only [kb] at g2
 ·refine Tr.cond_f Z (congrArg Bool.not h2)<|Zt<|Zg<|Zs<|Zs<|Tr.anyD [(sx,.cells #[(pZ lx),(pZ tx),.int .i64 s.state,.int .i64 s.life] 123 (0,0)),(b1,.cells #[.int .u32 q.addr,.int .i64 q.bind,.string q.client,.int .i64 q.till,.int .i64 q.acked,.int .i64 q.told,.int .i64 q.at_,.int .i64 q.ver] 49 (0,0))] Storesb_mo<|RunD.pure (i := 0) rfl WK WK WK (fun _ _ _ h => h) (lt rfl) (KnAll.cons (Kn.at 1 rfl) (ZK 0 Z)) (fun _ => (Y.move rfl))<|?_
  refine RunD.pure (i := 1) rfl WK WK WK (fun _ _ _ h => h) (lt rfl) (KnAll.cons (Kn.at 1 rfl) (ZK 0 Z)) (fun _ => (Y.nilCheck rfl))<|RunD.pure (i := 2) rfl WK WK WK (fun _ _ _ h => h) (lt rfl) (KnAll.cons (Kn.at 1 rfl) (ZK 0 Z)) (fun _ => (Y.fieldAddr rfl Storesb_fo123_1))<|RunD.take (i := 3) 0 rfl rfl WK WK WK (fun _ _ _ h => h) (lt rfl) (KnAll.cons (Kn.at 1 rfl) (ZK 0 Z)) (fun _ => (Y.load rfl Storesb_ts60 Kn.vk1 rfl))<|?_
  refine RunD.pure (i := 4) rfl WK WK WK (fun _ _ _ h => h) (lt rfl) (KnAll.cons (Kn.at 1 rfl) (ZK 0 Z)) (fun _ => (Y.fieldAddr rfl Storesb_fo49_0))<|RunD.take (i := 5) 1 rfl rfl WK WK WK (fun _ _ _ h => h) (lt rfl) (KnAll.cons (Kn.at 1 rfl) (ZK 0 Z)) (fun _ => (Y.load rfl Storesb_ts47 Kn.vk1 rfl))<|?_
  refine RunD.two (i := 6) (j := 10) WK rfl rfl  ?_ ?_
  ·refine Run.call0 (l := [.tmp 14,.tmp 16]) Z Z Z (lt Z) (Does.frame1 3 Z (get_o (a := q.addr) ht))<|Ze<|Ex.anyD (KnAll.cons (Kn.at 1 Z) (ZK 0 Z))<|RunD.pure (i := 7) rfl WK WK WK (fun _ _ _ h => h) (lt rfl) (KnAll.cons (Kn.at 1 rfl) (ZK 0 Z)) (fun _ => (Y.move rfl))<|RunD.pure (i := 8) rfl WK WK WK (fun _ _ _ h => h) (lt rfl) (KnAll.cons (Kn.at 1 rfl) (ZK 0 Z)) (fun _ => (Y.extract rfl rfl))<|?_
   refine RunD.pure (i := 9) rfl WK WK WK (fun _ _ _ h => h) (lt rfl) (KnAll.cons (Kn.at 1 rfl) (ZK 0 Z)) (fun _ => (Y.extract rfl rfl)) ?_
   refine RunD.one (i := 10) WK rfl  ?_
   refine Run.alloc Storesb_zo49 (lt rfl) (fun b3 => ?_)
   refine Ze<|Ex.anyD (KnAll.cons (Kn.at 2 Z) (ZK 1 Z))<|?_
   refine RunD.one (i := 11) WK rfl  ?_
   refine Run.store (s := [(b3,.cells #[.int .u32 ((Le.getE s.t q.addr).1.addr),.int .i64 ((Le.getE s.t q.addr).1.bind),.string ((Le.getE s.t q.addr).1.client),.int .i64 ((Le.getE s.t q.addr).1.till),.int .i64 ((Le.getE s.t q.addr).1.acked),.int .i64 ((Le.getE s.t q.addr).1.told),.int .i64 ((Le.getE s.t q.addr).1.at_),.int .i64 ((Le.getE s.t q.addr).1.ver)] 49 (0,0))]) Z Z Storesb_sz49 (i := 0) Z Z (le Z) Z Z ?_
   refine Ze<|Ex.anyD (KnAll.cons (Kn.at 2 Z) (ZK 1 Z))<|RunD.pure (i := 12) rfl WK WK WK (fun _ _ _ h => h) (lt rfl) (KnAll.cons (Kn.at 2 rfl) (ZK 1 Z)) (fun _ => (Y.assign rfl))<|RunD.done WK<|Zg<|Zs<|Zr<|Zm Z<|Zv (Y.int Z Z Z)<|Ze<|Zg<|?_
   rcases Zsplit (((Le.getE s.t q.addr).2) != 0) with ⟨h4,g4⟩ | ⟨h4,g4⟩ <;> try simp only [kb] at g4
   ·refine Tr.cond_t Z h4<|Zs<|Zr<|Zm Z<|Za Z<|Ze<|Zg<|Zu<|Zn<|Ex.keepTo (H' := [(cS 123 sx lx tx s),(cL 187 lx dx),st,sd]) [2,2,2,2] Z<|?_
    have e9 : Sk.put d s q = _ := Sk.put_none h2 W
    rw [e9]
    exact Ex.ret1 rfl rfl  ⟨Vw.le_refl _,rfl,_,_,ht,hin,rfl⟩
   ·refine Tr.cond_f Z h4<|Zt<|Zg<|Zs<|Zr<|Zm Z<|Zv (Y.loadAgg Z Storesb_ag49 (Kn.at 1 Z) Z)<|?_
    refine Run.callF (l := [.tmp 24]) rfl rfl rfl (lt rfl) (lerec_c (q := q) hok) (fun v5 V5 H5 hle5 hR5 => ?_)
    obtain ⟨hV,p5,c5,q5,rfl,ho5,rfl⟩ := hR5; replace hV := hV.symm; subst hV
    refine Run.heapTo (H' := [q5,[(b3,.cells #[.int .u32 ((Le.getE s.t q.addr).1.addr),.int .i64 ((Le.getE s.t q.addr).1.bind),.string ((Le.getE s.t q.addr).1.client),.int .i64 ((Le.getE s.t q.addr).1.till),.int .i64 ((Le.getE s.t q.addr).1.acked),.int .i64 ((Le.getE s.t q.addr).1.told),.int .i64 ((Le.getE s.t q.addr).1.at_),.int .i64 ((Le.getE s.t q.addr).1.ver)] 49 (0,0))],[(b1,.cells #[.int .u32 q.addr,.int .i64 q.bind,.string q.client,.int .i64 q.till,.int .i64 q.acked,.int .i64 q.told,.int .i64 q.at_,.int .i64 q.ver] 49 (0,0))],(cS 123 sx lx tx s),(cL 187 lx dx),st,sd]) Z ?_
    refine Run.keepTo (H' := [q5,[(b3,.cells #[.int .u32 ((Le.getE s.t q.addr).1.addr),.int .i64 ((Le.getE s.t q.addr).1.bind),.string ((Le.getE s.t q.addr).1.client),.int .i64 ((Le.getE s.t q.addr).1.till),.int .i64 ((Le.getE s.t q.addr).1.acked),.int .i64 ((Le.getE s.t q.addr).1.told),.int .i64 ((Le.getE s.t q.addr).1.at_),.int .i64 ((Le.getE s.t q.addr).1.ver)] 49 (0,0))],[(b1,.cells #[.int .u32 q.addr,.int .i64 q.bind,.string q.client,.int .i64 q.till,.int .i64 q.acked,.int .i64 q.told,.int .i64 q.at_,.int .i64 q.ver] 49 (0,0))],(cS 123 sx lx tx s),(cL 187 lx dx),st,sd]) [0,0,0,0,0,0,0] Z ?_
    refine Run.show (fun V6 hle6 hsh6 => ?_)
    have hrec : Rd V6 [] 1 (.slice p5 (Sk.leR q).length c5) ((Sk.leR q).length) ((Sk.leR q).map byteV) := ho5.show hsh6
    have hVle := hle6
    refine Run.call [2,2,2,2] (l := [.tmp 23,.tmp 25]) rfl rfl rfl (lt rfl) (note_c hin hs ht hrec (Sk.leR_ok q)) (fun v7 V7 H7 hle7 hR7 => ?_)
    obtain ⟨hV,rfl,sb7,sd7,ht7,hin7,rfl⟩ := hR7; replace hV := hV.symm; subst hV
    refine Run.heapTo (H' := [[(b3,.cells #[.int .u32 ((Le.getE s.t q.addr).1.addr),.int .i64 ((Le.getE s.t q.addr).1.bind),.string ((Le.getE s.t q.addr).1.client),.int .i64 ((Le.getE s.t q.addr).1.till),.int .i64 ((Le.getE s.t q.addr).1.acked),.int .i64 ((Le.getE s.t q.addr).1.told),.int .i64 ((Le.getE s.t q.addr).1.at_),.int .i64 ((Le.getE s.t q.addr).1.ver)] 49 (0,0))],[(b1,.cells #[.int .u32 q.addr,.int .i64 q.bind,.string q.client,.int .i64 q.till,.int .i64 q.acked,.int .i64 q.told,.int .i64 q.at_,.int .i64 q.ver] 49 (0,0))],(cS 123 sx lx tx ((Sk.note d s (Sk.leR q)).2.1)),(cL 187 lx dx),sb7,sd7]) Z ?_
    refine Za Z<|Ze<|Zg<|Zu<|Ex.keepTo (H' := [(cS 123 sx lx tx ((Sk.note d s (Sk.leR q)).2.1)),(cL 187 lx dx),sb7,sd7]) [2,2,2,2] Z<|?_
    have e9 : Sk.put d s q = _ := Sk.put_note h2 W
    rw [e9]
    exact Ex.ret1 rfl rfl  ⟨hVle,rfl,_,_,ht7,hin7,rfl⟩
  ·refine Run.alloc Storesb_zo49 (lt rfl) (fun b8 => ?_)
   refine Ze<|Ex.anyD (KnAll.cons (Kn.at 2 Z) (ZK 1 Z))<|?_
   refine RunD.one (i := 6) WK rfl  ?_
   refine Run.call0 (l := [.tmp 14,.tmp 16]) Z Z Z (lt Z) (Does.frame1 4 Z (get_o (a := q.addr) ht))<|Ze<|Ex.anyD (KnAll.cons (Kn.at 2 Z) (ZK 1 Z))<|RunD.pure (i := 7) rfl WK WK WK (fun _ _ _ h => h) (lt rfl) (KnAll.cons (Kn.at 2 rfl) (ZK 1 Z)) (fun _ => (Y.move rfl))<|RunD.pure (i := 8) rfl WK WK WK (fun _ _ _ h => h) (lt rfl) (KnAll.cons (Kn.at 2 rfl) (ZK 1 Z)) (fun _ => (Y.extract rfl rfl))<|?_
   refine RunD.pure (i := 9) rfl WK WK WK (fun _ _ _ h => h) (lt rfl) (KnAll.cons (Kn.at 2 rfl) (ZK 1 Z)) (fun _ => (Y.extract rfl rfl)) ?_
   refine RunD.one (i := 11) WK rfl  ?_
   refine Run.store (s := [(b8,.cells #[.int .u32 ((Le.getE s.t q.addr).1.addr),.int .i64 ((Le.getE s.t q.addr).1.bind),.string ((Le.getE s.t q.addr).1.client),.int .i64 ((Le.getE s.t q.addr).1.till),.int .i64 ((Le.getE s.t q.addr).1.acked),.int .i64 ((Le.getE s.t q.addr).1.told),.int .i64 ((Le.getE s.t q.addr).1.at_),.int .i64 ((Le.getE s.t q.addr).1.ver)] 49 (0,0))]) Z Z Storesb_sz49 (i := 0) Z Z (le Z) Z Z ?_
   refine Ze<|Ex.anyD (KnAll.cons (Kn.at 2 Z) (ZK 1 Z))<|RunD.pure (i := 12) rfl WK WK WK (fun _ _ _ h => h) (lt rfl) (KnAll.cons (Kn.at 2 rfl) (ZK 1 Z)) (fun _ => (Y.assign rfl))<|RunD.done WK<|Zg<|Zs<|Zr<|Zm Z<|Zv (Y.int Z Z Z)<|Ze<|Zg<|?_
   rcases Zsplit (((Le.getE s.t q.addr).2) != 0) with ⟨h9,g9⟩ | ⟨h9,g9⟩ <;> try simp only [kb] at g9
   ·refine Tr.cond_t Z h9<|Zs<|Zr<|Zm Z<|Za Z<|Ze<|Zg<|Zu<|Zn<|Ex.keepTo (H' := [(cS 123 sx lx tx s),(cL 187 lx dx),st,sd]) [2,2,2,2] Z<|?_
    have e9 : Sk.put d s q = _ := Sk.put_none h2 W
    rw [e9]
    exact Ex.ret1 rfl rfl  ⟨Vw.le_refl _,rfl,_,_,ht,hin,rfl⟩
   ·refine Tr.cond_f Z h9<|Zt<|Zg<|Zs<|Zr<|Zm Z<|Zv (Y.loadAgg Z Storesb_ag49 (Kn.at 1 Z) Z)<|?_
    refine Run.callF (l := [.tmp 24]) rfl rfl rfl (lt rfl) (lerec_c (q := q) hok) (fun v10 V10 H10 hle10 hR10 => ?_)
    obtain ⟨hV,p10,c10,q10,rfl,ho10,rfl⟩ := hR10; replace hV := hV.symm; subst hV
    refine Run.heapTo (H' := [q10,[(b8,.cells #[.int .u32 ((Le.getE s.t q.addr).1.addr),.int .i64 ((Le.getE s.t q.addr).1.bind),.string ((Le.getE s.t q.addr).1.client),.int .i64 ((Le.getE s.t q.addr).1.till),.int .i64 ((Le.getE s.t q.addr).1.acked),.int .i64 ((Le.getE s.t q.addr).1.told),.int .i64 ((Le.getE s.t q.addr).1.at_),.int .i64 ((Le.getE s.t q.addr).1.ver)] 49 (0,0))],[(b1,.cells #[.int .u32 q.addr,.int .i64 q.bind,.string q.client,.int .i64 q.till,.int .i64 q.acked,.int .i64 q.told,.int .i64 q.at_,.int .i64 q.ver] 49 (0,0))],(cS 123 sx lx tx s),(cL 187 lx dx),st,sd]) Z ?_
    refine Run.keepTo (H' := [q10,[(b8,.cells #[.int .u32 ((Le.getE s.t q.addr).1.addr),.int .i64 ((Le.getE s.t q.addr).1.bind),.string ((Le.getE s.t q.addr).1.client),.int .i64 ((Le.getE s.t q.addr).1.till),.int .i64 ((Le.getE s.t q.addr).1.acked),.int .i64 ((Le.getE s.t q.addr).1.told),.int .i64 ((Le.getE s.t q.addr).1.at_),.int .i64 ((Le.getE s.t q.addr).1.ver)] 49 (0,0))],[(b1,.cells #[.int .u32 q.addr,.int .i64 q.bind,.string q.client,.int .i64 q.till,.int .i64 q.acked,.int .i64 q.told,.int .i64 q.at_,.int .i64 q.ver] 49 (0,0))],(cS 123 sx lx tx s),(cL 187 lx dx),st,sd]) [0,0,0,0,0,0,0] Z ?_
    refine Run.show (fun V11 hle11 hsh11 => ?_)
    have hrec : Rd V11 [] 1 (.slice p10 (Sk.leR q).length c10) ((Sk.leR q).length) ((Sk.leR q).map byteV) := ho10.show hsh11
    have hVle := hle11
    refine Run.call [2,2,2,2] (l := [.tmp 23,.tmp 25]) rfl rfl rfl (lt rfl) (note_c hin hs ht hrec (Sk.leR_ok q)) (fun v12 V12 H12 hle12 hR12 => ?_)
    obtain ⟨hV,rfl,sb12,sd12,ht12,hin12,rfl⟩ := hR12; replace hV := hV.symm; subst hV
    refine Run.heapTo (H' := [[(b8,.cells #[.int .u32 ((Le.getE s.t q.addr).1.addr),.int .i64 ((Le.getE s.t q.addr).1.bind),.string ((Le.getE s.t q.addr).1.client),.int .i64 ((Le.getE s.t q.addr).1.till),.int .i64 ((Le.getE s.t q.addr).1.acked),.int .i64 ((Le.getE s.t q.addr).1.told),.int .i64 ((Le.getE s.t q.addr).1.at_),.int .i64 ((Le.getE s.t q.addr).1.ver)] 49 (0,0))],[(b1,.cells #[.int .u32 q.addr,.int .i64 q.bind,.string q.client,.int .i64 q.till,.int .i64 q.acked,.int .i64 q.told,.int .i64 q.at_,.int .i64 q.ver] 49 (0,0))],(cS 123 sx lx tx ((Sk.note d s (Sk.leR q)).2.1)),(cL 187 lx dx),sb12,sd12]) Z ?_
    refine Za Z<|Ze<|Zg<|Zu<|Ex.keepTo (H' := [(cS 123 sx lx tx ((Sk.note d s (Sk.leR q)).2.1)),(cL 187 lx dx),sb12,sd12]) [2,2,2,2] Z<|?_
    have e9 : Sk.put d s q = _ := Sk.put_note h2 W
    rw [e9]
    exact Ex.ret1 rfl rfl  ⟨hVle,rfl,_,_,ht12,hin12,rfl⟩
 ·refine Tr.cond_t Z (congrArg Bool.not h2)<|Zs<|Zr<|Za Z<|Ze<|Zg<|Zu<|Zn<|Ex.keepTo (H' := [(cS 123 sx lx tx s),(cL 187 lx dx),st,sd]) [1,1,1,1] Z<|?_
  have e9 : Sk.put d s q = _ := Sk.put_wrong h2
  rw [e9]
  exact Ex.ret1 rfl rfl  ⟨Vw.le_refl _,rfl,_,_,ht,hin,rfl⟩
theorem rput_c {V : Vw} {d : Dk} {dx : Nat} {sd : Sg} (hin : Dk.In 54 d dx sd) {s : Sk} (hs : s.Ok) {sx lx tx : Nat} {st : Sg} (ht : Le.Rin s.t tx st) {q : Le} (hok : q.Ok)  : Does Tryz.prog 75 [(pZ sx),.agg #[.int .u32 q.addr,.int .i64 q.bind,.string q.client,.int .i64 q.till,.int .i64 q.acked,.int .i64 q.told,.int .i64 q.at_,.int .i64 q.ver]] V [(cS 133 sx lx tx s),(cL 193 lx dx),st,sd] (fun v V' H' => V.le V' ∧ v = .int .i64 (Sk.put d s q).2.2 ∧ ∃ st2 sd2,Le.Rin (Sk.put d s q).2.1.t tx st2 ∧ Dk.In 54 (Sk.put d s q).1 dx sd2 ∧ H' = [(cS 133 sx lx tx ((Sk.put d s q).2.1)),(cL 193 lx dx),st2,sd2]) := by
 refine Does.intro Tryz.func75 rfl rfl (le rfl) (fun B => ?_)
 refine Zs<|Zr<|?_
 refine Run.box rfl (lt rfl) (fun b1 => ?_)
 refine Za Z<|Ze<|Zg<|Zs<|Zr<|Zv (Y.loadAgg Z Storesb_ag49 (Kn.at 0 Z) Z)<|Run.call0 (l := [.tmp 8]) Z Z Z (lt Z) (rright11_h (q := q) hok.client)<|Za Z<|Ze<|Zg<|Zs<|Zs<|Zr<|Zm Z<|Zv (Y.not Z)<|Ze<|?_
 refine Zg ?_
 rcases Zsplit (Le.right q) with ⟨h2,g2⟩ | ⟨h2,g2⟩ <;> try simp only [kb] at g2
 ·refine Tr.cond_f Z (congrArg Bool.not h2)<|Zt<|Zg<|Zs<|Tr.anyD [(sx,.cells #[(pZ lx),(pZ tx),.int .i64 s.state,.int .i64 s.life] 133 (0,0)),(b1,.cells #[.int .u32 q.addr,.int .i64 q.bind,.string q.client,.int .i64 q.till,.int .i64 q.acked,.int .i64 q.told,.int .i64 q.at_,.int .i64 q.ver] 49 (0,0))] Storesb_mo<|RunD.pure (i := 0) rfl WK WK WK (fun _ _ _ h => h) (lt rfl) (KnAll.cons (Kn.at 1 rfl) (ZK 0 Z)) (fun _ => (Y.move rfl))<|?_
  refine RunD.pure (i := 1) rfl WK WK WK (fun _ _ _ h => h) (lt rfl) (KnAll.cons (Kn.at 1 rfl) (ZK 0 Z)) (fun _ => (Y.nilCheck rfl))<|RunD.pure (i := 2) rfl WK WK WK (fun _ _ _ h => h) (lt rfl) (KnAll.cons (Kn.at 1 rfl) (ZK 0 Z)) (fun _ => (Y.fieldAddr rfl Storesb_fo133_1))<|RunD.take (i := 3) 0 rfl rfl WK WK WK (fun _ _ _ h => h) (lt rfl) (KnAll.cons (Kn.at 1 rfl) (ZK 0 Z)) (fun _ => (Y.load rfl Storesb_ts79 Kn.vk1 rfl))<|?_
  refine RunD.pure (i := 4) rfl WK WK WK (fun _ _ _ h => h) (lt rfl) (KnAll.cons (Kn.at 1 rfl) (ZK 0 Z)) (fun _ => (Y.fieldAddr rfl Storesb_fo49_0))<|RunD.take (i := 5) 1 rfl rfl WK WK WK (fun _ _ _ h => h) (lt rfl) (KnAll.cons (Kn.at 1 rfl) (ZK 0 Z)) (fun _ => (Y.load rfl Storesb_ts47 Kn.vk1 rfl))<|?_
  refine RunD.two (i := 6) (j := 10) WK rfl rfl  ?_ ?_
  ·refine Run.call0 (l := [.tmp 16,.tmp 18]) Z Z Z (lt Z) (Does.frame1 3 Z (rget_o (a := q.addr) ht))<|Ze<|Ex.anyD (KnAll.cons (Kn.at 1 Z) (ZK 0 Z))<|RunD.pure (i := 7) rfl WK WK WK (fun _ _ _ h => h) (lt rfl) (KnAll.cons (Kn.at 1 rfl) (ZK 0 Z)) (fun _ => (Y.move rfl))<|RunD.pure (i := 8) rfl WK WK WK (fun _ _ _ h => h) (lt rfl) (KnAll.cons (Kn.at 1 rfl) (ZK 0 Z)) (fun _ => (Y.extract rfl rfl))<|?_
   refine RunD.pure (i := 9) rfl WK WK WK (fun _ _ _ h => h) (lt rfl) (KnAll.cons (Kn.at 1 rfl) (ZK 0 Z)) (fun _ => (Y.extract rfl rfl)) ?_
   refine RunD.one (i := 10) WK rfl  ?_
   refine Run.alloc Storesb_zo49 (lt rfl) (fun b3 => ?_)
   refine Ze<|Ex.anyD (KnAll.cons (Kn.at 2 Z) (ZK 1 Z))<|?_
   refine RunD.one (i := 11) WK rfl  ?_
   refine Run.store (s := [(b3,.cells #[.int .u32 ((Le.getE s.t q.addr).1.addr),.int .i64 ((Le.getE s.t q.addr).1.bind),.string ((Le.getE s.t q.addr).1.client),.int .i64 ((Le.getE s.t q.addr).1.till),.int .i64 ((Le.getE s.t q.addr).1.acked),.int .i64 ((Le.getE s.t q.addr).1.told),.int .i64 ((Le.getE s.t q.addr).1.at_),.int .i64 ((Le.getE s.t q.addr).1.ver)] 49 (0,0))]) Z Z Storesb_sz49 (i := 0) Z Z (le Z) Z Z ?_
   refine Ze<|Ex.anyD (KnAll.cons (Kn.at 2 Z) (ZK 1 Z))<|RunD.pure (i := 12) rfl WK WK WK (fun _ _ _ h => h) (lt rfl) (KnAll.cons (Kn.at 2 rfl) (ZK 1 Z)) (fun _ => (Y.assign rfl))<|RunD.done WK<|Zg<|Zs<|Zs<|Zr<|Zm Z<|Zv (Y.int Z Z Z)<|Ze<|Zg<|?_
   rcases Zsplit (((Le.getE s.t q.addr).2) != 0) with ⟨h4,g4⟩ | ⟨h4,g4⟩ <;> try simp only [kb] at g4
   ·refine Tr.cond_t Z h4<|Zs<|Zr<|Zm Z<|Za Z<|Ze<|Zg<|Zu<|Zn<|Ex.keepTo (H' := [(cS 133 sx lx tx s),(cL 193 lx dx),st,sd]) [2,2,2,2] Z<|?_
    have e9 : Sk.put d s q = _ := Sk.put_none h2 W
    rw [e9]
    exact Ex.ret1 rfl rfl  ⟨Vw.le_refl _,rfl,_,_,ht,hin,rfl⟩
   ·refine Tr.cond_f Z h4<|Zt<|Zg<|Zs<|Zr<|Zm Z<|Zv (Y.loadAgg Z Storesb_ag49 (Kn.at 1 Z) Z)<|?_
    refine Run.callF (l := [.tmp 26]) rfl rfl rfl (lt rfl) (rlerec_c (q := q) hok) (fun v5 V5 H5 hle5 hR5 => ?_)
    obtain ⟨hV,p5,c5,q5,rfl,ho5,rfl⟩ := hR5; replace hV := hV.symm; subst hV
    refine Run.heapTo (H' := [q5,[(b3,.cells #[.int .u32 ((Le.getE s.t q.addr).1.addr),.int .i64 ((Le.getE s.t q.addr).1.bind),.string ((Le.getE s.t q.addr).1.client),.int .i64 ((Le.getE s.t q.addr).1.till),.int .i64 ((Le.getE s.t q.addr).1.acked),.int .i64 ((Le.getE s.t q.addr).1.told),.int .i64 ((Le.getE s.t q.addr).1.at_),.int .i64 ((Le.getE s.t q.addr).1.ver)] 49 (0,0))],[(b1,.cells #[.int .u32 q.addr,.int .i64 q.bind,.string q.client,.int .i64 q.till,.int .i64 q.acked,.int .i64 q.told,.int .i64 q.at_,.int .i64 q.ver] 49 (0,0))],(cS 133 sx lx tx s),(cL 193 lx dx),st,sd]) Z ?_
    refine Run.keepTo (H' := [q5,[(b3,.cells #[.int .u32 ((Le.getE s.t q.addr).1.addr),.int .i64 ((Le.getE s.t q.addr).1.bind),.string ((Le.getE s.t q.addr).1.client),.int .i64 ((Le.getE s.t q.addr).1.till),.int .i64 ((Le.getE s.t q.addr).1.acked),.int .i64 ((Le.getE s.t q.addr).1.told),.int .i64 ((Le.getE s.t q.addr).1.at_),.int .i64 ((Le.getE s.t q.addr).1.ver)] 49 (0,0))],[(b1,.cells #[.int .u32 q.addr,.int .i64 q.bind,.string q.client,.int .i64 q.till,.int .i64 q.acked,.int .i64 q.told,.int .i64 q.at_,.int .i64 q.ver] 49 (0,0))],(cS 133 sx lx tx s),(cL 193 lx dx),st,sd]) [0,0,0,0,0,0,0] Z ?_
    refine Run.show (fun V6 hle6 hsh6 => ?_)
    have hrec : Rd V6 [] 1 (.slice p5 (Sk.leR q).length c5) ((Sk.leR q).length) ((Sk.leR q).map byteV) := ho5.show hsh6
    have hVle := hle6
    refine Run.call [2,2,2,2] (l := [.tmp 25,.tmp 27]) rfl rfl rfl (lt rfl) (rnote_c hin hs ht hrec (Sk.leR_ok q)) (fun v7 V7 H7 hle7 hR7 => ?_)
    obtain ⟨hV,rfl,sb7,sd7,ht7,hin7,rfl⟩ := hR7; replace hV := hV.symm; subst hV
    refine Run.heapTo (H' := [[(b3,.cells #[.int .u32 ((Le.getE s.t q.addr).1.addr),.int .i64 ((Le.getE s.t q.addr).1.bind),.string ((Le.getE s.t q.addr).1.client),.int .i64 ((Le.getE s.t q.addr).1.till),.int .i64 ((Le.getE s.t q.addr).1.acked),.int .i64 ((Le.getE s.t q.addr).1.told),.int .i64 ((Le.getE s.t q.addr).1.at_),.int .i64 ((Le.getE s.t q.addr).1.ver)] 49 (0,0))],[(b1,.cells #[.int .u32 q.addr,.int .i64 q.bind,.string q.client,.int .i64 q.till,.int .i64 q.acked,.int .i64 q.told,.int .i64 q.at_,.int .i64 q.ver] 49 (0,0))],(cS 133 sx lx tx ((Sk.note d s (Sk.leR q)).2.1)),(cL 193 lx dx),sb7,sd7]) Z ?_
    refine Za Z<|Ze<|Zg<|Zu<|Ex.keepTo (H' := [(cS 133 sx lx tx ((Sk.note d s (Sk.leR q)).2.1)),(cL 193 lx dx),sb7,sd7]) [2,2,2,2] Z<|?_
    have e9 : Sk.put d s q = _ := Sk.put_note h2 W
    rw [e9]
    exact Ex.ret1 rfl rfl  ⟨hVle,rfl,_,_,ht7,hin7,rfl⟩
  ·refine Run.alloc Storesb_zo49 (lt rfl) (fun b8 => ?_)
   refine Ze<|Ex.anyD (KnAll.cons (Kn.at 2 Z) (ZK 1 Z))<|?_
   refine RunD.one (i := 6) WK rfl  ?_
   refine Run.call0 (l := [.tmp 16,.tmp 18]) Z Z Z (lt Z) (Does.frame1 4 Z (rget_o (a := q.addr) ht))<|Ze<|Ex.anyD (KnAll.cons (Kn.at 2 Z) (ZK 1 Z))<|RunD.pure (i := 7) rfl WK WK WK (fun _ _ _ h => h) (lt rfl) (KnAll.cons (Kn.at 2 rfl) (ZK 1 Z)) (fun _ => (Y.move rfl))<|RunD.pure (i := 8) rfl WK WK WK (fun _ _ _ h => h) (lt rfl) (KnAll.cons (Kn.at 2 rfl) (ZK 1 Z)) (fun _ => (Y.extract rfl rfl))<|?_
   refine RunD.pure (i := 9) rfl WK WK WK (fun _ _ _ h => h) (lt rfl) (KnAll.cons (Kn.at 2 rfl) (ZK 1 Z)) (fun _ => (Y.extract rfl rfl)) ?_
   refine RunD.one (i := 11) WK rfl  ?_
   refine Run.store (s := [(b8,.cells #[.int .u32 ((Le.getE s.t q.addr).1.addr),.int .i64 ((Le.getE s.t q.addr).1.bind),.string ((Le.getE s.t q.addr).1.client),.int .i64 ((Le.getE s.t q.addr).1.till),.int .i64 ((Le.getE s.t q.addr).1.acked),.int .i64 ((Le.getE s.t q.addr).1.told),.int .i64 ((Le.getE s.t q.addr).1.at_),.int .i64 ((Le.getE s.t q.addr).1.ver)] 49 (0,0))]) Z Z Storesb_sz49 (i := 0) Z Z (le Z) Z Z ?_
   refine Ze<|Ex.anyD (KnAll.cons (Kn.at 2 Z) (ZK 1 Z))<|RunD.pure (i := 12) rfl WK WK WK (fun _ _ _ h => h) (lt rfl) (KnAll.cons (Kn.at 2 rfl) (ZK 1 Z)) (fun _ => (Y.assign rfl))<|RunD.done WK<|Zg<|Zs<|Zs<|Zr<|Zm Z<|Zv (Y.int Z Z Z)<|Ze<|Zg<|?_
   rcases Zsplit (((Le.getE s.t q.addr).2) != 0) with ⟨h9,g9⟩ | ⟨h9,g9⟩ <;> try simp only [kb] at g9
   ·refine Tr.cond_t Z h9<|Zs<|Zr<|Zm Z<|Za Z<|Ze<|Zg<|Zu<|Zn<|Ex.keepTo (H' := [(cS 133 sx lx tx s),(cL 193 lx dx),st,sd]) [2,2,2,2] Z<|?_
    have e9 : Sk.put d s q = _ := Sk.put_none h2 W
    rw [e9]
    exact Ex.ret1 rfl rfl  ⟨Vw.le_refl _,rfl,_,_,ht,hin,rfl⟩
   ·refine Tr.cond_f Z h9<|Zt<|Zg<|Zs<|Zr<|Zm Z<|Zv (Y.loadAgg Z Storesb_ag49 (Kn.at 1 Z) Z)<|?_
    refine Run.callF (l := [.tmp 26]) rfl rfl rfl (lt rfl) (rlerec_c (q := q) hok) (fun v10 V10 H10 hle10 hR10 => ?_)
    obtain ⟨hV,p10,c10,q10,rfl,ho10,rfl⟩ := hR10; replace hV := hV.symm; subst hV
    refine Run.heapTo (H' := [q10,[(b8,.cells #[.int .u32 ((Le.getE s.t q.addr).1.addr),.int .i64 ((Le.getE s.t q.addr).1.bind),.string ((Le.getE s.t q.addr).1.client),.int .i64 ((Le.getE s.t q.addr).1.till),.int .i64 ((Le.getE s.t q.addr).1.acked),.int .i64 ((Le.getE s.t q.addr).1.told),.int .i64 ((Le.getE s.t q.addr).1.at_),.int .i64 ((Le.getE s.t q.addr).1.ver)] 49 (0,0))],[(b1,.cells #[.int .u32 q.addr,.int .i64 q.bind,.string q.client,.int .i64 q.till,.int .i64 q.acked,.int .i64 q.told,.int .i64 q.at_,.int .i64 q.ver] 49 (0,0))],(cS 133 sx lx tx s),(cL 193 lx dx),st,sd]) Z ?_
    refine Run.keepTo (H' := [q10,[(b8,.cells #[.int .u32 ((Le.getE s.t q.addr).1.addr),.int .i64 ((Le.getE s.t q.addr).1.bind),.string ((Le.getE s.t q.addr).1.client),.int .i64 ((Le.getE s.t q.addr).1.till),.int .i64 ((Le.getE s.t q.addr).1.acked),.int .i64 ((Le.getE s.t q.addr).1.told),.int .i64 ((Le.getE s.t q.addr).1.at_),.int .i64 ((Le.getE s.t q.addr).1.ver)] 49 (0,0))],[(b1,.cells #[.int .u32 q.addr,.int .i64 q.bind,.string q.client,.int .i64 q.till,.int .i64 q.acked,.int .i64 q.told,.int .i64 q.at_,.int .i64 q.ver] 49 (0,0))],(cS 133 sx lx tx s),(cL 193 lx dx),st,sd]) [0,0,0,0,0,0,0] Z ?_
    refine Run.show (fun V11 hle11 hsh11 => ?_)
    have hrec : Rd V11 [] 1 (.slice p10 (Sk.leR q).length c10) ((Sk.leR q).length) ((Sk.leR q).map byteV) := ho10.show hsh11
    have hVle := hle11
    refine Run.call [2,2,2,2] (l := [.tmp 25,.tmp 27]) rfl rfl rfl (lt rfl) (rnote_c hin hs ht hrec (Sk.leR_ok q)) (fun v12 V12 H12 hle12 hR12 => ?_)
    obtain ⟨hV,rfl,sb12,sd12,ht12,hin12,rfl⟩ := hR12; replace hV := hV.symm; subst hV
    refine Run.heapTo (H' := [[(b8,.cells #[.int .u32 ((Le.getE s.t q.addr).1.addr),.int .i64 ((Le.getE s.t q.addr).1.bind),.string ((Le.getE s.t q.addr).1.client),.int .i64 ((Le.getE s.t q.addr).1.till),.int .i64 ((Le.getE s.t q.addr).1.acked),.int .i64 ((Le.getE s.t q.addr).1.told),.int .i64 ((Le.getE s.t q.addr).1.at_),.int .i64 ((Le.getE s.t q.addr).1.ver)] 49 (0,0))],[(b1,.cells #[.int .u32 q.addr,.int .i64 q.bind,.string q.client,.int .i64 q.till,.int .i64 q.acked,.int .i64 q.told,.int .i64 q.at_,.int .i64 q.ver] 49 (0,0))],(cS 133 sx lx tx ((Sk.note d s (Sk.leR q)).2.1)),(cL 193 lx dx),sb12,sd12]) Z ?_
    refine Za Z<|Ze<|Zg<|Zu<|Ex.keepTo (H' := [(cS 133 sx lx tx ((Sk.note d s (Sk.leR q)).2.1)),(cL 193 lx dx),sb12,sd12]) [2,2,2,2] Z<|?_
    have e9 : Sk.put d s q = _ := Sk.put_note h2 W
    rw [e9]
    exact Ex.ret1 rfl rfl  ⟨hVle,rfl,_,_,ht12,hin12,rfl⟩
 ·refine Tr.cond_t Z (congrArg Bool.not h2)<|Zs<|Zr<|Za Z<|Ze<|Zg<|Zu<|Zn<|Ex.keepTo (H' := [(cS 133 sx lx tx s),(cL 193 lx dx),st,sd]) [1,1,1,1] Z<|?_
  have e9 : Sk.put d s q = _ := Sk.put_wrong h2
  rw [e9]
  exact Ex.ret1 rfl rfl  ⟨Vw.le_refl _,rfl,_,_,ht,hin,rfl⟩
theorem sync_c {V : Vw} {d : Dk} {dx : Nat} {sd : Sg} (hin : Dk.In 116 d dx sd) {s : Sk} (hs : s.Ok) {sx lx tx : Nat} {st : Sg} (ht : Le.In 149 s.t tx st)  : Does Tryz.prog 61 [(pZ sx)] V [(cS 123 sx lx tx s),(cL 187 lx dx),st,sd] (fun v V' H' => V' = V ∧ v = .int .i64 d.sync.2 ∧ ∃ sd2,Dk.In 116 d.sync.1 dx sd2 ∧ H' = [(cS 123 sx lx tx (s)),(cL 187 lx dx),st,sd2]) := by
 refine Does.intro Tryz.func61 rfl rfl (le rfl) (fun B => ?_)
 refine Zs<|Zr<|Za Z<|Ze<|Zg<|Zs<|Zr<|Zm Z<|Zv (Y.nilCheck Z)<|Zv (Y.fieldAddr Z Storesb_fo123_0)<|Zv (Y.load Z Storesb_ts119 (Kn.at 0 Z) Z)<|Zv (Y.nilCheck Z)<|Zv (Y.fieldAddr Z Storesb_fo187_0)<|Zv (Y.load Z Storesb_ts25 (Kn.at 1 Z) Z)<|?_
 refine Run.call [3] (l := [.tmp 9]) rfl rfl rfl (lt rfl) (dsync_o hin ) (fun v1 V1 H1 hle1 hR1 => ?_)
 obtain ⟨hV,rfl,sd1,hin1,rfl⟩ := hR1; replace hV := hV.symm; subst hV
 refine Run.heapTo (H' := [(cS 123 sx lx tx s),(cL 187 lx dx),st,sd1]) Z<|Run.heapTo (H' := [(cS 123 sx lx tx s),(cL 187 lx dx),st,sd1]) Z<|?_
 refine Za Z<|Ze<|Zg<|Zu<|Ex.keepTo (H' := [(cS 123 sx lx tx s),(cL 187 lx dx),st,sd1]) [0,0,0,0] Z<|?_
 exact Ex.ret1 rfl rfl  ⟨rfl,rfl,_,hin1,rfl⟩
theorem rsync_c {V : Vw} {d : Dk} {dx : Nat} {sd : Sg} (hin : Dk.In 54 d dx sd) {s : Sk} (hs : s.Ok) {sx lx tx : Nat} {st : Sg} (ht : Le.Rin s.t tx st)  : Does Tryz.prog 78 [(pZ sx)] V [(cS 133 sx lx tx s),(cL 193 lx dx),st,sd] (fun v V' H' => V' = V ∧ v = .int .i64 d.sync.2 ∧ ∃ sd2,Dk.In 54 d.sync.1 dx sd2 ∧ H' = [(cS 133 sx lx tx (s)),(cL 193 lx dx),st,sd2]) := by
 refine Does.intro Tryz.func78 rfl rfl (le rfl) (fun B => ?_)
 refine Zs<|Zr<|Za Z<|Ze<|Zg<|Zs<|Zr<|Zm Z<|Zv (Y.nilCheck Z)<|Zv (Y.fieldAddr Z Storesb_fo133_0)<|Zv (Y.load Z Storesb_ts129 (Kn.at 0 Z) Z)<|Zv (Y.nilCheck Z)<|Zv (Y.fieldAddr Z Storesb_fo193_0)<|Zv (Y.load Z Storesb_ts29 (Kn.at 1 Z) Z)<|?_
 refine Run.call [3] (l := [.tmp 9]) rfl rfl rfl (lt rfl) (rdsync_o hin ) (fun v1 V1 H1 hle1 hR1 => ?_)
 obtain ⟨hV,rfl,sd1,hin1,rfl⟩ := hR1; replace hV := hV.symm; subst hV
 refine Run.heapTo (H' := [(cS 133 sx lx tx s),(cL 193 lx dx),st,sd1]) Z<|Run.heapTo (H' := [(cS 133 sx lx tx s),(cL 193 lx dx),st,sd1]) Z<|?_
 refine Za Z<|Ze<|Zg<|Zu<|Ex.keepTo (H' := [(cS 133 sx lx tx s),(cL 193 lx dx),st,sd1]) [0,0,0,0] Z<|?_
 exact Ex.ret1 rfl rfl  ⟨rfl,rfl,_,hin1,rfl⟩
theorem table_c {V : Vw} {s : Sk} {sx lx tx : Nat}  : Does Tryz.prog 27 [(pZ sx)] V [(cS 123 sx lx tx s)] (Pv ((pZ tx)) V [(cS 123 sx lx tx s)]) := by
 refine Does.intro Tryz.func27 rfl rfl (le rfl) (fun B => ?_)
 refine Zs<|Zr<|Za Z<|Ze<|Zg<|Zs<|Zr<|Zm Z<|Zv (Y.nilCheck Z)<|Zv (Y.fieldAddr Z Storesb_fo123_1)<|Zv (Y.load Z Storesb_ts60 (Kn.at 0 Z) Z)<|Za Z<|Ze<|Zg<|Zu<|Ex.keep [0]<|?_
 exact Ex.ret1 rfl rfl  ⟨rfl,rfl,rfl⟩
theorem state_c {V : Vw} {s : Sk} {sx lx tx : Nat}  : Does Tryz.prog 29 [(pZ sx)] V [(cS 123 sx lx tx s)] (Pv (.int .i64 s.state) V [(cS 123 sx lx tx s)]) := by
 refine Does.intro Tryz.func29 rfl rfl (le rfl) (fun B => ?_)
 refine Zs<|Zr<|Za Z<|Ze<|Zg<|Zs<|Zr<|Zm Z<|Zv (Y.nilCheck Z)<|Zv (Y.fieldAddr Z Storesb_fo123_2)<|Zv (Y.load Z Storesb_ts3 (Kn.at 0 Z) Z)<|Za Z<|Ze<|Zg<|Zu<|Ex.keep [0]<|?_
 exact Ex.ret1 rfl rfl  ⟨rfl,rfl,rfl⟩
theorem life_c {V : Vw} {s : Sk} {sx lx tx : Nat}  : Does Tryz.prog 30 [(pZ sx)] V [(cS 123 sx lx tx s)] (Pv (.int .i64 s.life) V [(cS 123 sx lx tx s)]) := by
 refine Does.intro Tryz.func30 rfl rfl (le rfl) (fun B => ?_)
 refine Zs<|Zr<|Za Z<|Ze<|Zg<|Zs<|Zr<|Zm Z<|Zv (Y.nilCheck Z)<|Zv (Y.fieldAddr Z Storesb_fo123_3)<|Zv (Y.load Z Storesb_ts3 (Kn.at 0 Z) Z)<|Za Z<|Ze<|Zg<|Zu<|Ex.keep [0]<|?_
 exact Ex.ret1 rfl rfl  ⟨rfl,rfl,rfl⟩
theorem slen_c {V : Vw} {d : Dk} {dx : Nat} {sd : Sg} (hin : Dk.In 116 d dx sd) {s : Sk} {sx lx tx : Nat}  : Does Tryz.prog 33 [(pZ sx)] V [(cS 123 sx lx tx s),(cL 187 lx dx),sd] (Pv (.int .i64 (((Fr.scan d.bs).1.length : Nat) : Int)) V [(cS 123 sx lx tx s),(cL 187 lx dx),sd]) := by
 refine Does.intro Tryz.func33 rfl rfl (le rfl) (fun B => ?_)
 refine Zs<|Zr<|Za Z<|Ze<|Zg<|Zs<|Zr<|Zm Z<|Zv (Y.nilCheck Z)<|Zv (Y.fieldAddr Z Storesb_fo123_0)<|Zv (Y.load Z Storesb_ts119 (Kn.at 0 Z) Z)<|?_
 refine Run.call [1,1] (l := [.tmp 6]) rfl rfl rfl (lt rfl) (wlen_o hin) (fun v9 V9 H9 hle9 hR9 => ?_)
 obtain ⟨hV,rfl,rfl⟩ := hR9; replace hV := hV.symm; subst hV
 refine Run.heapTo (H' := [(cS 123 sx lx tx s),(cL 187 lx dx),sd]) Z<|Run.heapTo (H' := [(cS 123 sx lx tx s),(cL 187 lx dx),sd]) Z<|?_
 refine Za Z<|Ze<|Zg<|Zu<|Ex.keepTo (H' := [(cS 123 sx lx tx s),(cL 187 lx dx),sd]) [0,0,0] Z<|?_
 exact Ex.ret1 rfl rfl  ⟨rfl,rfl,rfl⟩
theorem put_o {V : Vw} {d : Dk} {dx : Nat} {sd : Sg} (hin : Dk.In 116 d dx sd) {s : Sk} (hs : s.Ok) {sx lx tx : Nat} {st : Sg} (ht : Le.In 149 s.t tx st) {q : Le} (hok : q.Ok) : Does Tryz.prog 59 [(pZ sx),.agg q.cells.toArray] V [(cS 123 sx lx tx s),(cL 187 lx dx),st,sd] (fun v V' H' => V' = V ∧ v = .int .i64 (Sk.put d s q).2.2 ∧ ∃ st2 sd2,Le.In 149 (Sk.put d s q).2.1.t tx st2 ∧ Dk.In 116 (Sk.put d s q).1 dx sd2 ∧ H' = [(cS 123 sx lx tx ((Sk.put d s q).2.1)),(cL 187 lx dx),st2,sd2]) := (put_c hin hs ht hok).forget fun v V' H' _ h => ⟨rfl,h.2⟩
theorem setst_o {V : Vw} {d : Dk} {dx : Nat} {sd : Sg} (hin : Dk.In 116 d dx sd) {s : Sk} (hs : s.Ok) {sx lx tx : Nat} {st : Sg} (ht : Le.In 149 s.t tx st) {n : Int} : Does Tryz.prog 62 [(pZ sx),.int .i64 n] V [(cS 123 sx lx tx s),(cL 187 lx dx),st,sd] (fun v V' H' => V' = V ∧ v = .int .i64 (Sk.setState d s n).2.2 ∧ ∃ st2 sd2,Le.In 149 (Sk.setState d s n).2.1.t tx st2 ∧ Dk.In 116 (Sk.setState d s n).1 dx sd2 ∧ H' = [(cS 123 sx lx tx ((Sk.setState d s n).2.1)),(cL 187 lx dx),st2,sd2]) := (setst_c hin hs ht ).forget fun v V' H' _ h => ⟨rfl,h.2⟩
theorem setli_o {V : Vw} {d : Dk} {dx : Nat} {sd : Sg} (hin : Dk.In 116 d dx sd) {s : Sk} (hs : s.Ok) {sx lx tx : Nat} {st : Sg} (ht : Le.In 149 s.t tx st) {n : Int} : Does Tryz.prog 60 [(pZ sx),.int .i64 n] V [(cS 123 sx lx tx s),(cL 187 lx dx),st,sd] (fun v V' H' => V' = V ∧ v = .int .i64 (Sk.setLife d s n).2.2 ∧ ∃ st2 sd2,Le.In 149 (Sk.setLife d s n).2.1.t tx st2 ∧ Dk.In 116 (Sk.setLife d s n).1 dx sd2 ∧ H' = [(cS 123 sx lx tx ((Sk.setLife d s n).2.1)),(cL 187 lx dx),st2,sd2]) := (setli_c hin hs ht ).forget fun v V' H' _ h => ⟨rfl,h.2⟩
theorem rput_o {V : Vw} {d : Dk} {dx : Nat} {sd : Sg} (hin : Dk.In 54 d dx sd) {s : Sk} (hs : s.Ok) {sx lx tx : Nat} {st : Sg} (ht : Le.Rin s.t tx st) {q : Le} (hok : q.Ok) : Does Tryz.prog 75 [(pZ sx),.agg q.cells.toArray] V [(cS 133 sx lx tx s),(cL 193 lx dx),st,sd] (fun v V' H' => V' = V ∧ v = .int .i64 (Sk.put d s q).2.2 ∧ ∃ st2 sd2,Le.Rin (Sk.put d s q).2.1.t tx st2 ∧ Dk.In 54 (Sk.put d s q).1 dx sd2 ∧ H' = [(cS 133 sx lx tx ((Sk.put d s q).2.1)),(cL 193 lx dx),st2,sd2]) := (rput_c hin hs ht hok).forget fun v V' H' _ h => ⟨rfl,h.2⟩
theorem rsetst_o {V : Vw} {d : Dk} {dx : Nat} {sd : Sg} (hin : Dk.In 54 d dx sd) {s : Sk} (hs : s.Ok) {sx lx tx : Nat} {st : Sg} (ht : Le.Rin s.t tx st) {n : Int} : Does Tryz.prog 76 [(pZ sx),.int .i64 n] V [(cS 133 sx lx tx s),(cL 193 lx dx),st,sd] (fun v V' H' => V' = V ∧ v = .int .i64 (Sk.setState d s n).2.2 ∧ ∃ st2 sd2,Le.Rin (Sk.setState d s n).2.1.t tx st2 ∧ Dk.In 54 (Sk.setState d s n).1 dx sd2 ∧ H' = [(cS 133 sx lx tx ((Sk.setState d s n).2.1)),(cL 193 lx dx),st2,sd2]) := (rsetst_c hin hs ht ).forget fun v V' H' _ h => ⟨rfl,h.2⟩
theorem rsetli_o {V : Vw} {d : Dk} {dx : Nat} {sd : Sg} (hin : Dk.In 54 d dx sd) {s : Sk} (hs : s.Ok) {sx lx tx : Nat} {st : Sg} (ht : Le.Rin s.t tx st) {n : Int} : Does Tryz.prog 77 [(pZ sx),.int .i64 n] V [(cS 133 sx lx tx s),(cL 193 lx dx),st,sd] (fun v V' H' => V' = V ∧ v = .int .i64 (Sk.setLife d s n).2.2 ∧ ∃ st2 sd2,Le.Rin (Sk.setLife d s n).2.1.t tx st2 ∧ Dk.In 54 (Sk.setLife d s n).1 dx sd2 ∧ H' = [(cS 133 sx lx tx ((Sk.setLife d s n).2.1)),(cL 193 lx dx),st2,sd2]) := (rsetli_c hin hs ht ).forget fun v V' H' _ h => ⟨rfl,h.2⟩
set_option maxHeartbeats 1000000 in
theorem comp_c {V : Vw} {d : Dk} {dx : Nat} {sd : Sg} (hin : Dk.In 116 d dx sd) {s : Sk} (hs : s.Ok) {sx lx tx : Nat} {st : Sg} (ht : Le.In 149 s.t tx st) (hos : s.Os)  : Does Tryz.prog 31 [(pZ sx)] V [(cS 123 sx lx tx s),(cL 187 lx dx),st,sd] (fun v V' H' => V.le V' ∧ v = .int .i64 (Sk.compact d s).2 ∧ ∃ st2 sd2,Le.In 149 s.t tx st2 ∧ Dk.In 116 (Sk.compact d s).1 dx sd2 ∧ H' = [(cS 123 sx lx tx (s)),(cL 187 lx dx),st2,sd2]) := by
 have hst := hs.st
 have hli := hs.li
 have hsn := hs.n
 refine Does.intro Tryz.func31 rfl rfl (le rfl) (fun B => ?_)
 refine Zs<|Zr<|Za Z<|Ze<|Zg<|Zs<|Tr.anyD (cS 123 sx lx tx s) Storesb_mo<|RunD.pure (i := 0) rfl WK WK WK (fun _ _ _ h => h) (lt rfl) (ZK 0 Z) (fun _ => (Y.move rfl))<|RunD.pure (i := 1) rfl WK WK WK (fun _ _ _ h => h) (lt rfl) (ZK 0 Z) (fun _ => (Y.nilCheck rfl))<|?_
 refine RunD.pure (i := 2) rfl WK WK WK (fun _ _ _ h => h) (lt rfl) (ZK 0 Z) (fun _ => (Y.fieldAddr rfl Storesb_fo123_2))<|RunD.take (i := 3) 0 rfl rfl WK WK WK (fun _ _ _ h => h) (lt rfl) (ZK 0 Z) (fun _ => (Y.load rfl Storesb_ts3 Kn.vk1 rfl))<|RunD.pure (i := 5) rfl WK WK WK (fun _ _ _ h => h) (lt rfl) (ZK 0 Z) (fun _ => (Y.move rfl))<|?_
 refine RunD.pure (i := 6) rfl WK WK WK (fun _ _ _ h => h) (lt rfl) (ZK 0 Z) (fun _ => (Y.nilCheck rfl))<|RunD.pure (i := 7) rfl WK WK WK (fun _ _ _ h => h) (lt rfl) (ZK 0 Z) (fun _ => (Y.fieldAddr rfl Storesb_fo123_3))<|RunD.take (i := 8) 0 rfl rfl WK WK WK (fun _ _ _ h => h) (lt rfl) (ZK 0 Z) (fun _ => (Y.load rfl Storesb_ts3 Kn.vk1 rfl))<|?_
 refine RunD.one (i := 4) WK rfl  ?_
 refine Run.callF (l := [.tmp 9]) rfl rfl rfl (lt rfl) (strec_c (n := s.state) W) (fun v1 V1 H1 hle1 hR1 => ?_)
 obtain ⟨hV,p1,c1,q1,rfl,ho1,rfl⟩ := hR1; replace hV := hV.symm; subst hV
 refine Run.heapTo (H' := [q1,(cS 123 sx lx tx s),(cL 187 lx dx),st,sd]) Z<|Run.heapTo (H' := [q1,(cS 123 sx lx tx s),(cL 187 lx dx),st,sd]) Z<|?_
 refine Ze<|Ex.anyD (ZK 1 Z)<|?_
 refine RunD.one (i := 9) WK rfl  ?_
 refine Run.callF (l := [.tmp 14]) rfl rfl rfl (lt rfl) (lirec_c (n := s.life) W) (fun v2 V2 H2 hle2 hR2 => ?_)
 obtain ⟨hV,p2,c2,q2,rfl,ho2,rfl⟩ := hR2; replace hV := hV.symm; subst hV
 refine Run.heapTo (H' := [q2,q1,(cS 123 sx lx tx s),(cL 187 lx dx),st,sd]) Z<|Run.heapTo (H' := [q2,q1,(cS 123 sx lx tx s),(cL 187 lx dx),st,sd]) Z<|?_
 refine Ze<|Ex.anyD (ZK 2 Z)<|?_
 refine RunD.one (i := 10) WK rfl  ?_
 refine Run.buildSlice (l := [(0,.tmp 10),(1,.tmp 15)]) Storesb_es56 Storesb_zo22 rfl WD rfl rfl WD (lt rfl) (fun b3 => ?_)
 refine Ze<|Ex.anyD (ZK 3 Z)<|RunD.pure (i := 11) rfl WK WK WK (fun _ _ _ h => h) (lt rfl) (ZK 3 Z) (fun _ => (Y.assign rfl))<|RunD.done WK<|Zg<|Zs<|Zs<|Zr<|Run.keepTo (H' := [q1,[(b3,.cells #[.slice p1 (Sk.stR s.state).length c1,.slice p2 (Sk.liR s.life).length c2] 22 (0,0))],q2,(cS 123 sx lx tx s),(cL 187 lx dx),st,sd]) [2,0,0,0,0,0,0] Z<|?_
 refine Run.show (fun V4 hle4 hsh4 => ?_)
 have hr0 : Rd V4 [] 1 (.slice p1 (Sk.stR s.state).length c1) ((Sk.stR s.state).length) ((Sk.stR s.state).map byteV) := ho1.show hsh4
 have hVle := hle4
 refine Run.keepTo (H' := [q2,[(b3,.cells #[.slice p1 (Sk.stR s.state).length c1,.slice p2 (Sk.liR s.life).length c2] 22 (0,0))],(cS 123 sx lx tx s),(cL 187 lx dx),st,sd]) [1,0,0,0,0,0] Z ?_
 refine Run.show (fun V5 hle5 hsh5 => ?_)
 have hr1 : Rd V5 [] 1 (.slice p2 (Sk.liR s.life).length c2) ((Sk.liR s.life).length) ((Sk.liR s.life).map byteV) := ho2.show hsh5
 replace hr0 := hr0.le hle5
 replace hVle := Vw.le_trans hVle hle5
 have hx0 : Ow 22 1 (.slice (some ⟨b3,0,none⟩) 2 2) 2 (([⟨p1,(Sk.stR s.state).length,c1,(Sk.stR s.state)⟩,⟨p2,(Sk.liR s.life).length,c2,(Sk.liR s.life)⟩] : List Rc).flatMap Rc.cell) [(b3,.cells #[.slice p1 (Sk.stR s.state).length c1,.slice p2 (Sk.liR s.life).length c2] 22 (0,0))] := Ow.lit (cur := #[.slice p1 (Sk.stR s.state).length c1,.slice p2 (Sk.liR s.life).length c2]) rfl WD
 have hrs0 : Rc.Rs V5 ([⟨p1,(Sk.stR s.state).length,c1,(Sk.stR s.state)⟩,⟨p2,(Sk.liR s.life).length,c2,(Sk.liR s.life)⟩] : List Rc) := ((Rc.Rs.nil _).snoc hr0).snoc hr1
 refine Zm Z<|Zv (Y.nilCheck Z)<|Zv (Y.fieldAddr Z Storesb_fo123_1)<|Zv (Y.load Z Storesb_ts60 (Kn.at 1 Z) Z)<|?_
 refine Run.call [3] (l := [.tmp 20]) rfl rfl rfl (lt rfl) (all_o ht) (fun v6 V6 H6 hle6 hR6 => ?_)
 obtain ⟨hV,q6,ho6,rfl⟩ := hR6; replace hV := hV.symm; subst hV; obtain ⟨p6,c6,rfl⟩ := ho6.form
 refine Run.heapTo (H' := [[(b3,.cells #[.slice p1 (Sk.stR s.state).length c1,.slice p2 (Sk.liR s.life).length c2] 22 (0,0))],(cS 123 sx lx tx s),(cL 187 lx dx),sd,q6,st]) Z<|Run.heapTo (H' := [[(b3,.cells #[.slice p1 (Sk.stR s.state).length c1,.slice p2 (Sk.liR s.life).length c2] 22 (0,0))],(cS 123 sx lx tx s),(cL 187 lx dx),sd,q6,st]) Z<|?_
 refine Zv (Y.lenSl Z Storesb_es59)<|Run.keepTo (H' := [(cS 123 sx lx tx s),(cL 187 lx dx),st,sd,q6,[(b3,.cells #[.slice p1 (Sk.stR s.state).length c1,.slice p2 (Sk.liR s.life).length c2] 22 (0,0))]]) [1,1,3,1,1,0] Z<|Zm Z<|Ze<|Zg<|Zb<|?_
 refine ZL (X := Nat × Vw × List Rc × Option Addr × Nat × Nat × Sg) (fun z0 => z0.2.1) (fun z0 => [(cS 123 sx lx tx s),(cL 187 lx dx),st,sd,q6,z0.2.2.2.2.2.2]) (fun z0 => [(0,(pZ sx)),(3,.slice z0.2.2.2.1 z0.2.2.2.2.1 z0.2.2.2.2.2.1),(21,.slice p6 s.t.length c6),(22,.int .i64 ((s.t.length : Nat) : Int)),(23,.int .i64 (z0.1 : Int))]) (fun z0 => z0.2.2.1.map (·.b) = Sk.stR s.state :: Sk.liR s.life :: (((s.t.take z0.1).filter fun q => !Sk.plain q).map Sk.leR) ∧ Rc.Rs z0.2.1 z0.2.2.1 ∧ V.le z0.2.1 ∧ Ow 22 1 (.slice z0.2.2.2.1 z0.2.2.2.2.1 z0.2.2.2.2.2.1) z0.2.2.2.2.1 (z0.2.2.1.flatMap Rc.cell) z0.2.2.2.2.2.2 ∧ z0.2.2.2.2.1 = z0.2.2.1.length ∧ z0.2.2.2.2.1 ≤ z0.1 + 2 ∧ z0.1 ≤ s.t.length) (fun z0 => s.t.length - z0.1) (⟨0,V5,([⟨p1,(Sk.stR s.state).length,c1,(Sk.stR s.state)⟩,⟨p2,(Sk.liR s.life).length,c2,(Sk.liR s.life)⟩] : List Rc),(some ⟨b3,0,none⟩),2,2,[(b3,.cells #[.slice p1 (Sk.stR s.state).length c1,.slice p2 (Sk.liR s.life).length c2] 22 (0,0))]⟩ : Nat × Vw × List Rc × Option Addr × Nat × Nat × Sg) ⟨rfl,hrs0,hVle,hx0,rfl,Nat.le_refl 2,Nat.zero_le _⟩ ?_
 rintro ⟨i1,V1,xs,p1,n1,k1,q1⟩ ⟨hxb,hrs,hVle,how,hn,hn2,hi⟩
 try dsimp only at hxb hrs hVle how hn hn2 hi ⊢
 refine Zs<|Zr<|Zv (Y.int Z Z Z)<|Ze<|Zg<|Zs<|?_
 rcases Zsplit (decide ((i1 : Int) < ((s.t.length : Nat) : Int))) with ⟨h7,g7⟩ | ⟨h7,g7⟩ <;> try simp only [kb] at g7
 ·refine Tr.cond_t Z h7<|Zt<|Zg<|Zs<|Zb<|Zs<|Zr<|Zv (Y.idxR i1 Z Z Storesb_es59 (ho6.rd 4 rfl) W W)<|Zv (Y.ldRA (vs := [.int .u32 ((s.t.getD i1 Le.dflt).addr),.int .i64 ((s.t.getD i1 Le.dflt).bind),.string ((s.t.getD i1 Le.dflt).client),.int .i64 ((s.t.getD i1 Le.dflt).till),.int .i64 ((s.t.getD i1 Le.dflt).acked),.int .i64 ((s.t.getD i1 Le.dflt).told),.int .i64 ((s.t.getD i1 Le.dflt).at_),.int .i64 ((s.t.getD i1 Le.dflt).ver)]) rfl Storesb_ag49 (ho6.rd 4 rfl) rfl WD (fun o ho => flatm_atA Le.len W Le.dflt o ho))<|?_
  refine Run.alloc Storesb_zo49 (lt rfl) (fun b8 => ?_)
  refine Run.store (s := [(b8,.cells #[.int .u32 ((s.t.getD i1 Le.dflt).addr),.int .i64 ((s.t.getD i1 Le.dflt).bind),.string ((s.t.getD i1 Le.dflt).client),.int .i64 ((s.t.getD i1 Le.dflt).till),.int .i64 ((s.t.getD i1 Le.dflt).acked),.int .i64 ((s.t.getD i1 Le.dflt).told),.int .i64 ((s.t.getD i1 Le.dflt).at_),.int .i64 ((s.t.getD i1 Le.dflt).ver)] 49 (0,0))]) Z Z Storesb_sz49 (i := 0) Z Z (le Z) Z Z ?_
  refine Ze<|Zg<|Zs<|Tr.quiet Storesb_mo WK<|ZV (Y.loadAgg Z Storesb_ag49 (Kn.at 0 Z) Z)<|ZV (Y.fieldAddr Z Storesb_fo49_0)<|ZV (Y.load Z Storesb_ts47 (Kn.at 0 Z) Z)<|RunQ.call0 (l := [.tmp 29,.const (.int .i64 0),.const (.int .i64 0)]) Z Z Z (lt Z) bare_c_h<|ZV (Y.neS Z Z Storesb_tgs49 Z Z)<|ZE<|Zg<|?_
  rcases Zsplit (Le.same (s.t.getD i1 Le.dflt) (⟨(s.t.getD i1 Le.dflt).addr,0,⟨#[]⟩,0,0,0,0,0⟩ : Le)) with ⟨h9,g9⟩ | ⟨h9,g9⟩ <;> try simp only [kb] at g9
  ·refine Tr.cond_f Z (congrArg Bool.not h9)<|Zt<|Zc<|Zg<|Zr<|Zv (Y.add Z Z W)<|Zm Z<|Ze<|Ex.keep [1,1,1,1,1,1]<|?_
   exact ZR (⟨i1 + 1,V1,xs,p1,n1,k1,q1⟩ : Nat × Vw × List Rc × Option Addr × Nat × Nat × Sg) ⟨by rw [hxb,Sk.recs_no W h9],hrs,hVle,how,hn,by dsimp only; omega,by dsimp only; omega⟩ (by dsimp only; omega)
  ·refine Tr.cond_t Z (congrArg Bool.not h9)<|Zr<|Zm Z<|Zv (Y.loadAgg Z Storesb_ag49 (Kn.at 0 Z) Z)<|?_
   refine Run.callF (l := [.tmp 33]) rfl rfl rfl (lt rfl) (lerec_c (q := (s.t.getD i1 Le.dflt)) (hos.at W)) (fun v10 V10 H10 hle10 hR10 => ?_)
   obtain ⟨hV,p10,c10,q10,rfl,ho10,rfl⟩ := hR10; replace hV := hV.symm; subst hV
   refine Run.heapTo (H' := [q10,[(b8,.cells #[.int .u32 ((s.t.getD i1 Le.dflt).addr),.int .i64 ((s.t.getD i1 Le.dflt).bind),.string ((s.t.getD i1 Le.dflt).client),.int .i64 ((s.t.getD i1 Le.dflt).till),.int .i64 ((s.t.getD i1 Le.dflt).acked),.int .i64 ((s.t.getD i1 Le.dflt).told),.int .i64 ((s.t.getD i1 Le.dflt).at_),.int .i64 ((s.t.getD i1 Le.dflt).ver)] 49 (0,0))],(cS 123 sx lx tx s),(cL 187 lx dx),st,sd,q6,q1]) Z ?_
   refine Run.keepTo (H' := [q10,[(b8,.cells #[.int .u32 ((s.t.getD i1 Le.dflt).addr),.int .i64 ((s.t.getD i1 Le.dflt).bind),.string ((s.t.getD i1 Le.dflt).client),.int .i64 ((s.t.getD i1 Le.dflt).till),.int .i64 ((s.t.getD i1 Le.dflt).acked),.int .i64 ((s.t.getD i1 Le.dflt).told),.int .i64 ((s.t.getD i1 Le.dflt).at_),.int .i64 ((s.t.getD i1 Le.dflt).ver)] 49 (0,0))],(cS 123 sx lx tx s),(cL 187 lx dx),st,sd,q6,q1]) [0,0,0,0,0,0,0,0] Z ?_
   refine Run.show (fun V11 hle11 hsh11 => ?_)
   have hr9 : Rd V11 [] 1 (.slice p10 (Sk.leR (s.t.getD i1 Le.dflt)).length c10) ((Sk.leR (s.t.getD i1 Le.dflt)).length) ((Sk.leR (s.t.getD i1 Le.dflt)).map byteV) := ho10.show hsh11
   replace hrs := hrs.le hle11
   replace hVle := Vw.le_trans hVle hle11
   refine Run.buildSlice (l := [(0,.tmp 34)]) Storesb_es56 Storesb_zo22 rfl WD rfl rfl WD (lt rfl) (fun b12 => ?_)
   refine Run.append (n := n1) (m := 1) (xs := (xs).flatMap Rc.cell) (ys := [.slice p10 (Sk.leR (s.t.getD i1 Le.dflt)).length c10]) rfl rfl Storesb_es56 Storesb_zi22 WD (j := 7) rfl how (Src.of_rd Storesb_es56 (Rd.one (Kn.at 0 rfl) rfl)) W W rfl (lt rfl) (fun v13 s14 ho15 hf => ?_)
   obtain ⟨p13,c13,rfl⟩ := hf
   replace ho15 := Ow.app1 (f := Rc.cell) (l := xs) (x := (⟨p10,(Sk.leR (s.t.getD i1 Le.dflt)).length,c10,(Sk.leR (s.t.getD i1 Le.dflt))⟩ : Rc)) ho15
   refine Za Z<|Ze<|Zc<|Zg<|Zr<|Zv (Y.add Z Z W)<|Zm Z<|Ze<|Ex.keep [2,2,2,2,2,2]<|?_
   exact ZR (⟨i1 + 1,V11,xs ++ [(⟨p10,(Sk.leR (s.t.getD i1 Le.dflt)).length,c10,(Sk.leR (s.t.getD i1 Le.dflt))⟩ : Rc)],p13,(n1 + 1),c13,s14⟩ : Nat × Vw × List Rc × Option Addr × Nat × Nat × Sg) ⟨by rw [List.map_append,hxb,Sk.recs_yes W h9]; rfl,hrs.snoc hr9,hVle,ho15,by rw [List.length_append,List.length_singleton,← hn],by dsimp only; omega,by omega⟩ (by dsimp only; omega)
 ·refine Tr.cond_f Z h7<|Zx<|Zy<|Zy<|Zi<|Zg<|Zs<|Zr<|?_
  obtain rfl : i1 = s.t.length := by omega
  have hxr : xs.map (·.b) = Sk.recs s := by rw [hxb]; exact (Sk.recs_eq s).symm
  subst hn
  refine Zm Z<|Zv (Y.nilCheck Z)<|Zv (Y.fieldAddr Z Storesb_fo123_0)<|Zv (Y.load Z Storesb_ts119 (Kn.at 0 Z) Z)<|Zm Z<|?_
  refine Run.call [1,2,3] (l := [.tmp 41,.tmp 42]) rfl rfl rfl (lt rfl) (wcomp_o hin how hrs (by rw [hxr]; exact Sk.recs_ok s) W) (fun v16 V16 H16 hle16 hR16 => ?_)
  rw [hxr] at hR16; obtain ⟨hV,rfl,sd16,hin16,rfl⟩ := hR16; replace hV := hV.symm; subst hV
  refine Run.heapTo (H' := [(cS 123 sx lx tx s),st,q6,(cL 187 lx dx),sd16]) Z<|Run.heapTo (H' := [(cS 123 sx lx tx s),st,q6,(cL 187 lx dx),sd16]) Z<|?_
  refine Za Z<|Ze<|Zg<|Zu<|Ex.keepTo (H' := [(cS 123 sx lx tx s),(cL 187 lx dx),st,sd16]) [0,2,0,1] Z<|?_
  exact Ex.ret1 rfl rfl  ⟨hVle,rfl,_,_,ht,hin16,rfl⟩
set_option maxHeartbeats 1000000 in
theorem rcomp_c {V : Vw} {d : Dk} {dx : Nat} {sd : Sg} (hin : Dk.In 54 d dx sd) {s : Sk} (hs : s.Ok) {sx lx tx : Nat} {pl : Option Addr} {cl : Nat} {ql : Sg} (hl : Ow 49 8 (.slice pl s.t.length cl) s.t.length (s.t.flatMap Le.cells) ql) (hos : s.Os)  : Does Tryz.prog 79 [(pZ sx)] V [(cS 133 sx lx tx s),(cL 193 lx dx),[(tx,.cells #[.slice pl s.t.length cl] 135 (0,0))],ql,sd] (fun v V' H' => V.le V' ∧ v = .int .i64 (Sk.compact d s).2 ∧ ∃ sd2,Dk.In 54 (Sk.compact d s).1 dx sd2 ∧ H' = [(cS 133 sx lx tx (s)),(cL 193 lx dx),([[(tx,.cells #[.slice pl s.t.length cl] 135 (0,0))],ql] : Hp).flatten,sd2]) := by
 have hst := hs.st
 have hli := hs.li
 have hsn := hs.n
 refine Does.intro Tryz.func79 rfl rfl (le rfl) (fun B => ?_)
 refine Zs<|Zr<|Za Z<|Ze<|Zg<|Zs<|Tr.anyD (cS 133 sx lx tx s) Storesb_mo<|RunD.pure (i := 0) rfl WK WK WK (fun _ _ _ h => h) (lt rfl) (ZK 0 Z) (fun _ => (Y.move rfl))<|RunD.pure (i := 1) rfl WK WK WK (fun _ _ _ h => h) (lt rfl) (ZK 0 Z) (fun _ => (Y.nilCheck rfl))<|?_
 refine RunD.pure (i := 2) rfl WK WK WK (fun _ _ _ h => h) (lt rfl) (ZK 0 Z) (fun _ => (Y.fieldAddr rfl Storesb_fo133_2))<|RunD.take (i := 3) 0 rfl rfl WK WK WK (fun _ _ _ h => h) (lt rfl) (ZK 0 Z) (fun _ => (Y.load rfl Storesb_ts3 Kn.vk1 rfl))<|RunD.pure (i := 4) rfl WK WK WK (fun _ _ _ h => h) (lt rfl) (ZK 0 Z) (fun _ => (Y.conv (s.state) rfl Storesb_it3_5 (wrap_u8 W)))<|?_
 refine RunD.pure (i := 6) rfl WK WK WK (fun _ _ _ h => h) (lt rfl) (ZK 0 Z) (fun _ => (Y.move rfl))<|RunD.pure (i := 7) rfl WK WK WK (fun _ _ _ h => h) (lt rfl) (ZK 0 Z) (fun _ => (Y.nilCheck rfl))<|RunD.pure (i := 8) rfl WK WK WK (fun _ _ _ h => h) (lt rfl) (ZK 0 Z) (fun _ => (Y.fieldAddr rfl Storesb_fo133_3))<|?_
 refine RunD.take (i := 9) 0 rfl rfl WK WK WK (fun _ _ _ h => h) (lt rfl) (ZK 0 Z) (fun _ => (Y.load rfl Storesb_ts3 Kn.vk1 rfl)) ?_
 refine RunD.two (i := 5) (j := 10) WK rfl rfl  ?_ ?_
 ·refine Run.buildSlice (l := [(0,.const (.int .u8 83)),(1,.tmp 9)]) Storesb_es22 Storesb_zo5 rfl WD rfl rfl WD (lt rfl) (fun b1 => ?_)
  refine Ze<|Ex.anyD (ZK 1 Z)<|?_
  refine RunD.one (i := 10) WK rfl  ?_
  refine Run.callF (l := [.tmp 14]) rfl rfl rfl (lt rfl) (rlirec_c (n := s.life) W) (fun v2 V2 H2 hle2 hR2 => ?_)
  obtain ⟨hV,p2,c2,q2,rfl,ho2,rfl⟩ := hR2; replace hV := hV.symm; subst hV
  refine Run.heapTo (H' := [q2,[(b1,.cells #[.int .u8 83,.int .u8 s.state] 5 (0,0))],(cS 133 sx lx tx s),(cL 193 lx dx),[(tx,.cells #[.slice pl s.t.length cl] 135 (0,0))],ql,sd]) Z<|Run.heapTo (H' := [q2,[(b1,.cells #[.int .u8 83,.int .u8 s.state] 5 (0,0))],(cS 133 sx lx tx s),(cL 193 lx dx),[(tx,.cells #[.slice pl s.t.length cl] 135 (0,0))],ql,sd]) Z<|?_
  refine Ze<|Ex.anyD (ZK 2 Z)<|?_
  refine RunD.one (i := 11) WK rfl  ?_
  refine Run.buildSlice (l := [(0,.tmp 10),(1,.tmp 15)]) Storesb_es56 Storesb_zo22 rfl WD rfl rfl WD (lt rfl) (fun b3 => ?_)
  refine Ze<|Ex.anyD (ZK 3 Z)<|RunD.pure (i := 12) rfl WK WK WK (fun _ _ _ h => h) (lt rfl) (ZK 3 Z) (fun _ => (Y.assign rfl))<|RunD.done WK<|Zg<|Zs<|Zs<|Zr<|?_
  have h9 := Ow.lit (e := 5) (k := 1) (b := b1) (n := 2) (cur := #[.int .u8 83,.int .u8 s.state]) rfl WD
  rw [show (#[.int .u8 83,.int .u8 s.state] : Array Value).toList = (Sk.stR s.state).map byteV from Sk.stR_cells W] at h9
  refine Run.keepTo (H' := [[(b1,.cells #[.int .u8 83,.int .u8 s.state] 5 (0,0))],[(b3,.cells #[.slice (some ⟨b1,0,none⟩) 2 2,.slice p2 (Sk.liR s.life).length c2] 22 (0,0))],q2,(cS 133 sx lx tx s),(cL 193 lx dx),[(tx,.cells #[.slice pl s.t.length cl] 135 (0,0))],ql,sd]) [2,0,0,0,0,0,0,0] Z ?_
  refine Run.show (fun V4 hle4 hsh4 => ?_)
  have hr0 : Rd V4 [] 1 (.slice (some ⟨b1,0,none⟩) 2 2) (2) ((Sk.stR s.state).map byteV) := h9.show hsh4
  have hVle := hle4
  refine Run.keepTo (H' := [q2,[(b3,.cells #[.slice (some ⟨b1,0,none⟩) 2 2,.slice p2 (Sk.liR s.life).length c2] 22 (0,0))],(cS 133 sx lx tx s),(cL 193 lx dx),[(tx,.cells #[.slice pl s.t.length cl] 135 (0,0))],ql,sd]) [1,0,0,0,0,0,0] Z ?_
  refine Run.show (fun V5 hle5 hsh5 => ?_)
  have hr1 : Rd V5 [] 1 (.slice p2 (Sk.liR s.life).length c2) ((Sk.liR s.life).length) ((Sk.liR s.life).map byteV) := ho2.show hsh5
  replace hr0 := hr0.le hle5
  replace hVle := Vw.le_trans hVle hle5
  have hx0 : Ow 22 1 (.slice (some ⟨b3,0,none⟩) 2 2) 2 (([⟨(some ⟨b1,0,none⟩),2,2,(Sk.stR s.state)⟩,⟨p2,(Sk.liR s.life).length,c2,(Sk.liR s.life)⟩] : List Rc).flatMap Rc.cell) [(b3,.cells #[.slice (some ⟨b1,0,none⟩) 2 2,.slice p2 (Sk.liR s.life).length c2] 22 (0,0))] := Ow.lit (cur := #[.slice (some ⟨b1,0,none⟩) 2 2,.slice p2 (Sk.liR s.life).length c2]) rfl WD
  have hrs0 : Rc.Rs V5 ([⟨(some ⟨b1,0,none⟩),2,2,(Sk.stR s.state)⟩,⟨p2,(Sk.liR s.life).length,c2,(Sk.liR s.life)⟩] : List Rc) := ((Rc.Rs.nil _).snoc hr0).snoc hr1
  refine Run.keepTo (H' := [(cS 133 sx lx tx s),(cL 193 lx dx),[(tx,.cells #[.slice pl s.t.length cl] 135 (0,0))],ql,sd,[(b3,.cells #[.slice (some ⟨b1,0,none⟩) 2 2,.slice p2 (Sk.liR s.life).length c2] 22 (0,0))]]) [1,1,1,1,1,0] Z<|Za Z<|Ze<|Zg<|Zb<|?_
  refine ZL (X := Nat × Vw × List Rc × Option Addr × Nat × Nat × Sg) (fun z0 => z0.2.1) (fun z0 => [(cS 133 sx lx tx s),(cL 193 lx dx),[(tx,.cells #[.slice pl s.t.length cl] 135 (0,0))],ql,sd,z0.2.2.2.2.2.2]) (fun z0 => [(0,(pZ sx)),(3,.slice z0.2.2.2.1 z0.2.2.2.2.1 z0.2.2.2.2.2.1),(4,.int .i64 (z0.1 : Int))]) (fun z0 => z0.2.2.1.map (·.b) = Sk.stR s.state :: Sk.liR s.life :: (((s.t.take z0.1).filter fun q => !Sk.plain q).map Sk.leR) ∧ Rc.Rs z0.2.1 z0.2.2.1 ∧ V.le z0.2.1 ∧ Ow 22 1 (.slice z0.2.2.2.1 z0.2.2.2.2.1 z0.2.2.2.2.2.1) z0.2.2.2.2.1 (z0.2.2.1.flatMap Rc.cell) z0.2.2.2.2.2.2 ∧ z0.2.2.2.2.1 = z0.2.2.1.length ∧ z0.2.2.2.2.1 ≤ z0.1 + 2 ∧ z0.1 ≤ s.t.length) (fun z0 => s.t.length - z0.1) (⟨0,V5,([⟨(some ⟨b1,0,none⟩),2,2,(Sk.stR s.state)⟩,⟨p2,(Sk.liR s.life).length,c2,(Sk.liR s.life)⟩] : List Rc),(some ⟨b3,0,none⟩),2,2,[(b3,.cells #[.slice (some ⟨b1,0,none⟩) 2 2,.slice p2 (Sk.liR s.life).length c2] 22 (0,0))]⟩ : Nat × Vw × List Rc × Option Addr × Nat × Nat × Sg) ⟨rfl,hrs0,hVle,hx0,rfl,Nat.le_refl 2,Nat.zero_le _⟩ ?_
  rintro ⟨i1,V1,xs,p1,n1,k1,q1⟩ ⟨hxb,hrs,hVle,how,hn,hn2,hi⟩
  try dsimp only at hxb hrs hVle how hn hn2 hi ⊢
  refine Zs<|Zs<|Zr<|Zm Z<|Zm Z<|Zv (Y.nilCheck Z)<|Zv (Y.fieldAddr Z Storesb_fo133_1)<|Zv (Y.load Z Storesb_ts79 (Kn.at 0 Z) Z)<|Zv (Y.nilCheck Z)<|Zv (Y.fieldAddr Z Storesb_fo135_0)<|Zv (Y.load Z Storesb_ts59 (Kn.at 2 Z) Z)<|Zv (Y.lenSl Z Storesb_es59)<|Zv (Y.int Z Z Z)<|Ze<|Zg<|?_
  rcases Zsplit (decide ((i1 : Int) < ((s.t.length : Nat) : Int))) with ⟨h6,g6⟩ | ⟨h6,g6⟩ <;> try simp only [kb] at g6
  ·refine Tr.cond_t Z h6<|Zt<|Zg<|Zs<|Zb<|Zs<|Tr.quiet Storesb_mo WK<|ZM Z<|ZV (Y.nilCheck Z)<|ZV (Y.fieldAddr Z Storesb_fo133_1)<|ZV (Y.load Z Storesb_ts79 (Kn.at 0 Z) Z)<|ZV (Y.nilCheck Z)<|ZV (Y.fieldAddr Z Storesb_fo135_0)<|ZV (Y.load Z Storesb_ts59 (Kn.at 2 Z) Z)<|ZM Z<|ZV (Y.idxR i1 Z Z Storesb_es59 (hl.rd 3 rfl) W W)<|?_
   refine ZV (Y.ldRA (vs := [.int .u32 ((s.t.getD i1 Le.dflt).addr),.int .i64 ((s.t.getD i1 Le.dflt).bind),.string ((s.t.getD i1 Le.dflt).client),.int .i64 ((s.t.getD i1 Le.dflt).till),.int .i64 ((s.t.getD i1 Le.dflt).acked),.int .i64 ((s.t.getD i1 Le.dflt).told),.int .i64 ((s.t.getD i1 Le.dflt).at_),.int .i64 ((s.t.getD i1 Le.dflt).ver)]) rfl Storesb_ag49 (hl.rd 3 rfl) rfl WD (fun o ho => flatm_atA Le.len W Le.dflt o ho)) ?_
   refine ZM Z<|ZV (Y.nilCheck Z)<|ZV (Y.fieldAddr Z Storesb_fo133_1)<|ZV (Y.load Z Storesb_ts79 (Kn.at 0 Z) Z)<|ZV (Y.nilCheck Z)<|ZV (Y.fieldAddr Z Storesb_fo135_0)<|ZV (Y.load Z Storesb_ts59 (Kn.at 2 Z) Z)<|ZM Z<|ZV (Y.idxR i1 Z Z Storesb_es59 (hl.rd 3 rfl) W W)<|ZV (Y.fieldR Z Storesb_fo49_0 (hl.rd 3 rfl) W)<|ZV (Y.ldR Z Storesb_ts47 (hl.rd 3 rfl) (flatm_at Le.len W Le.dflt WD rfl))<|?_
   refine RunQ.call0 (l := [.tmp 49,.const (.int .i64 0),.const (.int .i64 0)]) Z Z Z (lt Z) rbare_c_h<|ZV (Y.neS Z Z Storesb_tgs49 Z Z)<|ZE<|Zg<|?_
   rcases Zsplit (Le.same (s.t.getD i1 Le.dflt) (⟨(s.t.getD i1 Le.dflt).addr,0,⟨#[]⟩,0,0,0,0,0⟩ : Le)) with ⟨h7,g7⟩ | ⟨h7,g7⟩ <;> try simp only [kb] at g7
   ·refine Tr.cond_f Z (congrArg Bool.not h7)<|Zt<|Zc<|Zg<|Zr<|Zm Z<|Zv (Y.add Z Z W)<|Za Z<|Ze<|Ex.keep [0,0,0,0,0,0]<|?_
    exact ZR (⟨i1 + 1,V1,xs,p1,n1,k1,q1⟩ : Nat × Vw × List Rc × Option Addr × Nat × Nat × Sg) ⟨by rw [hxb,Sk.recs_no W h7],hrs,hVle,how,hn,by dsimp only; omega,by dsimp only; omega⟩ (by dsimp only; omega)
   ·refine Tr.cond_t Z (congrArg Bool.not h7)<|Zr<|Zm Z<|Zm Z<|Zv (Y.nilCheck Z)<|Zv (Y.fieldAddr Z Storesb_fo133_1)<|Zv (Y.load Z Storesb_ts79 (Kn.at 0 Z) Z)<|Zv (Y.nilCheck Z)<|Zv (Y.fieldAddr Z Storesb_fo135_0)<|Zv (Y.load Z Storesb_ts59 (Kn.at 2 Z) Z)<|Zm Z<|Zv (Y.idxR i1 Z Z Storesb_es59 (hl.rd 3 rfl) W W)<|Zv (Y.ldRA (vs := [.int .u32 ((s.t.getD i1 Le.dflt).addr),.int .i64 ((s.t.getD i1 Le.dflt).bind),.string ((s.t.getD i1 Le.dflt).client),.int .i64 ((s.t.getD i1 Le.dflt).till),.int .i64 ((s.t.getD i1 Le.dflt).acked),.int .i64 ((s.t.getD i1 Le.dflt).told),.int .i64 ((s.t.getD i1 Le.dflt).at_),.int .i64 ((s.t.getD i1 Le.dflt).ver)]) rfl Storesb_ag49 (hl.rd 3 rfl) rfl WD (fun o ho => flatm_atA Le.len W Le.dflt o ho))<|?_
    refine Run.callF (l := [.tmp 62]) rfl rfl rfl (lt rfl) (rlerec_c (q := (s.t.getD i1 Le.dflt)) (hos.at W)) (fun v8 V8 H8 hle8 hR8 => ?_)
    obtain ⟨hV,p8,c8,q8,rfl,ho8,rfl⟩ := hR8; replace hV := hV.symm; subst hV
    refine Run.heapTo (H' := [q8,(cS 133 sx lx tx s),(cL 193 lx dx),[(tx,.cells #[.slice pl s.t.length cl] 135 (0,0))],ql,sd,q1]) Z<|Run.heapTo (H' := [q8,(cS 133 sx lx tx s),(cL 193 lx dx),[(tx,.cells #[.slice pl s.t.length cl] 135 (0,0))],ql,sd,q1]) Z<|?_
    refine Run.keepTo (H' := [q8,(cS 133 sx lx tx s),(cL 193 lx dx),[(tx,.cells #[.slice pl s.t.length cl] 135 (0,0))],ql,sd,q1]) [0,0,0,0,0,0,0] Z ?_
    refine Run.show (fun V9 hle9 hsh9 => ?_)
    have hr9 : Rd V9 [] 1 (.slice p8 (Sk.leR (s.t.getD i1 Le.dflt)).length c8) ((Sk.leR (s.t.getD i1 Le.dflt)).length) ((Sk.leR (s.t.getD i1 Le.dflt)).map byteV) := ho8.show hsh9
    replace hrs := hrs.le hle9
    replace hVle := Vw.le_trans hVle hle9
    refine Run.buildSlice (l := [(0,.tmp 63)]) Storesb_es56 Storesb_zo22 rfl WD rfl rfl WD (lt rfl) (fun b10 => ?_)
    refine Run.append (n := n1) (m := 1) (xs := (xs).flatMap Rc.cell) (ys := [.slice p8 (Sk.leR (s.t.getD i1 Le.dflt)).length c8]) rfl rfl Storesb_es56 Storesb_zi22 WD (j := 6) rfl how (Src.of_rd Storesb_es56 (Rd.one (Kn.at 0 rfl) rfl)) W W rfl (lt rfl) (fun v11 s12 ho13 hf => ?_)
    obtain ⟨p11,c11,rfl⟩ := hf
    replace ho13 := Ow.app1 (f := Rc.cell) (l := xs) (x := (⟨p8,(Sk.leR (s.t.getD i1 Le.dflt)).length,c8,(Sk.leR (s.t.getD i1 Le.dflt))⟩ : Rc)) ho13
    refine Za Z<|Ze<|Zc<|Zg<|Zr<|Zm Z<|Zv (Y.add Z Z W)<|Za Z<|Ze<|Ex.keep [1,1,1,1,1,1]<|?_
    exact ZR (⟨i1 + 1,V9,xs ++ [(⟨p8,(Sk.leR (s.t.getD i1 Le.dflt)).length,c8,(Sk.leR (s.t.getD i1 Le.dflt))⟩ : Rc)],p11,(n1 + 1),c11,s12⟩ : Nat × Vw × List Rc × Option Addr × Nat × Nat × Sg) ⟨by rw [List.map_append,hxb,Sk.recs_yes W h7]; rfl,hrs.snoc hr9,hVle,ho13,by rw [List.length_append,List.length_singleton,← hn],by dsimp only; omega,by omega⟩ (by dsimp only; omega)
  ·refine Tr.cond_f Z h6<|Zx<|Zy<|Zy<|Zi<|Zg<|Zs<|Zr<|?_
   obtain rfl : i1 = s.t.length := by omega
   have hxr : xs.map (·.b) = Sk.recs s := by rw [hxb]; exact (Sk.recs_eq s).symm
   subst hn
   refine Zm Z<|Zv (Y.nilCheck Z)<|Zv (Y.fieldAddr Z Storesb_fo133_0)<|Zv (Y.load Z Storesb_ts129 (Kn.at 0 Z) Z)<|Zm Z<|?_
   refine Run.call [1,3,3] (l := [.tmp 69,.tmp 70]) rfl rfl rfl (lt rfl) (rwcomp_o hin how hrs (by rw [hxr]; exact Sk.recs_ok s) W) (fun v14 V14 H14 hle14 hR14 => ?_)
   rw [hxr] at hR14; obtain ⟨hV,rfl,sd14,hin14,rfl⟩ := hR14; replace hV := hV.symm; subst hV
   refine Run.heapTo (H' := [(cS 133 sx lx tx s),[(tx,.cells #[.slice pl s.t.length cl] 135 (0,0))],ql,(cL 193 lx dx),sd14]) Z<|Run.heapTo (H' := [(cS 133 sx lx tx s),[(tx,.cells #[.slice pl s.t.length cl] 135 (0,0))],ql,(cL 193 lx dx),sd14]) Z<|?_
   refine Za Z<|Ze<|Zg<|Zu<|Ex.keepTo (H' := [(cS 133 sx lx tx s),(cL 193 lx dx),[(tx,.cells #[.slice pl s.t.length cl] 135 (0,0))],ql,sd14]) [0,2,0,0,0] Z<|Ex.recut (H' := [(cS 133 sx lx tx s),(cL 193 lx dx),([[(tx,.cells #[.slice pl s.t.length cl] 135 (0,0))],ql] : Hp).flatten,sd14]) (List.Perm.of_eq (by simp))<|?_
   exact Ex.ret1 rfl rfl  ⟨hVle,rfl,_,hin14,rfl⟩
 ·refine Run.callF (l := [.tmp 14]) rfl rfl rfl (lt rfl) (rlirec_c (n := s.life) W) (fun v15 V15 H15 hle15 hR15 => ?_)
  obtain ⟨hV,p15,c15,q15,rfl,ho15,rfl⟩ := hR15; replace hV := hV.symm; subst hV
  refine Run.heapTo (H' := [q15,(cS 133 sx lx tx s),(cL 193 lx dx),[(tx,.cells #[.slice pl s.t.length cl] 135 (0,0))],ql,sd]) Z<|Run.heapTo (H' := [q15,(cS 133 sx lx tx s),(cL 193 lx dx),[(tx,.cells #[.slice pl s.t.length cl] 135 (0,0))],ql,sd]) Z<|?_
  refine Ze<|Ex.anyD (ZK 1 Z)<|?_
  refine RunD.one (i := 5) WK rfl  ?_
  refine Run.buildSlice (l := [(0,.const (.int .u8 83)),(1,.tmp 9)]) Storesb_es22 Storesb_zo5 rfl WD rfl rfl WD (lt rfl) (fun b16 => ?_)
  refine Ze<|Ex.anyD (ZK 2 Z)<|?_
  refine RunD.one (i := 11) WK rfl  ?_
  refine Run.buildSlice (l := [(0,.tmp 10),(1,.tmp 15)]) Storesb_es56 Storesb_zo22 rfl WD rfl rfl WD (lt rfl) (fun b17 => ?_)
  refine Ze<|Ex.anyD (ZK 3 Z)<|RunD.pure (i := 12) rfl WK WK WK (fun _ _ _ h => h) (lt rfl) (ZK 3 Z) (fun _ => (Y.assign rfl))<|RunD.done WK<|Zg<|Zs<|Zs<|Zr<|?_
  have h9 := Ow.lit (e := 5) (k := 1) (b := b16) (n := 2) (cur := #[.int .u8 83,.int .u8 s.state]) rfl WD
  rw [show (#[.int .u8 83,.int .u8 s.state] : Array Value).toList = (Sk.stR s.state).map byteV from Sk.stR_cells W] at h9
  refine Run.keepTo (H' := [[(b16,.cells #[.int .u8 83,.int .u8 s.state] 5 (0,0))],[(b17,.cells #[.slice (some ⟨b16,0,none⟩) 2 2,.slice p15 (Sk.liR s.life).length c15] 22 (0,0))],q15,(cS 133 sx lx tx s),(cL 193 lx dx),[(tx,.cells #[.slice pl s.t.length cl] 135 (0,0))],ql,sd]) [1,0,0,0,0,0,0,0] Z ?_
  refine Run.show (fun V18 hle18 hsh18 => ?_)
  have hr0 : Rd V18 [] 1 (.slice (some ⟨b16,0,none⟩) 2 2) (2) ((Sk.stR s.state).map byteV) := h9.show hsh18
  have hVle := hle18
  refine Run.keepTo (H' := [q15,[(b17,.cells #[.slice (some ⟨b16,0,none⟩) 2 2,.slice p15 (Sk.liR s.life).length c15] 22 (0,0))],(cS 133 sx lx tx s),(cL 193 lx dx),[(tx,.cells #[.slice pl s.t.length cl] 135 (0,0))],ql,sd]) [1,0,0,0,0,0,0] Z ?_
  refine Run.show (fun V19 hle19 hsh19 => ?_)
  have hr1 : Rd V19 [] 1 (.slice p15 (Sk.liR s.life).length c15) ((Sk.liR s.life).length) ((Sk.liR s.life).map byteV) := ho15.show hsh19
  replace hr0 := hr0.le hle19
  replace hVle := Vw.le_trans hVle hle19
  have hx0 : Ow 22 1 (.slice (some ⟨b17,0,none⟩) 2 2) 2 (([⟨(some ⟨b16,0,none⟩),2,2,(Sk.stR s.state)⟩,⟨p15,(Sk.liR s.life).length,c15,(Sk.liR s.life)⟩] : List Rc).flatMap Rc.cell) [(b17,.cells #[.slice (some ⟨b16,0,none⟩) 2 2,.slice p15 (Sk.liR s.life).length c15] 22 (0,0))] := Ow.lit (cur := #[.slice (some ⟨b16,0,none⟩) 2 2,.slice p15 (Sk.liR s.life).length c15]) rfl WD
  have hrs0 : Rc.Rs V19 ([⟨(some ⟨b16,0,none⟩),2,2,(Sk.stR s.state)⟩,⟨p15,(Sk.liR s.life).length,c15,(Sk.liR s.life)⟩] : List Rc) := ((Rc.Rs.nil _).snoc hr0).snoc hr1
  refine Run.keepTo (H' := [(cS 133 sx lx tx s),(cL 193 lx dx),[(tx,.cells #[.slice pl s.t.length cl] 135 (0,0))],ql,sd,[(b17,.cells #[.slice (some ⟨b16,0,none⟩) 2 2,.slice p15 (Sk.liR s.life).length c15] 22 (0,0))]]) [1,1,1,1,1,0] Z<|Za Z<|Ze<|Zg<|?_
  refine Zb ?_
  refine ZL (X := Nat × Vw × List Rc × Option Addr × Nat × Nat × Sg) (fun z0 => z0.2.1) (fun z0 => [(cS 133 sx lx tx s),(cL 193 lx dx),[(tx,.cells #[.slice pl s.t.length cl] 135 (0,0))],ql,sd,z0.2.2.2.2.2.2]) (fun z0 => [(0,(pZ sx)),(3,.slice z0.2.2.2.1 z0.2.2.2.2.1 z0.2.2.2.2.2.1),(4,.int .i64 (z0.1 : Int))]) (fun z0 => z0.2.2.1.map (·.b) = Sk.stR s.state :: Sk.liR s.life :: (((s.t.take z0.1).filter fun q => !Sk.plain q).map Sk.leR) ∧ Rc.Rs z0.2.1 z0.2.2.1 ∧ V.le z0.2.1 ∧ Ow 22 1 (.slice z0.2.2.2.1 z0.2.2.2.2.1 z0.2.2.2.2.2.1) z0.2.2.2.2.1 (z0.2.2.1.flatMap Rc.cell) z0.2.2.2.2.2.2 ∧ z0.2.2.2.2.1 = z0.2.2.1.length ∧ z0.2.2.2.2.1 ≤ z0.1 + 2 ∧ z0.1 ≤ s.t.length) (fun z0 => s.t.length - z0.1) (⟨0,V19,([⟨(some ⟨b16,0,none⟩),2,2,(Sk.stR s.state)⟩,⟨p15,(Sk.liR s.life).length,c15,(Sk.liR s.life)⟩] : List Rc),(some ⟨b17,0,none⟩),2,2,[(b17,.cells #[.slice (some ⟨b16,0,none⟩) 2 2,.slice p15 (Sk.liR s.life).length c15] 22 (0,0))]⟩ : Nat × Vw × List Rc × Option Addr × Nat × Nat × Sg) ⟨rfl,hrs0,hVle,hx0,rfl,Nat.le_refl 2,Nat.zero_le _⟩ ?_
  rintro ⟨i1,V1,xs,p1,n1,k1,q1⟩ ⟨hxb,hrs,hVle,how,hn,hn2,hi⟩
  try dsimp only at hxb hrs hVle how hn hn2 hi ⊢
  refine Zs<|Zs<|Zr<|Zm Z<|Zm Z<|Zv (Y.nilCheck Z)<|Zv (Y.fieldAddr Z Storesb_fo133_1)<|Zv (Y.load Z Storesb_ts79 (Kn.at 0 Z) Z)<|Zv (Y.nilCheck Z)<|Zv (Y.fieldAddr Z Storesb_fo135_0)<|Zv (Y.load Z Storesb_ts59 (Kn.at 2 Z) Z)<|Zv (Y.lenSl Z Storesb_es59)<|Zv (Y.int Z Z Z)<|Ze<|Zg<|?_
  rcases Zsplit (decide ((i1 : Int) < ((s.t.length : Nat) : Int))) with ⟨h20,g20⟩ | ⟨h20,g20⟩ <;> try simp only [kb] at g20
  ·refine Tr.cond_t Z h20<|Zt<|Zg<|Zs<|Zb<|Zs<|Tr.quiet Storesb_mo WK<|ZM Z<|ZV (Y.nilCheck Z)<|ZV (Y.fieldAddr Z Storesb_fo133_1)<|ZV (Y.load Z Storesb_ts79 (Kn.at 0 Z) Z)<|ZV (Y.nilCheck Z)<|ZV (Y.fieldAddr Z Storesb_fo135_0)<|ZV (Y.load Z Storesb_ts59 (Kn.at 2 Z) Z)<|ZM Z<|ZV (Y.idxR i1 Z Z Storesb_es59 (hl.rd 3 rfl) W W)<|?_
   refine ZV (Y.ldRA (vs := [.int .u32 ((s.t.getD i1 Le.dflt).addr),.int .i64 ((s.t.getD i1 Le.dflt).bind),.string ((s.t.getD i1 Le.dflt).client),.int .i64 ((s.t.getD i1 Le.dflt).till),.int .i64 ((s.t.getD i1 Le.dflt).acked),.int .i64 ((s.t.getD i1 Le.dflt).told),.int .i64 ((s.t.getD i1 Le.dflt).at_),.int .i64 ((s.t.getD i1 Le.dflt).ver)]) rfl Storesb_ag49 (hl.rd 3 rfl) rfl WD (fun o ho => flatm_atA Le.len W Le.dflt o ho)) ?_
   refine ZM Z<|ZV (Y.nilCheck Z)<|ZV (Y.fieldAddr Z Storesb_fo133_1)<|ZV (Y.load Z Storesb_ts79 (Kn.at 0 Z) Z)<|ZV (Y.nilCheck Z)<|ZV (Y.fieldAddr Z Storesb_fo135_0)<|ZV (Y.load Z Storesb_ts59 (Kn.at 2 Z) Z)<|ZM Z<|ZV (Y.idxR i1 Z Z Storesb_es59 (hl.rd 3 rfl) W W)<|ZV (Y.fieldR Z Storesb_fo49_0 (hl.rd 3 rfl) W)<|ZV (Y.ldR Z Storesb_ts47 (hl.rd 3 rfl) (flatm_at Le.len W Le.dflt WD rfl))<|?_
   refine RunQ.call0 (l := [.tmp 49,.const (.int .i64 0),.const (.int .i64 0)]) Z Z Z (lt Z) rbare_c_h<|ZV (Y.neS Z Z Storesb_tgs49 Z Z)<|ZE<|Zg<|?_
   rcases Zsplit (Le.same (s.t.getD i1 Le.dflt) (⟨(s.t.getD i1 Le.dflt).addr,0,⟨#[]⟩,0,0,0,0,0⟩ : Le)) with ⟨h21,g21⟩ | ⟨h21,g21⟩ <;> try simp only [kb] at g21
   ·refine Tr.cond_f Z (congrArg Bool.not h21)<|Zt<|Zc<|Zg<|Zr<|Zm Z<|Zv (Y.add Z Z W)<|Za Z<|Ze<|Ex.keep [0,0,0,0,0,0]<|?_
    exact ZR (⟨i1 + 1,V1,xs,p1,n1,k1,q1⟩ : Nat × Vw × List Rc × Option Addr × Nat × Nat × Sg) ⟨by rw [hxb,Sk.recs_no W h21],hrs,hVle,how,hn,by dsimp only; omega,by dsimp only; omega⟩ (by dsimp only; omega)
   ·refine Tr.cond_t Z (congrArg Bool.not h21)<|Zr<|Zm Z<|Zm Z<|Zv (Y.nilCheck Z)<|Zv (Y.fieldAddr Z Storesb_fo133_1)<|Zv (Y.load Z Storesb_ts79 (Kn.at 0 Z) Z)<|Zv (Y.nilCheck Z)<|Zv (Y.fieldAddr Z Storesb_fo135_0)<|Zv (Y.load Z Storesb_ts59 (Kn.at 2 Z) Z)<|Zm Z<|Zv (Y.idxR i1 Z Z Storesb_es59 (hl.rd 3 rfl) W W)<|Zv (Y.ldRA (vs := [.int .u32 ((s.t.getD i1 Le.dflt).addr),.int .i64 ((s.t.getD i1 Le.dflt).bind),.string ((s.t.getD i1 Le.dflt).client),.int .i64 ((s.t.getD i1 Le.dflt).till),.int .i64 ((s.t.getD i1 Le.dflt).acked),.int .i64 ((s.t.getD i1 Le.dflt).told),.int .i64 ((s.t.getD i1 Le.dflt).at_),.int .i64 ((s.t.getD i1 Le.dflt).ver)]) rfl Storesb_ag49 (hl.rd 3 rfl) rfl WD (fun o ho => flatm_atA Le.len W Le.dflt o ho))<|?_
    refine Run.callF (l := [.tmp 62]) rfl rfl rfl (lt rfl) (rlerec_c (q := (s.t.getD i1 Le.dflt)) (hos.at W)) (fun v22 V22 H22 hle22 hR22 => ?_)
    obtain ⟨hV,p22,c22,q22,rfl,ho22,rfl⟩ := hR22; replace hV := hV.symm; subst hV
    refine Run.heapTo (H' := [q22,(cS 133 sx lx tx s),(cL 193 lx dx),[(tx,.cells #[.slice pl s.t.length cl] 135 (0,0))],ql,sd,q1]) Z<|Run.heapTo (H' := [q22,(cS 133 sx lx tx s),(cL 193 lx dx),[(tx,.cells #[.slice pl s.t.length cl] 135 (0,0))],ql,sd,q1]) Z<|?_
    refine Run.keepTo (H' := [q22,(cS 133 sx lx tx s),(cL 193 lx dx),[(tx,.cells #[.slice pl s.t.length cl] 135 (0,0))],ql,sd,q1]) [0,0,0,0,0,0,0] Z ?_
    refine Run.show (fun V23 hle23 hsh23 => ?_)
    have hr9 : Rd V23 [] 1 (.slice p22 (Sk.leR (s.t.getD i1 Le.dflt)).length c22) ((Sk.leR (s.t.getD i1 Le.dflt)).length) ((Sk.leR (s.t.getD i1 Le.dflt)).map byteV) := ho22.show hsh23
    replace hrs := hrs.le hle23
    replace hVle := Vw.le_trans hVle hle23
    refine Run.buildSlice (l := [(0,.tmp 63)]) Storesb_es56 Storesb_zo22 rfl WD rfl rfl WD (lt rfl) (fun b24 => ?_)
    refine Run.append (n := n1) (m := 1) (xs := (xs).flatMap Rc.cell) (ys := [.slice p22 (Sk.leR (s.t.getD i1 Le.dflt)).length c22]) rfl rfl Storesb_es56 Storesb_zi22 WD (j := 6) rfl how (Src.of_rd Storesb_es56 (Rd.one (Kn.at 0 rfl) rfl)) W W rfl (lt rfl) (fun v25 s26 ho27 hf => ?_)
    obtain ⟨p25,c25,rfl⟩ := hf
    replace ho27 := Ow.app1 (f := Rc.cell) (l := xs) (x := (⟨p22,(Sk.leR (s.t.getD i1 Le.dflt)).length,c22,(Sk.leR (s.t.getD i1 Le.dflt))⟩ : Rc)) ho27
    refine Za Z<|Ze<|Zc<|Zg<|Zr<|Zm Z<|Zv (Y.add Z Z W)<|Za Z<|Ze<|Ex.keep [1,1,1,1,1,1]<|?_
    exact ZR (⟨i1 + 1,V23,xs ++ [(⟨p22,(Sk.leR (s.t.getD i1 Le.dflt)).length,c22,(Sk.leR (s.t.getD i1 Le.dflt))⟩ : Rc)],p25,(n1 + 1),c25,s26⟩ : Nat × Vw × List Rc × Option Addr × Nat × Nat × Sg) ⟨by rw [List.map_append,hxb,Sk.recs_yes W h21]; rfl,hrs.snoc hr9,hVle,ho27,by rw [List.length_append,List.length_singleton,← hn],by dsimp only; omega,by omega⟩ (by dsimp only; omega)
  ·refine Tr.cond_f Z h20<|Zx<|Zy<|Zy<|Zi<|Zg<|Zs<|Zr<|?_
   obtain rfl : i1 = s.t.length := by omega
   have hxr : xs.map (·.b) = Sk.recs s := by rw [hxb]; exact (Sk.recs_eq s).symm
   subst hn
   refine Zm Z<|Zv (Y.nilCheck Z)<|Zv (Y.fieldAddr Z Storesb_fo133_0)<|Zv (Y.load Z Storesb_ts129 (Kn.at 0 Z) Z)<|Zm Z<|?_
   refine Run.call [1,3,3] (l := [.tmp 69,.tmp 70]) rfl rfl rfl (lt rfl) (rwcomp_o hin how hrs (by rw [hxr]; exact Sk.recs_ok s) W) (fun v28 V28 H28 hle28 hR28 => ?_)
   rw [hxr] at hR28; obtain ⟨hV,rfl,sd28,hin28,rfl⟩ := hR28; replace hV := hV.symm; subst hV
   refine Run.heapTo (H' := [(cS 133 sx lx tx s),[(tx,.cells #[.slice pl s.t.length cl] 135 (0,0))],ql,(cL 193 lx dx),sd28]) Z<|Run.heapTo (H' := [(cS 133 sx lx tx s),[(tx,.cells #[.slice pl s.t.length cl] 135 (0,0))],ql,(cL 193 lx dx),sd28]) Z<|?_
   refine Za Z<|Ze<|Zg<|Zu<|Ex.keepTo (H' := [(cS 133 sx lx tx s),(cL 193 lx dx),[(tx,.cells #[.slice pl s.t.length cl] 135 (0,0))],ql,sd28]) [0,2,0,0,0] Z<|Ex.recut (H' := [(cS 133 sx lx tx s),(cL 193 lx dx),([[(tx,.cells #[.slice pl s.t.length cl] 135 (0,0))],ql] : Hp).flatten,sd28]) (List.Perm.of_eq (by simp))<|?_
   exact Ex.ret1 rfl rfl  ⟨hVle,rfl,_,hin28,rfl⟩
theorem comp_o {V : Vw} {d : Dk} {dx : Nat} {sd : Sg} (hin : Dk.In 116 d dx sd) {s : Sk} (hs : s.Ok) {sx lx tx : Nat} {st : Sg} (ht : Le.In 149 s.t tx st) (hos : s.Os) : Does Tryz.prog 31 [(pZ sx)] V [(cS 123 sx lx tx s),(cL 187 lx dx),st,sd] (fun v V' H' => V' = V ∧ v = .int .i64 (Sk.compact d s).2 ∧ ∃ st2 sd2,Le.In 149 s.t tx st2 ∧ Dk.In 116 (Sk.compact d s).1 dx sd2 ∧ H' = [(cS 123 sx lx tx (s)),(cL 187 lx dx),st2,sd2]) := (comp_c hin hs ht hos).forget fun v V' H' _ h => ⟨rfl,h.2⟩
theorem rcomp_o {V : Vw} {d : Dk} {dx : Nat} {sd : Sg} (hin : Dk.In 54 d dx sd) {s : Sk} (hs : s.Ok) {sx lx tx : Nat} {st : Sg} (ht : Le.Rin s.t tx st) (hos : s.Os) : Does Tryz.prog 79 [(pZ sx)] V [(cS 133 sx lx tx s),(cL 193 lx dx),st,sd] (fun v V' H' => V' = V ∧ v = .int .i64 (Sk.compact d s).2 ∧ ∃ st2 sd2,Le.Rin s.t tx st2 ∧ Dk.In 54 (Sk.compact d s).1 dx sd2 ∧ H' = [(cS 133 sx lx tx (s)),(cL 193 lx dx),st2,sd2]) := by
  obtain ⟨hr,hlm,pl,cl,ql,hl,rfl⟩ := id ht
  refine (((rcomp_c (tx := tx) hin hs hl hos).recut (H' := [(cS 133 sx lx tx s),(cL 193 lx dx),([[(tx,.cells #[.slice pl s.t.length cl] 135 (0,0))],ql] : Hp).flatten,sd]) (List.Perm.of_eq (by simp))).forget (R' := fun v V' H' => V' = V ∧ v = .int .i64 (Sk.compact d s).2 ∧ ∃ sd2,Dk.In 54 (Sk.compact d s).1 dx sd2 ∧ H' = [(cS 133 sx lx tx (s)),(cL 193 lx dx),([[(tx,.cells #[.slice pl s.t.length cl] 135 (0,0))],ql] : Hp).flatten,sd2]) fun v V' H' _ h => ⟨rfl,h.2⟩).mono ?_
  rintro v V' H' ⟨hV,hv,sd2,h2,hH⟩
  exact ⟨hV,hv,_,sd2,ht,h2,hH⟩
theorem do_h {V : Vw} {bs : Bts} {v : Value} {n : Nat} (hv : Rd V [] 1 v n (bs.map byteV)) (hok : Fr.okR bs) {s : Sk} {sx lx tx : Nat} {st : Sg} (ht : Le.In 149 s.t tx st) : Does Tryz.prog 70 [(pZ sx),v] V [(cS 123 sx lx tx s),st] (fun _ V' H' => V' = V ∧ ∃ st2,Le.In 149 (s.doR bs).t tx st2 ∧ H' = [(cS 123 sx lx tx (s.doR bs)),st2]) := by
  obtain rfl := hv.lenB
  obtain ⟨p,c,rfl,_⟩ := hv.form
  exact do_c hv hok ht
theorem rdo_h {V : Vw} {bs : Bts} {v : Value} {n : Nat} (hv : Rd V [] 1 v n (bs.map byteV)) (hok : Fr.okR bs) {s : Sk} {sx lx tx : Nat} {st : Sg} (ht : Le.Rin s.t tx st) : Does Tryz.prog 74 [(pZ sx),v] V [(cS 133 sx lx tx s),st] (fun _ V' H' => V' = V ∧ ∃ st2,Le.Rin (s.doR bs).t tx st2 ∧ H' = [(cS 133 sx lx tx (s.doR bs)),st2]) := by
  obtain rfl := hv.lenB
  obtain ⟨p,c,rfl,_⟩ := hv.form
  exact rdo_c hv hok ht
theorem each_c {V : Vw} {xs : List Rc} {p : Option Addr} {c : Nat} {qx : Sg} (hx : Ow 22 1 (.slice p xs.length c) xs.length (xs.flatMap Rc.cell) qx) (hrs : Rc.Rs V xs) (hok : ∀ b,b ∈ xs.map (·.b) → Fr.okR b) (hl : xs.length ≤ 1000000) {s0 : Sk} {sx lx tx : Nat} {st : Sg} (ht : Le.In 149 s0.t tx st)  : Does Tryz.prog 68 [.slice p xs.length c,.func (.func 70) #[(pZ sx)] #[]] V [(cS 123 sx lx tx s0),st,qx] (fun _ V' H' => V' = V ∧ ∃ st2,Le.In 149 (s0.replay (xs.map (·.b))).t tx st2 ∧ H' = [(cS 123 sx lx tx (s0.replay (xs.map (·.b)))),st2]) := by
 refine Does.intro Tryz.func68 rfl rfl (le rfl) (fun B => ?_)
 refine Zs<|Zr<|Zm Z<|Zv (Y.lenSl Z Storesb_es56)<|Zm Z<|Ze<|Zg<|Zb<|?_
 refine ZL (X := Nat × Sg) (fun z0 => V) (fun z0 => [(cS 123 sx lx tx (s0.replay ((xs.map fun (x : Rc) => x.b).take z0.1))),z0.2,qx]) (fun z0 => [(1,.func (.func 70) #[(pZ sx)] #[]),(6,.slice p xs.length c),(7,.int .i64 ((xs.length : Nat) : Int)),(8,.int .i64 (z0.1 : Int))]) (fun z0 => Le.In 149 (s0.replay ((xs.map fun (x : Rc) => x.b).take z0.1)).t tx z0.2 ∧ z0.1 ≤ xs.length) (fun z0 => xs.length - z0.1) (⟨0,st⟩ : Nat × Sg) ⟨ht,Nat.zero_le _⟩ ?_
 rintro ⟨i1,s1⟩ ⟨ht1,hi⟩
 try dsimp only at ht1 hi ⊢
 refine Zs<|Zr<|Zv (Y.int Z Z Z)<|Ze<|Zg<|Zs<|?_
 rcases Zsplit (decide ((i1 : Int) < ((xs.length : Nat) : Int))) with ⟨h1,g1⟩ | ⟨h1,g1⟩ <;> try simp only [kb] at g1
 ·refine Tr.cond_t Z h1<|Zt<|Zg<|Zs<|Zb<|Zs<|Zr<|Zv (Y.idxR i1 Z Z Storesb_es56 (hx.rd 2 rfl) W W)<|Zv (Y.ldR Z Storesb_ts22 (hx.rd 2 rfl) (flatm_at0 Rc.len W Rc.dflt WD rfl))<|Za Z<|Ze<|Zg<|Zr<|Zm Z<|Zm Z<|?_
  have hrb : Fr.okR (xs.getD i1 Rc.dflt).b := hok _ (by rw [← Rc.getD_b]; exact getD_mem' (by rw [List.length_map]; omega) _)
  refine Run.call [0,0] (l := [.tmp 13]) rfl rfl rfl (lt rfl) (do_h (s := s0.replay ((xs.map fun (x : Rc) => x.b).take i1)) (lx := lx) (hrs.at W) hrb ht1) (fun v2 V2 H2 hle2 hR2 => ?_)
  obtain ⟨hV,s2,ht2,rfl⟩ := hR2; replace hV := hV.symm; subst hV
  have er : s0.replay ((xs.map fun (x : Rc) => x.b).take (i1 + 1)) = (s0.replay ((xs.map fun (x : Rc) => x.b).take i1)).doR (xs.getD i1 Rc.dflt).b := by rw [Sk.replay_take (by rw [List.length_map]; omega),Rc.getD_b]
  rw [← er] at ht2; rw [← er]
  refine Run.heapTo (H' := [qx,(cS 123 sx lx tx (s0.replay ((xs.map fun (x : Rc) => x.b).take (i1 + 1)))),s2]) rfl<|Run.heapTo (H' := [qx,(cS 123 sx lx tx (s0.replay ((xs.map fun (x : Rc) => x.b).take (i1 + 1)))),s2]) rfl<|?_
  refine Ze<|Zc<|Zg<|Zr<|Zv (Y.add Z Z W)<|Zm Z<|Ze<|Ex.keep [1,1,0]<|?_
  exact ZR (⟨i1 + 1,s2⟩ : Nat × Sg) ⟨ht2,by omega⟩ (by dsimp only; omega)
 ·refine Tr.cond_f Z h1<|Zx<|Zy<|Zy<|Zi<|?_
  obtain rfl : i1 = xs.length := by omega
  have et : (xs.map (·.b)).take xs.length = xs.map (·.b) := List.take_of_length_le (by rw [List.length_map]; exact Nat.le_refl _)
  rw [et] at ht1; rw [et]
  refine Ex.keepTo (H' := [(cS 123 sx lx tx (s0.replay (xs.map (·.b)))),s1]) [0,0] Z ?_
  exact Ex.end0 rfl ⟨rfl,s1,ht1,rfl⟩
theorem rwopen_o {V : Vw} {d : Dk} {dx : Nat} {sd : Sg} (hin : Dk.In 54 d dx sd) : Does Tryz.prog 72 [(pZ dx)] V [sd] (fun v V' H' => V.le V' ∧ ∃ s2,Dk.In 54 (Sk.cutD d).1 dx s2 ∧ ((Sk.cutD d).2 ≠ 0 ∧ v = .tuple #[.pointer none,.int .i64 (Sk.cutD d).2] ∧ H' = [s2] ∨ (Sk.cutD d).2 = 0 ∧ ∃ lx,v = .tuple #[(pZ lx),.int .i64 0] ∧ H' = [(cL 193 lx dx),s2])) := by
  obtain ⟨hd,pd,cd,qd,ho,rfl⟩ := hin
  exact (rwopen_c hd ho).one
theorem rwrecs_o {V : Vw} {d : Dk} {dx : Nat} {sd : Sg} (hin : Dk.In 54 d dx sd) {lx : Nat} : Does Tryz.prog 73 [(pZ lx)] V [(cL 193 lx dx),sd] (fun v V' H' => V.le V' ∧ ∃ xs p c q,v = .slice p xs.length c ∧ xs.map (·.b) = (Fr.scan d.bs).1 ∧ Rc.Rs V' xs ∧ Ow 22 1 (.slice p xs.length c) xs.length (xs.flatMap Rc.cell) q ∧ H' = [q,(cL 193 lx dx),sd]) := by
  obtain ⟨hd,pd,cd,qd,ho,rfl⟩ := hin
  exact (rwrecs_c hd ho).recut (List.Perm.of_eq (by simp))
theorem open_c {V : Vw} {d : Dk} {dx : Nat} {sd : Sg} (hin : Dk.In 116 d dx sd) {rs : List Rg} {p : Option Addr} {c : Nat} (hv : Rd V [] 2 (.slice p rs.length c) rs.length (rs.flatMap Rg.cells)) (hlm : rs.length ≤ 1000) (hok : Rg.Oks rs)  : Does Tryz.prog 19 [(pZ dx),.slice p rs.length c] V [sd] (fun v V' H' => V.le V' ∧ ∃ sd2,((Rg.pool rs).2 ≠ 0 ∧ v = .tuple #[.pointer none,.int .i64 (Rg.pool rs).2] ∧ Dk.In 116 d dx sd2 ∧ H' = [sd2] ∨ (Rg.pool rs).2 = 0 ∧ (Sk.cutD d).2 ≠ 0 ∧ v = .tuple #[.pointer none,.int .i64 (Sk.cutD d).2] ∧ Dk.In 116 (Sk.cutD d).1 dx sd2 ∧ H' = [sd2] ∨ (Rg.pool rs).2 = 0 ∧ (Sk.cutD d).2 = 0 ∧ ∃ sx lx tx st2,v = .tuple #[(pZ sx),.int .i64 0] ∧ Le.In 149 (Sk.opened rs (Sk.cutD d).1.bs).t tx st2 ∧ Dk.In 116 (Sk.cutD d).1 dx sd2 ∧ H' = [(cS 123 sx lx tx (Sk.opened rs (Sk.cutD d).1.bs)),(cL 187 lx dx),st2,sd2])) := by
 refine Does.intro Tryz.func19 rfl rfl (le rfl) (fun B => ?_)
 refine Zs<|Zr<|Za Z<|Za Z<|Ze<|Zg<|Zs<|Zr<|Zm Z<|?_
 refine Run.callF (l := [.tmp 11]) rfl rfl rfl (lt rfl) (new_t hv hlm hok) (fun v1 V1 H1 hle1 hR1 => ?_)
 rcases hR1 with ⟨_,⟨hpn,rfl,rfl⟩ | ⟨hp0,tx,st0,rfl,ht0,rfl⟩⟩
 ·replace hv := hv.le hle1
  have hVle := hle1
  refine Run.heapTo (H' := [sd]) Z<|Zm Z<|Zv (Y.extract Z Z)<|Zv (Y.extract Z Z)<|Za Z<|Za Z<|Ze<|Zg<|Zs<|Zs<|Zr<|Zm Z<|Zv (Y.int Z Z Z)<|Ze<|Zg<|Tr.cond_t Z (bne_iff_ne.2 hpn)<|?_
  refine Zs<|Zr<|Zm Z<|Za Z<|Za Z<|Ze<|Zg<|Zu<|Zn<|Ex.keepTo (H' := [sd]) [0] Z<|?_
  exact Ex.ret2 rfl rfl rfl  ⟨hVle,_,.inl ⟨hpn,rfl,hin,rfl⟩⟩
 ·replace hv := hv.le hle1
  have hVle := hle1
  obtain ⟨hcan,hcnt⟩ := Rg.pool_can hp0
  have hup := Rg.adr_up hcan
  have hce := Rg.cnt_adr hcan.1
  refine Run.heapTo (H' := [st0,sd]) Z<|Zm Z<|Zv (Y.extract Z Z)<|Zv (Y.extract Z Z)<|Za Z<|Za Z<|Ze<|Zg<|Zs<|Zs<|Zr<|Zm Z<|Zv (Y.int (r := .bool false) Z Z Z)<|Ze<|Zg<|Tr.cond_f Z Z<|?_
  refine Zt<|Zg<|Zs<|Zr<|Zm Z<|?_
  refine Run.call [1] (l := [.tmp 19]) rfl rfl rfl (lt rfl) (wopen_c hin) (fun v2 V2 H2 hle2 hR2 => ?_)
  obtain ⟨_,sd9,hin9,⟨hc9,rfl,rfl⟩ | ⟨hc9,lx,rfl,rfl⟩⟩ := hR2
  ·replace hv := hv.le hle2
   replace hVle := Vw.le_trans hVle hle2
   refine Run.heapTo (H' := [st0,sd9]) Z<|Zm Z<|Zv (Y.extract Z Z)<|Zv (Y.extract Z Z)<|Za Z<|Za Z<|Ze<|Zg<|Zs<|Zs<|Zr<|Zm Z<|Zv (Y.int Z Z Z)<|Ze<|Zg<|Tr.cond_t Z (bne_iff_ne.2 hc9)<|?_
   refine Zs<|Zr<|Zm Z<|Za Z<|Za Z<|Ze<|Zg<|Zu<|Zn<|Ex.keepTo (H' := [sd9]) [1] Z<|?_
   exact Ex.ret2 rfl rfl rfl  ⟨hVle,_,.inr (.inl ⟨hp0,hc9,rfl,hin9,rfl⟩)⟩
  ·replace hv := hv.le hle2
   replace hVle := Vw.le_trans hVle hle2
   refine Run.heapTo (H' := [st0,(cL 187 lx dx),sd9]) Z<|Zm Z<|Zv (Y.extract Z Z)<|Zv (Y.extract Z Z)<|Za Z<|Za Z<|Ze<|Zg<|Zs<|Zs<|Zr<|Zm Z<|Zv (Y.int (r := .bool false) Z Z Z)<|Ze<|Zg<|Tr.cond_f Z Z<|?_
   refine Zt<|Zg<|Zs<|Zr<|Zm Z<|Zm Z<|Zv (Y.buildS (l := [(0,.tmp 26),(1,.tmp 27)]) Storesb_zo123 Storesb_pl123 Z Z)<|?_
   refine Run.box rfl (lt rfl) (fun b3 => ?_)
   refine Za Z<|Ze<|Zg<|Zs<|Zr<|?_
   obtain ⟨s0,hs0⟩ : ∃ z,z = Sk.new (Rg.adr (Rg.pool rs).1) := ⟨_,rfl⟩
   have ht00 : Le.In 149 s0.t tx st0 := by rw [hs0]; exact ht0
   obtain ⟨sx,hsx⟩ : ∃ z : Nat,z = b3 := ⟨_,rfl⟩
   refine Run.heapTo (H' := [(cS 123 sx lx tx s0),st0,(cL 187 lx dx),sd9]) (by rw [hsx,hs0]; rfl) ?_
   rw [← hsx]
   refine Zm Z ?_
   refine Run.call [2,2] (l := [.tmp 30]) rfl rfl rfl (lt rfl) (wrecs_c hin9) (fun v4 V4 H4 hle4 hR4 => ?_)
   obtain ⟨_,xs,px,cx,qx,rfl,hxs,hrs,hox,rfl⟩ := hR4
   replace hv := hv.le hle4
   replace hVle := Vw.le_trans hVle hle4
   have hokx : ∀ b,b ∈ xs.map (·.b) → Fr.okR b := by rw [hxs]; exact (Fr.scan_is _).2
   have hxf := Fr.scan_few (Sk.cutD d).1.bs
   have hxl : xs.length ≤ 1000000 := Sk.few_recs hin9.1 (by rw [← hxs,List.length_map])
   refine Run.heapTo (H' := [(cS 123 sx lx tx s0),st0,qx,(cL 187 lx dx),sd9]) Z<|Run.heapTo (H' := [(cS 123 sx lx tx s0),st0,qx,(cL 187 lx dx),sd9]) Z<|?_
   refine Zm Z<|Zv (Y.makeFunc (l := [.tmp 32]) (l' := []) Z Z)<|?_
   refine Run.call [0,0,0] (l := [.tmp 31,.tmp 33]) rfl rfl rfl (lt rfl) (each_c (s0 := s0) (lx := lx) hox hrs hokx hxl ht00) (fun v5 V5 H5 hle5 hR5 => ?_)
   obtain ⟨hV,stz,htz,rfl⟩ := hR5; replace hV := hV.symm; subst hV
   refine Run.heapTo (H' := [(cL 187 lx dx),sd9,(cS 123 sx lx tx (s0.replay (xs.map (·.b)))),stz]) Z<|Run.heapTo (H' := [(cL 187 lx dx),sd9,(cS 123 sx lx tx (s0.replay (xs.map (·.b)))),stz]) Z<|?_
   refine Ze<|Zg<|Zs<|Zr<|Zm Z<|Za Z<|Za Z<|Ze<|Zg<|Zu<|?_
   have eo : s0.replay (xs.map (·.b)) = Sk.opened rs (Sk.cutD d).1.bs := by rw [hxs,hs0]; rfl
   rw [eo] at htz; rw [eo]
   refine Ex.keepTo (H' := [(cS 123 sx lx tx (Sk.opened rs (Sk.cutD d).1.bs)),(cL 187 lx dx),stz,sd9]) [2,0,1,0] Z ?_
   exact Ex.ret2 rfl rfl rfl  ⟨hVle,_,.inr (.inr ⟨hp0,hc9,sx,lx,tx,_,rfl,htz,hin9,rfl⟩)⟩
set_option maxHeartbeats 1000000 in
theorem ropen_c {V : Vw} {d : Dk} {dx : Nat} {sd : Sg} (hin : Dk.In 54 d dx sd) {rs : List Rg} {p : Option Addr} {c : Nat} (hv : Rd V [] 2 (.slice p rs.length c) rs.length (rs.flatMap Rg.cells)) (hlm : rs.length ≤ 1000) (hok : Rg.Oks rs)  : Does Tryz.prog 20 [(pZ dx),.slice p rs.length c] V [sd] (fun v V' H' => V.le V' ∧ ∃ sd2,((Rg.pool rs).2 ≠ 0 ∧ v = .tuple #[.pointer none,.int .i64 (Rg.pool rs).2] ∧ Dk.In 54 d dx sd2 ∧ H' = [sd2] ∨ (Rg.pool rs).2 = 0 ∧ (Sk.cutD d).2 ≠ 0 ∧ v = .tuple #[.pointer none,.int .i64 (Sk.cutD d).2] ∧ Dk.In 54 (Sk.cutD d).1 dx sd2 ∧ H' = [sd2] ∨ (Rg.pool rs).2 = 0 ∧ (Sk.cutD d).2 = 0 ∧ ∃ sx lx tx st2,v = .tuple #[(pZ sx),.int .i64 0] ∧ Le.Rin (Sk.opened rs (Sk.cutD d).1.bs).t tx st2 ∧ Dk.In 54 (Sk.cutD d).1 dx sd2 ∧ H' = [(cS 133 sx lx tx (Sk.opened rs (Sk.cutD d).1.bs)),(cL 193 lx dx),st2,sd2])) := by
 refine Does.intro Tryz.func20 rfl rfl (le rfl) (fun B => ?_)
 refine Zs<|Zr<|Za Z<|Za Z<|Ze<|Zg<|Zs<|Zr<|Zm Z<|?_
 refine Run.callF (l := [.tmp 14]) rfl rfl rfl (lt rfl) (rnew12_c hv hlm hok) (fun v1 V1 H1 hle1 hR1 => ?_)
 rcases hR1 with ⟨_,⟨hpn,rfl,rfl⟩ | ⟨hp0,tx,pl,cl,ql,rfl,hl0,rfl⟩⟩
 ·replace hv := hv.le hle1
  have hVle := hle1
  refine Run.heapTo (H' := [sd]) Z<|Zm Z<|Zv (Y.extract Z Z)<|Zv (Y.extract Z Z)<|Za Z<|Za Z<|Ze<|Zg<|Zs<|Zs<|Zr<|Zm Z<|Zv (Y.int Z Z Z)<|Ze<|Zg<|Tr.cond_t Z (bne_iff_ne.2 hpn)<|?_
  refine Zs<|Zr<|Zm Z<|Za Z<|Za Z<|Ze<|Zg<|Zu<|Zn<|Ex.keepTo (H' := [sd]) [0] Z<|?_
  exact Ex.ret2 rfl rfl rfl  ⟨hVle,_,.inl ⟨hpn,rfl,hin,rfl⟩⟩
 ·replace hv := hv.le hle1
  have hVle := hle1
  obtain ⟨hcan,hcnt⟩ := Rg.pool_can hp0
  have hup := Rg.adr_up hcan
  have hce := Rg.cnt_adr hcan.1
  refine Run.recut (H' := ([[(tx,.cells #[.slice pl (Le.new (Rg.adr (Rg.pool rs).1)).length cl] 135 (0,0))],ql] : Hp).flatten :: [sd]) (List.Perm.of_eq (by simp)) ?_
  have ht0 : Le.Rin (Le.new (Rg.adr (Rg.pool rs).1)) tx (([[(tx,.cells #[.slice pl (Le.new (Rg.adr (Rg.pool rs).1)).length cl] 135 (0,0))],ql] : Hp).flatten) := ⟨Le.new_ris hup,by rw [Le.new_len]; omega,pl,cl,ql,hl0,rfl⟩
  refine Run.heapTo (H' := [([[(tx,.cells #[.slice pl (Le.new (Rg.adr (Rg.pool rs).1)).length cl] 135 (0,0))],ql] : Hp).flatten,sd]) Z<|Zm Z<|Zv (Y.extract Z Z)<|Zv (Y.extract Z Z)<|Za Z<|Za Z<|Ze<|Zg<|Zs<|Zs<|Zr<|Zm Z<|Zv (Y.int (r := .bool false) Z Z Z)<|Ze<|Zg<|Tr.cond_f Z Z<|?_
  refine Zt<|Zg<|Zs<|Zr<|Zm Z<|?_
  refine Run.call [1] (l := [.tmp 22]) rfl rfl rfl (lt rfl) (rwopen_o hin) (fun v2 V2 H2 hle2 hR2 => ?_)
  obtain ⟨_,sd9,hin9,⟨hc9,rfl,rfl⟩ | ⟨hc9,lx,rfl,rfl⟩⟩ := hR2
  ·replace hv := hv.le hle2
   replace hVle := Vw.le_trans hVle hle2
   refine Run.heapTo (H' := [([[(tx,.cells #[.slice pl (Le.new (Rg.adr (Rg.pool rs).1)).length cl] 135 (0,0))],ql] : Hp).flatten,sd9]) Z<|Zm Z<|Zv (Y.extract Z Z)<|Zv (Y.extract Z Z)<|Za Z<|Za Z<|Ze<|Zg<|Zs<|Zs<|Zr<|Zm Z<|Zv (Y.int Z Z Z)<|Ze<|Zg<|Tr.cond_t Z (bne_iff_ne.2 hc9)<|?_
   refine Zs<|Zr<|Zm Z<|Za Z<|Za Z<|Ze<|Zg<|Zu<|Zn<|Ex.keepTo (H' := [sd9]) [1] Z<|?_
   exact Ex.ret2 rfl rfl rfl  ⟨hVle,_,.inr (.inl ⟨hp0,hc9,rfl,hin9,rfl⟩)⟩
  ·replace hv := hv.le hle2
   replace hVle := Vw.le_trans hVle hle2
   refine Run.heapTo (H' := [([[(tx,.cells #[.slice pl (Le.new (Rg.adr (Rg.pool rs).1)).length cl] 135 (0,0))],ql] : Hp).flatten,(cL 193 lx dx),sd9]) Z<|Zm Z<|Zv (Y.extract Z Z)<|Zv (Y.extract Z Z)<|Za Z<|Za Z<|Ze<|Zg<|Zs<|Zs<|Zr<|Zm Z<|Zv (Y.int (r := .bool false) Z Z Z)<|Ze<|Zg<|Tr.cond_f Z Z<|?_
   refine Zt<|Zg<|Zs<|Zr<|Zm Z<|Zm Z<|Zv (Y.buildS (l := [(0,.tmp 29),(1,.tmp 30)]) Storesb_zo133 Storesb_pl133 Z Z)<|?_
   refine Run.box rfl (lt rfl) (fun b3 => ?_)
   refine Za Z<|Ze<|Zg<|Zs<|Zr<|?_
   obtain ⟨s0,hs0⟩ : ∃ z,z = Sk.new (Rg.adr (Rg.pool rs).1) := ⟨_,rfl⟩
   have ht00 : Le.Rin s0.t tx (([[(tx,.cells #[.slice pl (Le.new (Rg.adr (Rg.pool rs).1)).length cl] 135 (0,0))],ql] : Hp).flatten) := by rw [hs0]; exact ht0
   obtain ⟨sx,hsx⟩ : ∃ z : Nat,z = b3 := ⟨_,rfl⟩
   refine Run.heapTo (H' := [(cS 133 sx lx tx s0),([[(tx,.cells #[.slice pl (Le.new (Rg.adr (Rg.pool rs).1)).length cl] 135 (0,0))],ql] : Hp).flatten,(cL 193 lx dx),sd9]) (by rw [hsx,hs0]; rfl) ?_
   rw [← hsx]
   refine Zm Z ?_
   refine Run.call [2,2] (l := [.tmp 33]) rfl rfl rfl (lt rfl) (rwrecs_o hin9) (fun v4 V4 H4 hle4 hR4 => ?_)
   obtain ⟨_,xs,px,cx,qx,rfl,hxs,hrs,hox,rfl⟩ := hR4
   replace hv := hv.le hle4
   replace hVle := Vw.le_trans hVle hle4
   have hokx : ∀ b,b ∈ xs.map (·.b) → Fr.okR b := by rw [hxs]; exact (Fr.scan_is _).2
   have hxf := Fr.scan_few (Sk.cutD d).1.bs
   have hxl : xs.length ≤ 1000000 := Sk.few_recs hin9.1 (by rw [← hxs,List.length_map])
   refine Run.heapTo (H' := [(cS 133 sx lx tx s0),([[(tx,.cells #[.slice pl (Le.new (Rg.adr (Rg.pool rs).1)).length cl] 135 (0,0))],ql] : Hp).flatten,qx,(cL 193 lx dx),sd9]) Z<|Run.heapTo (H' := [(cS 133 sx lx tx s0),([[(tx,.cells #[.slice pl (Le.new (Rg.adr (Rg.pool rs).1)).length cl] 135 (0,0))],ql] : Hp).flatten,qx,(cL 193 lx dx),sd9]) Z<|?_
   refine Za Z<|Ze<|Zg<|Zs<|Zs<|Zr<|?_
   have hok := hokx
   refine Run.keepTo (H' := [(cS 133 sx lx tx s0),([[(tx,.cells #[.slice pl (Le.new (Rg.adr (Rg.pool rs).1)).length cl] 135 (0,0))],ql] : Hp).flatten,qx,(cL 193 lx dx),sd9]) [0,0,0,0,0] Z<|Za Z<|Ze<|Zg<|Zb<|?_
   refine ZL (X := Nat × Sg) (fun z0 => V4) (fun z0 => [(cS 133 sx lx tx (s0.replay ((xs.map fun (x : Rc) => x.b).take z0.1))),z0.2,qx,(cL 193 lx dx),sd9]) (fun z0 => [(10,(pZ sx)),(11,.slice px xs.length cx),(12,.int .i64 (z0.1 : Int))]) (fun z0 => Le.Rin (s0.replay ((xs.map fun (x : Rc) => x.b).take z0.1)).t tx z0.2 ∧ z0.1 ≤ xs.length) (fun z0 => xs.length - z0.1) (⟨0,([[(tx,.cells #[.slice pl (Le.new (Rg.adr (Rg.pool rs).1)).length cl] 135 (0,0))],ql] : Hp).flatten⟩ : Nat × Sg) ⟨ht00,Nat.zero_le _⟩ ?_
   rintro ⟨i1,s1⟩ ⟨ht1,hi⟩
   try dsimp only at ht1 hi ⊢
   refine Zs<|Zs<|Zr<|Zm Z<|Zm Z<|Zv (Y.lenSl Z Storesb_es56)<|Zv (Y.int Z Z Z)<|Ze<|Zg<|?_
   rcases Zsplit (decide ((i1 : Int) < ((xs.length : Nat) : Int))) with ⟨h5,g5⟩ | ⟨h5,g5⟩ <;> try simp only [kb] at g5
   ·refine Tr.cond_t Z h5<|Zt<|Zg<|Zs<|Zb<|Zr<|Zm Z<|Zm Z<|Zm Z<|Zv (Y.idxR i1 Z Z Storesb_es56 (hox.rd 2 rfl) W W)<|Zv (Y.ldR Z Storesb_ts22 (hox.rd 2 rfl) (flatm_at0 Rc.len W Rc.dflt WD rfl))<|?_
    have hrb : Fr.okR (xs.getD i1 Rc.dflt).b := hok _ (by rw [← Rc.getD_b]; exact getD_mem' (by rw [List.length_map]; omega) _)
    refine Run.call [0,0] (l := [.tmp 41,.tmp 45]) rfl rfl rfl (lt rfl) (rdo_h (s := s0.replay ((xs.map fun (x : Rc) => x.b).take i1)) (lx := lx) (hrs.at W) hrb ht1) (fun v6 V6 H6 hle6 hR6 => ?_)
    obtain ⟨hV,s2,ht2,rfl⟩ := hR6; replace hV := hV.symm; subst hV
    have er : s0.replay ((xs.map fun (x : Rc) => x.b).take (i1 + 1)) = (s0.replay ((xs.map fun (x : Rc) => x.b).take i1)).doR (xs.getD i1 Rc.dflt).b := by rw [Sk.replay_take (by rw [List.length_map]; omega),Rc.getD_b]
    rw [← er] at ht2; rw [← er]
    refine Run.heapTo (H' := [qx,(cL 193 lx dx),sd9,(cS 133 sx lx tx (s0.replay ((xs.map fun (x : Rc) => x.b).take (i1 + 1)))),s2]) rfl<|Run.heapTo (H' := [qx,(cL 193 lx dx),sd9,(cS 133 sx lx tx (s0.replay ((xs.map fun (x : Rc) => x.b).take (i1 + 1)))),s2]) rfl<|?_
    refine Ze<|Zc<|Zg<|Zr<|Zm Z<|Zv (Y.add Z Z W)<|Za Z<|Ze<|Ex.keep [3,3,0,0,0]<|?_
    exact ZR (⟨i1 + 1,s2⟩ : Nat × Sg) ⟨ht2,by omega⟩ (by dsimp only; omega)
   ·refine Tr.cond_f Z h5<|Zx<|Zy<|Zy<|Zi<|Zg<|Zs<|Zr<|?_
    obtain rfl : i1 = xs.length := by omega
    have et : (xs.map (·.b)).take xs.length = xs.map (·.b) := List.take_of_length_le (by rw [List.length_map]; exact Nat.le_refl _)
    rw [et] at ht1; rw [et]
    obtain ⟨stz,hsz⟩ : ∃ z,z = s1 := ⟨_,rfl⟩; rw [← hsz] at ht1 ⊢; have htz := ht1
    refine Zm Z<|Za Z<|Za Z<|Ze<|Zg<|Zu<|?_
    have eo : s0.replay (xs.map (·.b)) = Sk.opened rs (Sk.cutD d).1.bs := by rw [hxs,hs0]; rfl
    rw [eo] at htz; rw [eo]
    refine Ex.keepTo (H' := [(cS 133 sx lx tx (Sk.opened rs (Sk.cutD d).1.bs)),(cL 193 lx dx),stz,sd9]) [0,2,0,1] Z ?_
    exact Ex.ret2 rfl rfl rfl  ⟨hVle,_,.inr (.inr ⟨hp0,hc9,sx,lx,tx,_,rfl,htz,hin9,rfl⟩)⟩
theorem open_o {V : Vw} {d : Dk} {dx : Nat} {sd : Sg} (hin : Dk.In 116 d dx sd) {rs : List Rg} {vb : Value} (hv : Rd V [] 2 vb rs.length (rs.flatMap Rg.cells)) (hlm : rs.length ≤ 1000) (hok : Rg.Oks rs) : Does Tryz.prog 19 [(pZ dx),vb] V [sd] (fun v V' H' => V' = V ∧ ∃ sd2,((Rg.pool rs).2 ≠ 0 ∧ v = .tuple #[.pointer none,.int .i64 (Rg.pool rs).2] ∧ Dk.In 116 d dx sd2 ∧ H' = [sd2] ∨ (Rg.pool rs).2 = 0 ∧ (Sk.cutD d).2 ≠ 0 ∧ v = .tuple #[.pointer none,.int .i64 (Sk.cutD d).2] ∧ Dk.In 116 (Sk.cutD d).1 dx sd2 ∧ H' = [sd2] ∨ (Rg.pool rs).2 = 0 ∧ (Sk.cutD d).2 = 0 ∧ ∃ sx lx tx st2,v = .tuple #[(pZ sx),.int .i64 0] ∧ Le.In 149 (Sk.opened rs (Sk.cutD d).1.bs).t tx st2 ∧ Dk.In 116 (Sk.cutD d).1 dx sd2 ∧ H' = [(cS 123 sx lx tx (Sk.opened rs (Sk.cutD d).1.bs)),(cL 187 lx dx),st2,sd2])) := by
  obtain ⟨p,c,rfl,_⟩ := hv.form
  exact (open_c hin hv hlm hok).forget fun v V' H' _ h => ⟨rfl,h.2⟩
theorem ropen_o {V : Vw} {d : Dk} {dx : Nat} {sd : Sg} (hin : Dk.In 54 d dx sd) {rs : List Rg} {vb : Value} (hv : Rd V [] 2 vb rs.length (rs.flatMap Rg.cells)) (hlm : rs.length ≤ 1000) (hok : Rg.Oks rs) : Does Tryz.prog 20 [(pZ dx),vb] V [sd] (fun v V' H' => V' = V ∧ ∃ sd2,((Rg.pool rs).2 ≠ 0 ∧ v = .tuple #[.pointer none,.int .i64 (Rg.pool rs).2] ∧ Dk.In 54 d dx sd2 ∧ H' = [sd2] ∨ (Rg.pool rs).2 = 0 ∧ (Sk.cutD d).2 ≠ 0 ∧ v = .tuple #[.pointer none,.int .i64 (Sk.cutD d).2] ∧ Dk.In 54 (Sk.cutD d).1 dx sd2 ∧ H' = [sd2] ∨ (Rg.pool rs).2 = 0 ∧ (Sk.cutD d).2 = 0 ∧ ∃ sx lx tx st2,v = .tuple #[(pZ sx),.int .i64 0] ∧ Le.Rin (Sk.opened rs (Sk.cutD d).1.bs).t tx st2 ∧ Dk.In 54 (Sk.cutD d).1 dx sd2 ∧ H' = [(cS 133 sx lx tx (Sk.opened rs (Sk.cutD d).1.bs)),(cL 193 lx dx),st2,sd2])) := by
  obtain ⟨p,c,rfl,_⟩ := hv.form
  exact (ropen_c hin hv hlm hok).forget fun v V' H' _ h => ⟨rfl,h.2⟩
end Go.Proofs.YtinkencbkcciiaaGreat
