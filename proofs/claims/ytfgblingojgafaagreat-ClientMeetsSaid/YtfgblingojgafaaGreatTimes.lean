/- What options and packets are asked for.
Conditions: as each theorem names them. -/
import Derived.Test.YtfgblingojgafaaGreatSortnum
import Derived.Test.YtfgblingojgafaaGreatProg
import Derived.Test.YtfgblingojgafaaGreatTC
import Derived.Test.YtfgblingojgafaaGreatFA
import Derived.Test.YtfgblingojgafaaGreatKI
import Derived.Test.YtfgblingojgafaaGreatSortl
import Derived.Test.YtfgblingojgafaaGreatTable5
set_option linter.unusedSimpArgs false
set_option linter.unusedVariables false
set_option maxRecDepth 4000
namespace Go.Proofs.YtfgblingojgafaaGreat
open Go Go.K
attribute [local irreducible] Code.wp wpList Calls wpQuiet
theorem clone_c {V : Vw} {bs : List UInt8} {pb : Option Addr} {cb : Nat} (hvb : Rd V [] 1 (.slice pb bs.length cb) bs.length (bs.map byteV)) (hl : bs.length <= 1000000)  : Does Tryz.prog 70 [.slice pb bs.length cb] V [] (fun u V' H' => V' = V /\ ∃ s',H' = [s'] /\ Ow 5 1 u bs.length (bs.map byteV) s') := by
 refine Does.intro Tryz.func70 rfl rfl (le rfl) (fun B => ?_)
 refine Zs<|Zr<|Za Z<|Ze<|Zg<|Zs<|Zs<|Zr<|Zm Z<|Zv (Y.eqNilS Z Z xsl25)<|Ze<|Zg<|?_
 refine Zq (Option.isNone pb) (fun h1 g1 => ?_) fun h1 g1 => ?_
 ·refine Tr.cond_t Z h1<|Zs<|Zr<|Run.nilseg<|Za Z<|Ze<|Zg<|Zu<|Zn<|?_
  obtain rfl : pb = none := by simpa using h1
  obtain rfl : bs = [] := List.eq_nil_of_length_eq_zero hvb.none
  exact Ex.ret1 rfl rfl  ⟨rfl,[],rfl,Ow.nil _ _⟩
 refine Tr.cond_f Z h1<|Zt<|Zg<|Zs<|Zr<|?_
 refine Run.buildSlice0 xes25 (lt rfl) (fun b2 => ?_)
 refine Zm Z ?_
 refine Run.append (n := 0) (m := bs.length) (xs := []) (ys := bs.map byteV) rfl rfl xes25 xzi5 WD (j := 0) rfl (Ow.lit (cur := #[]) rfl WD) (Src.of_rd xes25 hvb.of_nil) W W (all_one_bytes _) (lt rfl) (fun v3 s4 ho5 hf => ?_)
 obtain ⟨p3,c3,rfl⟩ := hf
 refine Za Z<|Ze<|Zg<|Zu<|?_
 exact Ex.ret1 rfl rfl  ⟨rfl,_,rfl,by have h := ho5; simpa using h⟩
theorem clone_h {V : Vw} {v : Value} {bs : List UInt8} (hv : Rd V [] 1 v bs.length (bs.map byteV)) (hl : bs.length <= 1000000) : Does Tryz.prog 70 [v] V [] (fun u V' H' => V' = V /\ ∃ s',H' = [s'] /\ Ow 5 1 u bs.length (bs.map byteV) s') := by
  obtain ⟨p,c,rfl,_⟩ := hv.form
  exact clone_c hv hl
theorem same_bytes (ax bs : List UInt8) : ((⟨ax.toArray⟩ : ByteArray).toList == (⟨bs.toArray⟩ : ByteArray).toList) = (ax == bs) := by simp [ByteArray.toList_eq]
theorem equal_c {V : Vw} {ax : List UInt8} {pa : Option Addr} {ca : Nat} (hva : Rd V [] 1 (.slice pa ax.length ca) ax.length (ax.map byteV)) {bs : List UInt8} {pb : Option Addr} {cb : Nat} (hvb : Rd V [] 1 (.slice pb bs.length cb) bs.length (bs.map byteV))  : Does Tryz.prog 79 [.slice pa ax.length ca,.slice pb bs.length cb] V [] (Pv (.bool (ax == bs)) V []) := by
 refine Does.intro Tryz.func79 rfl rfl (le rfl) (fun B => ?_)
 refine Zs<|Zr<|Za Z<|Ze<|Zg<|Zs<|Zr<|Zm Z<|Zv (Y.bytesStr (bs := ax) Z xes25 xtg5 xst9 hva.of_nil)<|Zm Z<|Zv (Y.bytesStr (bs := bs) Z xes25 xtg5 xst9 hvb.of_nil)<|Zv (Y.eqStr Z Z)<|Za Z<|Ze<|Zg<|Zu<|?_
 exact Ex.ret1 rfl rfl  ⟨by rw [same_bytes],rfl,rfl⟩
theorem equal_h {V : Vw} {H : Hp} {v w : Value} {ax bs : List UInt8} (hv : Rd V [] 1 v ax.length (ax.map byteV)) (hw : Rd V [] 1 w bs.length (bs.map byteV)) : Does Tryz.prog 79 [v,w] V H (Pv (.bool (ax == bs)) V H) := by
  obtain ⟨p,c,rfl,_⟩ := hv.form
  obtain ⟨q,d,rfl,_⟩ := hw.form
  exact (equal_c hv hw).frame
theorem oodd_c {V : Vw} {code : Int} {d : List UInt8} {pd : Option Addr} {cd : Nat} (hvd : Rd V [] 1 (.slice pd d.length cd) d.length (d.map byteV))  : Does Tryz.prog 116 [.agg #[.int .i64 code,.slice pd d.length cd]] V [] (Pv (.bool (Oc.odd ⟨code,d⟩)) V []) := by
 refine Does.intro Tryz.func116 rfl rfl (le rfl) (fun B => ?_)
 refine Zs<|Zr<|?_
 refine Run.box rfl (lt rfl) (fun b1 => ?_)
 refine Za Z<|Ze<|Zg<|Zs<|Zr<|Zv (Y.fieldAddr Z xfo81_0)<|Zv (Y.load Z xts3 (Kn.at 0 Z) Z)<|Zv (Y.int Z Z Z)<|Zm Z<|?_
 refine Zq (decide (code <= 0)) (fun h2 g2 => ?_) fun h2 g2 => ?_
 ·refine Zo h2 Z<|Zo h2 Z<|Zo h2 Z<|Zv (Y.pick_t Z h2 Z)<|Zm Z<|Zo Z Z<|Zo Z Z<|Zo Z Z<|Zo Z Z<|Zv (Y.pick_t Z Z Z)<|Za Z<|Ze<|Zg<|Zu<|Ex.keep []<|?_
  exact Ex.ret1 rfl rfl  ⟨by unfold Oc.odd; simp only [h2,Bool.false_or,Bool.true_or],rfl,rfl⟩
 refine Zp h2<|Zv (Y.fieldAddr Z xfo81_0)<|Zp h2<|Zv (Y.load Z xts3 (Kn.at 0 Z) Z)<|Zp h2<|Zv (Y.int Z Z Z)<|Zv (Y.pick_f Z h2 Z)<|Zm Z<|?_
 refine Zq (decide (code >= 255)) (fun h3 g3 => ?_) fun h3 g3 => ?_
 ·refine Zo h3 Z<|Zo h3 Z<|Zo h3 Z<|Zo h3 Z<|Zv (Y.pick_t Z h3 Z)<|Za Z<|Ze<|Zg<|Zu<|Ex.keep []<|?_
  exact Ex.ret1 rfl rfl  ⟨by unfold Oc.odd; simp only [h2,h3,Bool.false_or,Bool.true_or],rfl,rfl⟩
 refine Zp h3<|Zv (Y.fieldAddr Z xfo81_1)<|Zp h3<|Zv (Y.load Z xts25 (Kn.at 0 Z) Z)<|Zp h3<|Zv (Y.lenSl Z xes25)<|Zp h3<|Zv (Y.int Z Z Z)<|Zv (Y.pick_f Z h3 Z)<|Za Z<|Ze<|Zg<|Zu<|Ex.keep []<|?_
 exact Ex.ret1 rfl rfl  ⟨by unfold Oc.odd; simp only [h2,h3,Bool.false_or,Bool.true_or],rfl,rfl⟩
theorem odd_h {V : Vw} {H : Hp} {v : Value} {code : Int} {d : List UInt8} (hv : Rd V [] 1 v d.length (d.map byteV)) : Does Tryz.prog 116 [.agg #[.int .i64 code,v]] V H (Pv (.bool (Oc.odd ⟨code,d⟩)) V H) := by
  obtain ⟨p,c,rfl,_⟩ := hv.form
  exact (oodd_c hv).frame
theorem ois_c {V : Vw} {H : Hp} {bc : Nat} {code k : Int} {v : Value} (hk : Kn V H bc (.cells #[.int .i64 code] 3 (0,0))) {d : List UInt8} : Does Tryz.prog 150 [.agg #[.int .i64 k,v],(pZ bc)] V H (Pv (.bool (Oc.is code ⟨k,d⟩)) V H) := by
 refine Does.intro Tryz.func150 rfl rfl (le rfl) (fun B => ?_)
 refine Zs<|Zr<|?_
 refine Run.box rfl (lt rfl) (fun b1 => ?_)
 refine Za Z<|Ze<|Zg<|Zs<|Zr<|Zv (Y.fieldAddr Z xfo81_0)<|Zv (Y.load Z xts3 (Kn.at 0 Z) Z)<|Zv (Y.load Z xts3 hk.cons Z)<|Zv (Y.int Z Z Z)<|Za Z<|Ze<|Zg<|Zu<|Ex.drop<|?_
 exact Ex.ret1 rfl rfl  ⟨rfl,rfl,rfl⟩
theorem ixodd_c {V : Vw} {L : List Opn} {po : Option Addr} {co : Nat} (ho : Rd V [] 2 (.slice po L.length co) L.length (L.map Opn.cells).flatten) (hr : Opn.Rds V L) (hL : L.length <= 1000000)  : Does Tryz.prog 106 [.slice po L.length co,.func (.func 116) #[] #[]] V [] (Pv (.int .i64 (Oc.ix Oc.odd (L.map Opn.c))) V []) := by
 refine Does.intro Tryz.func106 rfl rfl (le rfl) (fun B => ?_)
 refine Zs<|Zr<|Za Z<|Ze<|Zg<|Zs<|Zs<|Zr<|Zm Z<|Zv (Y.lenSl Z xes26)<|Zm Z<|Ze<|Zg<|Zb<|?_
 refine ZL (X := Nat) (fun i => V) (fun i => []) (fun i => [(0,.slice po L.length co),(1,.func (.func 116) #[] #[]),(7,.int .i64 ((L.length : Nat) : Int)),(8,.int .i64 (i : Int))]) (fun i => i <= L.length /\ ∀ j,j < i -> Oc.odd (L.getD j Opn.dflt).c = false) (fun i => L.length - i) 0 ⟨Nat.zero_le _,fun j hj => absurd hj (Nat.not_lt_zero j)⟩ ?_
 rintro i ⟨hi,hin⟩
 refine Zs<|Zr<|Zv (Y.int Z Z Z)<|Ze<|Zg<|Zs<|?_
 refine Zq (decide ((i : Int) < ((L.length : Nat) : Int))) (fun h1 g1 => ?_) fun h1 g1 => ?_
 ·obtain ⟨b,off,c2,cs,e,fz,hw,hc,hko,hcs⟩ := ho.opened W
  obtain ⟨rfl,rfl⟩ : po = some ⟨b,off,none⟩ /\ co = c2 := by cases hw; exact ⟨rfl,rfl⟩
  clear hw
  have hrow := row_at (f := Opn.cells) Opn.len hcs (i := i) W (Nat.le_refl _) Opn.dflt
  have hmem := getD_mem (l := L) (j := i) W Opn.dflt
  generalize hoe : L.getD i Opn.dflt = o at *
  have hro := hr o hmem
  obtain ⟨pd,cd,hov,_⟩ := hro.form
  rw [hov] at hro
  have hrow2 : ∀ j,j < 2 -> cs[off + ((i : Nat) : Int).toNat * 2 + j]? = ([.int .i64 o.code,.slice pd o.d.length cd] : List Value)[j]? := fun j hj => by rw [hrow j hj]; simp only [Opn.cells,hov]
  refine Tr.cond_t Z h1<|Zt<|Zg<|Zs<|Zb<|Zs<|Zr<|Zm Z<|Za Z<|Ze<|Zg<|Zs<|Zr<|Zm Z<|Zm Z<|Zm Z<|?_
  refine Zv (Y.idxAddr Z Z xes26 W W)<|Zv (Y.loadAgg Z xag81 hko.of_nil (cellsAt_of [.int .i64 o.code,.slice pd o.d.length cd] _ hrow2))<|Yc Z Z Z (odd_h hro)<|Ze<|Zg<|?_
  refine Zq (Oc.odd ⟨o.code,o.d⟩) (fun h2 g2 => ?_) fun h2 g2 => ?_
  ·refine Tr.cond_t Z h2<|Zs<|Zr<|Zm Z<|Za Z<|Ze<|Zg<|Zu<|Zk<|Zn<|Zn<|Zk<|Zn<|?_
   exact Ex.ret1 rfl rfl  ⟨by rw [Oc.ixL_at (q := Oc.odd) hin W (by rw [hoe]; exact h2)],rfl,rfl⟩
  refine Tr.cond_f Z h2<|Zt<|Zc<|Zg<|Zr<|Zv (Y.add Z Z W)<|Zm Z<|Ze<|?_
  exact ZR (i + 1) ⟨by omega,upto hin (by rw [hoe]; exact h2)⟩ W
 refine Tr.cond_f Z h1<|Zx<|Zy<|Zy<|Zi<|Zg<|Zs<|Zr<|Za Z<|Ze<|Zg<|Zu<|?_
 exact Ex.ret1 rfl rfl  ⟨by rw [Oc.ixL_none (q := Oc.odd) (fun j hj => hin j W)],rfl,rfl⟩
theorem ixodd_h {V : Vw} {H : Hp} {v : Value} {L : List Opn} (hv : Rd V [] 2 v L.length (L.map Opn.cells).flatten) (hr : Opn.Rds V L) (hL : L.length <= 1000000) : Does Tryz.prog 106 [v,.func (.func 116) #[] #[]] V H (Pv (.int .i64 (Oc.ix Oc.odd (L.map Opn.c))) V H) := by
  obtain ⟨p,c,rfl,_⟩ := hv.form
  exact (ixodd_c hv hr hL).frame
theorem ixis_c {V : Vw} {L : List Opn} {po : Option Addr} {co : Nat} (ho : Rd V [] 2 (.slice po L.length co) L.length (L.map Opn.cells).flatten) (hr : Opn.Rds V L) (hL : L.length <= 1000000) {H : Hp} {bc : Nat} {code : Int} (hk : Kn V H bc (.cells #[.int .i64 code] 3 (0,0)))  : Does Tryz.prog 106 [.slice po L.length co,.func (.func 150) #[] #[(pZ bc)]] V H (Pv (.int .i64 (Oc.ix (Oc.is code) (L.map Opn.c))) V H) := by
 refine Does.intro Tryz.func106 rfl rfl (le rfl) (fun B => ?_)
 refine Zs<|Zr<|Za Z<|Ze<|Zg<|Zs<|Zs<|Zr<|Zm Z<|Zv (Y.lenSl Z xes26)<|Zm Z<|Ze<|Zg<|Zb<|?_
 refine ZL (X := Nat) (fun i => V) (fun i => H) (fun i => [(0,.slice po L.length co),(1,.func (.func 150) #[] #[(pZ bc)]),(7,.int .i64 ((L.length : Nat) : Int)),(8,.int .i64 (i : Int))]) (fun i => i <= L.length /\ ∀ j,j < i -> (Oc.is code) (L.getD j Opn.dflt).c = false) (fun i => L.length - i) 0 ⟨Nat.zero_le _,fun j hj => absurd hj (Nat.not_lt_zero j)⟩ ?_
 rintro i ⟨hi,hin⟩
 refine Zs<|Zr<|Zv (Y.int Z Z Z)<|Ze<|Zg<|Zs<|?_
 refine Zq (decide ((i : Int) < ((L.length : Nat) : Int))) (fun h1 g1 => ?_) fun h1 g1 => ?_
 ·obtain ⟨b,off,c2,cs,e,fz,hw,hc,hko,hcs⟩ := ho.opened W
  obtain ⟨rfl,rfl⟩ : po = some ⟨b,off,none⟩ /\ co = c2 := by cases hw; exact ⟨rfl,rfl⟩
  clear hw
  have hrow := row_at (f := Opn.cells) Opn.len hcs (i := i) W (Nat.le_refl _) Opn.dflt
  have hmem := getD_mem (l := L) (j := i) W Opn.dflt
  generalize hoe : L.getD i Opn.dflt = o at *
  have hro := hr o hmem
  obtain ⟨pd,cd,hov,_⟩ := hro.form
  rw [hov] at hro
  have hrow2 : ∀ j,j < 2 -> cs[off + ((i : Nat) : Int).toNat * 2 + j]? = ([.int .i64 o.code,.slice pd o.d.length cd] : List Value)[j]? := fun j hj => by rw [hrow j hj]; simp only [Opn.cells,hov]
  refine Tr.cond_t Z h1<|Zt<|Zg<|Zs<|Zb<|Zs<|Zr<|Zm Z<|Za Z<|Ze<|Zg<|Zs<|Zr<|Zm Z<|Zm Z<|Zm Z<|?_
  refine Zv (Y.idxAddr Z Z xes26 W W)<|Zv (Y.loadAgg Z xag81 hko.of_nil (cellsAt_of [.int .i64 o.code,.slice pd o.d.length cd] _ hrow2))<|Yc Z Z Z (ois_c (d := o.d) hk)<|Ze<|Zg<|?_
  refine Zq (Oc.is code ⟨o.code,o.d⟩) (fun h2 g2 => ?_) fun h2 g2 => ?_
  ·refine Tr.cond_t Z h2<|Zs<|Zr<|Zm Z<|Za Z<|Ze<|Zg<|Zu<|Zk<|Zn<|Zn<|Zk<|Zn<|?_
   exact Ex.ret1 rfl rfl  ⟨by rw [Oc.ixL_at (q := (Oc.is code)) hin W (by rw [hoe]; exact h2)],rfl,rfl⟩
  refine Tr.cond_f Z h2<|Zt<|Zc<|Zg<|Zr<|Zv (Y.add Z Z W)<|Zm Z<|Ze<|?_
  exact ZR (i + 1) ⟨by omega,upto hin (by rw [hoe]; exact h2)⟩ W
 refine Tr.cond_f Z h1<|Zx<|Zy<|Zy<|Zi<|Zg<|Zs<|Zr<|Za Z<|Ze<|Zg<|Zu<|?_
 exact Ex.ret1 rfl rfl  ⟨by rw [Oc.ixL_none (q := (Oc.is code)) (fun j hj => hin j W)],rfl,rfl⟩
theorem cnodd_c {V : Vw} {L : List Opn} {po : Option Addr} {co : Nat} (ho : Rd V [] 2 (.slice po L.length co) L.length (L.map Opn.cells).flatten) (hr : Opn.Rds V L) (hL : L.length <= 1000000)  : Does Tryz.prog 117 [.slice po L.length co,.func (.func 116) #[] #[]] V [] (Pv (.bool ((L.map Opn.c).any Oc.odd)) V []) := by
 refine Does.intro Tryz.func117 rfl rfl (le rfl) (fun B => ?_)
 refine Zs<|Zr<|Za Z<|Ze<|Zg<|Zs<|Zr<|Zm Z<|Zm Z<|Yc Z Z Z (ixodd_h ho hr hL)<|Zv (Y.int Z Z Z)<|Za Z<|Ze<|Zg<|Zu<|?_
 exact Ex.ret1 rfl rfl  ⟨by rw [Oc.ix_any],rfl,rfl⟩
theorem enc_c {V : Vw} {L : List Opn} {po : Option Addr} {co : Nat} (ho : Rd V [] 2 (.slice po L.length co) L.length (L.map Opn.cells).flatten) (hr : Opn.Rds V L) (hL : L.length <= 1000000) (hf : Oc.few (L.map Opn.c) = true)  : Does Tryz.prog 53 [.slice po L.length co] V [] (fun u V' H' => V' = V /\ H' = [] /\ ∃ v,u = .tuple #[v,.int .i64 (Oc.encE (L.map Opn.c))]) := by
 refine Does.intro Tryz.func53 rfl rfl (le rfl) (fun B => ?_)
 refine Zs<|Zr<|Za Z<|Za Z<|Ze<|Zg<|Zs<|Zr<|Za Z<|Ze<|Zg<|Zs<|Zs<|Zr<|Zm Z<|Zm Z<|?_
 refine Yc Z Z Z ((cnodd_c ho hr hL).frame)<|Ze<|Zg<|?_
 refine Zq ((L.map Opn.c).any Oc.odd) (fun h1 g1 => ?_) fun h1 g1 => ?_
 ·refine Tr.cond_t Z h1<|Zs<|Zr<|Za Z<|Za Z<|Ze<|Zg<|Zu<|Zn<|Ex.keep []<|?_
  exact Ex.ret2 rfl rfl rfl  ⟨rfl,rfl,.slice none 0 0,by rw [Oc.encE_odd h1]⟩
 refine Tr.cond_f Z h1<|Zt<|Zg<|Zs<|Zr<|Za Z<|Ze<|Zg<|Zs<|Zs<|Zr<|Run.nilseg<|Zm Z<|Zv (Y.lenSl Z xes26)<|Zm Z<|Ze<|?_
 refine Zg<|Zb<|?_
 refine ZL (X := Gr) (fun x => V) (fun x => [x.q]) (fun x => [(11,.slice po L.length co),(12,.int .i64 ((L.length : Nat) : Int)),(5,.slice x.p x.n x.k),(13,.int .i64 (x.i : Int))]) (fun x => Ow 5 1 (.slice x.p x.n x.k) x.n x.xs x.q /\ x.i <= L.length /\ x.n = Oc.tot ((L.map Opn.c).take x.i)) (fun x => L.length - x.i) ⟨none,0,0,[],[],0⟩ ⟨Ow.nil _ _,Nat.zero_le _,rfl⟩ ?_
 rintro ⟨p,n,k,q,xs,i⟩ ⟨how,hi,hn⟩
 dsimp only at how hi hn ⊢
 refine Zs<|Zr<|Zv (Y.int Z Z Z)<|Ze<|Zg<|Zs<|?_
 refine Zq (decide ((i : Int) < ((L.length : Nat) : Int))) (fun h2 g2 => ?_) fun h2 g2 => ?_
 ·have hd := Oc.few_data hf (i := i) W
  have ht := Oc.tot_take (L := L) (i := i) W
  have hft := Oc.few_tot hf i
  obtain ⟨b,off,c2,cs,e,fz,hw,hc,hko,hcs⟩ := ho.opened W
  obtain ⟨rfl,rfl⟩ : po = some ⟨b,off,none⟩ /\ co = c2 := by cases hw; exact ⟨rfl,rfl⟩
  clear hw
  have hrow := row_at (f := Opn.cells) Opn.len hcs (i := i) W (Nat.le_refl _) Opn.dflt
  have hmem := getD_mem (l := L) (j := i) W Opn.dflt
  generalize hoe : L.getD i Opn.dflt = o at *
  have hro := hr o hmem
  obtain ⟨pd,cd,hov,_⟩ := hro.form
  rw [hov] at hro
  have hrow2 : ∀ j,j < 2 -> cs[off + ((i : Nat) : Int).toNat * 2 + j]? = ([.int .i64 o.code,.slice pd o.d.length cd] : List Value)[j]? := fun j hj => by rw [hrow j hj]; simp only [Opn.cells,hov]
  refine Tr.cond_t Z h2<|Zt<|Zg<|Zs<|Zb<|Zs<|Zr<|Zv (Y.idxAddr Z Z xes26 W W)<|Zv (Y.loadAgg Z xag81 hko.of_nil (cellsAt_of [.int .i64 o.code,.slice pd o.d.length cd] _ hrow2))<|?_
  refine Run.alloc xzo81 (lt rfl) (fun b3 => ?_)
  refine Run.store (s := [(b3,.cells #[.int .i64 o.code,.slice pd o.d.length cd] 81 (0,0))]) Z Z xsz81 (i := 0) Z Z (le Z) Z Z<|Ze<|Zg<|Tr.anyD [(b3,.cells #[.int .i64 o.code,.slice pd o.d.length cd] 81 (0,0))] xmo<|Zd 0 Z (fun _ => (Y.move rfl))<|Zd 1 Z (fun _ => (Y.fieldAddr rfl xfo81_0))<|ZD 2 0 Z Z (fun _ => (Y.load rfl xts3 Kn.vk1 rfl))<|Zd 3 Z (fun _ => (Y.conv (o.code % 256) rfl xit3_5 (wrap_u8m _)))<|?_
  refine Zd 4 Z (fun _ => (Y.fieldAddr rfl xfo81_1))<|ZD 5 0 Z Z (fun _ => (Y.load rfl xts25 Kn.vk1 rfl))<|Zd 6 Z (fun _ => (Y.lenSl rfl xes25))<|Zd 7 Z (fun _ => (Y.conv (((o.d.length : Nat) : Int) % 256) rfl xit3_5 (wrap_u8m _)))<|Zd 10 Z (fun _ => (Y.fieldAddr rfl xfo81_1))<|ZD 11 0 Z Z (fun _ => (Y.load rfl xts25 Kn.vk1 rfl))<|?_
  refine RunD.one (i := 8) WK rfl  ?_
  refine Run.buildSlice (l := [(0,.tmp 20),(1,.tmp 24)]) xes25 xzo5 rfl WD rfl rfl WD (lt rfl) (fun b4 => ?_)
  refine Ze<|Zf<|?_
  refine RunD.one (i := 9) WK rfl  ?_
  refine Run.append (n := n) (m := 2) (xs := xs) (ys := [.int .u8 (o.code % 256),.int .u8 (((o.d.length : Nat) : Int) % 256)]) rfl rfl xes25 xzi5 WD (j := 2) rfl how (Src.of_rd xes25 (Rd.one (Kn.at 0 rfl) rfl)) W W rfl (lt rfl) (fun v5 s6 ho7 hf => ?_)
  obtain ⟨p5,c5,rfl⟩ := hf
  refine Ze<|Zf<|?_
  refine RunD.one (i := 12) WK rfl  ?_
  refine Run.append (n := n + 2) (m := o.d.length) (xs := xs ++ [.int .u8 (o.code % 256),.int .u8 (((o.d.length : Nat) : Int) % 256)]) (ys := o.d.map byteV) rfl rfl xes25 xzi5 WD (j := 2) rfl ho7 (Src.of_rd xes25 hro.of_nil) W W (all_one_bytes _) (lt rfl) (fun v8 s9 ho10 hf => ?_)
  obtain ⟨p8,c8,rfl⟩ := hf
  refine Ze<|Zf<|Zd 13 Z (fun _ => (Y.assign rfl))<|RunD.done WK<|Zc<|Zg<|Zr<|Zv (Y.add Z Z W)<|Zm Z<|Ze<|Ex.keep [2]<|?_
  exact ZR (⟨p8,(n + 2 + o.d.length),c8,s9,(xs ++ [.int .u8 (o.code % 256),.int .u8 (((o.d.length : Nat) : Int) % 256)]) ++ (o.d.map byteV),i + 1⟩ : Gr) ⟨ho10,by show i + 1 <= L.length; omega,by show (n + 2 + o.d.length) = Oc.tot ((L.map Opn.c).take (i + 1)); omega⟩ (by show L.length - (i + 1) < L.length - i; omega)
 have hall : n = Oc.tot (L.map Opn.c) := by rw [hn,List.take_of_length_le (by rw [List.length_map]; omega)]
 have hft := Oc.few_tot hf i
 refine Tr.cond_f Z h2<|Zx<|Zy<|Zy<|Zi<|Zg<|Zs<|Zs<|Zr<|Zm Z<|?_
 refine Run.buildSlice (l := [(0,.const (.int .u8 255))]) xes25 xzo5 rfl WD rfl rfl WD (lt rfl) (fun b11 => ?_)
 refine Run.append (n := n) (m := 1) (xs := xs) (ys := [.int .u8 255]) rfl rfl xes25 xzi5 WD (j := 1) rfl how (Src.of_rd xes25 (Rd.one (Kn.at 0 rfl) rfl)) W W rfl (lt rfl) (fun v12 s13 ho14 hf => ?_)
 obtain ⟨p12,c12,rfl⟩ := hf
 refine Za Z<|Ze<|Zg<|Zs<|Zr<|Zm Z<|Zv (Y.lenSl Z xes25)<|Zv (Y.int Z Z Z)<|Ze<|Zg<|?_
 refine Zq (decide ((((n + 1) : Nat) : Int) > 1024)) (fun h15 g15 => ?_) fun h15 g15 => ?_
 ·refine Tr.cond_t Z h15<|Zs<|Zr<|Za Z<|Za Z<|Ze<|Zg<|Zu<|Zn<|Ex.keep []<|?_
  exact Ex.ret2 rfl rfl rfl  ⟨rfl,rfl,.slice none 0 0,by rw [Oc.encE_big h1 W]⟩
 refine Tr.cond_f Z h15<|Zt<|Zg<|Zs<|Zr<|Zm Z<|Za Z<|Za Z<|Ze<|Zg<|Zu<|Ex.keep []<|?_
 exact Ex.ret2 rfl rfl rfl  ⟨rfl,rfl,.slice p12 (n + 1) c12,by rw [Oc.encE_ok h1 W]⟩
theorem pright_c {V : Vw} {L : List Opn} {po : Option Addr} {co : Nat} (ho : Rd V [] 2 (.slice po L.length co) L.length (L.map Opn.cells).flatten) (hr : Opn.Rds V L) (hL : L.length <= 1000000) {p : Pc} {ph : Option Addr} {ch : Nat} (hh : Rd V [] 1 (.slice ph p.hw.length ch) p.hw.length (p.hw.map byteV)) (hLp : L.map Opn.c = p.os) (hf : Oc.few (L.map Opn.c) = true)  : Does Tryz.prog 21 [.agg #[.int .i64 p.op,.int .u32 p.xid,.int .i64 p.secs,.int .i64 p.flags,.int .u32 p.ci,.int .u32 p.yi,.int .u32 p.si,.int .u32 p.gi,.slice ph p.hw.length ch,.slice po L.length co]] V [] (Pv (.bool (Pc.right p)) V []) := by
 refine Does.intro Tryz.func21 rfl rfl (le rfl) (fun B => ?_)
 refine Zs<|Zr<|?_
 refine Run.box rfl (lt rfl) (fun b1 => ?_)
 refine Za Z<|Ze<|Zg<|Zs<|Zr<|Zv (Y.fieldAddr Z xfo28_9)<|Zv (Y.load Z xts26 (Kn.at 0 Z) Z)<|?_
 refine Yk [] Z Z Z (enc_c ho hr hL hf) (fun v2 V2 H2 _ hR => ?_)
 obtain ⟨hV,rfl,z3,rfl⟩ := hR; replace hV := hV.symm; subst hV
 refine Zm Z<|Zv (Y.extract Z Z)<|Zv (Y.extract Z Z)<|Za Z<|Za Z<|Ze<|Zg<|Zs<|Zb<|Zs<|Zs<|Zr<|Zv (Y.fieldAddr Z xfo28_0)<|Zv (Y.load Z xts3 (Kn.at 0 Z) Z)<|Zv (Y.int Z Z Z)<|Zm Z<|?_
 refine Zq (p.op != 1) (fun h4 g4 => ?_) fun h4 g4 => ?_
 ·refine Zp h4<|Zv (Y.fieldAddr Z xfo28_0)<|Zp h4<|Zv (Y.load Z xts3 (Kn.at 0 Z) Z)<|Zp h4<|Zv (Y.int Z Z Z)<|Zv (Y.pick_t Z h4 Z)<|Za Z<|Ze<|Zg<|?_
  refine Zq (p.op != 2) (fun h5 g5 => ?_) fun h5 g5 => ?_
  ·refine Tr.cond_t Z h5<|Zt<|Zg<|Tr.cond_t Z h5<|Zs<|Zr<|Za Z<|Ze<|Zg<|Zu<|Zk<|Zn<|Ex.keep []<|?_
   exact Ex.ret1 rfl rfl  ⟨congrArg Value.bool (by rw [Bool.eq_iff_iff]; unfold Pc.right; rw [<- hLp]; simp only [Bool.and_eq_true,Bool.or_eq_true,decide_eq_true_eq,beq_iff_eq,Bool.false_eq_true]; exact ⟨fun h => by first | exact h.elim | omega,fun h => by omega⟩),rfl,rfl⟩
  refine Tr.cond_f Z h5<|Zr<|Zv (Y.fieldAddr Z xfo28_8)<|Zv (Y.load Z xts25 (Kn.at 0 Z) Z)<|Zv (Y.lenSl Z xes25)<|Zv (Y.int Z Z Z)<|Zm Z<|?_
  refine Zq (decide (((p.hw.length : Nat) : Int) < 1)) (fun h6 g6 => ?_) fun h6 g6 => ?_
  ·refine Zo h6 Z<|Zo h6 Z<|Zo h6 Z<|Zo h6 Z<|Zv (Y.pick_t Z h6 Z)<|Za Z<|Ze<|Zg<|Tr.cond_t Z Z<|Zs<|Zr<|Za Z<|Ze<|Zg<|Zu<|Zk<|?_
   refine Zn<|Ex.keep []<|?_
   exact Ex.ret1 rfl rfl  ⟨congrArg Value.bool (by rw [Bool.eq_iff_iff]; unfold Pc.right; rw [<- hLp]; simp only [Bool.and_eq_true,Bool.or_eq_true,decide_eq_true_eq,beq_iff_eq,Bool.false_eq_true]; exact ⟨fun h => by first | exact h.elim | omega,fun h => by omega⟩),rfl,rfl⟩
  refine Zp h6<|Zv (Y.fieldAddr Z xfo28_8)<|Zp h6<|Zv (Y.load Z xts25 (Kn.at 0 Z) Z)<|Zp h6<|Zv (Y.lenSl Z xes25)<|Zp h6<|Zv (Y.int Z Z Z)<|Zv (Y.pick_f Z h6 Z)<|Za Z<|Ze<|Zg<|?_
  refine Zq (decide (((p.hw.length : Nat) : Int) > 16)) (fun h7 g7 => ?_) fun h7 g7 => ?_
  ·refine Tr.cond_t Z h7<|Zs<|Zr<|Za Z<|Ze<|Zg<|Zu<|Zk<|Zn<|Ex.keep []<|?_
   exact Ex.ret1 rfl rfl  ⟨congrArg Value.bool (by rw [Bool.eq_iff_iff]; unfold Pc.right; rw [<- hLp]; simp only [Bool.and_eq_true,Bool.or_eq_true,decide_eq_true_eq,beq_iff_eq,Bool.false_eq_true]; exact ⟨fun h => by first | exact h.elim | omega,fun h => by omega⟩),rfl,rfl⟩
  refine Tr.cond_f Z h7<|Zt<|Zc<|Zg<|Zs<|Zr<|Zv (Y.fieldAddr Z xfo28_2)<|Zv (Y.load Z xts3 (Kn.at 0 Z) Z)<|Zv (Y.int Z Z Z)<|Zm Z<|?_
  refine Zq (decide (p.secs >= 0)) (fun h8 g8 => ?_) fun h8 g8 => ?_
  ·refine Zp h8<|Zv (Y.fieldAddr Z xfo28_2)<|Zp h8<|Zv (Y.load Z xts3 (Kn.at 0 Z) Z)<|Zp h8<|Zv (Y.int Z Z Z)<|Zv (Y.pick_t Z h8 Z)<|Zm Z<|?_
   refine Zq (decide (p.secs <= 65535)) (fun h9 g9 => ?_) fun h9 g9 => ?_
   ·refine Zp h9<|Zv (Y.fieldAddr Z xfo28_3)<|Zp h9<|Zv (Y.load Z xts3 (Kn.at 0 Z) Z)<|Zp h9<|Zv (Y.int Z Z Z)<|Zv (Y.pick_t Z h9 Z)<|Zm Z<|?_
    refine Zq (decide (p.flags >= 0)) (fun h10 g10 => ?_) fun h10 g10 => ?_
    ·refine Zp h10<|Zv (Y.fieldAddr Z xfo28_3)<|Zp h10<|Zv (Y.load Z xts3 (Kn.at 0 Z) Z)<|Zp h10<|Zv (Y.int Z Z Z)<|Zv (Y.pick_t Z h10 Z)<|Zm Z<|?_
     refine Zq (decide (p.flags <= 65535)) (fun h11 g11 => ?_) fun h11 g11 => ?_
     ·refine Zp h11<|Zm Z<|Zp h11<|Zv (Y.int Z Z Z)<|Zv (Y.pick_t Z h11 Z)<|Za Z<|Ze<|Zg<|Zu<|Ex.keep []<|?_
      exact Ex.ret1 rfl rfl  ⟨congrArg Value.bool (by rw [Bool.eq_iff_iff]; unfold Pc.right; rw [<- hLp]; simp only [Bool.and_eq_true,Bool.or_eq_true,decide_eq_true_eq,beq_iff_eq,Bool.false_eq_true]; exact ⟨fun h => by first | exact h.elim | omega,fun h => by omega⟩),rfl,rfl⟩
     refine Zo h11 Z<|Zo h11 Z<|Zv (Y.pick_f Z h11 Z)<|Za Z<|Ze<|Zg<|Zu<|Ex.keep []<|?_
     exact Ex.ret1 rfl rfl  ⟨congrArg Value.bool (by rw [Bool.eq_iff_iff]; unfold Pc.right; rw [<- hLp]; simp only [Bool.and_eq_true,Bool.or_eq_true,decide_eq_true_eq,beq_iff_eq,Bool.false_eq_true]; exact ⟨fun h => by first | exact h.elim | omega,fun h => by omega⟩),rfl,rfl⟩
    refine Zo h10 Z<|Zo h10 Z<|Zo h10 Z<|Zv (Y.pick_f Z h10 Z)<|Zm Z<|Zo Z Z<|Zo Z Z<|Zv (Y.pick_f Z Z Z)<|Za Z<|Ze<|Zg<|Zu<|Ex.keep []<|?_
    exact Ex.ret1 rfl rfl  ⟨congrArg Value.bool (by rw [Bool.eq_iff_iff]; unfold Pc.right; rw [<- hLp]; simp only [Bool.and_eq_true,Bool.or_eq_true,decide_eq_true_eq,beq_iff_eq,Bool.false_eq_true]; exact ⟨fun h => by first | exact h.elim | omega,fun h => by omega⟩),rfl,rfl⟩
   refine Zo h9 Z<|Zo h9 Z<|Zo h9 Z<|Zv (Y.pick_f Z h9 Z)<|Zm Z<|Zo Z Z<|Zo Z Z<|Zo Z Z<|Zv (Y.pick_f Z Z Z)<|Zm Z<|Zo Z Z<|Zo Z Z<|Zv (Y.pick_f Z Z Z)<|Za Z<|Ze<|Zg<|?_
   refine Zu<|Ex.keep []<|?_
   exact Ex.ret1 rfl rfl  ⟨congrArg Value.bool (by rw [Bool.eq_iff_iff]; unfold Pc.right; rw [<- hLp]; simp only [Bool.and_eq_true,Bool.or_eq_true,decide_eq_true_eq,beq_iff_eq,Bool.false_eq_true]; exact ⟨fun h => by first | exact h.elim | omega,fun h => by omega⟩),rfl,rfl⟩
  refine Zo h8 Z<|Zo h8 Z<|Zo h8 Z<|Zv (Y.pick_f Z h8 Z)<|Zm Z<|Zo Z Z<|Zo Z Z<|Zo Z Z<|Zv (Y.pick_f Z Z Z)<|Zm Z<|Zo Z Z<|Zo Z Z<|Zo Z Z<|Zv (Y.pick_f Z Z Z)<|Zm Z<|Zo Z Z<|?_
  refine Zo Z Z<|Zv (Y.pick_f Z Z Z)<|Za Z<|Ze<|Zg<|Zu<|Ex.keep []<|?_
  exact Ex.ret1 rfl rfl  ⟨congrArg Value.bool (by rw [Bool.eq_iff_iff]; unfold Pc.right; rw [<- hLp]; simp only [Bool.and_eq_true,Bool.or_eq_true,decide_eq_true_eq,beq_iff_eq,Bool.false_eq_true]; exact ⟨fun h => by first | exact h.elim | omega,fun h => by omega⟩),rfl,rfl⟩
 refine Zo h4 Z<|Zo h4 Z<|Zo h4 Z<|Zv (Y.pick_f Z h4 Z)<|Za Z<|Ze<|Zg<|Tr.cond_f Z Z<|Zr<|Zv (Y.fieldAddr Z xfo28_8)<|Zv (Y.load Z xts25 (Kn.at 0 Z) Z)<|Zv (Y.lenSl Z xes25)<|Zv (Y.int Z Z Z)<|Zm Z<|?_
 refine Zq (decide (((p.hw.length : Nat) : Int) < 1)) (fun h12 g12 => ?_) fun h12 g12 => ?_
 ·refine Zo h12 Z<|Zo h12 Z<|Zo h12 Z<|Zo h12 Z<|Zv (Y.pick_t Z h12 Z)<|Za Z<|Ze<|Zg<|Tr.cond_t Z Z<|Zs<|Zr<|Za Z<|Ze<|Zg<|Zu<|Zk<|?_
  refine Zn<|Ex.keep []<|?_
  exact Ex.ret1 rfl rfl  ⟨congrArg Value.bool (by rw [Bool.eq_iff_iff]; unfold Pc.right; rw [<- hLp]; simp only [Bool.and_eq_true,Bool.or_eq_true,decide_eq_true_eq,beq_iff_eq,Bool.false_eq_true]; exact ⟨fun h => by first | exact h.elim | omega,fun h => by omega⟩),rfl,rfl⟩
 refine Zp h12<|Zv (Y.fieldAddr Z xfo28_8)<|Zp h12<|Zv (Y.load Z xts25 (Kn.at 0 Z) Z)<|Zp h12<|Zv (Y.lenSl Z xes25)<|Zp h12<|Zv (Y.int Z Z Z)<|Zv (Y.pick_f Z h12 Z)<|Za Z<|Ze<|Zg<|?_
 refine Zq (decide (((p.hw.length : Nat) : Int) > 16)) (fun h13 g13 => ?_) fun h13 g13 => ?_
 ·refine Tr.cond_t Z h13<|Zs<|Zr<|Za Z<|Ze<|Zg<|Zu<|Zk<|Zn<|Ex.keep []<|?_
  exact Ex.ret1 rfl rfl  ⟨congrArg Value.bool (by rw [Bool.eq_iff_iff]; unfold Pc.right; rw [<- hLp]; simp only [Bool.and_eq_true,Bool.or_eq_true,decide_eq_true_eq,beq_iff_eq,Bool.false_eq_true]; exact ⟨fun h => by first | exact h.elim | omega,fun h => by omega⟩),rfl,rfl⟩
 refine Tr.cond_f Z h13<|Zt<|Zc<|Zg<|Zs<|Zr<|Zv (Y.fieldAddr Z xfo28_2)<|Zv (Y.load Z xts3 (Kn.at 0 Z) Z)<|Zv (Y.int Z Z Z)<|Zm Z<|?_
 refine Zq (decide (p.secs >= 0)) (fun h14 g14 => ?_) fun h14 g14 => ?_
 ·refine Zp h14<|Zv (Y.fieldAddr Z xfo28_2)<|Zp h14<|Zv (Y.load Z xts3 (Kn.at 0 Z) Z)<|Zp h14<|Zv (Y.int Z Z Z)<|Zv (Y.pick_t Z h14 Z)<|Zm Z<|?_
  refine Zq (decide (p.secs <= 65535)) (fun h15 g15 => ?_) fun h15 g15 => ?_
  ·refine Zp h15<|Zv (Y.fieldAddr Z xfo28_3)<|Zp h15<|Zv (Y.load Z xts3 (Kn.at 0 Z) Z)<|Zp h15<|Zv (Y.int Z Z Z)<|Zv (Y.pick_t Z h15 Z)<|Zm Z<|?_
   refine Zq (decide (p.flags >= 0)) (fun h16 g16 => ?_) fun h16 g16 => ?_
   ·refine Zp h16<|Zv (Y.fieldAddr Z xfo28_3)<|Zp h16<|Zv (Y.load Z xts3 (Kn.at 0 Z) Z)<|Zp h16<|Zv (Y.int Z Z Z)<|Zv (Y.pick_t Z h16 Z)<|Zm Z<|?_
    refine Zq (decide (p.flags <= 65535)) (fun h17 g17 => ?_) fun h17 g17 => ?_
    ·refine Zp h17<|Zm Z<|Zp h17<|Zv (Y.int Z Z Z)<|Zv (Y.pick_t Z h17 Z)<|Za Z<|Ze<|Zg<|Zu<|Ex.keep []<|?_
     exact Ex.ret1 rfl rfl  ⟨congrArg Value.bool (by rw [Bool.eq_iff_iff]; unfold Pc.right; rw [<- hLp]; simp only [Bool.and_eq_true,Bool.or_eq_true,decide_eq_true_eq,beq_iff_eq,Bool.false_eq_true]; exact ⟨fun h => by first | exact h.elim | omega,fun h => by omega⟩),rfl,rfl⟩
    refine Zo h17 Z<|Zo h17 Z<|Zv (Y.pick_f Z h17 Z)<|Za Z<|Ze<|Zg<|Zu<|Ex.keep []<|?_
    exact Ex.ret1 rfl rfl  ⟨congrArg Value.bool (by rw [Bool.eq_iff_iff]; unfold Pc.right; rw [<- hLp]; simp only [Bool.and_eq_true,Bool.or_eq_true,decide_eq_true_eq,beq_iff_eq,Bool.false_eq_true]; exact ⟨fun h => by first | exact h.elim | omega,fun h => by omega⟩),rfl,rfl⟩
   refine Zo h16 Z<|Zo h16 Z<|Zo h16 Z<|Zv (Y.pick_f Z h16 Z)<|Zm Z<|Zo Z Z<|Zo Z Z<|Zv (Y.pick_f Z Z Z)<|Za Z<|Ze<|Zg<|Zu<|Ex.keep []<|?_
   exact Ex.ret1 rfl rfl  ⟨congrArg Value.bool (by rw [Bool.eq_iff_iff]; unfold Pc.right; rw [<- hLp]; simp only [Bool.and_eq_true,Bool.or_eq_true,decide_eq_true_eq,beq_iff_eq,Bool.false_eq_true]; exact ⟨fun h => by first | exact h.elim | omega,fun h => by omega⟩),rfl,rfl⟩
  refine Zo h15 Z<|Zo h15 Z<|Zo h15 Z<|Zv (Y.pick_f Z h15 Z)<|Zm Z<|Zo Z Z<|Zo Z Z<|Zo Z Z<|Zv (Y.pick_f Z Z Z)<|Zm Z<|Zo Z Z<|Zo Z Z<|Zv (Y.pick_f Z Z Z)<|Za Z<|Ze<|Zg<|?_
  refine Zu<|Ex.keep []<|?_
  exact Ex.ret1 rfl rfl  ⟨congrArg Value.bool (by rw [Bool.eq_iff_iff]; unfold Pc.right; rw [<- hLp]; simp only [Bool.and_eq_true,Bool.or_eq_true,decide_eq_true_eq,beq_iff_eq,Bool.false_eq_true]; exact ⟨fun h => by first | exact h.elim | omega,fun h => by omega⟩),rfl,rfl⟩
 refine Zo h14 Z<|Zo h14 Z<|Zo h14 Z<|Zv (Y.pick_f Z h14 Z)<|Zm Z<|Zo Z Z<|Zo Z Z<|Zo Z Z<|Zv (Y.pick_f Z Z Z)<|Zm Z<|Zo Z Z<|Zo Z Z<|Zo Z Z<|Zv (Y.pick_f Z Z Z)<|Zm Z<|Zo Z Z<|?_
 refine Zo Z Z<|Zv (Y.pick_f Z Z Z)<|Za Z<|Ze<|Zg<|Zu<|Ex.keep []<|?_
 exact Ex.ret1 rfl rfl  ⟨congrArg Value.bool (by rw [Bool.eq_iff_iff]; unfold Pc.right; rw [<- hLp]; simp only [Bool.and_eq_true,Bool.or_eq_true,decide_eq_true_eq,beq_iff_eq,Bool.false_eq_true]; exact ⟨fun h => by first | exact h.elim | omega,fun h => by omega⟩),rfl,rfl⟩
theorem pright_h {V : Vw} {H : Hp} {p : Pc} {hv ov : Value} (hp : Pc.R V p hv ov) (hf : Pc.few p = true) : Does Tryz.prog 21 [.agg (p.cells hv ov)] V H (Pv (.bool (Pc.right p)) V H) := by
  obtain ⟨ph,ch,rfl,_⟩ := hp.hw.form
  obtain ⟨L,hLp,ho,hr⟩ := hp.os
  obtain ⟨po,co,rfl,_⟩ := ho.form
  have hf' : Oc.few (L.map Opn.c) = true := by rw [hLp]; simp only [Pc.few,Bool.and_eq_true] at hf; exact hf.1
  have hL : L.length <= 1000000 := by have := (Oc.few_iff.1 hf').1; rw [List.length_map] at this; omega
  exact (pright_c ho hr hL hp.hw hLp hf').frame
theorem oof_c {V : Vw} {code : Int}  : Does Tryz.prog 107 [.int .i64 code] V [] (fun u V' H' => V' = V /\ ∃ b,u = .func (.func 150) #[] #[(pZ b)] /\ H' = [[(b,.cells #[.int .i64 code] 3 (0,0))]]) := by
 refine Does.intro Tryz.func107 rfl rfl (le rfl) (fun B => ?_)
 refine Zs<|Zr<|?_
 refine Run.box rfl (lt rfl) (fun b1 => ?_)
 refine Za Z<|Ze<|Zg<|Zs<|Zr<|Zv (Y.makeFunc (l := []) (l' := [.tmp 1]) Z Z)<|Za Z<|Ze<|Zg<|Zu<|?_
 exact Ex.ret1 rfl rfl  ⟨rfl,_,rfl,rfl⟩
theorem find_c {V : Vw} {L : List Opn} {po : Option Addr} {co : Nat} (ho : Rd V [] 2 (.slice po L.length co) L.length (L.map Opn.cells).flatten) (hr : Opn.Rds V L) (hL : L.length <= 1000000) {code : Int} (hf : Oc.few (L.map Opn.c) = true)  : Does Tryz.prog 46 [.slice po L.length co,.int .i64 code] V [] (fun u V' H' => V' = V /\ ∃ v s',u = .tuple #[v,.bool (Oc.has code (L.map Opn.c))] /\ H' = [s'] /\ Ow 5 1 v (Oc.fd code (L.map Opn.c)).length ((Oc.fd code (L.map Opn.c)).map byteV) s') := by
 refine Does.intro Tryz.func46 rfl rfl (le rfl) (fun B => ?_)
 refine Zs<|Zr<|Za Z<|Za Z<|Ze<|Zg<|Zs<|Zr<|Zm Z<|Zm Z<|?_
 refine Yk [] Z Z Z (oof_c (code := code)) (fun v1 V2 H2 _ hR => ?_)
 obtain ⟨hV,b2,rfl,rfl⟩ := hR; replace hV := hV.symm; subst hV
 refine Yc Z Z Z (ixis_c ho hr hL (Kn.at 0 Z))<|Za Z<|Ze<|Zg<|Zs<|Zs<|Zr<|Zm Z<|Zv (Y.int Z Z Z)<|Ze<|Zg<|?_
 refine Zq (decide ((Oc.ix (Oc.is code) (L.map Opn.c)) < 0)) (fun h3 g3 => ?_) fun h3 g3 => ?_
 ·obtain ⟨hfd,hhas⟩ : Oc.fd code (L.map Opn.c) = [] /\ Oc.has code (L.map Opn.c) = false := by rcases Oc.ixL_cases code L with h | ⟨i,h1,_⟩; exact h.2; omega
  refine Tr.cond_t Z h3<|Zs<|Zr<|Run.nilseg<|Za Z<|Za Z<|Ze<|Zg<|Zu<|Zn<|Ex.keep [0]<|?_
  exact Ex.ret2 rfl rfl rfl  ⟨rfl,_,[],by rw [hhas],rfl,by rw [hfd]; exact Ow.nil _ _⟩
 refine Tr.cond_f Z h3<|Zt<|Zg<|Zs<|Zr<|?_
 obtain ⟨i,hix,hi,hfd,hhas⟩ : ∃ i : Nat,Oc.ix (Oc.is code) (L.map Opn.c) = i /\ i < L.length /\ Oc.fd code (L.map Opn.c) = (L.getD i Opn.dflt).d /\ Oc.has code (L.map Opn.c) = true := by rcases Oc.ixL_cases code L with h | h; omega; exact h
 rw [hix]
 have hd := Oc.few_data hf (i := i) W
 obtain ⟨b,off,c2,cs,e,fz,hw,hc,hko,hcs⟩ := ho.opened W
 obtain ⟨rfl,rfl⟩ : po = some ⟨b,off,none⟩ /\ co = c2 := by cases hw; exact ⟨rfl,rfl⟩
 clear hw
 have hrow := row_at (f := Opn.cells) Opn.len hcs (i := i) W (Nat.le_refl _) Opn.dflt
 have hmem := getD_mem (l := L) (j := i) W Opn.dflt
 generalize hoe : L.getD i Opn.dflt = o at *
 have hro := hr o hmem
 obtain ⟨pd,cd,hov,_⟩ := hro.form
 rw [hov] at hro
 have hrow2 : ∀ j,j < 2 -> cs[off + ((i : Nat) : Int).toNat * 2 + j]? = ([.int .i64 o.code,.slice pd o.d.length cd] : List Value)[j]? := fun j hj => by rw [hrow j hj]; simp only [Opn.cells,hov]
 refine Zm Z<|Zm Z<|Zv (Y.idxAddr Z Z xes26 W W)<|Zv (Y.fieldAddr Z xfo81_1)<|Zv (Y.load Z xts25 hko.of_nil (hrow2 1 WD))<|?_
 refine Yk [] Z Z Z (clone_h hro W) (fun v4 V2 H2 _ hR => ?_)
 obtain ⟨hV,s5,rfl,ho6⟩ := hR; replace hV := hV.symm; subst hV; obtain ⟨p7,c8,rfl⟩ := ho6.form
 refine Za Z<|Za Z<|Ze<|Zg<|Zu<|Ex.keep [1]<|?_
 exact Ex.ret2 rfl rfl rfl  ⟨rfl,_,s5,by rw [hhas],rfl,by rw [hfd]; exact ho6⟩
end Go.Proofs.YtfgblingojgafaaGreat
namespace Go.Proofs.YtfgblingojgafaaGreat
open Go Go.K
attribute [local irreducible] Code.wp wpList Calls wpQuiet
theorem number_c {V : Vw} {H : Hp} {bs : List UInt8} {pb : Option Addr} {cb : Nat} (hvb : Rd V H 1 (.slice pb bs.length cb) bs.length (bs.map byteV)) (h4 : bs.length = 4)  : Does Tryz.prog 139 [.slice pb bs.length cb] V H (Pv (.tuple #[.int .i64 (val bs),.int .i64 0]) V H) := by
 refine Does.intro Tryz.func139 rfl rfl (le rfl) (fun B => ?_)
 refine Zs<|Zr<|Za Z<|Za Z<|Ze<|Zg<|Zs<|Zs<|Zr<|Zm Z<|Zv (Y.lenSl Z xes25)<|Ze<|Zg<|Zb<|Zs<|Zs<|?_
 refine Zr<|Zv (Y.int Z Z Z)<|Za Z<|Ze<|Zg<|Tr.cond_f rfl (by rw [h4]; rfl)<|Zs<|Zr<|Zv (Y.int Z Z Z)<|Za Z<|Ze<|Zg<|Tr.cond_f rfl (by rw [h4]; rfl)<|Zr<|Zv (Y.int Z Z Z)<|Za Z<|?_
 refine Ze<|Zg<|Tr.cond_t rfl (by rw [h4]; rfl)<|Zt<|Zc<|Zg<|Zs<|Zr<|Za Z<|Ze<|Zg<|Zs<|Zs<|Zr<|Zm Z<|Zv (Y.lenSl Z xes25)<|?_
 refine Zm Z<|Ze<|Zg<|Zb<|?_
 refine ZL (X := Nat) (fun i => V) (fun i => H) (fun i => [(13,.slice pb bs.length cb),(14,.int .i64 ((bs.length : Nat) : Int)),(4,.int .i64 (val (bs.take i))),(15,.int .i64 (i : Int))]) (fun i => i <= bs.length) (fun i => bs.length - i) 0 (Nat.zero_le _) ?_ (by repeat (first | exact subB_nil _ | refine subB_cons (by first | rfl | exact congrArg (fun z => some (Value.int _ z)) W | exact congrArg (fun z => some (Value.int _ z)) (val_take W).symm) ?_))
 rintro i hi
 refine Zs<|Zr<|Zv (Y.int Z Z Z)<|Ze<|Zg<|Zs<|?_
 refine Zq (decide ((i : Int) < ((bs.length : Nat) : Int))) (fun h1 g1 => ?_) fun h1 g1 => ?_
 ·obtain ⟨b,off,c2,cs,e,fz,hw,hc,hkb,hcs⟩ := hvb.opened W
  obtain ⟨rfl,rfl⟩ : pb = some ⟨b,off,none⟩ /\ cb = c2 := by cases hw; exact ⟨rfl,rfl⟩
  clear hw
  have hs := val_small (l := bs.take i) (by simp; omega)
  have hb := u8_lt (bs.getD i 0)
  refine Tr.cond_t Z h1<|Zt<|Zg<|Zs<|Zb<|Zs<|Zr<|Zv (Y.idxAddr Z Z xes25 W W)<|Zv (Y.load Z xts5 hkb (at1 hcs W (map_at byteV 0 W)))<|Za Z<|Ze<|Zg<|Zr<|Zm Z<|Zv (Y.shl (val (bs.take i) * 256) rfl rfl WD (shl_byte hs.1 hs.2))<|Zm Z<|?_
  refine Zv (Y.conv (((bs.getD i 0).toNat : Int)) rfl xit5_3 (wrap_i64 W))<|Zv (Y.int (r := .int .i64 (val (bs.take i) * 256 + ((bs.getD i 0).toNat : Int))) rfl rfl (by simp only [intRes]; rw [or_byte hs.1 hs.2 W W]))<|Za Z<|Ze<|Zc<|Zg<|Zr<|Zv (Y.add Z Z W)<|Zm Z<|Ze<|?_
  exact ZR (i + 1) (by show i + 1 <= bs.length; omega) W (by repeat (first | exact subB_nil _ | refine subB_cons (by first | rfl | exact congrArg (fun z => some (Value.int _ z)) W | exact congrArg (fun z => some (Value.int _ z)) (val_take W).symm) ?_))
 refine Tr.cond_f Z h1<|Zx<|Zy<|Zy<|Zi<|Zg<|Zs<|Zr<|Zm Z<|Za Z<|Za Z<|Ze<|Zg<|Zu<|?_
 exact Ex.ret2 rfl rfl rfl  ⟨by rw [List.take_of_length_le W],rfl,rfl⟩
theorem number_h {V : Vw} {H : Hp} {v : Value} {bs : List UInt8} (hv : Rd V H 1 v bs.length (bs.map byteV)) (h4 : bs.length = 4) : Does Tryz.prog 139 [v] V H (Pv (.tuple #[.int .i64 (val bs),.int .i64 0]) V H) := by
  obtain ⟨p,c,rfl,_⟩ := hv.form
  exact number_c hv h4
theorem num_c {V : Vw} {L : List Opn} {po : Option Addr} {co : Nat} (ho : Rd V [] 2 (.slice po L.length co) L.length (L.map Opn.cells).flatten) (hr : Opn.Rds V L) (hL : L.length <= 1000000) {p : Pc} {ph : Option Addr} {ch : Nat} (hh : Rd V [] 1 (.slice ph p.hw.length ch) p.hw.length (p.hw.map byteV)) (hLp : L.map Opn.c = p.os) {code other : Int} (hf : Oc.few (L.map Opn.c) = true)  : Does Tryz.prog 80 [.agg #[.int .i64 p.op,.int .u32 p.xid,.int .i64 p.secs,.int .i64 p.flags,.int .u32 p.ci,.int .u32 p.yi,.int .u32 p.si,.int .u32 p.gi,.slice ph p.hw.length ch,.slice po L.length co],.int .i64 code,.int .i64 other] V [] (Pv (.int .i64 (Pc.num p code other)) V []) := by
 refine Does.intro Tryz.func80 rfl rfl (le rfl) (fun B => ?_)
 refine Zs<|Zr<|?_
 refine Run.box rfl (lt rfl) (fun b1 => ?_)
 refine Za Z<|Ze<|Zg<|Zs<|Zr<|Zv (Y.fieldAddr Z xfo28_9)<|Zv (Y.load Z xts26 (Kn.at 0 Z) Z)<|Zm Z<|?_
 refine Yk [] Z Z Z (find_c (code := code) ho hr hL hf) (fun v2 V2 H2 _ hR => ?_)
 obtain ⟨hV,z3,s4,rfl,rfl,ho5⟩ := hR; replace hV := hV.symm; subst hV; obtain ⟨p6,c7,rfl⟩ := ho5.form
 refine Zm Z<|Zv (Y.extract Z Z)<|Zv (Y.extract Z Z)<|Za Z<|Za Z<|Ze<|Zg<|Zs<|Zs<|Zr<|Zm Z<|Zv (Y.lenSl Z xes25)<|Zv (Y.int Z Z Z)<|Ze<|Zg<|?_
 refine Zq ((((Oc.fd code (L.map Opn.c)).length : Nat) : Int) != 4) (fun h8 g8 => ?_) fun h8 g8 => ?_
 ·refine Tr.cond_t Z h8<|Zs<|Zr<|Zm Z<|Za Z<|Ze<|Zg<|Zu<|Zn<|Ex.keep []<|?_
  exact Ex.ret1 rfl rfl  ⟨congrArg (Value.int _) (by unfold Pc.num; rw [<- hLp,if_neg W]),rfl,rfl⟩
 refine Tr.cond_f Z h8<|Zt<|Zg<|Zs<|Zr<|Zm Z<|Yc Z Z Z (number_h (bs := (Oc.fd code (L.map Opn.c))) (ho5.rd 1 rfl) W)<|Zm Z<|Zv (Y.extract Z Z)<|Zv (Y.extract Z Z)<|Za Z<|Za Z<|Ze<|Zg<|Zs<|Zr<|?_
 refine Zm Z<|Za Z<|Ze<|Zg<|Zu<|Ex.keep []<|?_
 exact Ex.ret1 rfl rfl  ⟨congrArg (Value.int _) (by unfold Pc.num; rw [<- hLp,if_pos W]),rfl,rfl⟩
theorem num_h {V : Vw} {H : Hp} {p : Pc} {hv ov : Value} (hp : Pc.R V p hv ov) {code other : Int} (hf : Pc.few p = true) : Does Tryz.prog 80 [.agg (p.cells hv ov),.int .i64 code,.int .i64 other] V H (Pv (.int .i64 (Pc.num p code other)) V H) := by
  obtain ⟨ph,ch,rfl,_⟩ := hp.hw.form
  obtain ⟨L,hLp,ho,hr⟩ := hp.os
  obtain ⟨po,co,rfl,_⟩ := ho.form
  have hf' : Oc.few (L.map Opn.c) = true := by rw [hLp]; simp only [Pc.few,Bool.and_eq_true] at hf; exact hf.1
  have hL : L.length <= 1000000 := by have := (Oc.few_iff.1 hf').1; rw [List.length_map] at this; omega
  exact (num_c ho hr hL hp.hw hLp hf').frame
theorem kind_c {V : Vw} {L : List Opn} {po : Option Addr} {co : Nat} (ho : Rd V [] 2 (.slice po L.length co) L.length (L.map Opn.cells).flatten) (hr : Opn.Rds V L) (hL : L.length <= 1000000) {p : Pc} {ph : Option Addr} {ch : Nat} (hh : Rd V [] 1 (.slice ph p.hw.length ch) p.hw.length (p.hw.map byteV)) (hLp : L.map Opn.c = p.os) (hf : Oc.few (L.map Opn.c) = true)  : Does Tryz.prog 14 [.agg #[.int .i64 p.op,.int .u32 p.xid,.int .i64 p.secs,.int .i64 p.flags,.int .u32 p.ci,.int .u32 p.yi,.int .u32 p.si,.int .u32 p.gi,.slice ph p.hw.length ch,.slice po L.length co]] V [] (Pv (.int .i64 (Pc.kind p)) V []) := by
 refine Does.intro Tryz.func14 rfl rfl (le rfl) (fun B => ?_)
 refine Zs<|Zr<|?_
 refine Run.box rfl (lt rfl) (fun b1 => ?_)
 refine Za Z<|Ze<|Zg<|Zs<|Zr<|Zv (Y.fieldAddr Z xfo28_9)<|Zv (Y.load Z xts26 (Kn.at 0 Z) Z)<|?_
 refine Yk [] Z Z Z (find_c (code := 53) ho hr hL hf) (fun v2 V2 H2 _ hR => ?_)
 obtain ⟨hV,z3,s4,rfl,rfl,ho5⟩ := hR; replace hV := hV.symm; subst hV; obtain ⟨p6,c7,rfl⟩ := ho5.form
 refine Zm Z<|Zv (Y.extract Z Z)<|Zv (Y.extract Z Z)<|Za Z<|Za Z<|Ze<|Zg<|Zs<|Zs<|Zr<|Zm Z<|Zv (Y.lenSl Z xes25)<|Zv (Y.int Z Z Z)<|Ze<|Zg<|?_
 refine Zq ((((Oc.fd 53 (L.map Opn.c)).length : Nat) : Int) != 1) (fun h8 g8 => ?_) fun h8 g8 => ?_
 ·refine Tr.cond_t Z h8<|Zs<|Zr<|Za Z<|Ze<|Zg<|Zu<|Zn<|Ex.keep []<|?_
  exact Ex.ret1 rfl rfl  ⟨congrArg (Value.int _) (by unfold Pc.kind; rw [<- hLp,if_neg W]),rfl,rfl⟩
 refine Tr.cond_f Z h8<|Zt<|Zg<|Zs<|Zr<|?_
 obtain ⟨b5,off5,c5,cs5,e5,fz5,hw5,_,hk5,hcs5⟩ := (show Rd V [[(b1,.cells #[.int .i64 p.op,.int .u32 p.xid,.int .i64 p.secs,.int .i64 p.flags,.int .u32 p.ci,.int .u32 p.yi,.int .u32 p.si,.int .u32 p.gi,.slice ph p.hw.length ch,.slice po L.length co] 28 (0,0))],s4] 1 (.slice p6 (Oc.fd 53 (L.map Opn.c)).length c7) (Oc.fd 53 (L.map Opn.c)).length ((Oc.fd 53 (L.map Opn.c)).map byteV) from (ho5.rd 1 rfl)).opened W
 obtain ⟨rfl,rfl⟩ : p6 = some ⟨b5,off5,none⟩ /\ c7 = c5 := by cases hw5; exact ⟨rfl,rfl⟩
 have hb := u8_lt ((Oc.fd 53 (L.map Opn.c)).getD 0 0)
 refine Zm Z<|Zv (Y.idxAddr Z Z xes25 W W)<|Zv (Y.load Z xts5 hk5 (at1 (i := 0) hcs5 W (map_at byteV 0 W)))<|Zv (Y.conv ((((Oc.fd 53 (L.map Opn.c)).getD 0 0).toNat : Int)) rfl xit5_3 (wrap_i64 W))<|Za Z<|Ze<|Zg<|Zu<|Ex.keep []<|?_
 exact Ex.ret1 rfl rfl  ⟨congrArg (Value.int _) (by unfold Pc.kind; rw [<- hLp,if_pos W,val_of1 W]),rfl,rfl⟩
theorem kind_h {V : Vw} {H : Hp} {p : Pc} {hv ov : Value} (hp : Pc.R V p hv ov) (hf : Pc.few p = true) : Does Tryz.prog 14 [.agg (p.cells hv ov)] V H (Pv (.int .i64 (Pc.kind p)) V H) := by
  obtain ⟨ph,ch,rfl,_⟩ := hp.hw.form
  obtain ⟨L,hLp,ho,hr⟩ := hp.os
  obtain ⟨po,co,rfl,_⟩ := ho.form
  have hf' : Oc.few (L.map Opn.c) = true := by rw [hLp]; simp only [Pc.few,Bool.and_eq_true] at hf; exact hf.1
  have hL : L.length <= 1000000 := by have := (Oc.few_iff.1 hf').1; rw [List.length_map] at this; omega
  exact (kind_c ho hr hL hp.hw hLp hf').frame
end Go.Proofs.YtfgblingojgafaaGreat
namespace Go.Proofs.YtfgblingojgafaaGreat
open Go Go.K
attribute [local irreducible] Code.wp wpList Calls wpQuiet
theorem bytes_c {V : Vw} {n : Int} (hn : 0 <= n /\ n <= 4294967295)  : Does Tryz.prog 136 [.int .i64 n,.int .i64 4] V [] (fun u V' H' => V' = V /\ ∃ v s',u = .tuple #[v,.int .i64 0] /\ H' = [s'] /\ Ow 5 1 v 4 ((Msg.be 4 n).map byteV) s') := by
 refine Does.intro Tryz.func136 rfl rfl (le rfl) (fun B => ?_)
 refine Zs<|Zr<|Za Z<|Za Z<|Ze<|Zg<|Zs<|Zs<|Zr<|Zm Z<|Ze<|Zg<|Zb<|Zs<|Zs<|Zr<|?_
 refine Zv (Y.int (r := .bool false) Z Z Z)<|Za Z<|Ze<|Zg<|Tr.cond_f Z Z<|Zs<|Zr<|Zv (Y.int (r := .bool false) Z Z Z)<|Za Z<|Ze<|Zg<|Tr.cond_f Z Z<|Zr<|Zv (Y.int (r := .bool true) Z Z Z)<|Za Z<|Ze<|?_
 refine Zg<|Tr.cond_t Z Z<|Zt<|Zc<|Zg<|Zs<|Zs<|Zr<|Zm Z<|Zv (Y.int Z Z Z)<|Zm Z<|?_
 refine Zq (decide (n < 0)) (fun h1 g1 => ?_) fun h1 g1 => ?_
 ·omega
 refine Zp h1<|Zm Z<|Zp h1<|Zm Z<|Zp h1<|Zv (Y.mul Z Z W)<|Zp h1<|Zv (Y.shl (4294967296) rfl rfl WD WD)<|Zp h1<|Zv (Y.int Z Z Z)<|Zv (Y.pick_f Z h1 Z)<|Ze<|Zg<|?_
 refine Zq (decide (n >= 4294967296)) (fun h2 g2 => ?_) fun h2 g2 => ?_
 ·omega
 refine Tr.cond_f Z h2<|Zt<|Zg<|Zs<|Zr<|Za Z<|Ze<|Zg<|Zs<|Zs<|Zr<|Run.nilseg<|Zm Z<|Zv (Y.sub Z Z W)<|Za Z<|Ze<|?_
 refine Zg<|Zb<|?_
 refine ZL (X := Nat × Value × Sg) (fun x => V) (fun x => [x.2.2]) (fun x => [(0,.int .i64 n),(1,.int .i64 4),(6,x.2.1),(7,.int .i64 (3 - (x.1 : Int)))]) (fun x => x.1 <= 4 /\ Ow 5 1 x.2.1 x.1 (((Msg.be 4 n).take x.1).map byteV) x.2.2) (fun x => 4 - x.1) (0,.slice none 0 0,[]) ⟨Nat.zero_le _,Ow.nil _ _⟩ ?_
 rintro x ⟨hj,hx⟩
 refine Zs<|Zs<|Zr<|Zm Z<|Zv (Y.int Z Z Z)<|Ze<|Zg<|?_
 refine Zq (decide ((3 - (x.1 : Int)) >= 0)) (fun h3 g3 => ?_) fun h3 g3 => ?_
 ·refine Tr.cond_t Z h3<|Zt<|Zg<|Zs<|Zb<|Zr<|Zm Z<|Zm Z<|Zm Z<|Zv (Y.mul Z Z W)<|Zv (Y.shr (n / 256 ^ (4 - 1 - x.1)) rfl rfl W (Msg.shr_be W W))<|Zv (Y.conv (n / 256 ^ (4 - 1 - x.1) % 256) Z xit3_5 (wrap_u8_mod _))<|?_
  refine Run.buildSlice (l := [(0,.tmp 33)]) xes25 xzo5 rfl WD rfl rfl WD (lt rfl) (fun b4 => ?_)
  refine Run.append (n := x.1) (m := 1) (xs := ((Msg.be 4 n).take x.1).map byteV) (ys := [.int .u8 (n / 256 ^ (4 - 1 - x.1) % 256)]) rfl rfl xes25 xzi5 WD (j := 1) rfl hx (Src.of_rd xes25 (Rd.one (Kn.at 0 rfl) rfl)) W W rfl (lt rfl) (fun v5 s6 ho7 hf => ?_)
  obtain ⟨p5,c5,rfl⟩ := hf
  refine Za Z<|Ze<|Zc<|Zg<|Zr<|Zm Z<|Zv (Y.sub Z Z W)<|Za Z<|Ze<|Ex.keep [1]<|?_
  exact ZR (x.1 + 1,(.slice p5 (x.1 + 1) c5),s6) ⟨by show x.1 + 1 <= 4; omega,by have h := ho7; show Ow _ 1 (.slice p5 (x.1 + 1) c5) (x.1 + 1) (((Msg.be 4 n).take (x.1 + 1)).map byteV) s6; rw [Msg.be_step W,List.map_append,List.map_cons,List.map_nil,byteV_of W]; exact h⟩ (by show 4 - (x.1 + 1) < 4 - x.1; omega)
 refine Tr.cond_f Z h3<|Zx<|Zy<|Zy<|Zi<|Zg<|Zs<|Zr<|Zm Z<|Za Z<|Za Z<|Ze<|Zg<|Zu<|?_
 exact Ex.ret2 rfl rfl rfl  ⟨rfl,_,_,rfl,rfl,by have h := hx; rw [show x.1 = 4 from by omega,List.take_of_length_le (by rw [Msg.be_length]; omega)] at h; exact h⟩
theorem rbytes_c {V : Vw} {n : Int} (hn : 0 <= n /\ n <= 4294967295)  : Does Tryz.prog 132 [.int .i64 n,.int .i64 4] V [] (fun u V' H' => V' = V /\ ∃ v s',u = .tuple #[v,.int .i64 0] /\ H' = [s'] /\ Ow 5 1 v 4 ((Msg.be 4 n).map byteV) s') := by
 refine Does.intro Tryz.func132 rfl rfl (le rfl) (fun B => ?_)
 refine Zs<|Zr<|Za Z<|Za Z<|Ze<|Zg<|Zs<|Zs<|Zr<|Zm Z<|Zv (Y.int (r := .bool true) Z Z Z)<|Zm Z<|Zp Z<|Zm Z<|Zp Z<|Zv (Y.int (r := .bool true) Z Z Z)<|?_
 refine Zv (Y.pick_t Z Z Z)<|Zm Z<|Zp Z<|Zm Z<|Zp Z<|Zv (Y.int (r := .bool false) Z Z Z)<|Zv (Y.pick_t Z Z Z)<|Zm Z<|Zp Z<|Zm Z<|Zp Z<|Zv (Y.int Z Z Z)<|Zv (Y.pick_f Z Z Z)<|Ze<|Zg<|?_
 refine Zq (decide (n < 0)) (fun h1 g1 => ?_) fun h1 g1 => ?_
 ·omega
 refine Tr.cond_f Z h1<|Zt<|Zg<|Zs<|Zr<|Zm Z<|?_
 refine Run.makeSlice (n := 4) rfl rfl xes25 xzi5 WD W W (lt rfl) (fun b2 => ?_)
 rw [show rep (Value.int .u8 0).cells.toList 4 = Msg.row 4 0 n from Msg.row_zero 4 n]
 refine Za Z<|Ze<|Zg<|Zs<|Zs<|Zr<|Zm Z<|Zv (Y.sub Z Z W)<|Za Z<|Ze<|Zg<|Zb<|?_
 refine ZL (X := Nat) (fun x => V) (fun x => [[(b2,.cells (Msg.row 4 x n).toArray 5 (0,0))]]) (fun x => [(0,.int .i64 (n / 256 ^ x)),(1,.int .i64 4),(6,.slice (some ⟨b2,0,none⟩) 4 4),(7,.int .i64 (3 - (x : Int)))]) (fun x => x <= 4) (fun x => 4 - x) 0 (Nat.zero_le _) ?_
 rintro x hx
 refine Zs<|Zs<|Zr<|Zm Z<|Zv (Y.int Z Z Z)<|Ze<|Zg<|?_
 refine Zq (decide ((3 - (x : Int)) >= 0)) (fun h3 g3 => ?_) fun h3 g3 => ?_
 ·refine Tr.cond_t Z h3<|Zt<|Zg<|Zs<|Zb<|Zs<|Zr<|Zm Z<|Zm Z<|Zm Z<|Zv (Y.rem (n / 256 ^ x % 256) rfl rfl WD (Msg.tmod_256 hn.1 x))<|Zv (Y.conv (n / 256 ^ x % 256) rfl xit3_5 (wrap_u8 W))<|Zv (Y.idxAddr Z Z xes25 W W)<|Run.store (off := 0 + ((3 - (x : Int)).toNat * 1)) (z := 1) (c := Msg.row 4 x n) (s := [(b2,.cells (Msg.row 4 (x + 1) n).toArray 5 (0,0))]) rfl rfl xsz5 (i := 0) rfl rfl (by rw [Msg.row_length W]; omega) rfl (by rw [show (3 : Int) - (x : Int) = ((4 : Nat) : Int) - 1 - (x : Int) from by omega,Msg.row_step W W]; rfl)<|?_
  refine Ze<|Zg<|Zr<|Zm Z<|Zv (Y.quo (n / 256 ^ (x + 1)) rfl rfl WD (Msg.tdiv_256 (show 0 <= n /\ n <= 9223372036854775807 by omega) x))<|Za Z<|Ze<|Zc<|Zg<|Zr<|Zm Z<|Zv (Y.sub Z Z W)<|Za Z<|Ze<|?_
  exact ZR (x + 1) (by show x + 1 <= 4; omega) W
 refine Tr.cond_f Z h3<|Zx<|Zy<|Zy<|Zi<|Zg<|Zs<|Zs<|Zr<|Zm Z<|Zv (Y.int Z Z Z)<|Ze<|Zg<|?_
 refine Zq (decide ((n / 256 ^ x) > 0)) (fun h4 g4 => ?_) fun h4 g4 => ?_
 ·have hx4 : x = 4 := by omega
  subst hx4
  have h256 : (256 : Int) ^ 4 = 4294967296 := rfl
  have h0 : n / 256 ^ 4 = 0 := Int.ediv_eq_zero_of_lt hn.1 W
  omega
 refine Tr.cond_f Z h4<|Zt<|Zg<|Zs<|Zr<|Zm Z<|Za Z<|Za Z<|Ze<|Zg<|Zu<|?_
 exact Ex.ret2 rfl rfl rfl  ⟨rfl,_,_,rfl,rfl,by rw [show x = 4 from by omega]; exact Msg.row_ow 4 n _ _ W⟩
theorem long_c {V : Vw} {n : Int} (hn : 0 <= n /\ n <= 4294967295) {code : Int}  : Does Tryz.prog 77 [.int .i64 code,.int .u32 n] V [] (fun u V' H' => V' = V /\ ∃ v s',u = .agg #[.int .i64 code,v] /\ H' = [s'] /\ Ow 5 1 v 4 ((Msg.be 4 n).map byteV) s') := by
 refine Does.intro Tryz.func77 rfl rfl (le rfl) (fun B => ?_)
 refine Zs<|Zr<|?_
 refine Run.alloc xzo81 (lt rfl) (fun b1 => ?_)
 refine Ze<|Zg<|Zs<|Zr<|Zm Z<|Zv (Y.conv (n) rfl xit24_3 (wrap_i64 W))<|?_
 refine Yk [] Z Z Z (bytes_c (n := n) W) (fun v2 V2 H2 _ hR => ?_)
 obtain ⟨hV,z3,s4,rfl,rfl,ho5⟩ := hR; replace hV := hV.symm; subst hV; obtain ⟨p6,c7,rfl⟩ := ho5.form
 refine Zm Z<|Zv (Y.extract Z Z)<|Zv (Y.extract Z Z)<|Za Z<|Za Z<|Ze<|Zg<|Zs<|Zr<|Zm Z<|Zm Z<|Zv (Y.buildS (l := [(0,.tmp 13),(1,.tmp 14)]) xzo81 xpl81 Z Z)<|Run.store (s := [(b1,.cells #[.int .i64 code,.slice p6 4 c7] 81 (0,0))]) Z Z xsz81 (i := 0) Z Z (le Z) Z Z<|Ze<|Zg<|Zu<|?_
 exact Ex.retCell [1] rfl rfl xag81 (Kn.at 0 rfl) rfl ⟨rfl,_,s4,rfl,rfl,ho5⟩
end Go.Proofs.YtfgblingojgafaaGreat
namespace Go.Proofs.YtfgblingojgafaaGreat
open Go Go.K
attribute [local irreducible] Code.wp wpList Calls wpQuiet
theorem told_c {V : Vw} {L : List Opn} {po : Option Addr} {co : Nat} (ho : Rd V [] 2 (.slice po L.length co) L.length (L.map Opn.cells).flatten) (hr : Opn.Rds V L) (hL : L.length <= 1000000) {p : Pc} {ph : Option Addr} {ch : Nat} (hh : Rd V [] 1 (.slice ph p.hw.length ch) p.hw.length (p.hw.map byteV)) (hLp : L.map Opn.c = p.os) {code : Int} (hf : Oc.few (L.map Opn.c) = true)  : Does Tryz.prog 91 [.agg #[.int .i64 p.op,.int .u32 p.xid,.int .i64 p.secs,.int .i64 p.flags,.int .u32 p.ci,.int .u32 p.yi,.int .u32 p.si,.int .u32 p.gi,.slice ph p.hw.length ch,.slice po L.length co],.int .i64 code] V [] (Pv (.tuple #[.int .i64 (Pc.num p code 0),.bool ((Oc.fd code p.os).length == 4)]) V []) := by
 refine Does.intro Tryz.func91 rfl rfl (le rfl) (fun B => ?_)
 refine Zs<|Zr<|?_
 refine Run.box rfl (lt rfl) (fun b1 => ?_)
 refine Za Z<|Za Z<|Ze<|Zg<|Zs<|Zr<|Zv (Y.fieldAddr Z xfo28_9)<|Zv (Y.load Z xts26 (Kn.at 0 Z) Z)<|Zm Z<|?_
 refine Yk [] Z Z Z (find_c (code := code) ho hr hL hf) (fun v2 V2 H2 _ hR => ?_)
 obtain ⟨hV,z3,s4,rfl,rfl,ho5⟩ := hR; replace hV := hV.symm; subst hV; obtain ⟨p6,c7,rfl⟩ := ho5.form
 refine Zm Z<|Zv (Y.extract Z Z)<|Zv (Y.extract Z Z)<|Za Z<|Za Z<|Ze<|Zg<|Zs<|Zs<|Zr<|Zm Z<|Zv (Y.lenSl Z xes25)<|Zv (Y.int Z Z Z)<|Ze<|Zg<|?_
 refine Zq ((((Oc.fd code (L.map Opn.c)).length : Nat) : Int) != 4) (fun h8 g8 => ?_) fun h8 g8 => ?_
 ·refine Tr.cond_t Z h8<|Zs<|Zr<|Za Z<|Za Z<|Ze<|Zg<|Zu<|Zn<|Ex.keep []<|?_
  exact Ex.ret2 rfl rfl rfl  ⟨by rw [<- hLp,show Pc.num p code 0 = _ from by unfold Pc.num; rw [<- hLp,if_neg W],show ((Oc.fd code (L.map Opn.c)).length == 4) = false from beq_eq_false_iff_ne.2 W]; try rfl,rfl,rfl⟩
 refine Tr.cond_f Z h8<|Zt<|Zg<|Zs<|Zr<|Zm Z<|Yc Z Z Z (number_h (bs := (Oc.fd code (L.map Opn.c))) (ho5.rd 1 rfl) W)<|Zm Z<|Zv (Y.extract Z Z)<|Zv (Y.extract Z Z)<|Za Z<|Za Z<|Ze<|Zg<|Zs<|Zr<|?_
 refine Zm Z<|Za Z<|Za Z<|Ze<|Zg<|Zu<|Ex.keep []<|?_
 exact Ex.ret2 rfl rfl rfl  ⟨by rw [<- hLp,show Pc.num p code 0 = _ from by unfold Pc.num; rw [<- hLp,if_pos W],show ((Oc.fd code (L.map Opn.c)).length == 4) = true from beq_iff_eq.2 W]; try rfl,rfl,rfl⟩
theorem pasked_c {V : Vw} {L : List Opn} {po : Option Addr} {co : Nat} (ho : Rd V [] 2 (.slice po L.length co) L.length (L.map Opn.cells).flatten) (hr : Opn.Rds V L) (hL : L.length <= 1000000) {p : Pc} {ph : Option Addr} {ch : Nat} (hh : Rd V [] 1 (.slice ph p.hw.length ch) p.hw.length (p.hw.map byteV)) (hLp : L.map Opn.c = p.os) (hf : Oc.few (L.map Opn.c) = true)  : Does Tryz.prog 39 [.agg #[.int .i64 p.op,.int .u32 p.xid,.int .i64 p.secs,.int .i64 p.flags,.int .u32 p.ci,.int .u32 p.yi,.int .u32 p.si,.int .u32 p.gi,.slice ph p.hw.length ch,.slice po L.length co]] V [] (Pv (.tuple #[.int .u32 (Pc.asked p),.int .i64 (Pc.asks p)]) V []) := by
 refine Does.intro Tryz.func39 rfl rfl (le rfl) (fun B => ?_)
 refine Zs<|Zr<|?_
 refine Run.box rfl (lt rfl) (fun b1 => ?_)
 refine Za Z<|Za Z<|Ze<|Zg<|Zs<|Zr<|Zv (Y.fieldAddr Z xfo28_4)<|Zv (Y.load Z xts24 (Kn.at 0 Z) Z)<|Za Z<|Ze<|Zg<|Zs<|Zs<|Zr<|Zv (Y.loadAgg Z xag28 (Kn.at 0 Z) Z)<|Yc Z Z Z ((told_c (code := 50) ho hr hL hh hLp hf).frame)<|?_
 refine Zm Z<|Zv (Y.extract Z Z)<|Zv (Y.extract Z Z)<|Za Z<|Za Z<|Ze<|Zg<|Zs<|Zr<|Zm Z<|Ze<|Zg<|?_
 refine Zq ((Oc.fd 50 p.os).length == 4) (fun h2 g2 => ?_) fun h2 g2 => ?_
 ·have h50 := beq_iff_eq.1 h2
  have hn50 : Pc.num p 50 0 = val (Oc.fd 50 p.os) := if_pos h50
  have hv50 := Cli.val4 h50
  refine Tr.cond_t Z h2<|Zr<|Zm Z<|Zv (Y.conv (Pc.num p 50 0) rfl xit3_24 (wrap_u32 W))<|Za Z<|Ze<|Zg<|Zs<|Zr<|Zv (Y.loadAgg Z xag28 (Kn.at 0 Z) Z)<|Yc Z Z Z ((told_c (code := 51) ho hr hL hh hLp hf).frame)<|Zm Z<|Zv (Y.extract Z Z)<|Zv (Y.extract Z Z)<|Za Z<|Za Z<|?_
  refine Ze<|Zg<|Zs<|Zr<|Zm Z<|Zm Z<|Za Z<|Za Z<|Ze<|Zg<|Zu<|Ex.keep []<|?_
  exact Ex.ret2 rfl rfl rfl  ⟨by rw [hn50,show Pc.asked p = _ from if_pos h50]; rfl,rfl,rfl⟩
 refine Tr.cond_f Z h2<|Zt<|Zg<|Zs<|Zr<|Zv (Y.loadAgg Z xag28 (Kn.at 0 Z) Z)<|Yc Z Z Z ((told_c (code := 51) ho hr hL hh hLp hf).frame)<|Zm Z<|Zv (Y.extract Z Z)<|Zv (Y.extract Z Z)<|Za Z<|Za Z<|Ze<|Zg<|Zs<|Zr<|?_
 refine Zm Z<|Zm Z<|Za Z<|Za Z<|Ze<|Zg<|Zu<|Ex.keep []<|?_
 exact Ex.ret2 rfl rfl rfl  ⟨by rw [show Pc.asked p = _ from if_neg (beq_eq_false_iff_ne.1 h2)]; rfl,rfl,rfl⟩
theorem pclient_c {V : Vw} {L : List Opn} {po : Option Addr} {co : Nat} (ho : Rd V [] 2 (.slice po L.length co) L.length (L.map Opn.cells).flatten) (hr : Opn.Rds V L) (hL : L.length <= 1000000) {p : Pc} {ph : Option Addr} {ch : Nat} (hh : Rd V [] 1 (.slice ph p.hw.length ch) p.hw.length (p.hw.map byteV)) (hLp : L.map Opn.c = p.os) (hf : Oc.few (L.map Opn.c) = true)  : Does Tryz.prog 17 [.agg #[.int .i64 p.op,.int .u32 p.xid,.int .i64 p.secs,.int .i64 p.flags,.int .u32 p.ci,.int .u32 p.yi,.int .u32 p.si,.int .u32 p.gi,.slice ph p.hw.length ch,.slice po L.length co]] V [] (Pv (.string (Pc.client p)) V []) := by
 refine Does.intro Tryz.func17 rfl rfl (le rfl) (fun B => ?_)
 refine Zs<|Zr<|?_
 refine Run.box rfl (lt rfl) (fun b1 => ?_)
 refine Za Z<|Ze<|Zg<|Zs<|Zr<|Zv (Y.fieldAddr Z xfo28_9)<|Zv (Y.load Z xts26 (Kn.at 0 Z) Z)<|?_
 refine Yk [] Z Z Z (find_c (code := 61) ho hr hL hf) (fun v2 V2 H2 _ hR => ?_)
 obtain ⟨hV,z3,s4,rfl,rfl,ho5⟩ := hR; replace hV := hV.symm; subst hV; obtain ⟨p6,c7,rfl⟩ := ho5.form
 refine Zm Z<|Zv (Y.extract Z Z)<|Zv (Y.extract Z Z)<|Za Z<|Za Z<|Ze<|Zg<|Zs<|Zs<|Zr<|Zm Z<|Zv (Y.lenSl Z xes25)<|Zv (Y.int Z Z Z)<|Zm Z<|?_
 refine Zq (decide ((((Oc.fd 61 (L.map Opn.c)).length : Nat) : Int) < 1)) (fun h8 g8 => ?_) fun h8 g8 => ?_
 ·refine Zo h8 Z<|Zo h8 Z<|Zo h8 Z<|Zv (Y.pick_t Z h8 Z)<|Ze<|Zg<|Tr.cond_t Z Z<|Zs<|Zr<|Zv (Y.fieldAddr Z xfo28_8)<|Zv (Y.load Z xts25 (Kn.at 0 Z) Z)<|Zv (Y.bytesStr (bs := p.hw) Z xes25 xtg5 xst9 hh.of_nil)<|Za Z<|Ze<|Zg<|Zu<|?_
  refine Zn<|Ex.keep []<|?_
  exact Ex.ret1 rfl rfl  ⟨congrArg Value.string (by unfold Pc.client; rw [<- hLp,if_neg W]),rfl,rfl⟩
 refine Zp h8<|Zm Z<|Zp h8<|Zv (Y.lenSl Z xes25)<|Zp h8<|Zv (Y.int Z Z Z)<|Zv (Y.pick_f Z h8 Z)<|Ze<|Zg<|?_
 refine Zq (decide ((((Oc.fd 61 (L.map Opn.c)).length : Nat) : Int) > 32)) (fun h9 g9 => ?_) fun h9 g9 => ?_
 ·refine Tr.cond_t Z h9<|Zs<|Zr<|Zv (Y.fieldAddr Z xfo28_8)<|Zv (Y.load Z xts25 (Kn.at 0 Z) Z)<|Zv (Y.bytesStr (bs := p.hw) Z xes25 xtg5 xst9 hh.of_nil)<|Za Z<|Ze<|Zg<|Zu<|Zn<|Ex.keep []<|?_
  exact Ex.ret1 rfl rfl  ⟨congrArg Value.string (by unfold Pc.client; rw [<- hLp,if_neg W]),rfl,rfl⟩
 refine Tr.cond_f Z h9<|Zt<|Zg<|Zs<|Zr<|Zm Z<|Zv (Y.bytesStr (bs := (Oc.fd 61 (L.map Opn.c))) Z xes25 xtg5 xst9 (ho5.rd 1 Z))<|Za Z<|Ze<|Zg<|Zu<|Ex.keep []<|?_
 exact Ex.ret1 rfl rfl  ⟨congrArg Value.string (by unfold Pc.client; rw [<- hLp,if_pos W]),rfl,rfl⟩
theorem pasked_h {V : Vw} {H : Hp} {p : Pc} {hv ov : Value} (hp : Pc.R V p hv ov) (hf : Pc.few p = true) : Does Tryz.prog 39 [.agg (p.cells hv ov)] V H (Pv (.tuple #[.int .u32 (Pc.asked p),.int .i64 (Pc.asks p)]) V H) := by
  obtain ⟨ph,ch,rfl,_⟩ := hp.hw.form
  obtain ⟨L,hLp,ho,hr⟩ := hp.os
  obtain ⟨po,co,rfl,_⟩ := ho.form
  have hf' : Oc.few (L.map Opn.c) = true := by rw [hLp]; simp only [Pc.few,Bool.and_eq_true] at hf; exact hf.1
  have hL : L.length <= 1000000 := by have := (Oc.few_iff.1 hf').1; rw [List.length_map] at this; omega
  exact (pasked_c ho hr hL hp.hw hLp hf').frame
theorem pclient_h {V : Vw} {H : Hp} {p : Pc} {hv ov : Value} (hp : Pc.R V p hv ov) (hf : Pc.few p = true) : Does Tryz.prog 17 [.agg (p.cells hv ov)] V H (Pv (.string (Pc.client p)) V H) := by
  obtain ⟨ph,ch,rfl,_⟩ := hp.hw.form
  obtain ⟨L,hLp,ho,hr⟩ := hp.os
  obtain ⟨po,co,rfl,_⟩ := ho.form
  have hf' : Oc.few (L.map Opn.c) = true := by rw [hLp]; simp only [Pc.few,Bool.and_eq_true] at hf; exact hf.1
  have hL : L.length <= 1000000 := by have := (Oc.few_iff.1 hf').1; rw [List.length_map] at this; omega
  exact (pclient_c ho hr hL hp.hw hLp hf').frame
theorem number_o {V : Vw} {H : Hp} {bs : List UInt8} {pb : Option Addr} {cb : Nat} (hvb : Rd V H 1 (.slice pb bs.length cb) bs.length (bs.map byteV)) (h4 : ¬ bs.length = 4)  : Does Tryz.prog 139 [.slice pb bs.length cb] V H (fun u V' H' => V' = V /\ H' = H /\ ∃ n e,u = .tuple #[.int .i64 n,.int .i64 e]) := by
 have hlen : bs.length <= 2 \/ bs.length > 2 := by omega
 refine Does.intro Tryz.func139 rfl rfl (le rfl) (fun B => ?_)
 refine Zs<|Zr<|Za Z<|Za Z<|Ze<|Zg<|Zs<|Zs<|Zr<|Zm Z<|Zv (Y.lenSl Z xes25)<|Ze<|Zg<|Zb<|Zs<|Zs<|?_
 refine Zr<|Zv (Y.int Z Z Z)<|Za Z<|Ze<|Zg<|?_
 refine Zq (((bs.length : Nat) : Int) == 1) (fun h1 g1 => ?_) fun h1 g1 => ?_
 ·refine Tr.cond_t Z h1<|Zt<|Zg<|Tr.cond_t Z h1<|Zt<|Zc<|Zg<|Zs<|Zr<|Za Z<|Ze<|Zg<|Zs<|Zs<|Zr<|Zm Z<|?_
  refine Zv (Y.lenSl Z xes25)<|Zm Z<|Ze<|Zg<|Zb<|?_
  refine ZL (X := Nat) (fun i => V) (fun i => H) (fun i => [(13,.slice pb bs.length cb),(14,.int .i64 ((bs.length : Nat) : Int)),(4,.int .i64 (val (bs.take i))),(15,.int .i64 (i : Int))]) (fun i => i <= bs.length) (fun i => bs.length - i) 0 (Nat.zero_le _) ?_ (by repeat (first | exact subB_nil _ | refine subB_cons (by first | rfl | exact congrArg (fun z => some (Value.int _ z)) W | exact congrArg (fun z => some (Value.int _ z)) (val_take W).symm) ?_))
  rintro i hi
  refine Zs<|Zr<|Zv (Y.int Z Z Z)<|Ze<|Zg<|Zs<|?_
  refine Zq (decide ((i : Int) < ((bs.length : Nat) : Int))) (fun h2 g2 => ?_) fun h2 g2 => ?_
  ·obtain ⟨b,off,c2,cs,e,fz,hw,hc,hkb,hcs⟩ := hvb.opened W
   obtain ⟨rfl,rfl⟩ : pb = some ⟨b,off,none⟩ /\ cb = c2 := by cases hw; exact ⟨rfl,rfl⟩
   clear hw
   have hs := val_small (l := bs.take i) (by simp; omega)
   have hb := u8_lt (bs.getD i 0)
   refine Tr.cond_t Z h2<|Zt<|Zg<|Zs<|Zb<|Zs<|Zr<|Zv (Y.idxAddr Z Z xes25 W W)<|Zv (Y.load Z xts5 hkb (at1 hcs W (map_at byteV 0 W)))<|Za Z<|Ze<|Zg<|Zr<|Zm Z<|Zv (Y.shl (val (bs.take i) * 256) rfl rfl WD (shl_byte hs.1 hs.2))<|Zm Z<|?_
   refine Zv (Y.conv (((bs.getD i 0).toNat : Int)) rfl xit5_3 (wrap_i64 W))<|Zv (Y.int (r := .int .i64 (val (bs.take i) * 256 + ((bs.getD i 0).toNat : Int))) rfl rfl (by simp only [intRes]; rw [or_byte hs.1 hs.2 W W]))<|Za Z<|Ze<|Zc<|Zg<|Zr<|Zv (Y.add Z Z W)<|Zm Z<|Ze<|?_
   exact ZR (i + 1) (by show i + 1 <= bs.length; omega) W (by repeat (first | exact subB_nil _ | refine subB_cons (by first | rfl | exact congrArg (fun z => some (Value.int _ z)) W | exact congrArg (fun z => some (Value.int _ z)) (val_take W).symm) ?_))
  refine Tr.cond_f Z h2<|Zx<|Zy<|Zy<|Zi<|Zg<|Zs<|Zr<|Zm Z<|Za Z<|Za Z<|Ze<|Zg<|Zu<|?_
  exact Ex.ret2 rfl rfl rfl  ⟨rfl,rfl,_,_,rfl⟩
 refine Tr.cond_f Z h1<|Zs<|Zr<|Zv (Y.int Z Z Z)<|Za Z<|Ze<|Zg<|?_
 refine Zq (((bs.length : Nat) : Int) == 2) (fun h3 g3 => ?_) fun h3 g3 => ?_
 ·refine Tr.cond_t Z h3<|Zt<|Zg<|Tr.cond_t Z h3<|Zt<|Zc<|Zg<|Zs<|Zr<|Za Z<|Ze<|Zg<|Zs<|Zs<|Zr<|Zm Z<|?_
  refine Zv (Y.lenSl Z xes25)<|Zm Z<|Ze<|Zg<|Zb<|?_
  refine ZL (X := Nat) (fun i => V) (fun i => H) (fun i => [(13,.slice pb bs.length cb),(14,.int .i64 ((bs.length : Nat) : Int)),(4,.int .i64 (val (bs.take i))),(15,.int .i64 (i : Int))]) (fun i => i <= bs.length) (fun i => bs.length - i) 0 (Nat.zero_le _) ?_ (by repeat (first | exact subB_nil _ | refine subB_cons (by first | rfl | exact congrArg (fun z => some (Value.int _ z)) W | exact congrArg (fun z => some (Value.int _ z)) (val_take W).symm) ?_))
  rintro i hi
  refine Zs<|Zr<|Zv (Y.int Z Z Z)<|Ze<|Zg<|Zs<|?_
  refine Zq (decide ((i : Int) < ((bs.length : Nat) : Int))) (fun h4 g4 => ?_) fun h4 g4 => ?_
  ·obtain ⟨b,off,c2,cs,e,fz,hw,hc,hkb,hcs⟩ := hvb.opened W
   obtain ⟨rfl,rfl⟩ : pb = some ⟨b,off,none⟩ /\ cb = c2 := by cases hw; exact ⟨rfl,rfl⟩
   clear hw
   have hs := val_small (l := bs.take i) (by simp; omega)
   have hb := u8_lt (bs.getD i 0)
   refine Tr.cond_t Z h4<|Zt<|Zg<|Zs<|Zb<|Zs<|Zr<|Zv (Y.idxAddr Z Z xes25 W W)<|Zv (Y.load Z xts5 hkb (at1 hcs W (map_at byteV 0 W)))<|Za Z<|Ze<|Zg<|Zr<|Zm Z<|Zv (Y.shl (val (bs.take i) * 256) rfl rfl WD (shl_byte hs.1 hs.2))<|Zm Z<|?_
   refine Zv (Y.conv (((bs.getD i 0).toNat : Int)) rfl xit5_3 (wrap_i64 W))<|Zv (Y.int (r := .int .i64 (val (bs.take i) * 256 + ((bs.getD i 0).toNat : Int))) rfl rfl (by simp only [intRes]; rw [or_byte hs.1 hs.2 W W]))<|Za Z<|Ze<|Zc<|Zg<|Zr<|Zv (Y.add Z Z W)<|Zm Z<|Ze<|?_
   exact ZR (i + 1) (by show i + 1 <= bs.length; omega) W (by repeat (first | exact subB_nil _ | refine subB_cons (by first | rfl | exact congrArg (fun z => some (Value.int _ z)) W | exact congrArg (fun z => some (Value.int _ z)) (val_take W).symm) ?_))
  refine Tr.cond_f Z h4<|Zx<|Zy<|Zy<|Zi<|Zg<|Zs<|Zr<|Zm Z<|Za Z<|Za Z<|Ze<|Zg<|Zu<|?_
  exact Ex.ret2 rfl rfl rfl  ⟨rfl,rfl,_,_,rfl⟩
 refine Tr.cond_f Z h3<|Zr<|Zv (Y.int Z Z Z)<|Za Z<|Ze<|Zg<|Tr.cond_f rfl (beq_eq_false_iff_ne.2 W)<|Zs<|Zr<|Za Z<|Za Z<|Ze<|Zg<|Zu<|Zk<|Zn<|?_
 exact Ex.ret2 rfl rfl rfl  ⟨rfl,rfl,_,_,rfl⟩
theorem number_oh {V : Vw} {H : Hp} {v : Value} {bs : List UInt8} (hv : Rd V H 1 v bs.length (bs.map byteV)) (h4 : ¬ bs.length = 4) : Does Tryz.prog 139 [v] V H (fun u V' H' => V' = V /\ H' = H /\ ∃ n e,u = .tuple #[.int .i64 n,.int .i64 e]) := by
  obtain ⟨p,c,rfl,_⟩ := hv.form
  exact number_o hv h4
end Go.Proofs.YtfgblingojgafaaGreat
namespace Go.Proofs.YtfgblingojgafaaGreat
open Go Go.K
attribute [local irreducible] Code.wp wpList Calls wpQuiet
theorem theirs_c {V : Vw} {bq tx : Nat} {q : Eg.Qy} {pv hv ov : Value} (hkq : Kn V [] bq (.cells (q.cells pv tx hv ov) 90 (0,0))) {l : Le}  : Does Tryz.prog 43 [(pZ bq),.agg ((Le.cells l).toArray)] V [] (Pv (.bool (q.th l)) V []) := by
 refine Does.intro Tryz.func43 rfl rfl (le rfl) (fun B => ?_)
 refine Zs<|Zr<|?_
 refine Run.box rfl (lt rfl) (fun b1 => ?_)
 refine Za Z<|Ze<|Zg<|Zs<|Tr.quiet xmo WK<|ZV (Y.fieldAddr Z xfo43_1)<|ZV (Y.load Z xts3 (Kn.at 0 Z) Z)<|ZV (Y.int Z Z Z)<|ZM Z<|?_
 refine Zq (l.bind == 2) (fun h2 g2 => ?_) fun h2 g2 => ?_
 ·refine ZP h2<|ZV (Y.fieldAddr Z xfo43_2)<|ZP h2<|ZV (Y.load Z xts9 (Kn.at 0 Z) Z)<|ZP h2<|ZM Z<|ZP h2<|ZV (Y.nilCheck Z)<|ZP h2<|ZV (Y.fieldAddr Z xfo90_7)<|ZP h2<|ZV (Y.load Z xts9 hkq.of_nil Z)<|ZP h2<|ZV (Y.eqStr Z Z)<|ZV (Y.pick_t Z h2 Z)<|ZA Z<|?_
  refine ZE<|Zg<|Zu<|Ex.keep []<|?_
  exact Ex.ret1 rfl rfl  ⟨congrArg Value.bool (by show _ = (l.bind == 2 && _); rw [h2]; rfl),rfl,rfl⟩
 refine ZO h2 Z<|ZO h2 Z<|ZO h2 Z<|ZO h2 Z<|ZO h2 Z<|ZO h2 Z<|ZO h2 Z<|ZV (Y.pick_f Z h2 Z)<|ZA Z<|ZE<|Zg<|Zu<|Ex.keep []<|?_
 exact Ex.ret1 rfl rfl  ⟨congrArg Value.bool (by show _ = (l.bind == 2 && _); rw [h2]; rfl),rfl,rfl⟩
theorem may_q {V : Vw} {bq tx : Nat} {q : Eg.Qy} {pv hv ov : Value} (hkq : Kn V [] bq (.cells (q.cells pv tx hv ov) 90 (0,0))) {l : Le}  : Does Tryz.prog 96 [(pZ bq),.agg ((Le.cells l).toArray)] V [] (Pv (.bool (q.may l)) V []) := by
 refine Does.intro Tryz.func96 rfl rfl (le rfl) (fun B => ?_)
 refine Zs<|Zr<|?_
 refine Run.box rfl (lt rfl) (fun b1 => ?_)
 refine Za Z<|Ze<|Zg<|Zs<|Tr.quiet xmo WK<|ZM Z<|ZV (Y.nilCheck Z)<|ZV (Y.fieldAddr Z xfo90_1)<|ZV (Y.loadAgg Z xag58 hkq.of_nil Z)<|ZV (Y.loadAgg Z xag43 (Kn.at 0 Z) Z)<|ZM Z<|ZV (Y.nilCheck Z)<|ZV (Y.fieldAddr Z xfo90_3)<|ZV (Y.load Z xts3 hkq.of_nil Z)<|ZM Z<|ZV (Y.nilCheck Z)<|?_
 refine ZV (Y.fieldAddr Z xfo90_4)<|ZV (Y.load Z xts3 hkq.of_nil Z)<|ZM Z<|ZV (Y.nilCheck Z)<|ZV (Y.fieldAddr Z xfo90_5)<|ZV (Y.load Z xts3 hkq.of_nil Z)<|YC Z Z Z ((may_c (r := q.x.rules) (l := l) (state := q.state) (now := q.now) (entry := q.entry)).frame)<|ZA Z<|ZE<|Zg<|Zu<|Ex.keep []<|?_
 exact Ex.ret1 rfl rfl  ⟨rfl,rfl,rfl⟩
theorem time_q {V : Vw} {bq tx : Nat} {q : Eg.Qy} {pv hv ov : Value} (hkq : Kn V [] bq (.cells (q.cells pv tx hv ov) 90 (0,0))) {l : Le}  : Does Tryz.prog 98 [(pZ bq),.agg ((Le.cells l).toArray)] V [] (Pv (.int .i64 (q.tm l)) V []) := by
 refine Does.intro Tryz.func98 rfl rfl (le rfl) (fun B => ?_)
 refine Zs<|Zr<|?_
 refine Run.box rfl (lt rfl) (fun b1 => ?_)
 refine Za Z<|Ze<|Zg<|Zs<|Zr<|Za Z<|Ze<|Zg<|Zs<|Zs<|Zr<|Zm Z<|Zv (Y.loadAgg Z xag43 (Kn.at 0 Z) Z)<|Yc Z Z Z ((theirs_c (l := l) hkq).frame)<|Ze<|Zg<|?_
 refine Zq (q.th l) (fun h2 g2 => ?_) fun h2 g2 => ?_
 ·refine Tr.cond_t Z h2<|Zr<|Zv (Y.fieldAddr Z xfo43_4)<|Zv (Y.load Z xts3 (Kn.at 0 Z) Z)<|Za Z<|Ze<|Zg<|Zs<|Tr.quiet xmo WK<|ZM Z<|ZV (Y.nilCheck Z)<|ZV (Y.fieldAddr Z xfo90_4)<|ZV (Y.load Z xts3 hkq.of_nil Z)<|ZM Z<|ZV (Y.nilCheck Z)<|ZV (Y.fieldAddr Z xfo90_1)<|?_
  refine ZV (Y.loadAgg Z xag58 hkq.of_nil Z)<|ZM Z<|ZV (Y.nilCheck Z)<|ZV (Y.fieldAddr Z xfo90_4)<|ZV (Y.load Z xts3 hkq.of_nil Z)<|ZM Z<|ZV (Y.nilCheck Z)<|ZV (Y.fieldAddr Z xfo90_9)<|ZV (Y.load Z xts3 hkq.of_nil Z)<|ZM Z<|YC Z Z Z ((until_c (r := q.x.rules) (now := q.now) (want := q.want) (acked := l.acked)).frame)<|YC Z Z Z (left_c_h (now := q.now) (til := q.x.rules.until_ q.now q.want l.acked))<|?_
  refine ZV (Y.min2 Z Z)<|ZA Z<|ZE<|Zg<|Zu<|Ex.keep []<|?_
  exact Ex.ret1 rfl rfl  ⟨congrArg (Value.int _) (Eg.tm_y h2),rfl,rfl⟩
 refine Tr.cond_f Z h2<|Zt<|Zg<|Zs<|Tr.quiet xmo WK<|ZM Z<|ZV (Y.nilCheck Z)<|ZV (Y.fieldAddr Z xfo90_4)<|ZV (Y.load Z xts3 hkq.of_nil Z)<|ZM Z<|ZV (Y.nilCheck Z)<|ZV (Y.fieldAddr Z xfo90_1)<|ZV (Y.loadAgg Z xag58 hkq.of_nil Z)<|ZM Z<|ZV (Y.nilCheck Z)<|ZV (Y.fieldAddr Z xfo90_4)<|?_
 refine ZV (Y.load Z xts3 hkq.of_nil Z)<|ZM Z<|ZV (Y.nilCheck Z)<|ZV (Y.fieldAddr Z xfo90_9)<|ZV (Y.load Z xts3 hkq.of_nil Z)<|ZM Z<|YC Z Z Z ((until_c (r := q.x.rules) (now := q.now) (want := q.want) (acked := 0)).frame)<|YC Z Z Z (left_c_h (now := q.now) (til := q.x.rules.until_ q.now q.want 0))<|ZV (Y.min2 Z Z)<|ZA Z<|ZE<|Zg<|Zu<|Ex.keep []<|?_
 exact Ex.ret1 rfl rfl  ⟨congrArg (Value.int _) (Eg.tm_n h2),rfl,rfl⟩
theorem mine_q {V : Vw} {bq tx : Nat} {q : Eg.Qy} {pv hv ov : Value} (hkq : Kn V [] bq (.cells (q.cells pv tx hv ov) 90 (0,0))) (hc : q.client.size <= 9223372036854775807)  : Does Tryz.prog 92 [(pZ bq)] V [] (Pv (.bool (Eg.mine q.x q.client)) V []) := by
 have hbk := Eg.buk_lt q.client.toList
 refine Does.intro Tryz.func92 rfl rfl (le rfl) (fun B => ?_)
 refine Zs<|Zr<|Za Z<|Ze<|Zg<|Zs<|Zr<|Zm Z<|Zv (Y.nilCheck Z)<|Zv (Y.fieldAddr Z xfo90_0)<|Zv (Y.fieldAddr Z xfo35_6)<|Zv (Y.load Z xts3 hkq Z)<|Yc Z Z Z ((first_c6 (n := q.x.first)).frame)<|?_
 refine Run.alloc xzm178 (lt rfl) (fun b1 => ?_)
 refine Run.heapTo (H' := [[(b1,.cells (Bk.mks fun _ => false).toArray 178 (0,0))]]) rfl<|Run.stAll (j := 0) Z Z xsz178 Z (Bk.mks_len _) (Bk.mks_len _) (Bk.one_mks _)<|Run.heapTo (H' := [[(b1,.cells (Bk.mks (Bk.fr q.x.first)).toArray 178 (0,0))]]) Z<|Ze<|Zg<|Zs<|Zs<|Zr<|Zm Z<|Zv (Y.nilCheck Z)<|Zv (Y.fieldAddr Z xfo90_0)<|Zv (Y.fieldAddr Z xfo35_0)<|Zv (Y.load Z xts3 hkq.of_nil Z)<|Zv (Y.int Z Z Z)<|Ze<|?_
 refine Zg ?_
 refine Zq (q.x.id == 1) (fun h2 g2 => ?_) fun h2 g2 => ?_
 ·refine Tr.cond_t Z h2<|Zr<|Zv (Y.ldAll Z xag178 (Kn.at 0 rfl) (by first | exact Bk.mks_len _ | exact Bk.ins_len _ | exact Bk.nots_len _ _))<|Yc Z Z Z ((not_c6 (f := Bk.fr q.x.first)).frame)<|Run.stAll (j := 0) Z Z xsz178 Z (Bk.mks_len _) (Bk.mks_len _) (Bk.one_mks _)<|Run.heapTo (H' := [[(b1,.cells (Bk.mks (fun k => !Bk.fr q.x.first k)).toArray 178 (0,0))]]) rfl<|Ze<|Zg<|Zs<|Tr.quiet xmo WK<|?_
  refine ZV (Y.ldAll Z xag178 (Kn.at 0 rfl) (by first | exact Bk.mks_len _ | exact Bk.ins_len _ | exact Bk.nots_len _ _))<|ZM Z<|ZV (Y.nilCheck Z)<|ZV (Y.fieldAddr Z xfo90_7)<|ZV (Y.load Z xts9 hkq.of_nil Z)<|YC Z Z Z ((bucket_c hc).frame)<|YC Z Z Z ((has_c6 W).frame)<|ZA Z<|ZE<|Zg<|Zu<|Ex.keep []<|?_
  exact Ex.ret1 rfl rfl  ⟨congrArg Value.bool (Eg.mine_y W),rfl,rfl⟩
 refine Tr.cond_f Z h2<|Zt<|Zg<|Zs<|Tr.quiet xmo WK<|ZV (Y.ldAll Z xag178 (Kn.at 0 rfl) (by first | exact Bk.mks_len _ | exact Bk.ins_len _ | exact Bk.nots_len _ _))<|ZM Z<|ZV (Y.nilCheck Z)<|ZV (Y.fieldAddr Z xfo90_7)<|ZV (Y.load Z xts9 hkq.of_nil Z)<|YC Z Z Z ((bucket_c hc).frame)<|YC Z Z Z ((has_c6 W).frame)<|ZA Z<|ZE<|Zg<|Zu<|?_
 refine Ex.keep [] ?_
 exact Ex.ret1 rfl rfl  ⟨congrArg Value.bool (Eg.mine_n W),rfl,rfl⟩
theorem chosen_c {V : Vw} {L : List Opn} {po : Option Addr} {co : Nat} (ho : Rd V [] 2 (.slice po L.length co) L.length (L.map Opn.cells).flatten) (hr : Opn.Rds V L) (hL : L.length <= 1000000) {bq tx : Nat} {q : Eg.Qy} {pv hv : Value} (hkq : Kn V [] bq (.cells (q.cells pv tx hv (.slice po L.length co)) 90 (0,0))) (hLp : L.map Opn.c = q.p.os) (hf : Oc.few (L.map Opn.c) = true)  : Does Tryz.prog 100 [(pZ bq)] V [] (fun u V' H' => V' = V /\ H' = [] /\ ∃ s,u = .tuple #[.int .u32 s,.bool q.told] /\ (q.told = true -> s = q.server)) := by
 refine Does.intro Tryz.func100 rfl rfl (le rfl) (fun B => ?_)
 refine Zs<|Zr<|Za Z<|Za Z<|Ze<|Zg<|Zs<|Zr<|Zm Z<|Zv (Y.nilCheck Z)<|Zv (Y.fieldAddr Z xfo90_6)<|Zv (Y.fieldAddr Z xfo28_9)<|Zv (Y.load Z xts26 hkq Z)<|?_
 refine Yk [] Z Z Z (find_c (code := 54) ho hr hL hf) (fun v1 V2 H2 _ hR => ?_)
 obtain ⟨hV,z2,s3,rfl,rfl,ho4⟩ := hR; replace hV := hV.symm; subst hV; obtain ⟨p5,c6,rfl⟩ := ho4.form
 refine Zm Z<|Zv (Y.extract Z Z)<|Zv (Y.extract Z Z)<|Za Z<|Za Z<|Ze<|Zg<|Zs<|Zr<|Zm Z<|?_
 by_cases h4 : (Oc.fd 54 (L.map Opn.c)).length = 4
 ·refine Yc Z Z Z (number_h (bs := (Oc.fd 54 (L.map Opn.c))) (ho4.rd 0 Z) h4) ?_
  have hv4 := Cli.val4 h4
  refine Zm Z<|Zv (Y.extract Z Z)<|Zv (Y.extract Z Z)<|Za Z<|Za Z<|Ze<|Zg<|Zs<|Zr<|Zm Z<|Zv (Y.conv (val (Oc.fd 54 (L.map Opn.c))) rfl xit3_24 (wrap_u32 W))<|Zm Z<|Zv (Y.lenSl Z xes25)<|Zv (Y.int Z Z Z)<|Za Z<|Za Z<|?_
  refine Ze<|Zg<|Zu<|Ex.keep []<|?_
  exact Ex.ret2 rfl rfl rfl  ⟨rfl,rfl,_,by rw [show q.told = true from by unfold Eg.Qy.told; rw [<- hLp]; exact beq_iff_eq.2 h4,show ((((Oc.fd 54 (L.map Opn.c)).length : Nat) : Int) == 4) = true from beq_iff_eq.2 W],fun _ => by unfold Eg.Qy.server; rw [hLp]⟩
 refine Yk [0] Z Z Z (number_oh (bs := (Oc.fd 54 (L.map Opn.c))) (ho4.rd 0 rfl) h4) (fun v7 V2 H2 _ hR => ?_)
 obtain ⟨hV,rfl,n8,e9,rfl⟩ := hR; replace hV := hV.symm; subst hV
 refine Run.heapTo (H' := [s3]) Z<|Zm Z<|Zv (Y.extract Z Z)<|Zv (Y.extract Z Z)<|Za Z<|Za Z<|Ze<|Zg<|Zs<|Zr<|Zm Z<|Zv (Y.conv (IntKind.u32.wrap n8) Z xit3_24 Z)<|Zm Z<|Zv (Y.lenSl Z xes25)<|Zv (Y.int Z Z Z)<|Za Z<|?_
 refine Za Z<|Ze<|Zg<|Zu<|Ex.keep []<|?_
 exact Ex.ret2 rfl rfl rfl  ⟨rfl,rfl,_,by rw [show q.told = false from by unfold Eg.Qy.told; rw [<- hLp]; exact beq_eq_false_iff_ne.2 h4,show ((((Oc.fd 54 (L.map Opn.c)).length : Nat) : Int) == 4) = false from beq_eq_false_iff_ne.2 W],fun h => absurd h (by rw [show q.told = false from by unfold Eg.Qy.told; rw [<- hLp]; exact beq_eq_false_iff_ne.2 h4]; decide)⟩
theorem chosen_h {V : Vw} {bq tx : Nat} {q : Eg.Qy} {pv hv ov : Value} (hkq : Kn V [] bq (.cells (q.cells pv tx hv ov) 90 (0,0))) (hs : Pc.Rs V ov q.p.os) (hf : Oc.few q.p.os = true) : Does Tryz.prog 100 [(pZ bq)] V [] (fun u V' H' => V' = V /\ H' = [] /\ ∃ s,u = .tuple #[.int .u32 s,.bool q.told] /\ (q.told = true -> s = q.server)) := by
  obtain ⟨L,hLp,ho,hr⟩ := hs
  obtain ⟨po,co,rfl,_⟩ := ho.form
  have hf' : Oc.few (L.map Opn.c) = true := by rw [hLp]; exact hf
  have hL : L.length <= 1000000 := by have := (Oc.few_iff.1 hf').1; rw [List.length_map] at this; omega
  exact chosen_c ho hr hL hkq hLp hf'
theorem of_q {V : Vw} {bq tx : Nat} {q : Eg.Qy} {pv hv ov : Value} (hkq : Kn V [] bq (.cells (q.cells pv tx hv ov) 90 (0,0))) {a : Int} {s : Sg} (hin : Le.In 99 q.l tx s) {fi : FuncId} {bl fl : List Value} {f : Le -> Bool} (hf : ∀ l : Le,Does Tryz.prog fi (bl ++ [.agg l.cells.toArray] ++ fl) V [] (Pv (.bool (f l)) V []))  : Does Tryz.prog 42 [(pZ bq),.int .u32 a,.func (.func fi) bl.toArray fl.toArray] V [s] (Pv (.tuple #[.agg (Eg.of f q.l a).1.cells.toArray,.bool (Eg.of f q.l a).2]) V [s]) := by
 refine Does.intro Tryz.func42 rfl rfl (le rfl) (fun B => ?_)
 refine Zs<|Zr<|?_
 refine Run.alloc xzo43 (lt rfl) (fun b1 => ?_)
 refine Za Z<|Ze<|Zg<|Zs<|Zr<|Zm Z<|Zv (Y.nilCheck Z)<|Zv (Y.fieldAddr Z xfo90_2)<|Zv (Y.load Z xts38 hkq.of_nil Z)<|Zm Z<|Yc Z Z Z (Does.frame1 1 Z (get_o (a := a) hin))<|Zm Z<|Zv (Y.extract Z Z)<|Zv (Y.extract Z Z)<|?_
 refine Run.alloc xzo43 (lt rfl) (fun b2 => ?_)
 refine Run.store (s := [(b2,.cells ((Le.cells ((Le.getE q.l a).1)).toArray) 43 (0,0))]) Z Z xsz43 (i := 0) Z Z (le Z) Z Z ?_
 rcases Bool.eq_false_or_eq_true ((Le.getE q.l a).2 == 0) with hg | hg
 ·refine Za Z<|Ze<|Zg<|Zs<|Tr.anyD [(b2,.cells ((Le.cells ((Le.getE q.l a).1)).toArray) 43 (0,0))] xmo<|ZD 0 0 Z Z (fun _ => (Y.loadAgg rfl xag43 Kn.vk1 rfl))<|?_
  refine Zd 1 Z (fun _ => (Y.move rfl))<|Zd 2 Z (fun _ => (Y.int rfl rfl rfl))<|Zd 3 Z (fun _ => (Y.move rfl))<|RunD.pureG (i := 4) rfl rfl rfl hg WK WK WK (fun _ _ _ h => h) (lt rfl) (ZK 0 Z) (fun _ => (Y.move rfl))<|RunD.takeG (i := 5) 0 rfl rfl rfl rfl hg WK WK WK (fun _ _ _ h => h) (lt rfl) (ZK 0 Z) (fun _ => (Y.loadAgg rfl xag43 Kn.vk1 rfl))<|?_
  refine RunD.one (i := 6) WK rfl  ?_
  refine Zp hg<|Yc Z Z Z ((hf ((Le.getE q.l a).1)).frame)<|Ze<|Zf<|Zd 7 Z (fun _ => (Y.pick_t rfl hg rfl))<|?_
  refine RunD.one (i := 8) WK rfl  ?_
  refine Run.store (s := [(b1,.cells ((Le.cells ((Le.getE q.l a).1)).toArray) 43 (0,0))]) Z Z xsz43 (i := 1) Z Z (le Z) Z Z<|Ze<|Zf<|Zd 9 Z (fun _ => (Y.assign rfl))<|?_
  refine RunD.done WK<|Zg<|Zu<|?_
  exact Ex.retCell2 [2] rfl rfl rfl xag43 (Kn.at 1 rfl) rfl ⟨by show _ = Value.tuple #[.agg (Le.cells (Le.getE q.l a).1).toArray,.bool ((Le.getE q.l a).2 == 0 && f (Le.getE q.l a).1)]; rw [hg]; rfl,rfl,rfl⟩
 refine Za Z<|Ze<|Zg<|Zs<|Tr.anyD [(b2,.cells ((Le.cells ((Le.getE q.l a).1)).toArray) 43 (0,0))] xmo<|ZD 0 0 Z Z (fun _ => (Y.loadAgg rfl xag43 Kn.vk1 rfl))<|?_
 refine Zd 1 Z (fun _ => (Y.move rfl))<|Zd 2 Z (fun _ => (Y.int rfl rfl rfl))<|Zd 3 Z (fun _ => (Y.move rfl))<|?_
 refine RunD.two (i := 4) (j := 5) WK rfl rfl  ?_ ?_
 ·refine Zo hg Z<|Ze<|Zf<|?_
  refine RunD.one (i := 5) WK rfl  ?_
  refine Zo hg Z<|Ze<|Zf<|?_
  refine RunD.one (i := 6) WK rfl  ?_
  refine Zo hg Z<|Ze<|Zf<|Zd 7 Z (fun _ => (Y.pick_f rfl hg rfl))<|?_
  refine RunD.one (i := 8) WK rfl  ?_
  refine Run.store (s := [(b1,.cells ((Le.cells ((Le.getE q.l a).1)).toArray) 43 (0,0))]) Z Z xsz43 (i := 1) Z Z (le Z) Z Z<|Ze<|Zf<|Zd 9 Z (fun _ => (Y.assign rfl))<|?_
  refine RunD.done WK<|Zg<|Zu<|?_
  exact Ex.retCell2 [2] rfl rfl rfl xag43 (Kn.at 1 rfl) rfl ⟨by show _ = Value.tuple #[.agg (Le.cells (Le.getE q.l a).1).toArray,.bool ((Le.getE q.l a).2 == 0 && f (Le.getE q.l a).1)]; rw [hg]; rfl,rfl,rfl⟩
 refine Zo hg Z<|Ze<|Zf<|?_
 refine RunD.one (i := 4) WK rfl  ?_
 refine Zo hg Z<|Ze<|Zf<|?_
 refine RunD.one (i := 6) WK rfl  ?_
 refine Zo hg Z<|Ze<|Zf<|Zd 7 Z (fun _ => (Y.pick_f rfl hg rfl))<|?_
 refine RunD.one (i := 8) WK rfl  ?_
 refine Run.store (s := [(b1,.cells ((Le.cells ((Le.getE q.l a).1)).toArray) 43 (0,0))]) Z Z xsz43 (i := 1) Z Z (le Z) Z Z<|Ze<|Zf<|Zd 9 Z (fun _ => (Y.assign rfl))<|?_
 refine RunD.done WK<|Zg<|Zu<|?_
 exact Ex.retCell2 [2] rfl rfl rfl xag43 (Kn.at 1 rfl) rfl ⟨by show _ = Value.tuple #[.agg (Le.cells (Le.getE q.l a).1).toArray,.bool ((Le.getE q.l a).2 == 0 && f (Le.getE q.l a).1)]; rw [hg]; rfl,rfl,rfl⟩
theorem first_q {V : Vw} {bq tx : Nat} {q : Eg.Qy} {pv hv ov : Value} (hkq : Kn V [] bq (.cells (q.cells pv tx hv ov) 90 (0,0))) {s : Sg} (hin : Le.In 99 q.l tx s) {fi : FuncId} {bl fl : List Value} {f : Le -> Bool} (hf : ∀ l : Le,Does Tryz.prog fi (bl ++ [.agg l.cells.toArray] ++ fl) V [] (Pv (.bool (f l)) V []))  : Does Tryz.prog 94 [(pZ bq),.func (.func fi) bl.toArray fl.toArray] V [s] (Pv (.tuple #[.agg (Eg.fst f q.l).1.cells.toArray,.bool (Eg.fst f q.l).2]) V [s]) := by
 obtain ⟨_,hlm,_⟩ := id hin
 refine Does.intro Tryz.func94 rfl rfl (le rfl) (fun B => ?_)
 refine Zs<|Zr<|?_
 refine Run.alloc xzo43 (lt rfl) (fun b1 => ?_)
 refine Za Z<|Ze<|Zg<|Zs<|Zs<|Zr<|Zm Z<|Zv (Y.nilCheck Z)<|Zv (Y.fieldAddr Z xfo90_2)<|Zv (Y.load Z xts38 hkq.of_nil Z)<|?_
 refine Yk [1] Z Z Z (all_o hin) (fun v2 V2 H2 hle2 hR2 => ?_)
 obtain ⟨hV,q2,ho2,rfl⟩ := hR2; replace hV := hV.symm; subst hV
 obtain ⟨p2,c2,rfl⟩ := ho2.form
 refine Run.heapTo (H' := [[(b1,.cells le0 43 (0,0))],q2,s]) Z<|Run.heapTo (H' := [[(b1,.cells le0 43 (0,0))],q2,s]) Z<|Zv (Y.lenSl Z xes22)<|Zm Z<|Ze<|Zg<|Zb<|?_
 refine ZL (X := Nat) (fun z0 => V) (fun z0 => [[(b1,.cells le0 43 (0,0))],q2,s]) (fun z0 => [(1,.func (.func fi) bl.toArray fl.toArray),(4,(pZ b1)),(5,.bool false),(12,.slice p2 (q.l).length c2),(13,.int .i64 (((q.l).length : Nat) : Int)),(14,.int .i64 (z0 : Int))]) (fun z0 => z0 <= q.l.length /\ ∀ j,j < z0 -> f (q.l.getD j Le.dflt) = false) (fun z0 => q.l.length - z0) (0 : Nat) ⟨Nat.zero_le _,fun j hj => absurd hj (Nat.not_lt_zero j)⟩ ?_
 rintro i1 ⟨hi,hno⟩
 refine Zs<|Zr<|Zv (Y.int Z Z Z)<|Ze<|Zg<|Zs<|?_
 refine Zq (decide ((i1 : Int) < (((q.l).length : Nat) : Int))) (fun h3 g3 => ?_) fun h3 g3 => ?_
 ·refine Tr.cond_t Z h3<|Zt<|Zg<|Zs<|Zb<|Zs<|Zr<|Zv (Y.idxR i1 Z Z xes22 (ho2.rd 1 rfl) W W)<|Zv (Y.ldRA (vs := Le.cells (q.l.getD i1 Le.dflt)) rfl xag43 (ho2.rd 1 rfl) rfl WD (fun o ho => flatm_atA Le.len W Le.dflt o ho))<|?_
  refine Run.alloc xzo43 (lt rfl) (fun b4 => ?_)
  refine Run.store (s := [(b4,.cells ((Le.cells (q.l.getD i1 Le.dflt)).toArray) 43 (0,0))]) Z Z xsz43 (i := 0) Z Z (le Z) Z Z ?_
  refine Ze<|Zg<|Zs<|Zr<|Zm Z<|Zv (Y.loadAgg Z xag43 (Kn.at 0 Z) Z)<|Yc Z Z Z ((hf (q.l.getD i1 Le.dflt)).frame)<|Ze<|Zg<|?_
  refine Zq (f (q.l.getD i1 Le.dflt)) (fun h5 g5 => ?_) fun h5 g5 => ?_
  ·refine Tr.cond_t Z h5<|Zs<|Zr<|Zv (Y.loadAgg Z xag43 (Kn.at 0 Z) Z)<|Run.store (s := [(b1,.cells ((Le.cells (q.l.getD i1 Le.dflt)).toArray) 43 (0,0))]) Z Z xsz43 (i := 1) Z Z (le Z) Z Z<|?_
   refine Za Z<|Ze<|Zg<|Zu<|Zk<|Zn<|Zn<|Zk<|Zn<|?_
   exact Ex.retCell2 [3] rfl rfl rfl xag43 (Kn.at 1 rfl) rfl ⟨by rw [Eg.fst_at (q := f) (l := q.l) hno W h5]; rfl,rfl,rfl⟩
  refine Tr.cond_f Z h5<|Zt<|Zc<|Zg<|Zr<|Zv (Y.add Z Z W)<|Zm Z<|Ze<|Ex.keep [1,1,1]<|?_
  exact ZR (i1 + 1 : Nat) ⟨by omega,upto_succ hno h5⟩ W
 refine Tr.cond_f Z h3<|Zx<|Zy<|Zy<|Zi<|Zg<|Zs<|Zr<|Zv (Y.buildS (l := []) xzo43 xpl43 Z Z)<|Run.store (s := [(b1,.cells le0 43 (0,0))]) Z Z xsz43 (i := 0) Z Z (le Z) Z Z<|Za Z<|Ze<|Zg<|Zu<|?_
 exact Ex.retCell2 [2] rfl rfl rfl xag43 (Kn.at 0 rfl) rfl ⟨by rw [Eg.fst_no (q := f) (l := q.l) fun j hj => hno j W]; rfl,rfl,rfl⟩
theorem disc1_q {V : Vw} {bq tx : Nat} {q : Eg.Qy} {pv hv ov : Value} (hkq : Kn V [] bq (.cells (q.cells pv tx hv ov) 90 (0,0))) {bp1 : Nat} (hk1 : Kn V [] bp1 (.cells #[(pZ bq)] 88 (0,0))) {s : Sg} (hin : Le.In 99 q.l tx s)  : Does Tryz.prog 93 [(pZ bp1)] V [s] (Pv (.tuple #[.agg (Eg.fst q.th q.l).1.cells.toArray,.bool (Eg.fst q.th q.l).2]) V [s]) := by
 refine Does.intro Tryz.func93 rfl rfl (le rfl) (fun B => ?_)
 refine Zs<|Zr<|?_
 refine Run.alloc xzo43 (lt rfl) (fun b1 => ?_)
 refine Za Z<|Ze<|Zg<|Zs<|Zr<|Zv (Y.load Z xts88 hk1.of_nil Z)<|Zv (Y.load Z xts88 hk1.of_nil Z)<|Zv (Y.makeFunc (l := [.tmp 4]) (l' := []) Z Z)<|Yc Z Z Z (Does.frame1 1 rfl (first_q (fi := 43) (bl := [(pZ bq)]) (fl := []) (f := q.th) hkq hin fun l => theirs_c hkq))<|Zv (Y.extract Z Z)<|Zv (Y.extract Z Z)<|Run.store (s := [(b1,.cells ((Le.cells ((Eg.fst q.th q.l).1)).toArray) 43 (0,0))]) Z Z xsz43 (i := 0) Z Z (le Z) Z Z<|?_
 refine Za Z<|Ze<|Zg<|Zu<|?_
 exact Ex.retCell2 [1] rfl rfl rfl xag43 (Kn.at 0 rfl) rfl ⟨rfl,rfl,rfl⟩
theorem disc2_q {V : Vw} {bq tx : Nat} {q : Eg.Qy} {pv hv ov : Value} (hkq : Kn V [] bq (.cells (q.cells pv tx hv ov) 90 (0,0))) {bp1 : Nat} (hk1 : Kn V [] bp1 (.cells #[(pZ bq)] 88 (0,0))) {s : Sg} (hin : Le.In 99 q.l tx s)  : Does Tryz.prog 95 [(pZ bp1)] V [s] (Pv (.tuple #[.agg (Eg.of q.may q.l q.addr).1.cells.toArray,.bool (Eg.of q.may q.l q.addr).2]) V [s]) := by
 refine Does.intro Tryz.func95 rfl rfl (le rfl) (fun B => ?_)
 refine Zs<|Zr<|?_
 refine Run.alloc xzo43 (lt rfl) (fun b1 => ?_)
 refine Za Z<|Ze<|Zg<|Zs<|Tr.tail 10 xmo WK<|ZV (Y.load Z xts88 hk1.of_nil Z)<|ZV (Y.load Z xts88 hk1.of_nil Z)<|ZV (Y.nilCheck Z)<|ZV (Y.fieldAddr Z xfo90_8)<|ZV (Y.load Z xts24 hkq.of_nil Z)<|ZV (Y.load Z xts88 hk1.of_nil Z)<|ZV (Y.makeFunc (l := [.tmp 8]) (l' := []) Z Z)<|YC Z Z Z (Does.frame1 1 rfl (of_q (a := q.addr) (fi := 96) (bl := [(pZ bq)]) (fl := []) (f := q.may) hkq hin fun l => may_q hkq))<|?_
 refine ZV (Y.extract Z Z)<|ZV (Y.extract Z Z)<|RunQ.nil_run<|Run.store (s := [(b1,.cells ((Le.cells ((Eg.of q.may q.l q.addr).1)).toArray) 43 (0,0))]) Z Z xsz43 (i := 0) Z Z (le Z) Z Z<|?_
 refine Za Z<|Ze<|Zg<|Zu<|?_
 exact Ex.retCell2 [1] rfl rfl rfl xag43 (Kn.at 0 rfl) rfl ⟨rfl,rfl,rfl⟩
theorem disc3_q {V : Vw} {bq tx : Nat} {q : Eg.Qy} {pv hv ov : Value} (hkq : Kn V [] bq (.cells (q.cells pv tx hv ov) 90 (0,0))) {bp1 : Nat} (hk1 : Kn V [] bp1 (.cells #[(pZ bq)] 88 (0,0))) {s : Sg} (hin : Le.In 99 q.l tx s)  : Does Tryz.prog 97 [(pZ bp1)] V [s] (Pv (.tuple #[.agg (Eg.fst q.may q.l).1.cells.toArray,.bool (Eg.fst q.may q.l).2]) V [s]) := by
 refine Does.intro Tryz.func97 rfl rfl (le rfl) (fun B => ?_)
 refine Zs<|Zr<|?_
 refine Run.alloc xzo43 (lt rfl) (fun b1 => ?_)
 refine Za Z<|Ze<|Zg<|Zs<|Zr<|Zv (Y.load Z xts88 hk1.of_nil Z)<|Zv (Y.load Z xts88 hk1.of_nil Z)<|Zv (Y.makeFunc (l := [.tmp 4]) (l' := []) Z Z)<|Yc Z Z Z (Does.frame1 1 rfl (first_q (fi := 96) (bl := [(pZ bq)]) (fl := []) (f := q.may) hkq hin fun l => may_q hkq))<|Zv (Y.extract Z Z)<|Zv (Y.extract Z Z)<|Run.store (s := [(b1,.cells ((Le.cells ((Eg.fst q.may q.l).1)).toArray) 43 (0,0))]) Z Z xsz43 (i := 0) Z Z (le Z) Z Z<|?_
 refine Za Z<|Ze<|Zg<|Zu<|?_
 exact Ex.retCell2 [1] rfl rfl rfl xag43 (Kn.at 0 rfl) rfl ⟨rfl,rfl,rfl⟩
theorem req1_q {V : Vw} {bq tx : Nat} {q : Eg.Qy} {pv hv ov : Value} (hkq : Kn V [] bq (.cells (q.cells pv tx hv ov) 90 (0,0))) {bp1 : Nat} (hk1 : Kn V [] bp1 (.cells #[(pZ bq)] 88 (0,0))) {l : Le}  : Does Tryz.prog 101 [.agg ((Le.cells l).toArray),(pZ bp1)] V [] (Pv (.bool (q.th l || q.may l)) V []) := by
 refine Does.intro Tryz.func101 rfl rfl (le rfl) (fun B => ?_)
 refine Zs<|Zr<|?_
 refine Run.box rfl (lt rfl) (fun b1 => ?_)
 refine Za Z<|Ze<|Zg<|Zs<|Zr<|Zv (Y.load Z xts88 hk1.of_nil Z)<|Zv (Y.loadAgg Z xag43 (Kn.at 0 Z) Z)<|Yc Z Z Z ((theirs_c (l := l) hkq).frame)<|Zm Z<|?_
 refine Zq (q.th l) (fun h2 g2 => ?_) fun h2 g2 => ?_
 ·refine Zo h2 Z<|Zo h2 Z<|Zo h2 Z<|Zv (Y.pick_t Z h2 Z)<|Za Z<|Ze<|Zg<|Zu<|Ex.keep []<|?_
  exact Ex.ret1 rfl rfl  ⟨congrArg Value.bool (by rw [h2]; rfl),rfl,rfl⟩
 refine Zp h2<|Zv (Y.load Z xts88 hk1.of_nil Z)<|Zp h2<|Zv (Y.loadAgg Z xag43 (Kn.at 0 Z) Z)<|Zp h2<|Yc Z Z Z ((may_q (l := l) hkq).frame)<|Zv (Y.pick_f Z h2 Z)<|Za Z<|Ze<|Zg<|Zu<|Ex.keep []<|?_
 exact Ex.ret1 rfl rfl  ⟨congrArg Value.bool (by rw [h2]; rfl),rfl,rfl⟩
end Go.Proofs.YtfgblingojgafaaGreat
namespace Go.Proofs.YtfgblingojgafaaGreat
open Go Go.K
attribute [local irreducible] Code.wp wpList Calls wpQuiet
theorem part_c {n : Int} {y : Nat} {V : Vw} : Does Tryz.prog 175 [.int .i64 n,.float .f64 y] V [] (Pv (.int .i64 (Fl.part n y)) V []) := by
 refine Does.intro Tryz.func175 rfl rfl (le rfl) (fun B => ?_)
 refine Zs<|Zr<|Za Z<|Ze<|Zg<|Zs<|Zr<|Zm Z<|Zv (Y.min2 Z Z)<|Za Z<|Ze<|Zg<|Zs<|Zb<|Zs<|Zr<|?_
 refine Zm Z<|Zv (Y.int Z Z Z)<|Zm Z<|?_
 refine Zq (decide ((min n 1099511627776) < 1)) (fun h1 g1 => ?_) fun h1 g1 => ?_
 ·refine Zo h1 Z<|Zo h1 Z<|Zo h1 Z<|Zv (Y.pick_t Z h1 Z)<|Za Z<|Ze<|Zg<|Tr.cond_t Z Z<|Zs<|Zr<|Za Z<|Ze<|Zg<|Zu<|Zk<|Zn<|?_
  exact Ex.ret1 rfl rfl  ⟨by rw [show Fl.part n y = _ from Fl.part_a rfl W],rfl,rfl⟩
 refine Zp h1<|Zm Z<|Zp h1<|Zv (Y.fcmp (r := .bool (Fl.D.order y 0 == some .gt)) Z Z Z)<|Zp h1<|Zv (Y.not Z)<|Zv (Y.pick_f Z h1 Z)<|Za Z<|Ze<|Zg<|?_
 refine Zq (Fl.D.order y 0 == some .gt) (fun h2 g2 => ?_) fun h2 g2 => ?_
 ·refine Tr.cond_f Z (congrArg Bool.not h2)<|Zs<|Zr<|Zm Z<|Zv (Y.fcmp (r := .bool (Fl.D.order y 4607182418800017408 == some .gt || Fl.D.order y 4607182418800017408 == some .eq)) Z Z Z)<|Za Z<|Ze<|Zg<|?_
  refine Zq (Fl.D.order y 4607182418800017408 == some .gt || Fl.D.order y 4607182418800017408 == some .eq) (fun h3 g3 => ?_) fun h3 g3 => ?_
  ·refine Tr.cond_t Z h3<|Zs<|Zr<|Zm Z<|Za Z<|Ze<|Zg<|Zu<|Zk<|Zn<|?_
   exact Ex.ret1 rfl rfl  ⟨by rw [show Fl.part n y = _ from Fl.part_c rfl W h2 h3],rfl,rfl⟩
  refine Tr.cond_f Z h3<|Zt<|Zc<|Zg<|Zs<|Zr<|?_
  obtain ⟨r,hm,hk,hk0,hnn,hord⟩ := Fl.part_facts (n := min n 1099511627776) (y := y) W W (h2) h3
  refine Zm Z<|Zv (Y.convIF Z xft3_32)<|Zm Z<|Zv (Y.farith (r := r) Z Z hm)<|Zv (Y.convFI (n := Fl.partK (min n 1099511627776) y) Z xit32_3 hk)<|Zm Z<|Zv (Y.min2 Z Z)<|Za Z<|Ze<|Zg<|Zu<|?_
  exact Ex.ret1 rfl rfl  ⟨by rw [show Fl.part n y = _ from Fl.part_d rfl W h2 h3],rfl,rfl⟩
 refine Tr.cond_t Z (congrArg Bool.not h2)<|Zs<|Zr<|Za Z<|Ze<|Zg<|Zu<|Zk<|Zn<|?_
 exact Ex.ret1 rfl rfl  ⟨by rw [show Fl.part n y = _ from Fl.part_b h2],rfl,rfl⟩
end Go.Proofs.YtfgblingojgafaaGreat
namespace Go.Proofs.YtfgblingojgafaaGreat
open Go Go.K
attribute [local irreducible] Code.wp wpList Calls wpQuiet
theorem tms_c {V : Vw} {n : Int} {y z : Nat}  : Does Tryz.prog 149 [.int .i64 n,.float .f64 y,.float .f64 z] V [] (Pv (.tuple #[.int .i64 (Fl.part n y),.int .i64 (max (Fl.part n y) (Fl.part n z))]) V []) := by
 refine Does.intro Tryz.func149 rfl rfl (le rfl) (fun B => ?_)
 refine Zs<|Zr<|Za Z<|Za Z<|Ze<|Zg<|Zs<|Zr<|Zm Z<|Zm Z<|Yc Z Z Z ((part_c (n := n) (y := y)).frame)<|Za Z<|Ze<|Zg<|Zs<|Zr<|?_
 refine Zm Z<|Zm Z<|Zm Z<|Zm Z<|Yc Z Z Z ((part_c (n := n) (y := z)).frame)<|Zv (Y.max2 Z Z)<|Za Z<|Za Z<|Ze<|Zg<|Zu<|Ex.keep []<|?_
 exact Ex.ret2 rfl rfl rfl  ⟨by first | rfl | (congr 2; try (congr 1; first | rfl | omega)),rfl,rfl⟩
end Go.Proofs.YtfgblingojgafaaGreat
