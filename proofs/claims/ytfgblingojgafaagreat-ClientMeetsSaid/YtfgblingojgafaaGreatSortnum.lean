/- Disks and frames in plain Lean: what each change makes, the records of bytes.
Conditions: none; no program in sight. -/
import Derived.Test.YtfgblingojgafaaGreatTC
import Derived.Test.YtfgblingojgafaaGreatKI
import Derived.Test.YtfgblingojgafaaGreatFA
import Derived.Test.YtfgblingojgafaaGreatProg
import Derived.Test.YtfgblingojgafaaGreatKA
import Derived.Test.YtfgblingojgafaaGreatTA
set_option linter.unusedSimpArgs false
set_option linter.unusedVariables false
set_option linter.unusedSectionVars false
set_option maxRecDepth 4000
namespace Go.K
abbrev Bts := List UInt8
structure Dk where
  room : Int
  bs : Bts
  lasts : Nat
  inn : Int
namespace Dk
structure Ok (d : Dk) : Prop where
  r1 : 1 <= d.room
  r2 : d.room <= 1048576
  b : (d.bs.length : Int) <= d.room
  l : d.lasts <= d.bs.length
  i : -1 <= d.inn /\ d.inn <= 9223372036854775807
def new (room : Int) : Dk := ⟨room,[],0,-1⟩
def dec (d : Dk) : Dk := if d.inn > 0 then { d with inn := d.inn - 1 } else d
def change (d : Dk) (n : Int) (f : Dk -> Dk) : Dk × Int := if d.inn = 0 then (d,7) else if n > d.room then (dec d,3) else (f (dec d),0)
def app (d : Dk) (b : Bts) : Dk × Int := change d (((d.bs.length + b.length : Nat)) : Int) fun d => { d with bs := d.bs ++ b }
def swap (d : Dk) (b : Bts) : Dk × Int := change d ((b.length : Nat) : Int) fun d => { d with bs := b,lasts := b.length }
def kept (d : Dk) (k : Int) : Nat := d.lasts + (min (max k 0) (((d.bs.length - d.lasts : Nat)) : Int)).toNat
theorem kept_le {d : Dk} (h : d.lasts <= d.bs.length) (k : Int) : d.lasts <= kept d k /\ kept d k <= d.bs.length := by unfold kept; omega
theorem dec_room (d : Dk) : (dec d).room = d.room := by unfold dec; split <;> rfl
theorem dec_bs (d : Dk) : (dec d).bs = d.bs := by unfold dec; split <;> rfl
theorem Ok.dec {d : Dk} (h : d.Ok) : d.dec.Ok := by
  have := h.i
  unfold Dk.dec; split
  · exact ⟨h.r1,h.r2,h.b,h.l,by show -1 <= d.inn - 1; omega,by show d.inn - 1 <= _; omega⟩
  · exact h
theorem change_ok {d : Dk} {n : Int} {f : Dk -> Dk} (h : d.Ok) (hf : n <= d.room -> (f d.dec).Ok) : (change d n f).1.Ok := by
  unfold change; split
  · exact h
  · split
    · exact h.dec
    · exact hf (by omega)
theorem Ok.app {d : Dk} (h : d.Ok) (b : Bts) : (d.app b).1.Ok := change_ok h fun hn => by
  have k := h.dec
  exact ⟨k.r1,k.r2,by show ((((Dk.dec d).bs ++ b).length : Nat) : Int) <= _; rw [dec_bs,List.length_append,dec_room]; exact hn,by show (Dk.dec d).lasts <= ((Dk.dec d).bs ++ b).length; have := k.l; rw [List.length_append]; omega,k.i⟩
theorem Ok.swap {d : Dk} (h : d.Ok) (b : Bts) : (d.swap b).1.Ok := change_ok h fun hn => by
  have k := h.dec
  exact ⟨k.r1,k.r2,by show ((b.length : Nat) : Int) <= (Dk.dec d).room; rw [dec_room]; exact hn,Nat.le_refl _,k.i⟩
end Dk
namespace Fr
def put (b : Bts) : Bts := UInt8.ofNat (b.length / 256) :: UInt8.ofNat (b.length % 256) :: (b ++ [90])
def okR (b : Bts) : Prop := 1 <= b.length /\ b.length <= 1000
instance (b : Bts) : Decidable (okR b) := inferInstanceAs (Decidable (_ /\ _))
def hd (bs : Bts) (at_ : Nat) : Nat := (bs.getD at_ 0).toNat * 256 + (bs.getD (at_ + 1) 0).toNat
def one (bs : Bts) (at_ : Nat) : Option Nat := if at_ + 2 < bs.length /\ 1 <= hd bs at_ /\ hd bs at_ <= 1000 /\ at_ + 3 + hd bs at_ <= bs.length /\ bs.getD (at_ + 2 + hd bs at_) 0 = 90 then some (hd bs at_) else none
def rcd (bs : Bts) (at_ n : Nat) : Bts := (bs.drop (at_ + 2)).take n
def scanF (bs : Bts) : Nat -> Nat -> List Bts × Nat
  | 0,at_ => ([],at_)
  | k + 1,at_ => match one bs at_ with
    | none => ([],at_)
    | some n => (rcd bs at_ n :: (scanF bs k (at_ + 3 + n)).1,(scanF bs k (at_ + 3 + n)).2)
def scan (bs : Bts) : List Bts × Nat := scanF bs bs.length 0
inductive Sc (bs : Bts) : Nat -> List Bts -> Prop
  | nil : Sc bs 0 []
  | more {at_ n : Nat} {l : List Bts} : Sc bs at_ l -> one bs at_ = some n -> Sc bs (at_ + 3 + n) (l ++ [rcd bs at_ n])
def fl (l : List Bts) : Bts := l.flatMap put
theorem put_len (b : Bts) : (put b).length = b.length + 3 := by unfold put; simp
end Fr
end Go.K
namespace Go.K
end Go.K
namespace Go.K
open Msg (sl sl_length)
namespace Le
def tl (q : Le) : List Int := [q.till,q.acked,q.told,q.at_,q.ver]
def hdB (q : Le) : Bts := Msg.be 4 q.addr ++ Msg.be 1 q.bind
def encB (q : Le) : Bts := (hdB q ++ (tl q).flatMap (Msg.be 6)) ++ (UInt8.ofNat q.client.size :: q.client.toList)
def encE (q : Le) : Bts × Int := if right q = true then (encB q,0) else ([],1)
def dcd (b : Bts) : Le := ⟨val (sl b 0 4),((b.getD 4 0).toNat : Int),⟨(sl b 36 b.length).toArray⟩,val (sl b 5 11),val (sl b 11 17),val (sl b 17 23),val (sl b 23 29),val (sl b 29 35)⟩
def decE (b : Bts) : Le × Int := if b.length < 36 \/ (b.getD 35 0).toNat + 36 ≠ b.length \/ right (dcd b) = false then (dflt,2) else (dcd b,0)
theorem encB_len (q : Le) : (encB q).length = 36 + q.client.size := by
  unfold encB hdB tl
  simp [Msg.be_length,ByteArray.toList_eq]
  omega
theorem right_size {q : Le} (h : right q = true) : q.client.size <= 32 := by
  have := right_iff.1 h
  rcases this.2.2.2.2.2.2 with h | h
  · omega
  · omega
end Le
end Go.K
namespace Go.K
structure Sk where
  t : List Le
  state : Int
  life : Int
namespace Sk
structure Ok (s : Sk) : Prop where
  r : Le.Ris s.t
  n : s.t.length <= 256
  st : 0 <= s.state /\ s.state <= 8
  li : 0 <= s.life /\ s.life <= 536870912
def new (as_ : List Int) : Sk := ⟨Le.new as_,0,0⟩
def doK (s : Sk) (k : UInt8) (r : Bts) : Sk := if k = 76 then (if (Le.decE r).2 = 0 then { s with t := (Le.setE s.t (Le.decE r).1).2 } else s)
    else if k = 83 /\ r.length = 1 /\ (r.getD 0 0).toNat <= 8 then { s with state := ((r.getD 0 0).toNat : Int) }
    else if k = 70 /\ r.length = 4 /\ val r <= 536870912 then { s with life := val r } else s
def doR (s : Sk) : Bts -> Sk
  | [] => s
  | k :: r => doK s k r
def replay (s : Sk) (l : List Bts) : Sk := l.foldl doR s
def leR (q : Le) : Bts := 76 :: (Le.encE q).1
def note (d : Dk) (s : Sk) (r : Bts) : Dk × Sk × Int := ((d.app (Fr.put r)).1,if (d.app (Fr.put r)).2 = 0 then doR s r else s,(d.app (Fr.put r)).2)
def put (d : Dk) (s : Sk) (q : Le) : Dk × Sk × Int := if Le.right q = false then (d,s,1) else if (Le.getE s.t q.addr).2 ≠ 0 then (d,s,(Le.getE s.t q.addr).2) else note d s (leR q)
def plain (q : Le) : Bool := Le.same q (Le.bare q.addr 0 0)
theorem Ok.set {s : Sk} (h : s.Ok) (q : Le) : ({ s with t := (Le.setE s.t q).2 } : Sk).Ok := ⟨Le.setE_ris h.r q,by show (Le.setE s.t q).2.length <= 256; rw [Le.setE_len]; exact h.n,h.st,h.li⟩
theorem Ok.doR {s : Sk} (h : s.Ok) (b : Bts) : (doR s b).Ok := by
  cases b with
  | nil => exact h
  | cons k r =>
    show (doK s k r).Ok
    unfold doK
    split
    · split
      · exact h.set _
      · exact h
    · split
      · rename_i c; exact ⟨h.r,h.n,by show 0 <= (((r.getD 0 0).toNat : Nat) : Int) /\ (((r.getD 0 0).toNat : Nat) : Int) <= 8; omega,h.li⟩
      · split
        · rename_i c; exact ⟨h.r,h.n,h.st,(val_bounds r).1,c.2.2⟩
        · exact h
theorem Ok.replay {s : Sk} (h : s.Ok) : ∀ l : List Bts,(replay s l).Ok := fun l => by
  unfold Sk.replay
  induction l generalizing s with
  | nil => exact h
  | cons b l ih => exact ih (h.doR b)
theorem leR_len (q : Le) : 1 <= (leR q).length /\ (leR q).length <= 69 := by
  unfold leR Le.encE
  split
  · rename_i h; have := Le.right_size h; rw [List.length_cons,Le.encB_len]; omega
  · simp
theorem leR_ok (q : Le) : Fr.okR (leR q) := by have := leR_len q; unfold Fr.okR; omega
end Sk
end Go.K
namespace Go.K
theorem Rd.to {V : Vw} {H : Hp} {k n m : Nat} {v : Value} {xs : List Value} (h : Rd V H k v n xs) (e : n = m) : Rd V H k v m xs := e ▸ h
structure Rc where
  p : Option Addr
  n : Nat
  c : Nat
  b : Bts
namespace Rc
def v (x : Rc) : Value := .slice x.p x.n x.c
def cell (x : Rc) : List Value := [.slice x.p x.n x.c]
def dflt : Rc := ⟨none,0,0,[]⟩
theorem len (x : Rc) : x.cell.length = 1 := rfl
theorem enc : Enc cell 1 := ⟨fun _ => rfl,fun _ => rfl⟩
def Rs (V : Vw) (xs : List Rc) : Prop := ∀ x,x ∈ xs -> Rd V [] 1 (.slice x.p x.n x.c) x.n (x.b.map byteV)
theorem Rs.le {V V2 : Vw} {xs : List Rc} (h : Rs V xs) (k : V.le V2) : Rs V2 xs := fun x hx => (h x hx).le k
theorem Rs.nil (V : Vw) : Rs V [] := fun x h => absurd h List.not_mem_nil
theorem Rs.snoc {V : Vw} {xs : List Rc} {x : Rc} (h : Rs V xs) (k : Rd V [] 1 (.slice x.p x.n x.c) x.n (x.b.map byteV)) : Rs V (xs ++ [x]) := fun y hy => by
  rcases List.mem_append.1 hy with hy | hy
  · exact h y hy
  · obtain rfl := List.mem_singleton.1 hy; exact k
theorem Rs.at {V : Vw} {xs : List Rc} (h : Rs V xs) {i : Nat} (hi : i < xs.length) : Rd V [] 1 (.slice (xs.getD i dflt).p (xs.getD i dflt).n (xs.getD i dflt).c) (xs.getD i dflt).n ((xs.getD i dflt).b.map byteV) :=
  h _ (by rw [List.getD_eq_getElem?_getD,List.getElem?_eq_getElem hi]; exact List.getElem_mem hi)
end Rc
structure Fx where
  nx : Nat
  rc : Rc
  sg : Sg
namespace Fx
def enc (x : Fx) : List Value := [.int .i64 (x.nx : Int),.slice x.rc.p x.rc.n x.rc.c]
def Own (e : Nat) (x : Fx) : Prop := Ow e 1 (.slice x.rc.p x.rc.n x.rc.c) x.rc.n (x.rc.b.map byteV) x.sg
def last (xs : List Fx) : Nat := (xs.getLast?.map (·.nx)).getD 0
def rcs (xs : List Fx) : List Rc := xs.map (·.rc)
theorem rs_of {V2 : Vw} {xs : List Fx} {e : Nat} (h : ∀ x,x ∈ xs -> Own e x) (hsh : ∀ x,x ∈ xs -> ∀ b o,x.sg.lookup b = some o -> V2 b = some o) : Rc.Rs V2 (rcs xs) := fun r hr => by
  obtain ⟨x,hx,rfl⟩ := List.mem_map.1 hr
  exact (h x hx).show (hsh x hx)
end Fx
namespace Fr
end Fr
section
variable {C : Cx} {V : Vw} {H : Hp} {L : Sl} {Q : Exit -> Act -> World -> Prop} {ops : Array Oper} {os : List Oper} {ty : TypeId} {pos : String} {aft : Array Edge} {d : Nat}
end
end Go.K
namespace Go.K
open Msg (sl sl_length)
theorem val_small4 {l : Bts} (h : l.length <= 4) : 0 <= val l /\ val l <= 4294967295 := by
  obtain ⟨h1,h2⟩ := val_bounds l
  have h3 : (256 : Int) ^ l.length <= 256 ^ 4 := pow_le256 h
  have h4 : (256 : Int) ^ 4 = 4294967296 := rfl
  omega
theorem sl_len (b : Bts) {i j : Nat} (h : j <= b.length) : (sl b i j).length = j - i := sl_length b i j h
namespace Le
theorem dcd_ok {b : Bts} (h : 36 <= b.length) (hb : b.length <= 9223372036854775807) : (dcd b).Ok := by
  have s6 : ∀ i,i + 6 <= b.length -> 0 <= val (sl b i (i + 6)) /\ val (sl b i (i + 6)) <= 281474976710655 := fun i hi => val_small (by rw [sl_len b hi]; omega)
  have s4 := val_small4 (l := sl b 0 4) (by rw [sl_len b (by omega)]; omega)
  have hu := u8_lt (b.getD 4 0)
  have h5 := s6 5 (by omega); have h11 := s6 11 (by omega); have h17 := s6 17 (by omega); have h23 := s6 23 (by omega); have h29 := s6 29 (by omega)
  simp only [Nat.reduceAdd] at h5 h11 h17 h23 h29
  have hc : (dcd b).client.size = b.length - 36 := by unfold dcd; simp [ByteArray.size,sl_length b 36 b.length (Nat.le_refl _)]
  refine ⟨s4,?_,by rw [hc]; omega,?_,?_,?_,?_,?_⟩ <;> (unfold dcd; dsimp only; omega)
end Le
end Go.K
namespace Go.K
end Go.K
namespace Go.K
namespace Sk
variable {s : Sk} {bs r : Bts} {k : UInt8}
end Sk
end Go.K
namespace Go.K
end Go.K
namespace Go.K
theorem Le.dflt_ok : Le.dflt.Ok := by
  refine ⟨?_,?_,?_,?_,?_,?_,?_,?_⟩ <;> decide
theorem Le.decE_oks {r : Bts} (hr : r.length <= 9223372036854775807) : (Le.decE r).1.Ok := by
  unfold Le.decE
  split
  · exact Le.dflt_ok
  · rename_i h; exact Le.dcd_ok (by omega) hr
namespace Sk
def Os (s : Sk) : Prop := ∀ x,x ∈ s.t -> x.Ok
theorem Os.set {s : Sk} (h : s.Os) {q : Le} (hq : q.Ok) : ∀ x,x ∈ (Le.setE s.t q).2 -> x.Ok := fun x hx => by
  unfold Le.setE at hx
  split at hx
  · exact h x hx
  · split at hx
    · exact h x hx
    · obtain ⟨y,hy,e⟩ := List.mem_map.1 (show x ∈ Le.put s.t q from hx)
      split at e
      · rw [<- e]; exact hq
      · rw [<- e]; exact h y hy
theorem Os.doR {s : Sk} (h : s.Os) {b : Bts} (hb : b.length <= 1000000) : (doR s b).Os := by
  cases b with
  | nil => exact h
  | cons k r =>
    have hr : r.length <= 9223372036854775807 := by rw [List.length_cons] at hb; omega
    show (doK s k r).Os
    unfold doK
    split
    · split
      · exact h.set (Le.decE_oks hr)
      · exact h
    · split
      · exact h
      · split
        · exact h
        · exact h
theorem Os.at {s : Sk} (h : s.Os) {i : Nat} (hi : i < s.t.length) : (s.t.getD i Le.dflt).Ok := h _ (Le.mem_getD hi)
theorem Os.new {as_ : List Int} (h : ∀ a,a ∈ as_ -> 0 <= a /\ a <= 4294967295) : (new as_).Os := fun x hx => by
  obtain ⟨a,ha,rfl⟩ := List.mem_map.1 (show x ∈ Le.new as_ from hx)
  exact ⟨h a ha,⟨by show (-9223372036854775808 : Int) <= 0; decide,by show (0 : Int) <= _; decide⟩,by show 0 <= _; exact Nat.zero_le _,⟨by show (-9223372036854775808 : Int) <= 0; decide,by show (0 : Int) <= _; decide⟩,⟨by show (-9223372036854775808 : Int) <= 0; decide,by show (0 : Int) <= _; decide⟩,⟨by show (-9223372036854775808 : Int) <= 0; decide,by show (0 : Int) <= _; decide⟩,⟨by show (-9223372036854775808 : Int) <= 0; decide,by show (0 : Int) <= _; decide⟩,⟨by show (-9223372036854775808 : Int) <= 0; decide,by show (0 : Int) <= _; decide⟩⟩
theorem Os.replay {s : Sk} (h : s.Os) {l : List Bts} (hl : ∀ b,b ∈ l -> b.length <= 1000000) : (replay s l).Os := by
  unfold Sk.replay
  induction l generalizing s with
  | nil => exact h
  | cons b l ih => exact ih (h.doR (hl b (List.mem_cons_self ..))) fun z hz => hl z (List.mem_cons_of_mem _ hz)
theorem Os.note {d : Dk} {s : Sk} (h : s.Os) {r : Bts} (hr : Fr.okR r) : (note d s r).2.1.Os := by
  unfold Sk.note; dsimp only
  split
  · exact h.doR (by have := hr.2; omega)
  · exact h
theorem Os.put {d : Dk} {s : Sk} (h : s.Os) (q : Le) : (put d s q).2.1.Os := by
  unfold Sk.put
  split
  · exact h
  · split
    · exact h
    · exact h.note (leR_ok q)
end Sk
end Go.K
namespace Go.K
namespace Sk
def opened (rs : List Rg) (bs : Bts) : Sk := replay (new (Rg.adr (Rg.pool rs).1)) (Fr.scan bs).1
end Sk
end Go.K
namespace Go.K
end Go.K
namespace Go.K
end Go.K
namespace Go.Proofs.YtfgblingojgafaaGreat
open Go Go.K
attribute [local irreducible] Code.wp wpList Calls wpQuiet
theorem within_c {V : Vw} {n low high : Int}  : Does Tryz.prog 38 [.int .i64 n,.int .i64 low,.int .i64 high] V [] (Pv (.bool (decide (low <= n /\ n <= high))) V []) := by
 refine Does.intro Tryz.func38 rfl rfl (le rfl) (fun B => ?_)
 refine Zs<|Zr<|Za Z<|Ze<|Zg<|Zs<|Zr<|Zm Z<|Zm Z<|Zv (Y.int Z Z Z)<|Zm Z<|?_
 refine Zq (decide (n >= low)) (fun h1 g1 => ?_) fun h1 g1 => ?_
 ·refine Zp h1<|Zm Z<|Zp h1<|Zm Z<|Zp h1<|Zv (Y.int Z Z Z)<|Zv (Y.pick_t Z h1 Z)<|Za Z<|Ze<|Zg<|Zu<|Ex.keep []<|?_
  exact Ex.ret1 rfl rfl  ⟨congrArg Value.bool (decide_eq_decide.2 W),rfl,rfl⟩
 refine Zo h1 Z<|Zo h1 Z<|Zo h1 Z<|Zv (Y.pick_f Z h1 Z)<|Za Z<|Ze<|Zg<|Zu<|Ex.keep []<|?_
 exact Ex.ret1 rfl rfl  ⟨congrArg Value.bool (decide_eq_false W).symm,rfl,rfl⟩
end Go.Proofs.YtfgblingojgafaaGreat
namespace Go.Proofs.YtfgblingojgafaaGreat
open Go Go.K
theorem xag142 : aggsz Tryz.prog 142 = some 2 := by kernel_rfl
theorem xag174 : aggsz Tryz.prog 174 = some 5 := by kernel_rfl
theorem xag178 : aggsz Tryz.prog 178 = some 32 := by kernel_rfl
theorem xag28 : aggsz Tryz.prog 28 = some 10 := by kernel_rfl
theorem xag35 : aggsz Tryz.prog 35 = some 13 := by kernel_rfl
theorem xag43 : aggsz Tryz.prog 43 = some 8 := by kernel_rfl
theorem xag45 : aggsz Tryz.prog 45 = some 21 := by kernel_rfl
theorem xag58 : aggsz Tryz.prog 58 = some 3 := by kernel_rfl
theorem xag66 : aggsz Tryz.prog 66 = some 2 := by kernel_rfl
theorem xag81 : aggsz Tryz.prog 81 = some 2 := by kernel_rfl
theorem xal142 : arrT Tryz.prog 142 = some (2,1) := by kernel_rfl
theorem xal178 : arrT Tryz.prog 178 = some (32,1) := by kernel_rfl
theorem xas174 : arrS Tryz.prog 174 = some 5 := by kernel_rfl
theorem xea142 : elemA Tryz.prog 142 = some 1 := by kernel_rfl
theorem xea174 : elemA Tryz.prog 174 = some 1 := by kernel_rfl
theorem xes135 : elemS Tryz.prog 135 = some (134,1) := by kernel_rfl
theorem xes148 : elemS Tryz.prog 148 = some (3,1) := by kernel_rfl
theorem xes185 : elemS Tryz.prog 185 = some (142,2) := by kernel_rfl
theorem xes22 : elemS Tryz.prog 22 = some (43,8) := by kernel_rfl
theorem xes25 : elemS Tryz.prog 25 = some (5,1) := by kernel_rfl
theorem xes26 : elemS Tryz.prog 26 = some (81,2) := by kernel_rfl
theorem xes33 : elemS Tryz.prog 33 = some (66,2) := by kernel_rfl
theorem xes72 : elemS Tryz.prog 72 = some (28,10) := by kernel_rfl
theorem xfo113_2 : fieldOff Tryz.prog 113 2 = some 2 := by kernel_rfl
theorem xfo113_3 : fieldOff Tryz.prog 113 3 = some 3 := by kernel_rfl
theorem xfo113_4 : fieldOff Tryz.prog 113 4 = some 4 := by kernel_rfl
theorem xfo116_0 : fieldOff Tryz.prog 116 0 = some 0 := by kernel_rfl
theorem xfo116_1 : fieldOff Tryz.prog 116 1 = some 1 := by kernel_rfl
theorem xfo116_10 : fieldOff Tryz.prog 116 10 = some 10 := by kernel_rfl
theorem xfo116_11 : fieldOff Tryz.prog 116 11 = some 11 := by kernel_rfl
theorem xfo116_12 : fieldOff Tryz.prog 116 12 = some 12 := by kernel_rfl
theorem xfo116_2 : fieldOff Tryz.prog 116 2 = some 2 := by kernel_rfl
theorem xfo116_3 : fieldOff Tryz.prog 116 3 = some 3 := by kernel_rfl
theorem xfo116_4 : fieldOff Tryz.prog 116 4 = some 4 := by kernel_rfl
theorem xfo116_5 : fieldOff Tryz.prog 116 5 = some 5 := by kernel_rfl
theorem xfo116_6 : fieldOff Tryz.prog 116 6 = some 6 := by kernel_rfl
theorem xfo116_7 : fieldOff Tryz.prog 116 7 = some 7 := by kernel_rfl
theorem xfo116_8 : fieldOff Tryz.prog 116 8 = some 8 := by kernel_rfl
theorem xfo116_9 : fieldOff Tryz.prog 116 9 = some 9 := by kernel_rfl
theorem xfo28_0 : fieldOff Tryz.prog 28 0 = some 0 := by kernel_rfl
theorem xfo28_1 : fieldOff Tryz.prog 28 1 = some 1 := by kernel_rfl
theorem xfo28_2 : fieldOff Tryz.prog 28 2 = some 2 := by kernel_rfl
theorem xfo28_3 : fieldOff Tryz.prog 28 3 = some 3 := by kernel_rfl
theorem xfo28_4 : fieldOff Tryz.prog 28 4 = some 4 := by kernel_rfl
theorem xfo28_5 : fieldOff Tryz.prog 28 5 = some 5 := by kernel_rfl
theorem xfo28_6 : fieldOff Tryz.prog 28 6 = some 6 := by kernel_rfl
theorem xfo28_7 : fieldOff Tryz.prog 28 7 = some 7 := by kernel_rfl
theorem xfo28_8 : fieldOff Tryz.prog 28 8 = some 8 := by kernel_rfl
theorem xfo28_9 : fieldOff Tryz.prog 28 9 = some 9 := by kernel_rfl
theorem xfo35_0 : fieldOff Tryz.prog 35 0 = some 0 := by kernel_rfl
theorem xfo35_1 : fieldOff Tryz.prog 35 1 = some 1 := by kernel_rfl
theorem xfo35_10 : fieldOff Tryz.prog 35 10 = some 10 := by kernel_rfl
theorem xfo35_11 : fieldOff Tryz.prog 35 11 = some 11 := by kernel_rfl
theorem xfo35_12 : fieldOff Tryz.prog 35 12 = some 12 := by kernel_rfl
theorem xfo35_2 : fieldOff Tryz.prog 35 2 = some 2 := by kernel_rfl
theorem xfo35_3 : fieldOff Tryz.prog 35 3 = some 3 := by kernel_rfl
theorem xfo35_4 : fieldOff Tryz.prog 35 4 = some 4 := by kernel_rfl
theorem xfo35_5 : fieldOff Tryz.prog 35 5 = some 5 := by kernel_rfl
theorem xfo35_6 : fieldOff Tryz.prog 35 6 = some 6 := by kernel_rfl
theorem xfo35_9 : fieldOff Tryz.prog 35 9 = some 9 := by kernel_rfl
theorem xfo43_0 : fieldOff Tryz.prog 43 0 = some 0 := by kernel_rfl
theorem xfo43_1 : fieldOff Tryz.prog 43 1 = some 1 := by kernel_rfl
theorem xfo43_2 : fieldOff Tryz.prog 43 2 = some 2 := by kernel_rfl
theorem xfo43_3 : fieldOff Tryz.prog 43 3 = some 3 := by kernel_rfl
theorem xfo43_4 : fieldOff Tryz.prog 43 4 = some 4 := by kernel_rfl
theorem xfo43_5 : fieldOff Tryz.prog 43 5 = some 5 := by kernel_rfl
theorem xfo43_6 : fieldOff Tryz.prog 43 6 = some 6 := by kernel_rfl
theorem xfo43_7 : fieldOff Tryz.prog 43 7 = some 7 := by kernel_rfl
theorem xfo45_0 : fieldOff Tryz.prog 45 0 = some 0 := by kernel_rfl
theorem xfo45_1 : fieldOff Tryz.prog 45 1 = some 1 := by kernel_rfl
theorem xfo45_2 : fieldOff Tryz.prog 45 2 = some 11 := by kernel_rfl
theorem xfo45_3 : fieldOff Tryz.prog 45 3 = some 12 := by kernel_rfl
theorem xfo58_0 : fieldOff Tryz.prog 58 0 = some 0 := by kernel_rfl
theorem xfo58_1 : fieldOff Tryz.prog 58 1 = some 1 := by kernel_rfl
theorem xfo58_2 : fieldOff Tryz.prog 58 2 = some 2 := by kernel_rfl
theorem xfo66_0 : fieldOff Tryz.prog 66 0 = some 0 := by kernel_rfl
theorem xfo66_1 : fieldOff Tryz.prog 66 1 = some 1 := by kernel_rfl
theorem xfo81_0 : fieldOff Tryz.prog 81 0 = some 0 := by kernel_rfl
theorem xfo81_1 : fieldOff Tryz.prog 81 1 = some 1 := by kernel_rfl
theorem xfo90_0 : fieldOff Tryz.prog 90 0 = some 0 := by kernel_rfl
theorem xfo90_1 : fieldOff Tryz.prog 90 1 = some 13 := by kernel_rfl
theorem xfo90_2 : fieldOff Tryz.prog 90 2 = some 16 := by kernel_rfl
theorem xfo90_3 : fieldOff Tryz.prog 90 3 = some 17 := by kernel_rfl
theorem xfo90_4 : fieldOff Tryz.prog 90 4 = some 18 := by kernel_rfl
theorem xfo90_5 : fieldOff Tryz.prog 90 5 = some 19 := by kernel_rfl
theorem xfo90_6 : fieldOff Tryz.prog 90 6 = some 20 := by kernel_rfl
theorem xfo90_7 : fieldOff Tryz.prog 90 7 = some 30 := by kernel_rfl
theorem xfo90_8 : fieldOff Tryz.prog 90 8 = some 31 := by kernel_rfl
theorem xfo90_9 : fieldOff Tryz.prog 90 9 = some 32 := by kernel_rfl
theorem xfo99_0 : fieldOff Tryz.prog 99 0 = some 0 := by kernel_rfl
theorem xft3_32 : fltT Tryz.prog 3 32 = some .f64 := by kernel_rfl
theorem xit195_3 : intT Tryz.prog 195 3 = some .i64 := by kernel_rfl
theorem xit218_5 : intT Tryz.prog 218 5 = some .u8 := by kernel_rfl
theorem xit24_3 : intT Tryz.prog 24 3 = some .i64 := by kernel_rfl
theorem xit32_3 : intT Tryz.prog 32 3 = some .i64 := by kernel_rfl
theorem xit3_195 : intT Tryz.prog 3 195 = some .u64 := by kernel_rfl
theorem xit3_222 : intT Tryz.prog 3 222 = some .u64 := by kernel_rfl
theorem xit3_24 : intT Tryz.prog 3 24 = some .u32 := by kernel_rfl
theorem xit3_5 : intT Tryz.prog 3 5 = some .u8 := by kernel_rfl
theorem xit5_3 : intT Tryz.prog 5 3 = some .i64 := by kernel_rfl
theorem xmo : Tryz.prog.follows .mixedOrders = true := by kernel_rfl
theorem xmt97 : mapT Tryz.prog 97 = some (.u32,24,43) := by kernel_rfl
theorem xpl113 : placesS Tryz.prog 113 = some [(0,1),(1,1),(2,1),(3,1),(4,1),(5,10)] := by kernel_rfl
theorem xpl116 : placesS Tryz.prog 116 = some [(0,1),(1,1),(2,1),(3,1),(4,1),(5,1),(6,1),(7,1),(8,1),(9,1),(10,1),(11,1),(12,1)] := by kernel_rfl
theorem xpl28 : placesS Tryz.prog 28 = some [(0,1),(1,1),(2,1),(3,1),(4,1),(5,1),(6,1),(7,1),(8,1),(9,1)] := by kernel_rfl
theorem xpl35 : placesS Tryz.prog 35 = some [(0,1),(1,1),(2,1),(3,1),(4,1),(5,1),(6,1),(7,1),(8,1),(9,1),(10,1),(11,1),(12,1)] := by kernel_rfl
theorem xpl43 : placesS Tryz.prog 43 = some [(0,1),(1,1),(2,1),(3,1),(4,1),(5,1),(6,1),(7,1)] := by kernel_rfl
theorem xpl45 : placesS Tryz.prog 45 = some [(0,1),(1,10),(11,1),(12,8),(20,1)] := by kernel_rfl
theorem xpl58 : placesS Tryz.prog 58 = some [(0,1),(1,1),(2,1)] := by kernel_rfl
theorem xpl66 : placesS Tryz.prog 66 = some [(0,1),(1,1)] := by kernel_rfl
theorem xpl81 : placesS Tryz.prog 81 = some [(0,1),(1,1)] := by kernel_rfl
theorem xpl90 : placesS Tryz.prog 90 = some [(0,13),(13,3),(16,1),(17,1),(18,1),(19,1),(20,10),(30,1),(31,1),(32,1)] := by kernel_rfl
theorem xpl99 : placesS Tryz.prog 99 = some [(0,1)] := by kernel_rfl
theorem xpt38 : ptrT Tryz.prog 38 = true := by kernel_rfl
theorem xpt67 : ptrT Tryz.prog 67 = true := by kernel_rfl
theorem xsl25 : sliceT Tryz.prog 25 = true := by kernel_rfl
theorem xst9 : strT Tryz.prog 9 = true := by kernel_rfl
theorem xsz142 : sizeT Tryz.prog 142 = some 2 := by kernel_rfl
theorem xsz174 : sizeT Tryz.prog 174 = some 5 := by kernel_rfl
theorem xsz178 : sizeT Tryz.prog 178 = some 32 := by kernel_rfl
theorem xsz22 : sizeT Tryz.prog 22 = some 1 := by kernel_rfl
theorem xsz222 : sizeT Tryz.prog 222 = some 1 := by kernel_rfl
theorem xsz23 : sizeT Tryz.prog 23 = some 1 := by kernel_rfl
theorem xsz24 : sizeT Tryz.prog 24 = some 1 := by kernel_rfl
theorem xsz26 : sizeT Tryz.prog 26 = some 1 := by kernel_rfl
theorem xsz28 : sizeT Tryz.prog 28 = some 10 := by kernel_rfl
theorem xsz3 : sizeT Tryz.prog 3 = some 1 := by kernel_rfl
theorem xsz33 : sizeT Tryz.prog 33 = some 1 := by kernel_rfl
theorem xsz35 : sizeT Tryz.prog 35 = some 13 := by kernel_rfl
theorem xsz4 : sizeT Tryz.prog 4 = some 1 := by kernel_rfl
theorem xsz43 : sizeT Tryz.prog 43 = some 8 := by kernel_rfl
theorem xsz45 : sizeT Tryz.prog 45 = some 21 := by kernel_rfl
theorem xsz5 : sizeT Tryz.prog 5 = some 1 := by kernel_rfl
theorem xsz50 : sizeT Tryz.prog 50 = some 1 := by kernel_rfl
theorem xsz66 : sizeT Tryz.prog 66 = some 2 := by kernel_rfl
theorem xsz81 : sizeT Tryz.prog 81 = some 2 := by kernel_rfl
theorem xtg5 : tagOf Tryz.prog 5 = some (0,.u8) := by kernel_rfl
theorem xtgs43 : tags Tryz.prog 43 = some [(0,.u32),(0,.i64),(2,.i64),(0,.i64),(0,.i64),(0,.i64),(0,.i64),(0,.i64)] := by kernel_rfl
theorem xts102 : scal Tryz.prog 102 = true := by kernel_rfl
theorem xts134 : scal Tryz.prog 134 = true := by kernel_rfl
theorem xts22 : scal Tryz.prog 22 = true := by kernel_rfl
theorem xts222 : scal Tryz.prog 222 = true := by kernel_rfl
theorem xts23 : scal Tryz.prog 23 = true := by kernel_rfl
theorem xts24 : scal Tryz.prog 24 = true := by kernel_rfl
theorem xts25 : scal Tryz.prog 25 = true := by kernel_rfl
theorem xts26 : scal Tryz.prog 26 = true := by kernel_rfl
theorem xts3 : scal Tryz.prog 3 = true := by kernel_rfl
theorem xts32 : scal Tryz.prog 32 = true := by kernel_rfl
theorem xts33 : scal Tryz.prog 33 = true := by kernel_rfl
theorem xts38 : scal Tryz.prog 38 = true := by kernel_rfl
theorem xts4 : scal Tryz.prog 4 = true := by kernel_rfl
theorem xts5 : scal Tryz.prog 5 = true := by kernel_rfl
theorem xts50 : scal Tryz.prog 50 = true := by kernel_rfl
theorem xts88 : scal Tryz.prog 88 = true := by kernel_rfl
theorem xts9 : scal Tryz.prog 9 = true := by kernel_rfl
theorem xts94 : scal Tryz.prog 94 = true := by kernel_rfl
theorem xts97 : scal Tryz.prog 97 = true := by kernel_rfl
theorem xzi43 : zeroInfo Tryz.prog 43 = some (8,72,.agg #[.int .u32 0,.int .i64 0,.string ⟨#[]⟩,.int .i64 0,.int .i64 0,.int .i64 0,.int .i64 0,.int .i64 0]) := by kernel_rfl
theorem xzi5 : zeroInfo Tryz.prog 5 = some (1,1,.int .u8 0) := by kernel_rfl
theorem xzi66 : zeroInfo Tryz.prog 66 = some (2,8,.agg #[.int .u32 0,.int .u32 0]) := by kernel_rfl
theorem xzi81 : zeroInfo Tryz.prog 81 = some (2,32,.agg #[.int .i64 0,.slice none 0 0]) := by kernel_rfl
theorem xzm178 : zeroOf Tryz.prog 178 = some (.agg (Bk.mks fun _ => false).toArray) := by kernel_rfl
theorem xzo113 : zeroOf Tryz.prog 113 = some (.agg #[.int .i64 0,.int .i64 0,.int .i64 0,.int .i64 0,.int .u32 0,.int .i64 0,.int .u32 0,.int .i64 0,.int .i64 0,.int .u32 0,.int .u32 0,.int .u32 0,.int .u32 0,.slice none 0 0,.slice none 0 0]) := by kernel_rfl
theorem xzo116 : zeroOf Tryz.prog 116 = some (.agg #[.string ⟨#[]⟩,.slice none 0 0,.int .i64 0,.int .u32 0,.int .u32 0,.int .u32 0,.int .i64 0,.int .i64 0,.int .i64 0,.bool false,.int .i64 0,.int .i64 0,.int .i64 0]) := by kernel_rfl
theorem xzo134 : zeroOf Tryz.prog 134 = some (.nilFunc) := by kernel_rfl
theorem xzo142 : zeroOf Tryz.prog 142 = some (.agg #[.int .i64 0,.int .i64 0]) := by kernel_rfl
theorem xzo174 : zeroOf Tryz.prog 174 = some (.agg #[.pointer none,.pointer none,.pointer none,.pointer none,.pointer none]) := by kernel_rfl
theorem xzo222 : zeroOf Tryz.prog 222 = some (.int .u64 0) := by kernel_rfl
theorem xzo24 : zeroOf Tryz.prog 24 = some (.int .u32 0) := by kernel_rfl
theorem xzo28 : zeroOf Tryz.prog 28 = some (.agg #[.int .i64 0,.int .u32 0,.int .i64 0,.int .i64 0,.int .u32 0,.int .u32 0,.int .u32 0,.int .u32 0,.slice none 0 0,.slice none 0 0]) := by kernel_rfl
theorem xzo3 : zeroOf Tryz.prog 3 = some (.int .i64 0) := by kernel_rfl
theorem xzo35 : zeroOf Tryz.prog 35 = some (.agg #[.int .i64 0,.int .i64 0,.int .i64 0,.int .u32 0,.int .i64 0,.int .i64 0,.int .i64 0,.float .f64 0,.float .f64 0,.float .f64 0,.float .f64 0,.slice none 0 0,.int .i64 0]) := by kernel_rfl
theorem xzo43 : zeroOf Tryz.prog 43 = some (.agg #[.int .u32 0,.int .i64 0,.string ⟨#[]⟩,.int .i64 0,.int .i64 0,.int .i64 0,.int .i64 0,.int .i64 0]) := by kernel_rfl
theorem xzo45 : zeroOf Tryz.prog 45 = some (.agg #[.bool false,.int .i64 0,.int .u32 0,.int .i64 0,.int .i64 0,.int .u32 0,.int .u32 0,.int .u32 0,.int .u32 0,.slice none 0 0,.slice none 0 0,.bool false,.int .u32 0,.int .i64 0,.string ⟨#[]⟩,.int .i64 0,.int .i64 0,.int .i64 0,.int .i64 0,.int .i64 0,.int .i64 0]) := by kernel_rfl
theorem xzo5 : zeroOf Tryz.prog 5 = some (.int .u8 0) := by kernel_rfl
theorem xzo50 : zeroOf Tryz.prog 50 = some (.int .i64 0) := by kernel_rfl
theorem xzo58 : zeroOf Tryz.prog 58 = some (.agg #[.int .i64 0,.int .i64 0,.int .i64 0]) := by kernel_rfl
theorem xzo66 : zeroOf Tryz.prog 66 = some (.agg #[.int .u32 0,.int .u32 0]) := by kernel_rfl
theorem xzo81 : zeroOf Tryz.prog 81 = some (.agg #[.int .i64 0,.slice none 0 0]) := by kernel_rfl
theorem xzo90 : zeroOf Tryz.prog 90 = some (.agg #[.int .i64 0,.int .i64 0,.int .i64 0,.int .u32 0,.int .i64 0,.int .i64 0,.int .i64 0,.float .f64 0,.float .f64 0,.float .f64 0,.float .f64 0,.slice none 0 0,.int .i64 0,.int .i64 0,.int .i64 0,.int .i64 0,.pointer none,.int .i64 0,.int .i64 0,.int .i64 0,.int .i64 0,.int .u32 0,.int .i64 0,.int .i64 0,.int .u32 0,.int .u32 0,.int .u32 0,.int .u32 0,.slice none 0 0,.slice none 0 0,.string ⟨#[]⟩,.int .u32 0,.int .i64 0]) := by kernel_rfl
theorem xzo99 : zeroOf Tryz.prog 99 = some (.agg #[.map none]) := by kernel_rfl
end Go.Proofs.YtfgblingojgafaaGreat
namespace Go.Proofs.YtfgblingojgafaaGreat
open Go Go.K
attribute [local irreducible] Code.wp wpList Calls wpQuiet
open Go.Sort
theorem ins_r {V : Vw} {n c b : Nat} {rest : List Value} {d0 : Array Rg} {gf : FuncId} {caps : List Value} {cm : Rg -> Rg -> Int} {x y : Nat}  (hN : n <= 1073741824) (hd : d0.size = n) (hx : x <= n) (hy : y <= n)  (hcmp : ∀ x y : Rg,Does Tryz.prog gf (.agg (Rg.cells x).toArray :: .agg (Rg.cells y).toArray :: caps) V [] (Pv (.int .i64 (cm x y)) V [])) (hswo : SWO (ltc cm))  : Does Tryz.prog 188 [.slice (some ⟨b,0,none⟩) n c,.int .i64 ((x : Nat) : Int),.int .i64 ((y : Nat) : Int),.func (.func gf) #[] caps.toArray] V [sgD Rg.cells 66 b rest d0] (fun v V' H' => V' = V /\ v = .tuple #[] /\ H' = [sgD Rg.cells 66 b rest (insertionSort (ltc cm) d0 x y)]) := by
 refine Does.intro Tryz.func188 rfl rfl (le rfl) (fun B => ?_)
 refine Zs<|Zr<|Zm Z<|Zv (Y.addN ((x + 1 : Nat) : Int) rfl rfl W W)<|Za Z<|Ze<|Zg<|Zb<|?_
 refine ZL (X := Nat × Array Rg) (fun z0 => V) (fun z0 => [sgD Rg.cells 66 b rest z0.2]) (fun z0 => [(0,.slice (some ⟨b,0,none⟩) n c),(1,.int .i64 ((x : Nat) : Int)),(2,.int .i64 ((y : Nat) : Int)),(3,.func (.func gf) #[] caps.toArray),(8,.int .i64 ((z0.1 : Nat) : Int))]) (fun z0 => insOuter (ltc cm) x y z0.1 z0.2 = insOuter (ltc cm) x y (x + 1) d0 /\ z0.2.size = n /\ x < z0.1) (fun z0 => y - z0.1) (⟨x + 1,d0⟩ : Nat × Array Rg) ⟨rfl,hd,by omega⟩ ?_
 rintro ⟨i,d⟩ ⟨r1,r2,r3⟩
 try dsimp only at r1 r2 r3 ⊢
 refine Zs<|Zs<|Zr<|Zm Z<|Zm Z<|Zv (Y.int Z Z Z)<|Ze<|Zg<|?_
 refine Zq (decide (((i : Nat) : Int) < ((y : Nat) : Int))) (fun h1 g1 => ?_) fun h1 g1 => ?_
 ·refine Tr.cond_t Z h1<|Zt<|Zg<|Zs<|Zb<|Zs<|Zr<|Zm Z<|Za Z<|Ze<|Zg<|Zb<|?_
  refine ZL (X := Nat × Array Rg) (fun z0 => V) (fun z0 => [sgD Rg.cells 66 b rest z0.2]) (fun z0 => [(0,.slice (some ⟨b,0,none⟩) n c),(1,.int .i64 ((x : Nat) : Int)),(2,.int .i64 ((y : Nat) : Int)),(3,.func (.func gf) #[] caps.toArray),(8,.int .i64 ((i : Nat) : Int)),(9,.int .i64 ((z0.1 : Nat) : Int))]) (fun z0 => insOuter (ltc cm) x y (i + 1) (insInner (ltc cm) x z0.1 z0.2) = insOuter (ltc cm) x y (x + 1) d0 /\ z0.2.size = n /\ z0.1 <= i) (fun z0 => z0.1) (⟨i,d⟩ : Nat × Array Rg) ⟨(insOuter_go W).symm.trans r1,r2,Nat.le_refl _⟩ ?_
  rintro ⟨j,f⟩ ⟨k1,k2,k3⟩
  try dsimp only at k1 k2 k3 ⊢
  refine Zs<|Zs<|Tr.quiet xmo WK<|ZM Z<|ZM Z<|ZV (Y.int Z Z Z)<|ZM Z<|?_
  refine Zq (decide (((j : Nat) : Int) > ((x : Nat) : Int))) (fun h2 g2 => ?_) fun h2 g2 => ?_
  ·refine ZP h2<|ZM Z<|ZP h2<|ZM Z<|ZP h2<|ZM Z<|ZP h2<|ZV (Y.idxN j Z Z xes33 W W)<|ZP h2<|ZV (Y.ldA (enc := Rg.cells) (d := f) (rest := rest) (e := 66) (i := j) Z xag66 (Kn.at 0 rfl) Rg.enc WB rfl)<|ZP h2<|ZM Z<|ZP h2<|ZM Z<|ZP h2<|ZV (Y.subN ((j - 1 : Nat) : Int) rfl rfl W W)<|?_
   refine ZP h2<|ZV (Y.idxN (j - 1) rfl rfl xes33 W W)<|ZP h2<|ZV (Y.ldA (enc := Rg.cells) (d := f) (rest := rest) (e := 66) (i := (j - 1)) rfl xag66 (Kn.at 0 rfl) Rg.enc WB rfl)<|ZP h2<|YC Z Z Z ((hcmp (f[j]!) (f[j - 1]!)).frame)<|ZP h2<|ZV (Y.int Z Z Z)<|ZV (Y.pick_t Z h2 Z)<|ZE<|Zg<|?_
   refine Zq (decide ((cm (f[j]!) (f[j - 1]!)) < 0)) (fun h3 g3 => ?_) fun h3 g3 => ?_
   ·refine Tr.cond_t Z h3<|Zt<|Zg<|Zs<|Zb<|Tr.anyT [(b,.cells (cel Rg.cells f rest).toArray 66 (0,0))] 15 xmo<|Zwm 0 Z Z (ZK 0 Z)<|Zwm 1 Z Z (ZK 0 Z)<|Zwm 2 Z Z (ZK 0 Z)<|Zwm 3 Z Z (ZK 0 Z)<|Zw 4 Z (ZK 0 Z) (fun _ => (Y.subN ((j - 1 : Nat) : Int) rfl rfl W W))<|Zwm 5 Z Z (ZK 0 Z)<|Zwm 6 Z Z (ZK 0 Z)<|Zw 7 Z (ZK 0 Z) (fun _ => (Y.subN ((j - 1 : Nat) : Int) rfl rfl W W))<|Zw 8 Z (ZK 0 Z) (fun _ => (Y.idxN (j - 1) rfl rfl xes33 W W))<|?_
    refine ZT 9 0 Z Z (ZK 0 Z) (fun _ => (Y.ldA (enc := Rg.cells) (d := f) (rest := rest) (e := 66) (i := (j - 1)) rfl xag66 Kn.vk1 Rg.enc WB rfl))<|Zwm 10 Z Z (ZK 0 Z)<|Zwm 11 Z Z (ZK 0 Z)<|Zw 12 Z (ZK 0 Z) (fun _ => (Y.idxN j rfl rfl xes33 W W))<|ZT 13 0 Z Z (ZK 0 Z) (fun _ => (Y.ldA (enc := Rg.cells) (d := f) (rest := rest) (e := 66) (i := j) rfl xag66 Kn.vk1 Rg.enc WB rfl))<|?_
    refine Zw 14 Z (ZK 0 Z) (fun _ => (Y.idxN j rfl rfl xes33 W W)) ?_
    refine RunT.one (i := 15) WK rfl  ?_
    refine Run.stD (enc := Rg.cells) (d := f) (rest := rest) (e := 66) (i := j) (s := 0) (f[j - 1]!) rfl rfl xsz66 rfl Rg.enc WB rfl<|Ze<|Zz 15<|?_
    refine RunT.one (i := 16) WK rfl  ?_
    refine Zv (Y.idxN (j - 1) rfl rfl xes33 W W)<|Ze<|Zz 16<|?_
    refine RunT.one (i := 17) WK rfl  ?_
    refine Run.stD (enc := Rg.cells) (d := (f).setIfInBounds j (f[j - 1]!)) (rest := rest) (e := 66) (i := (j - 1)) (s := 0) (f[j]!) rfl rfl xsz66 rfl Rg.enc WB rfl<|Run.heapTo (H' := [sgD Rg.cells 66 b rest (swp f j (j - 1))]) Z<|Ze<|Zz 17<|RunT.done WK<|Zc<|Zg<|Zr<|Zm Z<|Zv (Y.subN ((j - 1 : Nat) : Int) rfl rfl W W)<|?_
    refine Za Z<|Ze<|?_
    exact ZR (⟨j - 1,swp f j (j - 1)⟩ : Nat × Array Rg) ⟨by dsimp only; rw [<- insInner_go W (by assumption)]; exact k1,by simp only [swp_size]; exact k2,by omega⟩ (by dsimp only; omega)
   refine Tr.cond_f Z h3<|Zx<|Zy<|Zy<|Zi<|Zc<|Zg<|Zr<|Zm Z<|Zv (Y.addN ((i + 1 : Nat) : Int) rfl rfl W W)<|Za Z<|Ze<|?_
   exact ZR (⟨i + 1,f⟩ : Nat × Array Rg) ⟨(congrArg (insOuter (ltc cm) x y (i + 1)) (insInner_stop (a := x) (by first | (left; omega) | (right; assumption)))).symm.trans k1,k2,by omega⟩ (by dsimp only; omega)
  refine ZO h2 Z<|ZO h2 Z<|ZO h2 Z<|ZO h2 Z<|ZO h2 Z<|ZO h2 Z<|ZO h2 Z<|ZO h2 Z<|ZO h2 Z<|ZO h2 Z<|ZO h2 Z<|ZO h2 Z<|ZV (Y.pick_f Z h2 Z)<|ZE<|Zg<|Tr.cond_f Z Z<|?_
  refine Zx<|Zy<|Zy<|Zi<|Zc<|Zg<|Zr<|Zm Z<|Zv (Y.addN ((i + 1 : Nat) : Int) rfl rfl W W)<|Za Z<|Ze<|?_
  exact ZR (⟨i + 1,f⟩ : Nat × Array Rg) ⟨(congrArg (insOuter (ltc cm) x y (i + 1)) (insInner_stop (a := x) (by first | (left; omega) | (right; assumption)))).symm.trans k1,k2,by omega⟩ (by dsimp only; omega)
 refine Tr.cond_f Z h1<|Zx<|Zy<|Zy<|Zi<|Ex.keep [0]<|?_
 exact Ex.end0 rfl ⟨rfl,rfl,by rw [insertionSort,<- r1,insOuter_stop W]; rfl⟩
theorem sift_r {V : Vw} {n c b : Nat} {rest : List Value} {d0 : Array Rg} {gf : FuncId} {caps : List Value} {cm : Rg -> Rg -> Int} {l m f : Nat}  (hN : n <= 1073741824) (hd : d0.size = n) (hl : l <= n) (hm : f + m <= n)  (hcmp : ∀ x y : Rg,Does Tryz.prog gf (.agg (Rg.cells x).toArray :: .agg (Rg.cells y).toArray :: caps) V [] (Pv (.int .i64 (cm x y)) V [])) (hswo : SWO (ltc cm))  : Does Tryz.prog 202 [.slice (some ⟨b,0,none⟩) n c,.int .i64 ((l : Nat) : Int),.int .i64 ((m : Nat) : Int),.int .i64 ((f : Nat) : Int),.func (.func gf) #[] caps.toArray] V [sgD Rg.cells 66 b rest d0] (fun v V' H' => V' = V /\ v = .tuple #[] /\ H' = [sgD Rg.cells 66 b rest (siftDown (ltc cm) m f l d0)]) := by
 refine Does.intro Tryz.func202 rfl rfl (le rfl) (fun B => ?_)
 refine Zs<|Zr<|Zm Z<|Za Z<|Ze<|Zg<|Zb<|?_
 refine ZL (X := Nat × Array Rg) (fun z0 => V) (fun z0 => [sgD Rg.cells 66 b rest z0.2]) (fun z0 => [(0,.slice (some ⟨b,0,none⟩) n c),(1,.int .i64 ((l : Nat) : Int)),(2,.int .i64 ((m : Nat) : Int)),(3,.int .i64 ((f : Nat) : Int)),(4,.func (.func gf) #[] caps.toArray),(10,.int .i64 ((z0.1 : Nat) : Int))]) (fun z0 => siftDown (ltc cm) m f z0.1 z0.2 = siftDown (ltc cm) m f l d0 /\ z0.2.size = n /\ z0.1 <= n) (fun z0 => m - z0.1) (⟨l,d0⟩ : Nat × Array Rg) ⟨rfl,hd,hl⟩ ?_
 rintro ⟨r,d⟩ ⟨r1,r2,r3⟩
 try dsimp only at r1 r2 r3 ⊢
 refine Zb<|Zs<|Zr<|Zm Z<|Zv (Y.mulN ((2 * r : Nat) : Int) rfl rfl W W)<|Zv (Y.addN (((2 * r) + 1 : Nat) : Int) rfl rfl W W)<|Za Z<|Ze<|Zg<|Zs<|Zs<|Zr<|Zm Z<|Zm Z<|Zv (Y.int Z Z Z)<|Ze<|?_
 refine Zg ?_
 refine Zq (decide ((((2 * r) + 1 : Nat) : Int) >= ((m : Nat) : Int))) (fun h1 g1 => ?_) fun h1 g1 => ?_
 ·refine Tr.cond_t Z h1<|Zx<|Zy<|Ex.exit_out Z<|Zy<|Zi<|Ex.keep [0]<|?_
  exact Ex.end0 rfl ⟨rfl,rfl,by rw [<- r1]; first | rw [sift_end W]; rfl | rw [sift_stop2 W (by assumption) (by assumption)]; rfl | rw [sift_stop1 W (by first | (left; omega) | (right; assumption)) (by assumption)]; rfl⟩
 refine Tr.cond_f Z h1<|Zt<|Zg<|Zs<|Zs<|Tr.quiet xmo WK<|ZM Z<|ZV (Y.addN ((((2 * r) + 1) + 1 : Nat) : Int) rfl rfl W W)<|ZM Z<|ZV (Y.int Z Z Z)<|ZM Z<|?_
 refine Zq (decide (((((2 * r) + 1) + 1 : Nat) : Int) < ((m : Nat) : Int))) (fun h2 g2 => ?_) fun h2 g2 => ?_
 ·refine ZP h2<|ZM Z<|ZP h2<|ZM Z<|ZP h2<|ZM Z<|ZP h2<|ZM Z<|ZP h2<|ZV (Y.addN ((f + ((2 * r) + 1) : Nat) : Int) rfl rfl W W)<|ZP h2<|ZV (Y.idxN (f + ((2 * r) + 1)) rfl rfl xes33 W W)<|ZP h2<|ZV (Y.ldA (enc := Rg.cells) (d := d) (rest := rest) (e := 66) (i := (f + ((2 * r) + 1))) rfl xag66 (Kn.at 0 rfl) Rg.enc WB rfl)<|?_
  refine ZP h2<|ZM Z<|ZP h2<|ZM Z<|ZP h2<|ZM Z<|ZP h2<|ZV (Y.addN ((f + ((2 * r) + 1) : Nat) : Int) rfl rfl W W)<|ZP h2<|ZV (Y.addN (((f + ((2 * r) + 1)) + 1 : Nat) : Int) rfl rfl W W)<|ZP h2<|ZV (Y.idxN ((f + ((2 * r) + 1)) + 1) rfl rfl xes33 W W)<|ZP h2<|ZV (Y.ldA (enc := Rg.cells) (d := d) (rest := rest) (e := 66) (i := ((f + ((2 * r) + 1)) + 1)) rfl xag66 (Kn.at 0 rfl) Rg.enc WB rfl)<|?_
  refine ZP h2<|YC Z Z Z ((hcmp (d[f + ((2 * r) + 1)]!) (d[(f + ((2 * r) + 1)) + 1]!)).frame)<|ZP h2<|ZV (Y.int Z Z Z)<|ZV (Y.pick_t Z h2 Z)<|ZE<|Zg<|?_
  refine Zq (decide ((cm (d[f + ((2 * r) + 1)]!) (d[(f + ((2 * r) + 1)) + 1]!)) < 0)) (fun h3 g3 => ?_) fun h3 g3 => ?_
  ·refine Tr.cond_t Z h3<|Zr<|Zm Z<|Zv (Y.addN ((((2 * r) + 1) + 1 : Nat) : Int) rfl rfl W W)<|Za Z<|Ze<|Zg<|Zs<|Zs<|Tr.quiet xmo WK<|ZM Z<|ZM Z<|ZM Z<|ZM Z<|ZV (Y.addN ((f + r : Nat) : Int) rfl rfl W W)<|ZV (Y.idxN (f + r) rfl rfl xes33 W W)<|?_
   refine ZV (Y.ldA (enc := Rg.cells) (d := d) (rest := rest) (e := 66) (i := (f + r)) rfl xag66 (Kn.at 0 rfl) Rg.enc WB rfl)<|ZM Z<|ZM Z<|ZM Z<|ZV (Y.addN ((f + (((2 * r) + 1) + 1) : Nat) : Int) rfl rfl W W)<|ZV (Y.idxN (f + (((2 * r) + 1) + 1)) rfl rfl xes33 W W)<|ZV (Y.ldA (enc := Rg.cells) (d := d) (rest := rest) (e := 66) (i := (f + (((2 * r) + 1) + 1))) rfl xag66 (Kn.at 0 rfl) Rg.enc WB rfl)<|?_
   refine YC Z Z Z ((hcmp (d[f + r]!) (d[f + (((2 * r) + 1) + 1)]!)).frame)<|ZV (Y.int Z Z Z)<|ZV (Y.not Z)<|ZE<|Zg<|?_
   refine Zq (decide ((cm (d[f + r]!) (d[f + (((2 * r) + 1) + 1)]!)) < 0)) (fun h4 g4 => ?_) fun h4 g4 => ?_
   ·refine Tr.cond_f Z (congrArg Bool.not h4)<|Zt<|Zg<|Zs<|Tr.anyT [(b,.cells (cel Rg.cells d rest).toArray 66 (0,0))] 21 xmo<|Zwm 0 Z Z (ZK 0 Z)<|Zwm 1 Z Z (ZK 0 Z)<|Zwm 2 Z Z (ZK 0 Z)<|Zw 3 Z (ZK 0 Z) (fun _ => (Y.addN ((f + r : Nat) : Int) rfl rfl W W))<|Zwm 4 Z Z (ZK 0 Z)<|Zwm 5 Z Z (ZK 0 Z)<|Zwm 6 Z Z (ZK 0 Z)<|Zw 7 Z (ZK 0 Z) (fun _ => (Y.addN ((f + (((2 * r) + 1) + 1) : Nat) : Int) rfl rfl W W))<|?_
    refine Zwm 8 Z Z (ZK 0 Z)<|Zwm 9 Z Z (ZK 0 Z)<|Zwm 10 Z Z (ZK 0 Z)<|Zw 11 Z (ZK 0 Z) (fun _ => (Y.addN ((f + (((2 * r) + 1) + 1) : Nat) : Int) rfl rfl W W))<|Zw 12 Z (ZK 0 Z) (fun _ => (Y.idxN (f + (((2 * r) + 1) + 1)) rfl rfl xes33 W W))<|ZT 13 0 Z Z (ZK 0 Z) (fun _ => (Y.ldA (enc := Rg.cells) (d := d) (rest := rest) (e := 66) (i := (f + (((2 * r) + 1) + 1))) rfl xag66 Kn.vk1 Rg.enc WB rfl))<|?_
    refine Zwm 14 Z Z (ZK 0 Z)<|Zwm 15 Z Z (ZK 0 Z)<|Zwm 16 Z Z (ZK 0 Z)<|Zw 17 Z (ZK 0 Z) (fun _ => (Y.addN ((f + r : Nat) : Int) rfl rfl W W))<|Zw 18 Z (ZK 0 Z) (fun _ => (Y.idxN (f + r) rfl rfl xes33 W W))<|ZT 19 0 Z Z (ZK 0 Z) (fun _ => (Y.ldA (enc := Rg.cells) (d := d) (rest := rest) (e := 66) (i := (f + r)) rfl xag66 Kn.vk1 Rg.enc WB rfl))<|?_
    refine Zw 20 Z (ZK 0 Z) (fun _ => (Y.idxN (f + r) rfl rfl xes33 W W)) ?_
    refine RunT.one (i := 21) WK rfl  ?_
    refine Run.stD (enc := Rg.cells) (d := d) (rest := rest) (e := 66) (i := (f + r)) (s := 0) (d[f + (((2 * r) + 1) + 1)]!) rfl rfl xsz66 rfl Rg.enc WB rfl<|Ze<|Zz 21<|?_
    refine RunT.one (i := 22) WK rfl  ?_
    refine Zv (Y.idxN (f + (((2 * r) + 1) + 1)) rfl rfl xes33 W W)<|Ze<|Zz 22<|?_
    refine RunT.one (i := 23) WK rfl  ?_
    refine Run.stD (enc := Rg.cells) (d := (d).setIfInBounds (f + r) (d[f + (((2 * r) + 1) + 1)]!)) (rest := rest) (e := 66) (i := (f + (((2 * r) + 1) + 1))) (s := 0) (d[f + r]!) rfl rfl xsz66 rfl Rg.enc WB rfl<|Run.heapTo (H' := [sgD Rg.cells 66 b rest (swp d (f + r) (f + (((2 * r) + 1) + 1)))]) Z<|Ze<|Zz 23<|RunT.done WK<|Zg<|Zr<|?_
    refine Zm Z<|Za Z<|Ze<|Zc<|?_
    exact ZR (⟨((2 * r) + 1) + 1,swp d (f + r) (f + (((2 * r) + 1) + 1))⟩ : Nat × Array Rg) ⟨by first | exact (sift_go2 W (by assumption) (by assumption)).symm.trans r1 | exact (sift_go1 W (by first | (left; omega) | (right; assumption)) (by assumption)).symm.trans r1,by simp only [swp_size]; exact r2,by (try dsimp only); omega⟩ (by dsimp only; omega)
   refine Tr.cond_t Z (congrArg Bool.not h4)<|Zu<|Zn<|Zk<|Zn<|Zk<|Ex.keep [0]<|?_
   exact Ex.ret0 rfl ⟨rfl,rfl,by rw [<- r1]; first | rw [sift_end W]; rfl | rw [sift_stop2 W (by assumption) (by assumption)]; rfl | rw [sift_stop1 W (by first | (left; omega) | (right; assumption)) (by assumption)]; rfl⟩
  refine Tr.cond_f Z h3<|Zt<|Zg<|Zs<|Zs<|Tr.quiet xmo WK<|ZM Z<|ZM Z<|ZM Z<|ZM Z<|ZV (Y.addN ((f + r : Nat) : Int) rfl rfl W W)<|ZV (Y.idxN (f + r) rfl rfl xes33 W W)<|ZV (Y.ldA (enc := Rg.cells) (d := d) (rest := rest) (e := 66) (i := (f + r)) rfl xag66 (Kn.at 0 rfl) Rg.enc WB rfl)<|ZM Z<|ZM Z<|ZM Z<|?_
  refine ZV (Y.addN ((f + ((2 * r) + 1) : Nat) : Int) rfl rfl W W)<|ZV (Y.idxN (f + ((2 * r) + 1)) rfl rfl xes33 W W)<|ZV (Y.ldA (enc := Rg.cells) (d := d) (rest := rest) (e := 66) (i := (f + ((2 * r) + 1))) rfl xag66 (Kn.at 0 rfl) Rg.enc WB rfl)<|YC Z Z Z ((hcmp (d[f + r]!) (d[f + ((2 * r) + 1)]!)).frame)<|?_
  refine ZV (Y.int Z Z Z)<|ZV (Y.not Z)<|ZE<|Zg<|?_
  refine Zq (decide ((cm (d[f + r]!) (d[f + ((2 * r) + 1)]!)) < 0)) (fun h5 g5 => ?_) fun h5 g5 => ?_
  ·refine Tr.cond_f Z (congrArg Bool.not h5)<|Zt<|Zg<|Zs<|Tr.anyT [(b,.cells (cel Rg.cells d rest).toArray 66 (0,0))] 21 xmo<|Zwm 0 Z Z (ZK 0 Z)<|Zwm 1 Z Z (ZK 0 Z)<|Zwm 2 Z Z (ZK 0 Z)<|Zw 3 Z (ZK 0 Z) (fun _ => (Y.addN ((f + r : Nat) : Int) rfl rfl W W))<|Zwm 4 Z Z (ZK 0 Z)<|Zwm 5 Z Z (ZK 0 Z)<|Zwm 6 Z Z (ZK 0 Z)<|Zw 7 Z (ZK 0 Z) (fun _ => (Y.addN ((f + ((2 * r) + 1) : Nat) : Int) rfl rfl W W))<|?_
   refine Zwm 8 Z Z (ZK 0 Z)<|Zwm 9 Z Z (ZK 0 Z)<|Zwm 10 Z Z (ZK 0 Z)<|Zw 11 Z (ZK 0 Z) (fun _ => (Y.addN ((f + ((2 * r) + 1) : Nat) : Int) rfl rfl W W))<|Zw 12 Z (ZK 0 Z) (fun _ => (Y.idxN (f + ((2 * r) + 1)) rfl rfl xes33 W W))<|ZT 13 0 Z Z (ZK 0 Z) (fun _ => (Y.ldA (enc := Rg.cells) (d := d) (rest := rest) (e := 66) (i := (f + ((2 * r) + 1))) rfl xag66 Kn.vk1 Rg.enc WB rfl))<|?_
   refine Zwm 14 Z Z (ZK 0 Z)<|Zwm 15 Z Z (ZK 0 Z)<|Zwm 16 Z Z (ZK 0 Z)<|Zw 17 Z (ZK 0 Z) (fun _ => (Y.addN ((f + r : Nat) : Int) rfl rfl W W))<|Zw 18 Z (ZK 0 Z) (fun _ => (Y.idxN (f + r) rfl rfl xes33 W W))<|ZT 19 0 Z Z (ZK 0 Z) (fun _ => (Y.ldA (enc := Rg.cells) (d := d) (rest := rest) (e := 66) (i := (f + r)) rfl xag66 Kn.vk1 Rg.enc WB rfl))<|?_
   refine Zw 20 Z (ZK 0 Z) (fun _ => (Y.idxN (f + r) rfl rfl xes33 W W)) ?_
   refine RunT.one (i := 21) WK rfl  ?_
   refine Run.stD (enc := Rg.cells) (d := d) (rest := rest) (e := 66) (i := (f + r)) (s := 0) (d[f + ((2 * r) + 1)]!) rfl rfl xsz66 rfl Rg.enc WB rfl<|Ze<|Zz 21<|?_
   refine RunT.one (i := 22) WK rfl  ?_
   refine Zv (Y.idxN (f + ((2 * r) + 1)) rfl rfl xes33 W W)<|Ze<|Zz 22<|?_
   refine RunT.one (i := 23) WK rfl  ?_
   refine Run.stD (enc := Rg.cells) (d := (d).setIfInBounds (f + r) (d[f + ((2 * r) + 1)]!)) (rest := rest) (e := 66) (i := (f + ((2 * r) + 1))) (s := 0) (d[f + r]!) rfl rfl xsz66 rfl Rg.enc WB rfl<|Run.heapTo (H' := [sgD Rg.cells 66 b rest (swp d (f + r) (f + ((2 * r) + 1)))]) Z<|Ze<|Zz 23<|RunT.done WK<|Zg<|Zr<|Zm Z<|Za Z<|Ze<|Zc<|?_
   exact ZR (⟨(2 * r) + 1,swp d (f + r) (f + ((2 * r) + 1))⟩ : Nat × Array Rg) ⟨by first | exact (sift_go2 W (by assumption) (by assumption)).symm.trans r1 | exact (sift_go1 W (by first | (left; omega) | (right; assumption)) (by assumption)).symm.trans r1,by simp only [swp_size]; exact r2,by (try dsimp only); omega⟩ (by dsimp only; omega)
  refine Tr.cond_t Z (congrArg Bool.not h5)<|Zu<|Zn<|Zk<|Zn<|Zk<|Ex.keep [0]<|?_
  exact Ex.ret0 rfl ⟨rfl,rfl,by rw [<- r1]; first | rw [sift_end W]; rfl | rw [sift_stop2 W (by assumption) (by assumption)]; rfl | rw [sift_stop1 W (by first | (left; omega) | (right; assumption)) (by assumption)]; rfl⟩
 refine ZO h2 Z<|ZO h2 Z<|ZO h2 Z<|ZO h2 Z<|ZO h2 Z<|ZO h2 Z<|ZO h2 Z<|ZO h2 Z<|ZO h2 Z<|ZO h2 Z<|ZO h2 Z<|ZO h2 Z<|ZO h2 Z<|ZO h2 Z<|ZO h2 Z<|ZO h2 Z<|?_
 refine ZV (Y.pick_f Z h2 Z)<|ZE<|Zg<|Tr.cond_f Z Z<|Zt<|Zg<|Zs<|Zs<|Tr.quiet xmo WK<|ZM Z<|ZM Z<|ZM Z<|ZM Z<|ZV (Y.addN ((f + r : Nat) : Int) rfl rfl W W)<|ZV (Y.idxN (f + r) rfl rfl xes33 W W)<|ZV (Y.ldA (enc := Rg.cells) (d := d) (rest := rest) (e := 66) (i := (f + r)) rfl xag66 (Kn.at 0 rfl) Rg.enc WB rfl)<|?_
 refine ZM Z<|ZM Z<|ZM Z<|ZV (Y.addN ((f + ((2 * r) + 1) : Nat) : Int) rfl rfl W W)<|ZV (Y.idxN (f + ((2 * r) + 1)) rfl rfl xes33 W W)<|ZV (Y.ldA (enc := Rg.cells) (d := d) (rest := rest) (e := 66) (i := (f + ((2 * r) + 1))) rfl xag66 (Kn.at 0 rfl) Rg.enc WB rfl)<|YC Z Z Z ((hcmp (d[f + r]!) (d[f + ((2 * r) + 1)]!)).frame)<|?_
 refine ZV (Y.int Z Z Z)<|ZV (Y.not Z)<|ZE<|Zg<|?_
 refine Zq (decide ((cm (d[f + r]!) (d[f + ((2 * r) + 1)]!)) < 0)) (fun h6 g6 => ?_) fun h6 g6 => ?_
 ·refine Tr.cond_f Z (congrArg Bool.not h6)<|Zt<|Zg<|Zs<|Tr.anyT [(b,.cells (cel Rg.cells d rest).toArray 66 (0,0))] 21 xmo<|Zwm 0 Z Z (ZK 0 Z)<|Zwm 1 Z Z (ZK 0 Z)<|Zwm 2 Z Z (ZK 0 Z)<|Zw 3 Z (ZK 0 Z) (fun _ => (Y.addN ((f + r : Nat) : Int) rfl rfl W W))<|Zwm 4 Z Z (ZK 0 Z)<|Zwm 5 Z Z (ZK 0 Z)<|Zwm 6 Z Z (ZK 0 Z)<|Zw 7 Z (ZK 0 Z) (fun _ => (Y.addN ((f + ((2 * r) + 1) : Nat) : Int) rfl rfl W W))<|?_
  refine Zwm 8 Z Z (ZK 0 Z)<|Zwm 9 Z Z (ZK 0 Z)<|Zwm 10 Z Z (ZK 0 Z)<|Zw 11 Z (ZK 0 Z) (fun _ => (Y.addN ((f + ((2 * r) + 1) : Nat) : Int) rfl rfl W W))<|Zw 12 Z (ZK 0 Z) (fun _ => (Y.idxN (f + ((2 * r) + 1)) rfl rfl xes33 W W))<|ZT 13 0 Z Z (ZK 0 Z) (fun _ => (Y.ldA (enc := Rg.cells) (d := d) (rest := rest) (e := 66) (i := (f + ((2 * r) + 1))) rfl xag66 Kn.vk1 Rg.enc WB rfl))<|?_
  refine Zwm 14 Z Z (ZK 0 Z)<|Zwm 15 Z Z (ZK 0 Z)<|Zwm 16 Z Z (ZK 0 Z)<|Zw 17 Z (ZK 0 Z) (fun _ => (Y.addN ((f + r : Nat) : Int) rfl rfl W W))<|Zw 18 Z (ZK 0 Z) (fun _ => (Y.idxN (f + r) rfl rfl xes33 W W))<|ZT 19 0 Z Z (ZK 0 Z) (fun _ => (Y.ldA (enc := Rg.cells) (d := d) (rest := rest) (e := 66) (i := (f + r)) rfl xag66 Kn.vk1 Rg.enc WB rfl))<|?_
  refine Zw 20 Z (ZK 0 Z) (fun _ => (Y.idxN (f + r) rfl rfl xes33 W W)) ?_
  refine RunT.one (i := 21) WK rfl  ?_
  refine Run.stD (enc := Rg.cells) (d := d) (rest := rest) (e := 66) (i := (f + r)) (s := 0) (d[f + ((2 * r) + 1)]!) rfl rfl xsz66 rfl Rg.enc WB rfl<|Ze<|Zz 21<|?_
  refine RunT.one (i := 22) WK rfl  ?_
  refine Zv (Y.idxN (f + ((2 * r) + 1)) rfl rfl xes33 W W)<|Ze<|Zz 22<|?_
  refine RunT.one (i := 23) WK rfl  ?_
  refine Run.stD (enc := Rg.cells) (d := (d).setIfInBounds (f + r) (d[f + ((2 * r) + 1)]!)) (rest := rest) (e := 66) (i := (f + ((2 * r) + 1))) (s := 0) (d[f + r]!) rfl rfl xsz66 rfl Rg.enc WB rfl<|Run.heapTo (H' := [sgD Rg.cells 66 b rest (swp d (f + r) (f + ((2 * r) + 1)))]) Z<|Ze<|Zz 23<|RunT.done WK<|Zg<|Zr<|Zm Z<|Za Z<|Ze<|Zc<|?_
  exact ZR (⟨(2 * r) + 1,swp d (f + r) (f + ((2 * r) + 1))⟩ : Nat × Array Rg) ⟨by first | exact (sift_go2 W (by assumption) (by assumption)).symm.trans r1 | exact (sift_go1 W (by first | (left; omega) | (right; assumption)) (by assumption)).symm.trans r1,by simp only [swp_size]; exact r2,by (try dsimp only); omega⟩ (by dsimp only; omega)
 refine Tr.cond_t Z (congrArg Bool.not h6)<|Zu<|Zn<|Zk<|Zn<|Zk<|Ex.keep [0]<|?_
 exact Ex.ret0 rfl ⟨rfl,rfl,by rw [<- r1]; first | rw [sift_end W]; rfl | rw [sift_stop2 W (by assumption) (by assumption)]; rfl | rw [sift_stop1 W (by first | (left; omega) | (right; assumption)) (by assumption)]; rfl⟩
theorem heap_r {V : Vw} {n c b : Nat} {rest : List Value} {d0 : Array Rg} {gf : FuncId} {caps : List Value} {cm : Rg -> Rg -> Int} {x y : Nat}  (hN : n <= 1073741824) (hd : d0.size = n) (hx : x < y) (hy : y <= n)  (hcmp : ∀ x y : Rg,Does Tryz.prog gf (.agg (Rg.cells x).toArray :: .agg (Rg.cells y).toArray :: caps) V [] (Pv (.int .i64 (cm x y)) V [])) (hswo : SWO (ltc cm))  : Does Tryz.prog 189 [.slice (some ⟨b,0,none⟩) n c,.int .i64 ((x : Nat) : Int),.int .i64 ((y : Nat) : Int),.func (.func gf) #[] caps.toArray] V [sgD Rg.cells 66 b rest d0] (fun v V' H' => V' = V /\ v = .tuple #[] /\ H' = [sgD Rg.cells 66 b rest (heapSort (ltc cm) d0 x y)]) := by
 refine Does.intro Tryz.func189 rfl rfl (le rfl) (fun B => ?_)
 refine Zs<|Zr<|Zm Z<|Za Z<|Ze<|Zg<|Zs<|Zr<|Za Z<|Ze<|Zg<|Zs<|Zr<|Zm Z<|Zm Z<|Zv (Y.subN ((y - x : Nat) : Int) rfl rfl W W)<|?_
 refine Za Z<|Ze<|Zg<|Zs<|Zs<|Zr<|Zm Z<|Zv (Y.subN (((y - x) - 1 : Nat) : Int) rfl rfl W W)<|Zv (Y.quoN (m := (y - x) - 1) (n := 2) rfl rfl W W)<|Za Z<|Ze<|Zg<|Zb<|?_
 refine ZL (X := Int × Array Rg) (fun z0 => V) (fun z0 => [sgD Rg.cells 66 b rest z0.2]) (fun z0 => [(0,.slice (some ⟨b,0,none⟩) n c),(1,.int .i64 ((x : Nat) : Int)),(2,.int .i64 ((y : Nat) : Int)),(3,.func (.func gf) #[] caps.toArray),(8,.int .i64 ((x : Nat) : Int)),(9,.int .i64 0),(10,.int .i64 ((y - x : Nat) : Int)),(11,.int .i64 z0.1)]) (fun z0 => heapBuild (ltc cm) (y - x) x (z0.1 + 1).toNat z0.2 = heapBuild (ltc cm) (y - x) x ((y - x - 1) / 2 + 1) d0 /\ z0.2.size = n /\ -1 <= z0.1 /\ z0.1 < ((y - x : Nat) : Int)) (fun z0 => (z0.1 + 1).toNat) (⟨(((y - x) - 1) / 2 : Nat),d0⟩ : Int × Array Rg) ⟨rfl,hd,by (try dsimp only); omega,by (try dsimp only); omega⟩ ?_
 rintro ⟨i,d⟩ ⟨r1,r2,r3,r4⟩
 try dsimp only at r1 r2 r3 r4 ⊢
 refine Zs<|Zs<|Zr<|Zm Z<|Zv (Y.int Z Z Z)<|Ze<|Zg<|?_
 refine Zq (decide (i >= 0)) (fun h1 g1 => ?_) fun h1 g1 => ?_
 ·obtain ⟨k,rfl⟩ : ∃ k : Nat,i = (k : Int) := ⟨i.toNat,by omega⟩
  refine Tr.cond_t Z h1<|Zt<|Zg<|Zs<|Zb<|Zr<|Zm Z<|Zm Z<|Zm Z<|Zm Z<|Zm Z<|?_
  refine Yk [0] Z Z Z (sift_r (l := k) (m := y - x) (f := x) (d0 := d) hN (by first | assumption | (simp only [swp_size,sift_sz]; assumption)) W W hcmp hswo) (fun v2 V2 H2 hle3 hR => ?_)
  obtain ⟨hV,rfl,rfl⟩ := hR; replace hV := hV.symm; subst hV
  refine Run.heapTo (H' := [sgD Rg.cells 66 b rest (siftDown (ltc cm) (y - x) x k d)]) Z<|Ze<|Zc<|Zg<|Zr<|Zm Z<|Zv (Y.sub Z Z W)<|Za Z<|Ze<|?_
  exact ZR (⟨(k : Int) - 1,siftDown (ltc cm) (y - x) x k d⟩ : Int × Array Rg) ⟨by dsimp only; rw [show ((k : Int) - 1 + 1).toNat = k by omega]; exact r1,by simp only [sift_sz]; exact r2,by (try dsimp only); omega,by (try dsimp only); omega⟩ (by dsimp only; omega)
 refine Tr.cond_f Z h1<|Zx<|Zy<|Zy<|Zi<|Zg<|Zs<|Zr<|Zm Z<|Zv (Y.subN (((y - x) - 1 : Nat) : Int) rfl rfl W W)<|Za Z<|Ze<|Zg<|Zb<|?_
 refine ZL (X := Int × Array Rg) (fun z0 => V) (fun z0 => [sgD Rg.cells 66 b rest z0.2]) (fun z0 => [(0,.slice (some ⟨b,0,none⟩) n c),(1,.int .i64 ((x : Nat) : Int)),(2,.int .i64 ((y : Nat) : Int)),(3,.func (.func gf) #[] caps.toArray),(8,.int .i64 ((x : Nat) : Int)),(9,.int .i64 0),(10,.int .i64 ((y - x : Nat) : Int)),(12,.int .i64 z0.1)]) (fun z0 => heapPop (ltc cm) x (z0.1 + 1).toNat z0.2 = heapSort (ltc cm) d0 x y /\ z0.2.size = n /\ -1 <= z0.1 /\ z0.1 < ((y - x : Nat) : Int)) (fun z0 => (z0.1 + 1).toNat) (⟨((y - x) - 1 : Nat),d⟩ : Int × Array Rg) ⟨by dsimp only; rw [heapSort,<- r1,show i = -1 by omega,show ((((y - x) - 1 : Nat) : Int) + 1).toNat = y - x by omega]; rfl,r2,by (try dsimp only); omega,by (try dsimp only); omega⟩ ?_
 rintro ⟨u,f⟩ ⟨k1,k2,k3,k4⟩
 try dsimp only at k1 k2 k3 k4 ⊢
 refine Zs<|Zs<|Zr<|Zm Z<|Zv (Y.int Z Z Z)<|Ze<|Zg<|?_
 refine Zq (decide (u >= 0)) (fun h4 g4 => ?_) fun h4 g4 => ?_
 ·obtain ⟨k,rfl⟩ : ∃ k : Nat,u = (k : Int) := ⟨u.toNat,by omega⟩
  refine Tr.cond_t Z h4<|Zt<|Zg<|Zs<|Zb<|Zs<|Tr.anyT [(b,.cells (cel Rg.cells f rest).toArray 66 (0,0))] 17 xmo<|Zwm 0 Z Z (ZK 0 Z)<|Zwm 1 Z Z (ZK 0 Z)<|Zwm 2 Z Z (ZK 0 Z)<|Zwm 3 Z Z (ZK 0 Z)<|Zwm 4 Z Z (ZK 0 Z)<|Zw 5 Z (ZK 0 Z) (fun _ => (Y.addN ((x + k : Nat) : Int) rfl rfl W W))<|Zwm 6 Z Z (ZK 0 Z)<|Zwm 7 Z Z (ZK 0 Z)<|Zwm 8 Z Z (ZK 0 Z)<|?_
  refine Zw 9 Z (ZK 0 Z) (fun _ => (Y.addN ((x + k : Nat) : Int) rfl rfl W W))<|Zw 10 Z (ZK 0 Z) (fun _ => (Y.idxN (x + k) rfl rfl xes33 W W))<|ZT 11 0 Z Z (ZK 0 Z) (fun _ => (Y.ldA (enc := Rg.cells) (d := f) (rest := rest) (e := 66) (i := (x + k)) rfl xag66 Kn.vk1 Rg.enc WB rfl))<|Zwm 12 Z Z (ZK 0 Z)<|?_
  refine Zwm 13 Z Z (ZK 0 Z)<|Zw 14 Z (ZK 0 Z) (fun _ => (Y.idxN x rfl rfl xes33 W W))<|ZT 15 0 Z Z (ZK 0 Z) (fun _ => (Y.ldA (enc := Rg.cells) (d := f) (rest := rest) (e := 66) (i := x) rfl xag66 Kn.vk1 Rg.enc WB rfl))<|Zw 16 Z (ZK 0 Z) (fun _ => (Y.idxN x rfl rfl xes33 W W))<|?_
  refine RunT.one (i := 17) WK rfl  ?_
  refine Run.stD (enc := Rg.cells) (d := f) (rest := rest) (e := 66) (i := x) (s := 0) (f[x + k]!) rfl rfl xsz66 rfl Rg.enc WB rfl<|Ze<|Zz 17<|?_
  refine RunT.one (i := 18) WK rfl  ?_
  refine Zv (Y.idxN (x + k) rfl rfl xes33 W W)<|Ze<|Zz 18<|?_
  refine RunT.one (i := 19) WK rfl  ?_
  refine Run.stD (enc := Rg.cells) (d := (f).setIfInBounds x (f[x + k]!)) (rest := rest) (e := 66) (i := (x + k)) (s := 0) (f[x]!) rfl rfl xsz66 rfl Rg.enc WB rfl<|Run.heapTo (H' := [sgD Rg.cells 66 b rest (swp f x (x + k))]) Z<|Ze<|Zz 19<|RunT.done WK<|Zg<|Zr<|Zm Z<|Zm Z<|Zm Z<|Zm Z<|Zm Z<|?_
  refine Yk [0] Z Z Z (sift_r (l := 0) (m := k) (f := x) (d0 := swp f x (x + k)) hN (by first | assumption | (simp only [swp_size,sift_sz]; assumption)) W W hcmp hswo) (fun v5 V2 H2 hle6 hR => ?_)
  obtain ⟨hV,rfl,rfl⟩ := hR; replace hV := hV.symm; subst hV
  refine Run.heapTo (H' := [sgD Rg.cells 66 b rest (siftDown (ltc cm) k x 0 (swp f x (x + k)))]) Z<|Ze<|Zc<|Zg<|Zr<|Zm Z<|Zv (Y.sub Z Z W)<|Za Z<|Ze<|?_
  exact ZR (⟨(k : Int) - 1,siftDown (ltc cm) k x 0 (swp f x (x + k))⟩ : Int × Array Rg) ⟨by dsimp only; rw [show ((k : Int) - 1 + 1).toNat = k by omega]; exact k1,by simp only [sift_sz,swp_size]; exact k2,by (try dsimp only); omega,by (try dsimp only); omega⟩ (by dsimp only; omega)
 refine Tr.cond_f Z h4<|Zx<|Zy<|Zy<|Zi<|Ex.keep [0]<|?_
 exact Ex.end0 rfl ⟨rfl,rfl,by rw [<- k1,show u = -1 by omega]; rfl⟩
theorem rev_r {V : Vw} {n c b : Nat} {rest : List Value} {d0 : Array Rg} {gf : FuncId} {caps : List Value} {cm : Rg -> Rg -> Int} {x y : Nat}  (hN : n <= 1073741824) (hd : d0.size = n) (hx : x < y) (hy : y <= n)  (hcmp : ∀ x y : Rg,Does Tryz.prog gf (.agg (Rg.cells x).toArray :: .agg (Rg.cells y).toArray :: caps) V [] (Pv (.int .i64 (cm x y)) V [])) (hswo : SWO (ltc cm))  : Does Tryz.prog 192 [.slice (some ⟨b,0,none⟩) n c,.int .i64 ((x : Nat) : Int),.int .i64 ((y : Nat) : Int),.func (.func gf) #[] caps.toArray] V [sgD Rg.cells 66 b rest d0] (fun v V' H' => V' = V /\ v = .tuple #[] /\ H' = [sgD Rg.cells 66 b rest (reverseRange d0 x y)]) := by
 refine Does.intro Tryz.func192 rfl rfl (le rfl) (fun B => ?_)
 refine Zs<|Zr<|Zm Z<|Za Z<|Ze<|Zg<|Zs<|Zr<|Zm Z<|Zv (Y.subN ((y - 1 : Nat) : Int) rfl rfl W W)<|Za Z<|Ze<|Zg<|Zb<|?_
 refine ZL (X := Nat × Nat × Array Rg) (fun z0 => V) (fun z0 => [sgD Rg.cells 66 b rest z0.2.2]) (fun z0 => [(0,.slice (some ⟨b,0,none⟩) n c),(1,.int .i64 ((x : Nat) : Int)),(2,.int .i64 ((y : Nat) : Int)),(3,.func (.func gf) #[] caps.toArray),(8,.int .i64 ((z0.1 : Nat) : Int)),(9,.int .i64 ((z0.2.1 : Nat) : Int))]) (fun z0 => reverseLoop z0.1 z0.2.1 z0.2.2 = reverseRange d0 x y /\ z0.2.2.size = n /\ z0.2.1 < n) (fun z0 => z0.2.1 - z0.1) (⟨x,y - 1,d0⟩ : Nat × Nat × Array Rg) ⟨rfl,hd,by (try dsimp only); omega⟩ ?_
 rintro ⟨i,j,d⟩ ⟨r1,r2,r3⟩
 try dsimp only at r1 r2 r3 ⊢
 refine Zs<|Zs<|Zr<|Zm Z<|Zm Z<|Zv (Y.int Z Z Z)<|Ze<|Zg<|?_
 refine Zq (decide (((i : Nat) : Int) < ((j : Nat) : Int))) (fun h1 g1 => ?_) fun h1 g1 => ?_
 ·refine Tr.cond_t Z h1<|Zt<|Zg<|Zb<|Zs<|Tr.anyT [(b,.cells (cel Rg.cells d rest).toArray 66 (0,0))] 13 xmo<|Zwm 0 Z Z (ZK 0 Z)<|Zwm 1 Z Z (ZK 0 Z)<|Zwm 2 Z Z (ZK 0 Z)<|Zwm 3 Z Z (ZK 0 Z)<|Zwm 4 Z Z (ZK 0 Z)<|Zwm 5 Z Z (ZK 0 Z)<|Zw 6 Z (ZK 0 Z) (fun _ => (Y.idxN j rfl rfl xes33 W W))<|ZT 7 0 Z Z (ZK 0 Z) (fun _ => (Y.ldA (enc := Rg.cells) (d := d) (rest := rest) (e := 66) (i := j) rfl xag66 Kn.vk1 Rg.enc WB rfl))<|?_
  refine Zwm 8 Z Z (ZK 0 Z)<|Zwm 9 Z Z (ZK 0 Z)<|Zw 10 Z (ZK 0 Z) (fun _ => (Y.idxN i rfl rfl xes33 W W))<|ZT 11 0 Z Z (ZK 0 Z) (fun _ => (Y.ldA (enc := Rg.cells) (d := d) (rest := rest) (e := 66) (i := i) rfl xag66 Kn.vk1 Rg.enc WB rfl))<|Zw 12 Z (ZK 0 Z) (fun _ => (Y.idxN i rfl rfl xes33 W W))<|?_
  refine RunT.one (i := 13) WK rfl  ?_
  refine Run.stD (enc := Rg.cells) (d := d) (rest := rest) (e := 66) (i := i) (s := 0) (d[j]!) rfl rfl xsz66 rfl Rg.enc WB rfl<|Ze<|Zz 13<|?_
  refine RunT.one (i := 14) WK rfl  ?_
  refine Zv (Y.idxN j Z Z xes33 W W)<|Ze<|Zz 14<|?_
  refine RunT.one (i := 15) WK rfl  ?_
  refine Run.stD (enc := Rg.cells) (d := (d).setIfInBounds i (d[j]!)) (rest := rest) (e := 66) (i := j) (s := 0) (d[i]!) rfl rfl xsz66 rfl Rg.enc WB rfl<|Run.heapTo (H' := [sgD Rg.cells 66 b rest (swp d i j)]) Z<|Ze<|Zz 15<|RunT.done WK<|Zg<|Zs<|Zr<|Zm Z<|Zv (Y.addN ((i + 1 : Nat) : Int) rfl rfl W W)<|Za Z<|Ze<|Zg<|Zr<|Zm Z<|Zv (Y.subN ((j - 1 : Nat) : Int) rfl rfl W W)<|?_
  refine Za Z<|Ze<|Zc<|?_
  exact ZR (⟨i + 1,j - 1,swp d i j⟩ : Nat × Nat × Array Rg) ⟨(reverseLoop_go W).symm.trans r1,by simp only [swp_size]; exact r2,by (try dsimp only); omega⟩ (by dsimp only; omega)
 refine Tr.cond_f Z h1<|Zx<|Zy<|Zy<|Zi<|Ex.keep [0]<|?_
 exact Ex.end0 rfl ⟨rfl,rfl,by rw [<- r1,reverseLoop_stop W]; rfl⟩
theorem part_r {V : Vw} {n c b : Nat} {rest : List Value} {d0 : Array Rg} {gf : FuncId} {caps : List Value} {cm : Rg -> Rg -> Int} {x y p : Nat}  (hN : n <= 1073741824) (hd : d0.size = n) (hx : x <= p) (hp : p < y) (hy : y <= n)  (hcmp : ∀ x y : Rg,Does Tryz.prog gf (.agg (Rg.cells x).toArray :: .agg (Rg.cells y).toArray :: caps) V [] (Pv (.int .i64 (cm x y)) V [])) (hswo : SWO (ltc cm))  : Does Tryz.prog 195 [.slice (some ⟨b,0,none⟩) n c,.int .i64 ((x : Nat) : Int),.int .i64 ((y : Nat) : Int),.int .i64 ((p : Nat) : Int),.func (.func gf) #[] caps.toArray] V [sgD Rg.cells 66 b rest d0] (fun v V' H' => V' = V /\ v = .tuple #[.int .i64 ((partition (ltc cm) d0 x y p).1 : Int),.bool (partition (ltc cm) d0 x y p).2.1] /\ H' = [sgD Rg.cells 66 b rest ((partition (ltc cm) d0 x y p).2.2)]) := by
 refine Does.intro Tryz.func195 rfl rfl (le rfl) (fun B => ?_)
 refine Zs<|Zr<|Za Z<|Za Z<|Ze<|Zg<|Zs<|Tr.anyT [(b,.cells (cel Rg.cells d0 rest).toArray 66 (0,0))] 13 xmo<|Zwm 0 Z Z (ZK 0 Z)<|Zwm 1 Z Z (ZK 0 Z)<|Zwm 2 Z Z (ZK 0 Z)<|Zwm 3 Z Z (ZK 0 Z)<|Zwm 4 Z Z (ZK 0 Z)<|Zwm 5 Z Z (ZK 0 Z)<|Zw 6 Z (ZK 0 Z) (fun _ => (Y.idxN p rfl rfl xes33 W W))<|ZT 7 0 Z Z (ZK 0 Z) (fun _ => (Y.ldA (enc := Rg.cells) (d := d0) (rest := rest) (e := 66) (i := p) rfl xag66 Kn.vk1 Rg.enc WB rfl))<|?_
 refine Zwm 8 Z Z (ZK 0 Z)<|Zwm 9 Z Z (ZK 0 Z)<|Zw 10 Z (ZK 0 Z) (fun _ => (Y.idxN x rfl rfl xes33 W W))<|ZT 11 0 Z Z (ZK 0 Z) (fun _ => (Y.ldA (enc := Rg.cells) (d := d0) (rest := rest) (e := 66) (i := x) rfl xag66 Kn.vk1 Rg.enc WB rfl))<|Zw 12 Z (ZK 0 Z) (fun _ => (Y.idxN x rfl rfl xes33 W W))<|?_
 refine RunT.one (i := 13) WK rfl  ?_
 refine Run.stD (enc := Rg.cells) (d := d0) (rest := rest) (e := 66) (i := x) (s := 0) (d0[p]!) rfl rfl xsz66 rfl Rg.enc WB rfl<|Ze<|Zz 13<|?_
 refine RunT.one (i := 14) WK rfl  ?_
 refine Zv (Y.idxN p Z Z xes33 W W)<|Ze<|Zz 14<|?_
 refine RunT.one (i := 15) WK rfl  ?_
 refine Run.stD (enc := Rg.cells) (d := (d0).setIfInBounds x (d0[p]!)) (rest := rest) (e := 66) (i := p) (s := 0) (d0[x]!) rfl rfl xsz66 rfl Rg.enc WB rfl<|Run.heapTo (H' := [sgD Rg.cells 66 b rest (swp d0 x p)]) Z<|Ze<|Zz 15<|RunT.done WK<|Zg<|Zs<|Zr<|?_
 obtain ⟨d1,hd1⟩ : ∃ z,swp d0 x p = z := ⟨_,rfl⟩
 rw [hd1]
 have sd1 : d1.size = n := by rw [<- hd1]; rw [swp_size]; exact hd
 refine Zm Z<|Zv (Y.addN ((x + 1 : Nat) : Int) rfl rfl W W)<|Zm Z<|Zv (Y.subN ((y - 1 : Nat) : Int) rfl rfl W W)<|Za Z<|Za Z<|Ze<|Zg<|?_
 refine Tr.cutx (X := Nat) (fun i1 => V) (fun i1 => [sgD Rg.cells 66 b rest d1]) (fun i1 => [(0,.slice (some ⟨b,0,none⟩) n c),(1,.int .i64 ((x : Nat) : Int)),(2,.int .i64 ((y : Nat) : Int)),(3,.int .i64 ((p : Nat) : Int)),(4,.func (.func gf) #[] caps.toArray),(10,.int .i64 0),(11,.bool false),(12,.int .i64 ((i1 : Nat) : Int)),(13,.int .i64 ((y - 1 : Nat) : Int))]) (fun i1 => up1 (ltc cm) d1 x (y - 1) (x + 1) = i1 /\ x < i1 /\ i1 <= y) ?_ ?_
 ·refine Zb ?_
  refine ZL (X := Nat) (fun z0 => V) (fun z0 => [sgD Rg.cells 66 b rest d1]) (fun z0 => [(0,.slice (some ⟨b,0,none⟩) n c),(1,.int .i64 ((x : Nat) : Int)),(2,.int .i64 ((y : Nat) : Int)),(3,.int .i64 ((p : Nat) : Int)),(4,.func (.func gf) #[] caps.toArray),(10,.int .i64 0),(11,.bool false),(12,.int .i64 ((z0 : Nat) : Int)),(13,.int .i64 ((y - 1 : Nat) : Int))]) (fun z0 => up1 (ltc cm) d1 x (y - 1) z0 = up1 (ltc cm) d1 x (y - 1) (x + 1) /\ x < z0 /\ z0 <= y) (fun z0 => y - z0) (x + 1 : Nat) ⟨rfl,by omega,by omega⟩ ?_
  rintro i ⟨r1,r2,r3⟩
  try dsimp only at r1 r2 r3 ⊢
  refine Zs<|Zs<|Tr.quiet xmo WK<|ZM Z<|ZM Z<|ZV (Y.int Z Z Z)<|ZM Z<|?_
  refine Zq (decide (((i : Nat) : Int) <= ((y - 1 : Nat) : Int))) (fun h1 g1 => ?_) fun h1 g1 => ?_
  ·refine ZP h1<|ZM Z<|ZP h1<|ZM Z<|ZP h1<|ZM Z<|ZP h1<|ZV (Y.idxN i Z Z xes33 W W)<|ZP h1<|ZV (Y.ldA (enc := Rg.cells) (d := d1) (rest := rest) (e := 66) (i := i) Z xag66 (Kn.at 0 rfl) Rg.enc WB rfl)<|ZP h1<|ZM Z<|ZP h1<|ZM Z<|ZP h1<|ZV (Y.idxN x Z Z xes33 W W)<|?_
   refine ZP h1<|ZV (Y.ldA (enc := Rg.cells) (d := d1) (rest := rest) (e := 66) (i := x) Z xag66 (Kn.at 0 rfl) Rg.enc WB rfl)<|ZP h1<|YC Z Z Z ((hcmp (d1[i]!) (d1[x]!)).frame)<|ZP h1<|ZV (Y.int Z Z Z)<|ZV (Y.pick_t Z h1 Z)<|ZE<|Zg<|?_
   refine Zq (decide ((cm (d1[i]!) (d1[x]!)) < 0)) (fun h2 g2 => ?_) fun h2 g2 => ?_
   ·refine Tr.cond_t Z h2<|Zt<|Zg<|Zb<|Zr<|Zm Z<|Zv (Y.addN ((i + 1 : Nat) : Int) rfl rfl W W)<|Za Z<|Ze<|Zc<|?_
    exact ZR (i + 1 : Nat) ⟨(up1_go W (by assumption)).trans r1,by omega,by omega⟩ W
   refine Tr.cond_f Z h2<|Zx<|Zy<|Zy<|Zi<|?_
   exact ZX i ⟨r1.symm.trans (up1_stop (by first | (left; omega) | (right; assumption))),r2,r3⟩
  refine ZO h1 Z<|ZO h1 Z<|ZO h1 Z<|ZO h1 Z<|ZO h1 Z<|ZO h1 Z<|ZO h1 Z<|ZO h1 Z<|ZO h1 Z<|ZO h1 Z<|ZO h1 Z<|ZV (Y.pick_f Z h1 Z)<|ZE<|Zg<|Tr.cond_f Z Z<|Zx<|?_
  refine Zy<|Zy<|Zi<|?_
  exact ZX i ⟨r1.symm.trans (up1_stop (by first | (left; omega) | (right; assumption))),r2,r3⟩
 rintro i1 ⟨c1,c2,c3⟩
 refine Tr.cutx (X := Nat) (fun j1 => V) (fun j1 => [sgD Rg.cells 66 b rest d1]) (fun j1 => [(0,.slice (some ⟨b,0,none⟩) n c),(1,.int .i64 ((x : Nat) : Int)),(2,.int .i64 ((y : Nat) : Int)),(3,.int .i64 ((p : Nat) : Int)),(4,.func (.func gf) #[] caps.toArray),(10,.int .i64 0),(11,.bool false),(12,.int .i64 ((i1 : Nat) : Int)),(13,.int .i64 ((j1 : Nat) : Int))]) (fun j1 => dn1 (ltc cm) d1 x i1 (y - 1) = j1 /\ i1 <= j1 + 1 /\ j1 < y) ?_ ?_
 ·refine Zb ?_
  refine ZL (X := Nat) (fun z0 => V) (fun z0 => [sgD Rg.cells 66 b rest d1]) (fun z0 => [(0,.slice (some ⟨b,0,none⟩) n c),(1,.int .i64 ((x : Nat) : Int)),(2,.int .i64 ((y : Nat) : Int)),(3,.int .i64 ((p : Nat) : Int)),(4,.func (.func gf) #[] caps.toArray),(10,.int .i64 0),(11,.bool false),(12,.int .i64 ((i1 : Nat) : Int)),(13,.int .i64 ((z0 : Nat) : Int))]) (fun z0 => dn1 (ltc cm) d1 x i1 z0 = dn1 (ltc cm) d1 x i1 (y - 1) /\ i1 <= z0 + 1 /\ z0 < y) (fun z0 => z0) (y - 1 : Nat) ⟨rfl,by omega,by omega⟩ ?_
  rintro j ⟨q1,q2,q3⟩
  try dsimp only at q1 q2 q3 ⊢
  refine Zs<|Zs<|Tr.quiet xmo WK<|ZM Z<|ZM Z<|ZV (Y.int Z Z Z)<|ZM Z<|?_
  refine Zq (decide (((i1 : Nat) : Int) <= ((j : Nat) : Int))) (fun h3 g3 => ?_) fun h3 g3 => ?_
  ·refine ZP h3<|ZM Z<|ZP h3<|ZM Z<|ZP h3<|ZM Z<|ZP h3<|ZV (Y.idxN j Z Z xes33 W W)<|ZP h3<|ZV (Y.ldA (enc := Rg.cells) (d := d1) (rest := rest) (e := 66) (i := j) Z xag66 (Kn.at 0 rfl) Rg.enc WB rfl)<|ZP h3<|ZM Z<|ZP h3<|ZM Z<|ZP h3<|ZV (Y.idxN x Z Z xes33 W W)<|?_
   refine ZP h3<|ZV (Y.ldA (enc := Rg.cells) (d := d1) (rest := rest) (e := 66) (i := x) Z xag66 (Kn.at 0 rfl) Rg.enc WB rfl)<|ZP h3<|YC Z Z Z ((hcmp (d1[j]!) (d1[x]!)).frame)<|ZP h3<|ZV (Y.int Z Z Z)<|ZP h3<|ZV (Y.not Z)<|ZV (Y.pick_t Z h3 Z)<|ZE<|Zg<|?_
   refine Zq (decide ((cm (d1[j]!) (d1[x]!)) < 0)) (fun h4 g4 => ?_) fun h4 g4 => ?_
   ·refine Tr.cond_f Z (congrArg Bool.not h4)<|Zx<|Zy<|Zy<|Zi<|?_
    exact ZX j ⟨q1.symm.trans (dn1_stop W (by first | (left; omega) | (right; assumption))),q2,q3⟩
   refine Tr.cond_t Z (congrArg Bool.not h4)<|Zt<|Zg<|Zb<|Zr<|Zm Z<|Zv (Y.subN ((j - 1 : Nat) : Int) rfl rfl W W)<|Za Z<|Ze<|Zc<|?_
   exact ZR (j - 1 : Nat) ⟨(dn1_go W W (by assumption)).trans q1,by omega,by omega⟩ W
  refine ZO h3 Z<|ZO h3 Z<|ZO h3 Z<|ZO h3 Z<|ZO h3 Z<|ZO h3 Z<|ZO h3 Z<|ZO h3 Z<|ZO h3 Z<|ZO h3 Z<|ZO h3 Z<|ZO h3 Z<|ZV (Y.pick_f Z h3 Z)<|ZE<|Zg<|Tr.cond_f Z Z<|?_
  refine Zx<|Zy<|Zy<|Zi<|?_
  exact ZX j ⟨q1.symm.trans (dn1_stop W (by first | (left; omega) | (right; assumption))),q2,q3⟩
 rintro j1 ⟨e1,e2,e3⟩
 refine Zs<|Zs<|Zr<|Zm Z<|Zm Z<|Zv (Y.int Z Z Z)<|Ze<|Zg<|?_
 refine Zq (decide (((i1 : Nat) : Int) > ((j1 : Nat) : Int))) (fun h5 g5 => ?_) fun h5 g5 => ?_
 ·refine Tr.cond_t Z h5<|Zs<|Tr.anyT [(b,.cells (cel Rg.cells d1 rest).toArray 66 (0,0))] 13 xmo<|Zwm 0 Z Z (ZK 0 Z)<|Zwm 1 Z Z (ZK 0 Z)<|Zwm 2 Z Z (ZK 0 Z)<|Zwm 3 Z Z (ZK 0 Z)<|Zwm 4 Z Z (ZK 0 Z)<|Zwm 5 Z Z (ZK 0 Z)<|Zw 6 Z (ZK 0 Z) (fun _ => (Y.idxN x rfl rfl xes33 W W))<|ZT 7 0 Z Z (ZK 0 Z) (fun _ => (Y.ldA (enc := Rg.cells) (d := d1) (rest := rest) (e := 66) (i := x) rfl xag66 Kn.vk1 Rg.enc WB rfl))<|?_
  refine Zwm 8 Z Z (ZK 0 Z)<|Zwm 9 Z Z (ZK 0 Z)<|Zw 10 Z (ZK 0 Z) (fun _ => (Y.idxN j1 rfl rfl xes33 W W))<|ZT 11 0 Z Z (ZK 0 Z) (fun _ => (Y.ldA (enc := Rg.cells) (d := d1) (rest := rest) (e := 66) (i := j1) rfl xag66 Kn.vk1 Rg.enc WB rfl))<|Zw 12 Z (ZK 0 Z) (fun _ => (Y.idxN j1 rfl rfl xes33 W W))<|?_
  refine RunT.one (i := 13) WK rfl  ?_
  refine Run.stD (enc := Rg.cells) (d := d1) (rest := rest) (e := 66) (i := j1) (s := 0) (d1[x]!) rfl rfl xsz66 rfl Rg.enc WB rfl<|Ze<|Zz 13<|?_
  refine RunT.one (i := 14) WK rfl  ?_
  refine Zv (Y.idxN x Z Z xes33 W W)<|Ze<|Zz 14<|?_
  refine RunT.one (i := 15) WK rfl  ?_
  refine Run.stD (enc := Rg.cells) (d := (d1).setIfInBounds j1 (d1[x]!)) (rest := rest) (e := 66) (i := x) (s := 0) (d1[j1]!) rfl rfl xsz66 rfl Rg.enc WB rfl<|Run.heapTo (H' := [sgD Rg.cells 66 b rest (swp d1 j1 x)]) Z<|Ze<|Zz 15<|RunT.done WK<|Zg<|Zs<|Zr<|Zm Z<|Za Z<|Za Z<|Ze<|Zg<|Zu<|Zn<|Ex.keep [0]<|?_
  exact Ex.ret2 rfl rfl rfl  ⟨rfl,by subst hd1; rw [partition_one c1 e1 W],by subst hd1; rw [partition_one c1 e1 W]; rfl⟩
 refine Tr.cond_f Z h5<|Zt<|Zg<|Zs<|Tr.anyT [(b,.cells (cel Rg.cells d1 rest).toArray 66 (0,0))] 13 xmo<|Zwm 0 Z Z (ZK 0 Z)<|Zwm 1 Z Z (ZK 0 Z)<|Zwm 2 Z Z (ZK 0 Z)<|Zwm 3 Z Z (ZK 0 Z)<|Zwm 4 Z Z (ZK 0 Z)<|Zwm 5 Z Z (ZK 0 Z)<|Zw 6 Z (ZK 0 Z) (fun _ => (Y.idxN j1 rfl rfl xes33 W W))<|ZT 7 0 Z Z (ZK 0 Z) (fun _ => (Y.ldA (enc := Rg.cells) (d := d1) (rest := rest) (e := 66) (i := j1) rfl xag66 Kn.vk1 Rg.enc WB rfl))<|?_
 refine Zwm 8 Z Z (ZK 0 Z)<|Zwm 9 Z Z (ZK 0 Z)<|Zw 10 Z (ZK 0 Z) (fun _ => (Y.idxN i1 rfl rfl xes33 W W))<|ZT 11 0 Z Z (ZK 0 Z) (fun _ => (Y.ldA (enc := Rg.cells) (d := d1) (rest := rest) (e := 66) (i := i1) rfl xag66 Kn.vk1 Rg.enc WB rfl))<|Zw 12 Z (ZK 0 Z) (fun _ => (Y.idxN i1 rfl rfl xes33 W W))<|?_
 refine RunT.one (i := 13) WK rfl  ?_
 refine Run.stD (enc := Rg.cells) (d := d1) (rest := rest) (e := 66) (i := i1) (s := 0) (d1[j1]!) rfl rfl xsz66 rfl Rg.enc WB rfl<|Ze<|Zz 13<|?_
 refine RunT.one (i := 14) WK rfl  ?_
 refine Zv (Y.idxN j1 Z Z xes33 W W)<|Ze<|Zz 14<|?_
 refine RunT.one (i := 15) WK rfl  ?_
 refine Run.stD (enc := Rg.cells) (d := (d1).setIfInBounds i1 (d1[j1]!)) (rest := rest) (e := 66) (i := j1) (s := 0) (d1[i1]!) rfl rfl xsz66 rfl Rg.enc WB rfl<|Run.heapTo (H' := [sgD Rg.cells 66 b rest (swp d1 i1 j1)]) Z<|Ze<|Zz 15<|RunT.done WK<|Zg<|Zs<|Zr<|?_
 have hx1 := cross1 c1 e1 W W W
 refine Zm Z<|Zv (Y.addN ((i1 + 1 : Nat) : Int) rfl rfl W W)<|Za Z<|Ze<|Zg<|Zs<|Zr<|Zm Z<|Zv (Y.subN ((j1 - 1 : Nat) : Int) rfl rfl W W)<|Za Z<|Ze<|Zg<|Zs<|Zb<|?_
 refine ZL (X := Nat × Nat × Array Rg) (fun z0 => V) (fun z0 => [sgD Rg.cells 66 b rest z0.2.2]) (fun z0 => [(0,.slice (some ⟨b,0,none⟩) n c),(1,.int .i64 ((x : Nat) : Int)),(2,.int .i64 ((y : Nat) : Int)),(3,.int .i64 ((p : Nat) : Int)),(4,.func (.func gf) #[] caps.toArray),(10,.int .i64 0),(11,.bool false),(12,.int .i64 ((z0.1 : Nat) : Int)),(13,.int .i64 ((z0.2.1 : Nat) : Int))]) (fun z0 => partLoop (ltc cm) x z0.1 z0.2.1 z0.2.2 = partLoop (ltc cm) x (i1 + 1) (j1 - 1) (swp d1 i1 j1) /\ z0.2.2.size = n /\ x < z0.1 /\ z0.1 <= z0.2.1 + 1 /\ z0.2.1 < y) (fun z0 => z0.2.1 + 1 - z0.1) (⟨i1 + 1,j1 - 1,swp d1 i1 j1⟩ : Nat × Nat × Array Rg) ⟨rfl,by simp only [swp_size]; exact sd1,by (try dsimp only); omega,by (try dsimp only); omega,by (try dsimp only); omega⟩ ?_
 rintro ⟨i,j,d⟩ ⟨k1,k2,k3,k4,k5⟩
 try dsimp only at k1 k2 k3 k4 k5 ⊢
 refine Zb ?_
 refine Tr.cutx (X := Nat) (fun i2 => V) (fun i2 => [sgD Rg.cells 66 b rest d]) (fun i2 => [(0,.slice (some ⟨b,0,none⟩) n c),(1,.int .i64 ((x : Nat) : Int)),(2,.int .i64 ((y : Nat) : Int)),(3,.int .i64 ((p : Nat) : Int)),(4,.func (.func gf) #[] caps.toArray),(10,.int .i64 0),(11,.bool false),(12,.int .i64 ((i2 : Nat) : Int)),(13,.int .i64 ((j : Nat) : Int))]) (fun i2 => up1 (ltc cm) d x j i = i2 /\ i <= i2 /\ i2 <= j + 1) ?_ ?_
 ·refine Zb ?_
  refine ZL (X := Nat) (fun z0 => V) (fun z0 => [sgD Rg.cells 66 b rest d]) (fun z0 => [(0,.slice (some ⟨b,0,none⟩) n c),(1,.int .i64 ((x : Nat) : Int)),(2,.int .i64 ((y : Nat) : Int)),(3,.int .i64 ((p : Nat) : Int)),(4,.func (.func gf) #[] caps.toArray),(10,.int .i64 0),(11,.bool false),(12,.int .i64 ((z0 : Nat) : Int)),(13,.int .i64 ((j : Nat) : Int))]) (fun z0 => up1 (ltc cm) d x j z0 = up1 (ltc cm) d x j i /\ i <= z0 /\ z0 <= j + 1) (fun z0 => j + 1 - z0) (i : Nat) ⟨rfl,Nat.le_refl _,by omega⟩ ?_
  rintro u ⟨m1,m2,m3⟩
  try dsimp only at m1 m2 m3 ⊢
  refine Zs<|Zs<|Tr.quiet xmo WK<|ZM Z<|ZM Z<|ZV (Y.int Z Z Z)<|ZM Z<|?_
  refine Zq (decide (((u : Nat) : Int) <= ((j : Nat) : Int))) (fun h6 g6 => ?_) fun h6 g6 => ?_
  ·refine ZP h6<|ZM Z<|ZP h6<|ZM Z<|ZP h6<|ZM Z<|ZP h6<|ZV (Y.idxN u Z Z xes33 W W)<|ZP h6<|ZV (Y.ldA (enc := Rg.cells) (d := d) (rest := rest) (e := 66) (i := u) Z xag66 (Kn.at 0 rfl) Rg.enc WB rfl)<|ZP h6<|ZM Z<|ZP h6<|ZM Z<|ZP h6<|ZV (Y.idxN x Z Z xes33 W W)<|?_
   refine ZP h6<|ZV (Y.ldA (enc := Rg.cells) (d := d) (rest := rest) (e := 66) (i := x) Z xag66 (Kn.at 0 rfl) Rg.enc WB rfl)<|ZP h6<|YC Z Z Z ((hcmp (d[u]!) (d[x]!)).frame)<|ZP h6<|ZV (Y.int Z Z Z)<|ZV (Y.pick_t Z h6 Z)<|ZE<|Zg<|?_
   refine Zq (decide ((cm (d[u]!) (d[x]!)) < 0)) (fun h7 g7 => ?_) fun h7 g7 => ?_
   ·refine Tr.cond_t Z h7<|Zt<|Zg<|Zb<|Zr<|Zm Z<|Zv (Y.addN ((u + 1 : Nat) : Int) rfl rfl W W)<|Za Z<|Ze<|Zc<|?_
    exact ZR (u + 1 : Nat) ⟨(up1_go W (by assumption)).trans m1,by omega,by omega⟩ W
   refine Tr.cond_f Z h7<|Zx<|Zy<|Zy<|Zi<|?_
   exact ZX u ⟨m1.symm.trans (up1_stop (by first | (left; omega) | (right; assumption))),m2,m3⟩
  refine ZO h6 Z<|ZO h6 Z<|ZO h6 Z<|ZO h6 Z<|ZO h6 Z<|ZO h6 Z<|ZO h6 Z<|ZO h6 Z<|ZO h6 Z<|ZO h6 Z<|ZO h6 Z<|ZV (Y.pick_f Z h6 Z)<|ZE<|Zg<|Tr.cond_f Z Z<|Zx<|?_
  refine Zy<|Zy<|Zi<|?_
  exact ZX u ⟨m1.symm.trans (up1_stop (by first | (left; omega) | (right; assumption))),m2,m3⟩
 rintro i2 ⟨f1,f2,f3⟩
 refine Tr.cutx (X := Nat) (fun j2 => V) (fun j2 => [sgD Rg.cells 66 b rest d]) (fun j2 => [(0,.slice (some ⟨b,0,none⟩) n c),(1,.int .i64 ((x : Nat) : Int)),(2,.int .i64 ((y : Nat) : Int)),(3,.int .i64 ((p : Nat) : Int)),(4,.func (.func gf) #[] caps.toArray),(10,.int .i64 0),(11,.bool false),(12,.int .i64 ((i2 : Nat) : Int)),(13,.int .i64 ((j2 : Nat) : Int))]) (fun j2 => dn1 (ltc cm) d x i2 j = j2 /\ i2 <= j2 + 1 /\ j2 <= j) ?_ ?_
 ·refine Zb ?_
  refine ZL (X := Nat) (fun z0 => V) (fun z0 => [sgD Rg.cells 66 b rest d]) (fun z0 => [(0,.slice (some ⟨b,0,none⟩) n c),(1,.int .i64 ((x : Nat) : Int)),(2,.int .i64 ((y : Nat) : Int)),(3,.int .i64 ((p : Nat) : Int)),(4,.func (.func gf) #[] caps.toArray),(10,.int .i64 0),(11,.bool false),(12,.int .i64 ((i2 : Nat) : Int)),(13,.int .i64 ((z0 : Nat) : Int))]) (fun z0 => dn1 (ltc cm) d x i2 z0 = dn1 (ltc cm) d x i2 j /\ i2 <= z0 + 1 /\ z0 <= j) (fun z0 => z0) (j : Nat) ⟨rfl,by omega,Nat.le_refl _⟩ ?_
  rintro t ⟨n1,n2,n3⟩
  try dsimp only at n1 n2 n3 ⊢
  refine Zs<|Zs<|Tr.quiet xmo WK<|ZM Z<|ZM Z<|ZV (Y.int Z Z Z)<|ZM Z<|?_
  refine Zq (decide (((i2 : Nat) : Int) <= ((t : Nat) : Int))) (fun h8 g8 => ?_) fun h8 g8 => ?_
  ·refine ZP h8<|ZM Z<|ZP h8<|ZM Z<|ZP h8<|ZM Z<|ZP h8<|ZV (Y.idxN t Z Z xes33 W W)<|ZP h8<|ZV (Y.ldA (enc := Rg.cells) (d := d) (rest := rest) (e := 66) (i := t) Z xag66 (Kn.at 0 rfl) Rg.enc WB rfl)<|ZP h8<|ZM Z<|ZP h8<|ZM Z<|ZP h8<|ZV (Y.idxN x Z Z xes33 W W)<|?_
   refine ZP h8<|ZV (Y.ldA (enc := Rg.cells) (d := d) (rest := rest) (e := 66) (i := x) Z xag66 (Kn.at 0 rfl) Rg.enc WB rfl)<|ZP h8<|YC Z Z Z ((hcmp (d[t]!) (d[x]!)).frame)<|ZP h8<|ZV (Y.int Z Z Z)<|ZP h8<|ZV (Y.not Z)<|ZV (Y.pick_t Z h8 Z)<|ZE<|Zg<|?_
   refine Zq (decide ((cm (d[t]!) (d[x]!)) < 0)) (fun h9 g9 => ?_) fun h9 g9 => ?_
   ·refine Tr.cond_f Z (congrArg Bool.not h9)<|Zx<|Zy<|Zy<|Zi<|?_
    exact ZX t ⟨n1.symm.trans (dn1_stop W (by first | (left; omega) | (right; assumption))),n2,n3⟩
   refine Tr.cond_t Z (congrArg Bool.not h9)<|Zt<|Zg<|Zb<|Zr<|Zm Z<|Zv (Y.subN ((t - 1 : Nat) : Int) rfl rfl W W)<|Za Z<|Ze<|Zc<|?_
   exact ZR (t - 1 : Nat) ⟨(dn1_go W W (by assumption)).trans n1,by omega,by omega⟩ W
  refine ZO h8 Z<|ZO h8 Z<|ZO h8 Z<|ZO h8 Z<|ZO h8 Z<|ZO h8 Z<|ZO h8 Z<|ZO h8 Z<|ZO h8 Z<|ZO h8 Z<|ZO h8 Z<|ZO h8 Z<|ZV (Y.pick_f Z h8 Z)<|ZE<|Zg<|Tr.cond_f Z Z<|?_
  refine Zx<|Zy<|Zy<|Zi<|?_
  exact ZX t ⟨n1.symm.trans (dn1_stop W (by first | (left; omega) | (right; assumption))),n2,n3⟩
 rintro j2 ⟨g1,g2,g3⟩
 refine Zs<|Zs<|Zr<|Zm Z<|Zm Z<|Zv (Y.int Z Z Z)<|Ze<|Zg<|?_
 refine Zq (decide (((i2 : Nat) : Int) > ((j2 : Nat) : Int))) (fun h10 g10 => ?_) fun h10 g10 => ?_
 ·refine Tr.cond_t Z h10<|Zx<|Zy<|Ex.exit_out Z<|Zy<|Zi<|Zg<|Zs<|Tr.anyT [(b,.cells (cel Rg.cells d rest).toArray 66 (0,0))] 13 xmo<|Zwm 0 Z Z (ZK 0 Z)<|Zwm 1 Z Z (ZK 0 Z)<|Zwm 2 Z Z (ZK 0 Z)<|Zwm 3 Z Z (ZK 0 Z)<|Zwm 4 Z Z (ZK 0 Z)<|Zwm 5 Z Z (ZK 0 Z)<|Zw 6 Z (ZK 0 Z) (fun _ => (Y.idxN x rfl rfl xes33 W W))<|?_
  refine ZT 7 0 Z Z (ZK 0 Z) (fun _ => (Y.ldA (enc := Rg.cells) (d := d) (rest := rest) (e := 66) (i := x) rfl xag66 Kn.vk1 Rg.enc WB rfl))<|Zwm 8 Z Z (ZK 0 Z)<|Zwm 9 Z Z (ZK 0 Z)<|Zw 10 Z (ZK 0 Z) (fun _ => (Y.idxN j2 rfl rfl xes33 W W))<|ZT 11 0 Z Z (ZK 0 Z) (fun _ => (Y.ldA (enc := Rg.cells) (d := d) (rest := rest) (e := 66) (i := j2) rfl xag66 Kn.vk1 Rg.enc WB rfl))<|?_
  refine Zw 12 Z (ZK 0 Z) (fun _ => (Y.idxN j2 rfl rfl xes33 W W)) ?_
  refine RunT.one (i := 13) WK rfl  ?_
  refine Run.stD (enc := Rg.cells) (d := d) (rest := rest) (e := 66) (i := j2) (s := 0) (d[x]!) rfl rfl xsz66 rfl Rg.enc WB rfl<|Ze<|Zz 13<|?_
  refine RunT.one (i := 14) WK rfl  ?_
  refine Zv (Y.idxN x Z Z xes33 W W)<|Ze<|Zz 14<|?_
  refine RunT.one (i := 15) WK rfl  ?_
  refine Run.stD (enc := Rg.cells) (d := (d).setIfInBounds j2 (d[x]!)) (rest := rest) (e := 66) (i := x) (s := 0) (d[j2]!) rfl rfl xsz66 rfl Rg.enc WB rfl<|Run.heapTo (H' := [sgD Rg.cells 66 b rest (swp d j2 x)]) Z<|Ze<|Zz 15<|RunT.done WK<|Zg<|Zs<|Zr<|Zm Z<|Za Z<|Za Z<|Ze<|Zg<|Zu<|Ex.keep [0]<|?_
  exact Ex.ret2 rfl rfl rfl  ⟨rfl,by subst hd1; rw [partition_two c1 e1 W (k1.symm.trans (partLoop_end f1 g1 W))],by subst hd1; rw [partition_two c1 e1 W (k1.symm.trans (partLoop_end f1 g1 W))]; rfl⟩
 refine Tr.cond_f Z h10<|Zt<|Zg<|Zs<|Tr.anyT [(b,.cells (cel Rg.cells d rest).toArray 66 (0,0))] 13 xmo<|Zwm 0 Z Z (ZK 0 Z)<|Zwm 1 Z Z (ZK 0 Z)<|Zwm 2 Z Z (ZK 0 Z)<|Zwm 3 Z Z (ZK 0 Z)<|Zwm 4 Z Z (ZK 0 Z)<|Zwm 5 Z Z (ZK 0 Z)<|Zw 6 Z (ZK 0 Z) (fun _ => (Y.idxN j2 rfl rfl xes33 W W))<|ZT 7 0 Z Z (ZK 0 Z) (fun _ => (Y.ldA (enc := Rg.cells) (d := d) (rest := rest) (e := 66) (i := j2) rfl xag66 Kn.vk1 Rg.enc WB rfl))<|?_
 refine Zwm 8 Z Z (ZK 0 Z)<|Zwm 9 Z Z (ZK 0 Z)<|Zw 10 Z (ZK 0 Z) (fun _ => (Y.idxN i2 rfl rfl xes33 W W))<|ZT 11 0 Z Z (ZK 0 Z) (fun _ => (Y.ldA (enc := Rg.cells) (d := d) (rest := rest) (e := 66) (i := i2) rfl xag66 Kn.vk1 Rg.enc WB rfl))<|Zw 12 Z (ZK 0 Z) (fun _ => (Y.idxN i2 rfl rfl xes33 W W))<|?_
 refine RunT.one (i := 13) WK rfl  ?_
 refine Run.stD (enc := Rg.cells) (d := d) (rest := rest) (e := 66) (i := i2) (s := 0) (d[j2]!) rfl rfl xsz66 rfl Rg.enc WB rfl<|Ze<|Zz 13<|?_
 refine RunT.one (i := 14) WK rfl  ?_
 refine Zv (Y.idxN j2 Z Z xes33 W W)<|Ze<|Zz 14<|?_
 refine RunT.one (i := 15) WK rfl  ?_
 refine Run.stD (enc := Rg.cells) (d := (d).setIfInBounds i2 (d[j2]!)) (rest := rest) (e := 66) (i := j2) (s := 0) (d[i2]!) rfl rfl xsz66 rfl Rg.enc WB rfl<|Run.heapTo (H' := [sgD Rg.cells 66 b rest (swp d i2 j2)]) Z<|Ze<|Zz 15<|RunT.done WK<|Zg<|Zs<|Zr<|Zm Z<|Zv (Y.addN ((i2 + 1 : Nat) : Int) rfl rfl W W)<|Za Z<|Ze<|Zg<|Zr<|?_
 refine Zm Z<|Zv (Y.subN ((j2 - 1 : Nat) : Int) rfl rfl W W)<|Za Z<|Ze<|Zc<|?_
 exact ZR (⟨i2 + 1,j2 - 1,swp d i2 j2⟩ : Nat × Nat × Array Rg) ⟨(partLoop_go f1 g1 W).symm.trans k1,by simp only [swp_size]; exact k2,by have := cross1 f1 g1 W W W; dsimp only; omega,by have := cross1 f1 g1 W W W; dsimp only; omega,by (try dsimp only); omega⟩ (by dsimp only; omega)
theorem pareq_r {V : Vw} {n c b : Nat} {rest : List Value} {d0 : Array Rg} {gf : FuncId} {caps : List Value} {cm : Rg -> Rg -> Int} {x y p : Nat}  (hN : n <= 1073741824) (hd : d0.size = n) (hx : x <= p) (hp : p < y) (hy : y <= n)  (hcmp : ∀ x y : Rg,Does Tryz.prog gf (.agg (Rg.cells x).toArray :: .agg (Rg.cells y).toArray :: caps) V [] (Pv (.int .i64 (cm x y)) V [])) (hswo : SWO (ltc cm))  : Does Tryz.prog 194 [.slice (some ⟨b,0,none⟩) n c,.int .i64 ((x : Nat) : Int),.int .i64 ((y : Nat) : Int),.int .i64 ((p : Nat) : Int),.func (.func gf) #[] caps.toArray] V [sgD Rg.cells 66 b rest d0] (fun v V' H' => V' = V /\ v = .int .i64 ((partitionEqual (ltc cm) d0 x y p).1 : Int) /\ H' = [sgD Rg.cells 66 b rest ((partitionEqual (ltc cm) d0 x y p).2)]) := by
 refine Does.intro Tryz.func194 rfl rfl (le rfl) (fun B => ?_)
 refine Zs<|Zr<|Za Z<|Ze<|Zg<|Zs<|Tr.anyT [(b,.cells (cel Rg.cells d0 rest).toArray 66 (0,0))] 13 xmo<|Zwm 0 Z Z (ZK 0 Z)<|Zwm 1 Z Z (ZK 0 Z)<|Zwm 2 Z Z (ZK 0 Z)<|Zwm 3 Z Z (ZK 0 Z)<|Zwm 4 Z Z (ZK 0 Z)<|Zwm 5 Z Z (ZK 0 Z)<|Zw 6 Z (ZK 0 Z) (fun _ => (Y.idxN p rfl rfl xes33 W W))<|ZT 7 0 Z Z (ZK 0 Z) (fun _ => (Y.ldA (enc := Rg.cells) (d := d0) (rest := rest) (e := 66) (i := p) rfl xag66 Kn.vk1 Rg.enc WB rfl))<|?_
 refine Zwm 8 Z Z (ZK 0 Z)<|Zwm 9 Z Z (ZK 0 Z)<|Zw 10 Z (ZK 0 Z) (fun _ => (Y.idxN x rfl rfl xes33 W W))<|ZT 11 0 Z Z (ZK 0 Z) (fun _ => (Y.ldA (enc := Rg.cells) (d := d0) (rest := rest) (e := 66) (i := x) rfl xag66 Kn.vk1 Rg.enc WB rfl))<|Zw 12 Z (ZK 0 Z) (fun _ => (Y.idxN x rfl rfl xes33 W W))<|?_
 refine RunT.one (i := 13) WK rfl  ?_
 refine Run.stD (enc := Rg.cells) (d := d0) (rest := rest) (e := 66) (i := x) (s := 0) (d0[p]!) rfl rfl xsz66 rfl Rg.enc WB rfl<|Ze<|Zz 13<|?_
 refine RunT.one (i := 14) WK rfl  ?_
 refine Zv (Y.idxN p Z Z xes33 W W)<|Ze<|Zz 14<|?_
 refine RunT.one (i := 15) WK rfl  ?_
 refine Run.stD (enc := Rg.cells) (d := (d0).setIfInBounds x (d0[p]!)) (rest := rest) (e := 66) (i := p) (s := 0) (d0[x]!) rfl rfl xsz66 rfl Rg.enc WB rfl<|Run.heapTo (H' := [sgD Rg.cells 66 b rest (swp d0 x p)]) Z<|Ze<|Zz 15<|RunT.done WK<|Zg<|Zs<|Zr<|Zm Z<|Zv (Y.addN ((x + 1 : Nat) : Int) rfl rfl W W)<|Zm Z<|Zv (Y.subN ((y - 1 : Nat) : Int) rfl rfl W W)<|?_
 refine Za Z<|Za Z<|Ze<|Zg<|Zs<|Zb<|?_
 refine ZL (X := Nat × Nat × Array Rg) (fun z0 => V) (fun z0 => [sgD Rg.cells 66 b rest z0.2.2]) (fun z0 => [(0,.slice (some ⟨b,0,none⟩) n c),(1,.int .i64 ((x : Nat) : Int)),(2,.int .i64 ((y : Nat) : Int)),(3,.int .i64 ((p : Nat) : Int)),(4,.func (.func gf) #[] caps.toArray),(10,.int .i64 0),(11,.int .i64 ((z0.1 : Nat) : Int)),(12,.int .i64 ((z0.2.1 : Nat) : Int))]) (fun z0 => partEqLoop (ltc cm) x z0.1 z0.2.1 z0.2.2 = partitionEqual (ltc cm) d0 x y p /\ z0.2.2.size = n /\ x < z0.1 /\ z0.1 <= z0.2.1 + 1 /\ z0.2.1 < y) (fun z0 => z0.2.1 + 1 - z0.1) (⟨x + 1,y - 1,swp d0 x p⟩ : Nat × Nat × Array Rg) ⟨rfl,by simp only [swp_size]; exact hd,by (try dsimp only); omega,by (try dsimp only); omega,by (try dsimp only); omega⟩ ?_
 rintro ⟨i,j,d⟩ ⟨k1,k2,k3,k4,k5⟩
 try dsimp only at k1 k2 k3 k4 k5 ⊢
 refine Zb ?_
 refine Tr.cutx (X := Nat) (fun i2 => V) (fun i2 => [sgD Rg.cells 66 b rest d]) (fun i2 => [(0,.slice (some ⟨b,0,none⟩) n c),(1,.int .i64 ((x : Nat) : Int)),(2,.int .i64 ((y : Nat) : Int)),(3,.int .i64 ((p : Nat) : Int)),(4,.func (.func gf) #[] caps.toArray),(10,.int .i64 0),(11,.int .i64 ((i2 : Nat) : Int)),(12,.int .i64 ((j : Nat) : Int))]) (fun i2 => up2 (ltc cm) d x j i = i2 /\ i <= i2 /\ i2 <= j + 1) ?_ ?_
 ·refine Zb ?_
  refine ZL (X := Nat) (fun z0 => V) (fun z0 => [sgD Rg.cells 66 b rest d]) (fun z0 => [(0,.slice (some ⟨b,0,none⟩) n c),(1,.int .i64 ((x : Nat) : Int)),(2,.int .i64 ((y : Nat) : Int)),(3,.int .i64 ((p : Nat) : Int)),(4,.func (.func gf) #[] caps.toArray),(10,.int .i64 0),(11,.int .i64 ((z0 : Nat) : Int)),(12,.int .i64 ((j : Nat) : Int))]) (fun z0 => up2 (ltc cm) d x j z0 = up2 (ltc cm) d x j i /\ i <= z0 /\ z0 <= j + 1) (fun z0 => j + 1 - z0) (i : Nat) ⟨rfl,Nat.le_refl _,by omega⟩ ?_
  rintro u ⟨m1,m2,m3⟩
  try dsimp only at m1 m2 m3 ⊢
  refine Zs<|Zs<|Tr.quiet xmo WK<|ZM Z<|ZM Z<|ZV (Y.int Z Z Z)<|ZM Z<|?_
  refine Zq (decide (((u : Nat) : Int) <= ((j : Nat) : Int))) (fun h1 g1 => ?_) fun h1 g1 => ?_
  ·refine ZP h1<|ZM Z<|ZP h1<|ZM Z<|ZP h1<|ZM Z<|ZP h1<|ZV (Y.idxN x Z Z xes33 W W)<|ZP h1<|ZV (Y.ldA (enc := Rg.cells) (d := d) (rest := rest) (e := 66) (i := x) Z xag66 (Kn.at 0 rfl) Rg.enc WB rfl)<|ZP h1<|ZM Z<|ZP h1<|ZM Z<|ZP h1<|ZV (Y.idxN u Z Z xes33 W W)<|?_
   refine ZP h1<|ZV (Y.ldA (enc := Rg.cells) (d := d) (rest := rest) (e := 66) (i := u) Z xag66 (Kn.at 0 rfl) Rg.enc WB rfl)<|ZP h1<|YC Z Z Z ((hcmp (d[x]!) (d[u]!)).frame)<|ZP h1<|ZV (Y.int Z Z Z)<|ZP h1<|ZV (Y.not Z)<|ZV (Y.pick_t Z h1 Z)<|ZE<|Zg<|?_
   refine Zq (decide ((cm (d[x]!) (d[u]!)) < 0)) (fun h2 g2 => ?_) fun h2 g2 => ?_
   ·refine Tr.cond_f Z (congrArg Bool.not h2)<|Zx<|Zy<|Zy<|Zi<|?_
    exact ZX u ⟨m1.symm.trans (up2_stop (by first | (left; omega) | (right; assumption))),m2,m3⟩
   refine Tr.cond_t Z (congrArg Bool.not h2)<|Zt<|Zg<|Zb<|Zr<|Zm Z<|Zv (Y.addN ((u + 1 : Nat) : Int) rfl rfl W W)<|Za Z<|Ze<|Zc<|?_
   exact ZR (u + 1 : Nat) ⟨(up2_go W (by assumption)).trans m1,by omega,by omega⟩ W
  refine ZO h1 Z<|ZO h1 Z<|ZO h1 Z<|ZO h1 Z<|ZO h1 Z<|ZO h1 Z<|ZO h1 Z<|ZO h1 Z<|ZO h1 Z<|ZO h1 Z<|ZO h1 Z<|ZO h1 Z<|ZV (Y.pick_f Z h1 Z)<|ZE<|Zg<|Tr.cond_f Z Z<|?_
  refine Zx<|Zy<|Zy<|Zi<|?_
  exact ZX u ⟨m1.symm.trans (up2_stop (by first | (left; omega) | (right; assumption))),m2,m3⟩
 rintro i2 ⟨f1,f2,f3⟩
 refine Tr.cutx (X := Nat) (fun j2 => V) (fun j2 => [sgD Rg.cells 66 b rest d]) (fun j2 => [(0,.slice (some ⟨b,0,none⟩) n c),(1,.int .i64 ((x : Nat) : Int)),(2,.int .i64 ((y : Nat) : Int)),(3,.int .i64 ((p : Nat) : Int)),(4,.func (.func gf) #[] caps.toArray),(10,.int .i64 0),(11,.int .i64 ((i2 : Nat) : Int)),(12,.int .i64 ((j2 : Nat) : Int))]) (fun j2 => dn2 (ltc cm) d x i2 j = j2 /\ i2 <= j2 + 1 /\ j2 <= j) ?_ ?_
 ·refine Zb ?_
  refine ZL (X := Nat) (fun z0 => V) (fun z0 => [sgD Rg.cells 66 b rest d]) (fun z0 => [(0,.slice (some ⟨b,0,none⟩) n c),(1,.int .i64 ((x : Nat) : Int)),(2,.int .i64 ((y : Nat) : Int)),(3,.int .i64 ((p : Nat) : Int)),(4,.func (.func gf) #[] caps.toArray),(10,.int .i64 0),(11,.int .i64 ((i2 : Nat) : Int)),(12,.int .i64 ((z0 : Nat) : Int))]) (fun z0 => dn2 (ltc cm) d x i2 z0 = dn2 (ltc cm) d x i2 j /\ i2 <= z0 + 1 /\ z0 <= j) (fun z0 => z0) (j : Nat) ⟨rfl,by omega,Nat.le_refl _⟩ ?_
  rintro t ⟨n1,n2,n3⟩
  try dsimp only at n1 n2 n3 ⊢
  refine Zs<|Zs<|Tr.quiet xmo WK<|ZM Z<|ZM Z<|ZV (Y.int Z Z Z)<|ZM Z<|?_
  refine Zq (decide (((i2 : Nat) : Int) <= ((t : Nat) : Int))) (fun h3 g3 => ?_) fun h3 g3 => ?_
  ·refine ZP h3<|ZM Z<|ZP h3<|ZM Z<|ZP h3<|ZM Z<|ZP h3<|ZV (Y.idxN x Z Z xes33 W W)<|ZP h3<|ZV (Y.ldA (enc := Rg.cells) (d := d) (rest := rest) (e := 66) (i := x) Z xag66 (Kn.at 0 rfl) Rg.enc WB rfl)<|ZP h3<|ZM Z<|ZP h3<|ZM Z<|ZP h3<|ZV (Y.idxN t Z Z xes33 W W)<|?_
   refine ZP h3<|ZV (Y.ldA (enc := Rg.cells) (d := d) (rest := rest) (e := 66) (i := t) Z xag66 (Kn.at 0 rfl) Rg.enc WB rfl)<|ZP h3<|YC Z Z Z ((hcmp (d[x]!) (d[t]!)).frame)<|ZP h3<|ZV (Y.int Z Z Z)<|ZV (Y.pick_t Z h3 Z)<|ZE<|Zg<|?_
   refine Zq (decide ((cm (d[x]!) (d[t]!)) < 0)) (fun h4 g4 => ?_) fun h4 g4 => ?_
   ·refine Tr.cond_t Z h4<|Zt<|Zg<|Zb<|Zr<|Zm Z<|Zv (Y.subN ((t - 1 : Nat) : Int) rfl rfl W W)<|Za Z<|Ze<|Zc<|?_
    exact ZR (t - 1 : Nat) ⟨(dn2_go W W (by assumption)).trans n1,by omega,by omega⟩ W
   refine Tr.cond_f Z h4<|Zx<|Zy<|Zy<|Zi<|?_
   exact ZX t ⟨n1.symm.trans (dn2_stop W (by first | (left; omega) | (right; assumption))),n2,n3⟩
  refine ZO h3 Z<|ZO h3 Z<|ZO h3 Z<|ZO h3 Z<|ZO h3 Z<|ZO h3 Z<|ZO h3 Z<|ZO h3 Z<|ZO h3 Z<|ZO h3 Z<|ZO h3 Z<|ZV (Y.pick_f Z h3 Z)<|ZE<|Zg<|Tr.cond_f Z Z<|Zx<|?_
  refine Zy<|Zy<|Zi<|?_
  exact ZX t ⟨n1.symm.trans (dn2_stop W (by first | (left; omega) | (right; assumption))),n2,n3⟩
 rintro j2 ⟨g1,g2,g3⟩
 refine Zs<|Zs<|Zr<|Zm Z<|Zm Z<|Zv (Y.int Z Z Z)<|Ze<|Zg<|?_
 refine Zq (decide (((i2 : Nat) : Int) > ((j2 : Nat) : Int))) (fun h5 g5 => ?_) fun h5 g5 => ?_
 ·refine Tr.cond_t Z h5<|Zx<|Zy<|Ex.exit_out Z<|Zy<|Zi<|Zg<|Zs<|Zr<|Zm Z<|Za Z<|Ze<|Zg<|Zu<|Ex.keep [0]<|?_
  exact Ex.ret1 rfl rfl  ⟨rfl,by rw [<- k1,partEqLoop_end f1 g1 W],by rw [<- k1,partEqLoop_end f1 g1 W]; rfl⟩
 refine Tr.cond_f Z h5<|Zt<|Zg<|Zs<|Tr.anyT [(b,.cells (cel Rg.cells d rest).toArray 66 (0,0))] 13 xmo<|Zwm 0 Z Z (ZK 0 Z)<|Zwm 1 Z Z (ZK 0 Z)<|Zwm 2 Z Z (ZK 0 Z)<|Zwm 3 Z Z (ZK 0 Z)<|Zwm 4 Z Z (ZK 0 Z)<|Zwm 5 Z Z (ZK 0 Z)<|Zw 6 Z (ZK 0 Z) (fun _ => (Y.idxN j2 rfl rfl xes33 W W))<|ZT 7 0 Z Z (ZK 0 Z) (fun _ => (Y.ldA (enc := Rg.cells) (d := d) (rest := rest) (e := 66) (i := j2) rfl xag66 Kn.vk1 Rg.enc WB rfl))<|?_
 refine Zwm 8 Z Z (ZK 0 Z)<|Zwm 9 Z Z (ZK 0 Z)<|Zw 10 Z (ZK 0 Z) (fun _ => (Y.idxN i2 rfl rfl xes33 W W))<|ZT 11 0 Z Z (ZK 0 Z) (fun _ => (Y.ldA (enc := Rg.cells) (d := d) (rest := rest) (e := 66) (i := i2) rfl xag66 Kn.vk1 Rg.enc WB rfl))<|Zw 12 Z (ZK 0 Z) (fun _ => (Y.idxN i2 rfl rfl xes33 W W))<|?_
 refine RunT.one (i := 13) WK rfl  ?_
 refine Run.stD (enc := Rg.cells) (d := d) (rest := rest) (e := 66) (i := i2) (s := 0) (d[j2]!) rfl rfl xsz66 rfl Rg.enc WB rfl<|Ze<|Zz 13<|?_
 refine RunT.one (i := 14) WK rfl  ?_
 refine Zv (Y.idxN j2 Z Z xes33 W W)<|Ze<|Zz 14<|?_
 refine RunT.one (i := 15) WK rfl  ?_
 refine Run.stD (enc := Rg.cells) (d := (d).setIfInBounds i2 (d[j2]!)) (rest := rest) (e := 66) (i := j2) (s := 0) (d[i2]!) rfl rfl xsz66 rfl Rg.enc WB rfl<|Run.heapTo (H' := [sgD Rg.cells 66 b rest (swp d i2 j2)]) Z<|Ze<|Zz 15<|RunT.done WK<|Zg<|Zs<|Zr<|Zm Z<|Zv (Y.addN ((i2 + 1 : Nat) : Int) rfl rfl W W)<|Za Z<|Ze<|Zg<|Zr<|?_
 refine Zm Z<|Zv (Y.subN ((j2 - 1 : Nat) : Int) rfl rfl W W)<|Za Z<|Ze<|Zc<|?_
 exact ZR (⟨i2 + 1,j2 - 1,swp d i2 j2⟩ : Nat × Nat × Array Rg) ⟨(partEqLoop_go f1 g1 W).symm.trans k1,by simp only [swp_size]; exact k2,by have := cross2 f1 g1 W W W; dsimp only; omega,by have := cross2 f1 g1 W W W; dsimp only; omega,by (try dsimp only); omega⟩ (by dsimp only; omega)
end Go.Proofs.YtfgblingojgafaaGreat
namespace Go.Proofs.YtfgblingojgafaaGreat
open Go Go.K
attribute [local irreducible] Code.wp wpList Calls wpQuiet
open Go.Sort
def tabL : ByteArray := ⟨#[0,1,2,2,3,3,3,3,4,4,4,4,4,4,4,4,5,5,5,5,5,5,5,5,5,5,5,5,5,5,5,5,6,6,6,6,6,6,6,6,6,6,6,6,6,6,6,6,6,6,6,6,6,6,6,6,6,6,6,6,6,6,6,6,7,7,7,7,7,7,7,7,7,7,7,7,7,7,7,7,7,7,7,7,7,7,7,7,7,7,7,7,7,7,7,7,7,7,7,7,7,7,7,7,7,7,7,7,7,7,7,7,7,7,7,7,7,7,7,7,7,7,7,7,7,7,7,7,8,8,8,8,8,8,8,8,8,8,8,8,8,8,8,8,8,8,8,8,8,8,8,8,8,8,8,8,8,8,8,8,8,8,8,8,8,8,8,8,8,8,8,8,8,8,8,8,8,8,8,8,8,8,8,8,8,8,8,8,8,8,8,8,8,8,8,8,8,8,8,8,8,8,8,8,8,8,8,8,8,8,8,8,8,8,8,8,8,8,8,8,8,8,8,8,8,8,8,8,8,8,8,8,8,8,8,8,8,8,8,8,8,8,8,8,8,8,8,8,8,8,8,8,8,8,8,8]⟩
def tabN (i : Nat) : Nat := (tabL.data.toList.getD i 0).toNat
theorem tabN_all : ((List.range 256).all fun i => decide (tabN i <= 8) && (decide (i = 0) || decide (2 ^ tabN i <= 2 * i))) = true := by decide +kernel
theorem tabN_le {i : Nat} (h : i <= 255) : tabN i <= 8 /\ (0 < i -> 2 ^ tabN i <= 2 * i) := by
  have := List.all_eq_true.1 tabN_all i (List.mem_range.2 W)
  simp only [Bool.and_eq_true,Bool.or_eq_true,decide_eq_true_eq] at this
  exact ⟨this.1,fun h => this.2.resolve_left W⟩
theorem tab_at {C : Cx} {V : Vw} {H : Hp} {L : Sl} {ty : TypeId} {y : Operand} {t : TypeId} {i : Nat} (hy : ev L y = some (.int .u8 (i : Int))) (hs : strT C.P t = true) (h : i <= 255) : Yl C V H L (.index t (.const (.string tabL)) y) ty (.int .u8 ((tabN i : Nat) : Int)) := by
  have h2 : tabL.size = 256 := by decide +kernel
  have := Y.idxStr (C := C) (V := V) (H := H) (L := L) (ty := ty) (x := .const (.string tabL)) rfl hy hs W (by rw [h2]; omega)
  rw [show (tabL.toList.getD (Int.toNat (i : Int)) 0) = tabL.data.toList.getD i 0 by rw [ByteArray.toList_eq]; rfl] at this
  exact this
theorem len_of {s m : Nat} (q : Nat) (hq : q * 2 ^ s <= m) (h : q <= 255) (h0 : 0 < m -> 0 < q) (hs : s <= 24) : s + tabN q <= 40 /\ (0 < m -> 2 ^ (s + tabN q) <= 2 * m) :=
  ⟨by have := (tabN_le h).1; omega,fun hm => len_bound hq ((tabN_le h).2 (h0 hm))⟩
theorem len64_0 {V : Vw} {m : Nat} (hm : m <= 1073741824)  : Does Tryz.prog 197 [.int .u64 ((m : Nat) : Int)] V [] (fun v V' H' => V' = V /\ (∃ k : Nat,v = .int .i64 (k : Int) /\ k <= 40 /\ (0 < m -> 2 ^ k <= 2 * m)) /\ H' = []) := by
 refine Does.intro Tryz.func197 rfl rfl (le rfl) (fun B => ?_)
 refine Zs<|Zr<|Za Z<|Ze<|Zg<|Zs<|Zs<|Zr<|Zm Z<|Zv (Y.int Z Z Z)<|Ze<|Zg<|?_
 refine Zq (decide (((m : Nat) : Int) >= 4294967296)) (fun h1 g1 => ?_) fun h1 g1 => ?_
 ·omega
 refine Tr.cond_f Z h1<|Zt<|Zg<|Zs<|Zs<|Zr<|Zm Z<|Zv (Y.int Z Z Z)<|Ze<|Zg<|?_
 refine Zq (decide (((m : Nat) : Int) >= 65536)) (fun h2 g2 => ?_) fun h2 g2 => ?_
 ·refine Tr.cond_t Z h2<|Zs<|Zr<|Zm Z<|Zv (Y.shrN (m := m) (q := 65536) Z Z WD WD)<|Za Z<|Ze<|Zg<|Zr<|Zm Z<|Zv (Y.addN ((0 + 16 : Nat) : Int) rfl rfl W W)<|Za Z<|Ze<|Zg<|Zs<|Zs<|?_
  refine Zr<|Zm Z<|Zv (Y.int Z Z Z)<|Ze<|Zg<|?_
  refine Zq (decide (((m / 65536 : Nat) : Int) >= 256)) (fun h3 g3 => ?_) fun h3 g3 => ?_
  ·refine Tr.cond_t Z h3<|Zs<|Zr<|Zm Z<|Zv (Y.shrN (m := m / 65536) (q := 256) Z Z WD WD)<|Za Z<|Ze<|Zg<|Zr<|Zm Z<|Zv (Y.addN (((0 + 16) + 8 : Nat) : Int) rfl rfl W W)<|Za Z<|Ze<|Zg<|Zs<|Zr<|?_
   refine Zm Z<|Zm Z<|Zv (Y.conv ((((m / 65536) / 256 : Nat) : Int)) rfl xit218_5 (wrap_u8 W))<|Zv (tab_at (i := (m / 65536) / 256) rfl xst9 W)<|?_
   have ht := tabN_le (i := (m / 65536) / 256) W
   refine Zv (Y.conv (((tabN ((m / 65536) / 256) : Nat) : Int)) rfl xit5_3 (wrap_i64 W))<|Zv (Y.addN ((((0 + 16) + 8) + (tabN ((m / 65536) / 256)) : Nat) : Int) rfl rfl W W)<|Za Z<|Ze<|Zg<|Zu<|Ex.keep []<|?_
   exact Ex.ret1 rfl rfl  ⟨rfl,⟨_,rfl,by have := len_of (s := 24) (m := m) ((m / 65536) / 256) W W W W; first | exact this | simpa using this⟩,rfl⟩
  refine Tr.cond_f Z h3<|Zt<|Zg<|Zs<|Zr<|Zm Z<|Zm Z<|Zv (Y.conv (((m / 65536 : Nat) : Int)) rfl xit218_5 (wrap_u8 W))<|Zv (tab_at (i := m / 65536) Z xst9 W)<|?_
  have ht := tabN_le (i := m / 65536) W
  refine Zv (Y.conv (((tabN (m / 65536) : Nat) : Int)) rfl xit5_3 (wrap_i64 W))<|Zv (Y.addN (((0 + 16) + (tabN (m / 65536)) : Nat) : Int) rfl rfl W W)<|Za Z<|Ze<|Zg<|Zu<|Ex.keep []<|?_
  exact Ex.ret1 rfl rfl  ⟨rfl,⟨_,rfl,by have := len_of (s := 16) (m := m) (m / 65536) W W W W; first | exact this | simpa using this⟩,rfl⟩
 refine Tr.cond_f Z h2<|Zt<|Zg<|Zs<|Zs<|Zr<|Zm Z<|Zv (Y.int Z Z Z)<|Ze<|Zg<|?_
 refine Zq (decide (((m : Nat) : Int) >= 256)) (fun h4 g4 => ?_) fun h4 g4 => ?_
 ·refine Tr.cond_t Z h4<|Zs<|Zr<|Zm Z<|Zv (Y.shrN (m := m) (q := 256) Z Z WD WD)<|Za Z<|Ze<|Zg<|Zr<|Zm Z<|Zv (Y.addN ((0 + 8 : Nat) : Int) rfl rfl W W)<|Za Z<|Ze<|Zg<|Zs<|Zr<|?_
  refine Zm Z<|Zm Z<|Zv (Y.conv (((m / 256 : Nat) : Int)) rfl xit218_5 (wrap_u8 W))<|Zv (tab_at (i := m / 256) Z xst9 W)<|?_
  have ht := tabN_le (i := m / 256) W
  refine Zv (Y.conv (((tabN (m / 256) : Nat) : Int)) rfl xit5_3 (wrap_i64 W))<|Zv (Y.addN (((0 + 8) + (tabN (m / 256)) : Nat) : Int) rfl rfl W W)<|Za Z<|Ze<|Zg<|Zu<|Ex.keep []<|?_
  exact Ex.ret1 rfl rfl  ⟨rfl,⟨_,rfl,by have := len_of (s := 8) (m := m) (m / 256) W W W W; first | exact this | simpa using this⟩,rfl⟩
 refine Tr.cond_f Z h4<|Zt<|Zg<|Zs<|Zr<|Zm Z<|Zm Z<|Zv (Y.conv (((m : Nat) : Int)) rfl xit218_5 (wrap_u8 W))<|Zv (tab_at (i := m) Z xst9 W)<|?_
 have ht := tabN_le (i := m) W
 refine Zv (Y.conv (((tabN m : Nat) : Int)) rfl xit5_3 (wrap_i64 W))<|Zv (Y.addN ((0 + (tabN m) : Nat) : Int) rfl rfl W W)<|Za Z<|Ze<|Zg<|Zu<|Ex.keep []<|?_
 exact Ex.ret1 rfl rfl  ⟨rfl,⟨_,rfl,by have := len_of (s := 0) (m := m) (m) W W W W; first | exact this | simpa using this⟩,rfl⟩
theorem len_0 {V : Vw} {m : Nat} (hm : m <= 1073741824)  : Does Tryz.prog 178 [.int .u64 ((m : Nat) : Int)] V [] (fun v V' H' => V' = V /\ (∃ k : Nat,v = .int .i64 (k : Int) /\ k <= 40 /\ (0 < m -> 2 ^ k <= 2 * m)) /\ H' = []) := by
 refine Does.intro Tryz.func178 rfl rfl (le rfl) (fun B => ?_)
 refine Zs<|Zr<|Za Z<|Ze<|Zg<|Zs<|Tr.cond_f Z Z<|Zt<|Zg<|Zs<|Zr<|Zm Z<|?_
 refine Yk [] Z Z Z (len64_0 hm) (fun v V2 H2 hle hR => ?_)
 obtain ⟨hV,⟨k,rfl,hk1,hk2⟩,rfl⟩ := hR; replace hV := hV.symm; subst hV
 refine Za Z<|Ze<|Zg<|Zu<|Ex.keep []<|?_
 exact Ex.ret1 rfl rfl  ⟨rfl,⟨k,rfl,hk1,hk2⟩,rfl⟩
theorem npow_0 {V : Vw} {m : Nat} (h8 : 1 <= m) (hm : m <= 1073741824)  : Does Tryz.prog 203 [.int .i64 ((m : Nat) : Int)] V [] (fun v V' H' => V' = V /\ (∃ q : Nat,v = .int .u64 (q : Int) /\ 1 <= q /\ q <= 2 * m) /\ H' = []) := by
 refine Does.intro Tryz.func203 rfl rfl (le rfl) (fun B => ?_)
 refine Zs<|Zr<|Za Z<|Ze<|Zg<|Zs<|Zr<|Zm Z<|Zv (Y.conv (((m : Nat) : Int)) rfl xit3_195 (wrap_u64 W))<|?_
 refine Yk [] Z Z Z (len_0 (m := m) W) (fun v V2 H2 hle hR => ?_)
 obtain ⟨hV,⟨k1,rfl,hk1,hk2⟩,rfl⟩ := hR; replace hV := hV.symm; subst hV
 refine Run.heapTo (H' := []) Z<|Zv (Y.shl (((2 ^ k1 : Nat) : Int)) rfl rfl W (shl_one W))<|Za Z<|Ze<|Zg<|Zu<|Ex.keep []<|?_
 exact Ex.ret1 rfl rfl  ⟨rfl,⟨_,rfl,Nat.one_le_two_pow,hk2 W⟩,rfl⟩
theorem next_0 {V : Vw} {bx e : Nat} {r : Int}  : Does Tryz.prog 204 [(pZ bx)] V [[(bx,.cells #[.int .u64 r] e (0,0))]] (fun v V' H' => V' = V /\ ∃ r' : Int,v = .int .u64 r' /\ H' = [[(bx,.cells #[.int .u64 r'] e (0,0))]]) := by
 refine Does.intro Tryz.func204 rfl rfl (le rfl) (fun B => ?_)
 refine Zs<|Zr<|Za Z<|Ze<|Zg<|Zs<|Tr.tail 9 xmo WK<|ZM Z<|ZV (Y.nilCheck Z)<|ZV (Y.load Z xts222 (Kn.at 0 Z) Z)<|ZM Z<|ZV (Y.nilCheck Z)<|ZV (Y.load Z xts222 (Kn.at 0 Z) Z)<|ZV (Y.shl (shlU r 13) rfl rfl WD rfl)<|ZV (Y.int (r := .int .u64 (xorU r (shlU r 13))) Z Z Z)<|ZV (Y.nilCheck Z)<|?_
 refine RunQ.nil_run<|Run.store (s := [(bx,.cells #[.int .u64 (xorU r (shlU r 13))] e (0,0))]) Z Z xsz222 (i := 0) Z Z (le Z) Z Z<|Ze<|Zg<|Zs<|Tr.tail 9 xmo WK<|?_
 obtain ⟨ra,hra⟩ : ∃ z,xorU r (shlU r 13) = z := ⟨_,rfl⟩
 rw [hra]
 refine ZM Z<|ZV (Y.nilCheck Z)<|ZV (Y.load Z xts222 (Kn.at 0 Z) Z)<|ZM Z<|ZV (Y.nilCheck Z)<|ZV (Y.load Z xts222 (Kn.at 0 Z) Z)<|ZV (Y.shr (shrU ra 7) rfl rfl WD rfl)<|ZV (Y.int (r := .int .u64 (xorU ra (shrU ra 7))) Z Z Z)<|ZV (Y.nilCheck Z)<|RunQ.nil_run<|Run.store (s := [(bx,.cells #[.int .u64 (xorU ra (shrU ra 7))] e (0,0))]) Z Z xsz222 (i := 0) Z Z (le Z) Z Z<|Ze<|Zg<|Zs<|Tr.tail 9 xmo WK<|?_
 obtain ⟨rb,hrb⟩ : ∃ z,xorU ra (shrU ra 7) = z := ⟨_,rfl⟩
 rw [hrb]
 refine ZM Z<|ZV (Y.nilCheck Z)<|ZV (Y.load Z xts222 (Kn.at 0 Z) Z)<|ZM Z<|ZV (Y.nilCheck Z)<|ZV (Y.load Z xts222 (Kn.at 0 Z) Z)<|ZV (Y.shl (shlU rb 17) rfl rfl WD rfl)<|ZV (Y.int (r := .int .u64 (xorU rb (shlU rb 17))) Z Z Z)<|ZV (Y.nilCheck Z)<|RunQ.nil_run<|Run.store (s := [(bx,.cells #[.int .u64 (xorU rb (shlU rb 17))] e (0,0))]) Z Z xsz222 (i := 0) Z Z (le Z) Z Z<|Ze<|Zg<|Zs<|Zr<|?_
 obtain ⟨rc,hrc⟩ : ∃ z,xorU rb (shlU rb 17) = z := ⟨_,rfl⟩
 rw [hrc]
 refine Zm Z<|Zv (Y.nilCheck Z)<|Zv (Y.load Z xts222 (Kn.at 0 Z) Z)<|Za Z<|Ze<|Zg<|Zu<|Ex.keep [0]<|?_
 exact Ex.ret1 rfl rfl  ⟨rfl,_,rfl,rfl⟩
end Go.Proofs.YtfgblingojgafaaGreat
