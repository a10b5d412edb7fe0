/- Disks and frames in plain Lean: what each change makes, the records of bytes.
Conditions: none; no program in sight. -/
import Derived.Test.YtinkencbkcciiaaGreatMA
import Derived.Test.YtinkencbkcciiaaGreatKI
import Derived.Test.YtinkencbkcciiaaGreatTC
import Derived.Test.YtinkencbkcciiaaGreatSA
set_option linter.unusedSimpArgs false
set_option linter.unusedVariables false
set_option linter.unusedSectionVars false
namespace Go.K
abbrev Bts := List UInt8
structure Dk where
  room : Int
  bs : Bts
  lasts : Nat
  inn : Int
namespace Dk
structure Ok (d : Dk) : Prop where
  r1 : 1 ≤ d.room
  r2 : d.room ≤ 1048576
  b : (d.bs.length : Int) ≤ d.room
  l : d.lasts ≤ d.bs.length
  i : -1 ≤ d.inn ∧ d.inn ≤ 9223372036854775807
def new (room : Int) : Dk := ⟨room,[],0,-1⟩
def dec (d : Dk) : Dk := if d.inn > 0 then { d with inn := d.inn - 1 } else d
def change (d : Dk) (n : Int) (f : Dk → Dk) : Dk × Int := if d.inn = 0 then (d,7) else if n > d.room then (dec d,3) else (f (dec d),0)
def app (d : Dk) (b : Bts) : Dk × Int := change d (((d.bs.length + b.length : Nat)) : Int) fun d => { d with bs := d.bs ++ b }
def sync (d : Dk) : Dk × Int := change d 0 fun d => { d with lasts := d.bs.length }
def swap (d : Dk) (b : Bts) : Dk × Int := change d ((b.length : Nat) : Int) fun d => { d with bs := b,lasts := b.length }
def fail (d : Dk) (n : Int) : Dk := { d with inn := max n (-1) }
def kept (d : Dk) (k : Int) : Nat := d.lasts + (min (max k 0) (((d.bs.length - d.lasts : Nat)) : Int)).toNat
def crash (d : Dk) (k : Int) : Dk := { d with bs := d.bs.take (kept d k),lasts := kept d k,inn := -1 }
theorem kept_le {d : Dk} (h : d.lasts ≤ d.bs.length) (k : Int) : d.lasts ≤ kept d k ∧ kept d k ≤ d.bs.length := by unfold kept; omega
theorem dec_room (d : Dk) : (dec d).room = d.room := by unfold dec; split <;> rfl
theorem dec_bs (d : Dk) : (dec d).bs = d.bs := by unfold dec; split <;> rfl
theorem dec_lasts (d : Dk) : (dec d).lasts = d.lasts := by unfold dec; split <;> rfl
theorem Ok.dec {d : Dk} (h : d.Ok) : d.dec.Ok := by
  have := h.i
  unfold Dk.dec; split
  · exact ⟨h.r1,h.r2,h.b,h.l,by show -1 ≤ d.inn - 1; omega,by show d.inn - 1 ≤ _; omega⟩
  · exact h
theorem new_ok {room : Int} (h1 : 1 ≤ room) (h2 : room ≤ 1048576) : (new room).Ok := ⟨h1,h2,by show (0 : Int) ≤ room; omega,Nat.le_refl _,by show (-1 : Int) ≤ -1; decide,by show (-1 : Int) ≤ _; decide⟩
theorem change_ok {d : Dk} {n : Int} {f : Dk → Dk} (h : d.Ok) (hf : n ≤ d.room → (f d.dec).Ok) : (change d n f).1.Ok := by
  unfold change; split
  · exact h
  · split
    · exact h.dec
    · exact hf (by omega)
theorem Ok.app {d : Dk} (h : d.Ok) (b : Bts) : (d.app b).1.Ok := change_ok h fun hn => by
  have k := h.dec
  exact ⟨k.r1,k.r2,by show ((((Dk.dec d).bs ++ b).length : Nat) : Int) ≤ _; rw [dec_bs,List.length_append,dec_room]; exact hn,by show (Dk.dec d).lasts ≤ ((Dk.dec d).bs ++ b).length; have := k.l; rw [List.length_append]; omega,k.i⟩
theorem Ok.sync {d : Dk} (h : d.Ok) : d.sync.1.Ok := change_ok h fun _ => by
  have k := h.dec
  exact ⟨k.r1,k.r2,k.b,Nat.le_refl _,k.i⟩
theorem Ok.swap {d : Dk} (h : d.Ok) (b : Bts) : (d.swap b).1.Ok := change_ok h fun hn => by
  have k := h.dec
  exact ⟨k.r1,k.r2,by show ((b.length : Nat) : Int) ≤ (Dk.dec d).room; rw [dec_room]; exact hn,Nat.le_refl _,k.i⟩
theorem Ok.fail {d : Dk} (h : d.Ok) {n : Int} (hn : n ≤ 9223372036854775807) : (d.fail n).Ok := ⟨h.r1,h.r2,h.b,h.l,by show -1 ≤ max n (-1); omega,by show max n (-1) ≤ _; omega⟩
theorem Ok.crash {d : Dk} (h : d.Ok) (k : Int) : (d.crash k).Ok := by
  have hk := kept_le h.l k
  have hb := h.b
  refine ⟨h.r1,h.r2,?_,?_,by show (-1 : Int) ≤ -1; decide,by show (-1 : Int) ≤ _; decide⟩
  · show (((d.bs.take (kept d k)).length : Nat) : Int) ≤ d.room; rw [List.length_take]; omega
  · show kept d k ≤ (d.bs.take (kept d k)).length; rw [List.length_take]; omega
theorem change_room {d : Dk} {n : Int} {f : Dk → Dk} (hf : (f d.dec).room = d.dec.room) : (change d n f).1.room = d.room := by
  unfold change; split
  · rfl
  · split
    · exact dec_room d
    · rw [hf]; exact dec_room d
theorem app_room (d : Dk) (b : Bts) : (d.app b).1.room = d.room := change_room rfl
theorem sync_room (d : Dk) : d.sync.1.room = d.room := change_room rfl
theorem swap_room (d : Dk) (b : Bts) : (d.swap b).1.room = d.room := change_room rfl
theorem change_down {d : Dk} {n : Int} {f : Dk → Dk} (h : d.inn = 0) : change d n f = (d,7) := by unfold change; rw [if_pos h]
theorem change_full {d : Dk} {n : Int} {f : Dk → Dk} (h : d.inn ≠ 0) (k : n > d.room) : change d n f = (dec d,3) := by unfold change; rw [if_neg h,if_pos k]
theorem change_ok0 {d : Dk} {n : Int} {f : Dk → Dk} (h : d.inn ≠ 0) (k : ¬ n > d.room) : change d n f = (f (dec d),0) := by unfold change; rw [if_neg h,if_neg k]
theorem dec_pos {d : Dk} (h : d.inn > 0) : dec d = { d with inn := d.inn - 1 } := by unfold dec; rw [if_pos h]
theorem dec_neg {d : Dk} (h : ¬ d.inn > 0) : dec d = d := by unfold dec; rw [if_neg h]
end Dk
namespace Fr
def put (b : Bts) : Bts := UInt8.ofNat (b.length / 256) :: UInt8.ofNat (b.length % 256) :: (b ++ [90])
def okR (b : Bts) : Prop := 1 ≤ b.length ∧ b.length ≤ 1000
instance (b : Bts) : Decidable (okR b) := inferInstanceAs (Decidable (_ ∧ _))
def hd (bs : Bts) (at_ : Nat) : Nat := (bs.getD at_ 0).toNat * 256 + (bs.getD (at_ + 1) 0).toNat
def one (bs : Bts) (at_ : Nat) : Option Nat := if at_ + 2 < bs.length ∧ 1 ≤ hd bs at_ ∧ hd bs at_ ≤ 1000 ∧ at_ + 3 + hd bs at_ ≤ bs.length ∧ bs.getD (at_ + 2 + hd bs at_) 0 = 90 then some (hd bs at_) else none
def rcd (bs : Bts) (at_ n : Nat) : Bts := (bs.drop (at_ + 2)).take n
def scanF (bs : Bts) : Nat → Nat → List Bts × Nat
  | 0,at_ => ([],at_)
  | k + 1,at_ => match one bs at_ with
    | none => ([],at_)
    | some n => (rcd bs at_ n :: (scanF bs k (at_ + 3 + n)).1,(scanF bs k (at_ + 3 + n)).2)
def scan (bs : Bts) : List Bts × Nat := scanF bs bs.length 0
inductive Sc (bs : Bts) : Nat → List Bts → Prop
  | nil : Sc bs 0 []
  | more {at_ n : Nat} {l : List Bts} : Sc bs at_ l → one bs at_ = some n → Sc bs (at_ + 3 + n) (l ++ [rcd bs at_ n])
theorem one_some {bs : Bts} {at_ n : Nat} (h : one bs at_ = some n) : n = hd bs at_ ∧ at_ + 2 < bs.length ∧ 1 ≤ n ∧ n ≤ 1000 ∧ at_ + 3 + n ≤ bs.length ∧ bs.getD (at_ + 2 + n) 0 = 90 := by
  unfold one at h; split at h
  · rename_i k; cases h; exact ⟨rfl,k.1,k.2.1,k.2.2.1,k.2.2.2.1,k.2.2.2.2⟩
  · cases h
theorem one_yes {bs : Bts} {at_ n : Nat} (hn : n = hd bs at_) (h0 : at_ + 2 < bs.length) (h1 : 1 ≤ n) (h2 : n ≤ 1000) (h3 : at_ + 3 + n ≤ bs.length) (h4 : bs.getD (at_ + 2 + n) 0 = 90) : one bs at_ = some n := by
  subst hn; unfold one; rw [if_pos ⟨h0,h1,h2,h3,h4⟩]
theorem one_no {bs : Bts} {at_ : Nat} (h : ¬ (at_ + 2 < bs.length ∧ 1 ≤ hd bs at_ ∧ hd bs at_ ≤ 1000 ∧ at_ + 3 + hd bs at_ ≤ bs.length ∧ bs.getD (at_ + 2 + hd bs at_) 0 = 90)) : one bs at_ = none := by unfold one; rw [if_neg h]
theorem scanF_le (bs : Bts) : ∀ (k at_ : Nat),at_ ≤ bs.length → at_ ≤ (scanF bs k at_).2 ∧ (scanF bs k at_).2 ≤ bs.length
  | 0,at_,h => ⟨Nat.le_refl _,h⟩
  | k + 1,at_,h => by
    unfold scanF
    cases ho : one bs at_ with
    | none => exact ⟨Nat.le_refl _,h⟩
    | some n =>
      have h1 := one_some ho
      have := scanF_le bs k (at_ + 3 + n) (by omega)
      exact ⟨by show at_ ≤ (scanF bs k (at_ + 3 + n)).2; omega,this.2⟩
theorem scan_le (bs : Bts) : (scan bs).2 ≤ bs.length := (scanF_le bs bs.length 0 (Nat.zero_le _)).2
theorem sc_le {bs : Bts} {at_ : Nat} {l : List Bts} (h : Sc bs at_ l) : at_ ≤ bs.length ∧ 4 * l.length ≤ at_ := by
  induction h with
  | nil => exact ⟨Nat.zero_le _,Nat.le_refl _⟩
  | more h ho ih =>
    have h1 := one_some ho
    rw [List.length_append,List.length_singleton]; omega
theorem sc_go {bs : Bts} {at_ : Nat} {l : List Bts} (h : Sc bs at_ l) : ∀ f,scanF bs (l.length + f) 0 = (l ++ (scanF bs f at_).1,(scanF bs f at_).2) := by
  induction h with
  | nil => intro f; simp
  | @more at_ n l h ho ih =>
    intro f
    have h1 := one_some ho
    have := ih (f + 1)
    rw [List.length_append,List.length_singleton,show l.length + 1 + f = l.length + (f + 1) by omega,this]
    rw [show scanF bs (f + 1) at_ = (rcd bs at_ n :: (scanF bs f (at_ + 3 + n)).1,(scanF bs f (at_ + 3 + n)).2) from by rw [scanF,ho]]
    simp
theorem scanF_stop {bs : Bts} {at_ : Nat} (h : one bs at_ = none) (k : Nat) : scanF bs k at_ = ([],at_) := by
  cases k with
  | zero => rfl
  | succ k => rw [scanF,h]
theorem sc_scan {bs : Bts} {at_ : Nat} {l : List Bts} (h : Sc bs at_ l) (ho : one bs at_ = none) : scan bs = (l,at_) := by
  have hl := sc_le h
  have := sc_go h (bs.length - l.length)
  rw [scanF_stop ho,show l.length + (bs.length - l.length) = bs.length by omega] at this
  unfold scan; rw [this]; simp
theorem sc_all (bs : Bts) : ∃ at_ l,Sc bs at_ l ∧ one bs at_ = none := by
  have : ∀ (k at_ : Nat) (l : List Bts),Sc bs at_ l → bs.length - at_ ≤ k → ∃ at_ l,Sc bs at_ l ∧ one bs at_ = none := fun k => by
    induction k with
    | zero =>
      intro at_ l h hk
      exact ⟨at_,l,h,one_no fun z => by omega⟩
    | succ k ih =>
      intro at_ l h hk
      cases ho : one bs at_ with
      | none => exact ⟨at_,l,h,ho⟩
      | some n => exact ih _ _ (.more h ho) (by have := one_some ho; omega)
  exact this bs.length 0 [] .nil (by omega)
theorem rcd_len {bs : Bts} {at_ n : Nat} (h : one bs at_ = some n) : (rcd bs at_ n).length = n := by
  have := one_some h
  unfold rcd; rw [List.length_take,List.length_drop]; omega
def fl (l : List Bts) : Bts := l.flatMap put
theorem put_len (b : Bts) : (put b).length = b.length + 3 := by unfold put; simp
theorem fl_snoc (l : List Bts) (b : Bts) : fl (l ++ [b]) = fl l ++ put b := by unfold fl; simp
theorem u8_of {n : Nat} (h : n < 256) : (UInt8.ofNat n).toNat = n := by simp; omega
theorem one_put {b : Bts} (h : okR b) (x y : Bts) : one (x ++ (put b ++ y)) x.length = some b.length ∧ rcd (x ++ (put b ++ y)) x.length b.length = b := by
  have h1 := h.1
  have h2 := h.2
  have g : ∀ j,(x ++ (put b ++ y)).getD (x.length + j) 0 = (put b ++ y).getD j 0 := fun j => by
    rw [List.getD_eq_getElem?_getD,List.getElem?_append_right (by omega),Nat.add_sub_cancel_left,← List.getD_eq_getElem?_getD]
  have e : hd (x ++ (put b ++ y)) x.length = b.length := by
    unfold hd
    have a0 := g 0
    rw [Nat.add_zero] at a0
    rw [a0,g 1]
    show (UInt8.ofNat (b.length / 256)).toNat * 256 + (UInt8.ofNat (b.length % 256)).toNat = b.length
    rw [u8_of (by omega),u8_of (by omega)]; omega
  constructor
  · refine one_yes e.symm ?_ h1 h2 ?_ ?_
    · simp only [List.length_append,put_len]; omega
    · simp only [List.length_append,put_len]; omega
    · rw [Nat.add_assoc,g]
      unfold put
      rw [show 2 + b.length = b.length + 1 + 1 by omega,List.cons_append,List.cons_append,List.getD_eq_getElem?_getD,List.getElem?_cons_succ,List.getElem?_cons_succ,List.append_assoc,List.getElem?_append_right (Nat.le_refl _),Nat.sub_self]; rfl
  · unfold rcd put
    rw [List.drop_append,List.drop_of_length_le (by omega),show x.length + 2 - x.length = 2 by omega]
    simp
theorem sc_fl {l : List Bts} (h : ∀ b,b ∈ l → okR b) : ∀ y,Sc (fl l ++ y) (fl l).length l := by
  have : ∀ (k : List Bts) (m : List Bts) (y : Bts),(∀ b,b ∈ m → okR b) → Sc (fl k ++ (fl m ++ y)) (fl k).length k → Sc (fl k ++ (fl m ++ y)) (fl k ++ fl m).length (k ++ m) := fun k m => by
    induction m generalizing k with
    | nil => intro y _ hs; simpa [fl] using hs
    | cons b m ih =>
      intro y hm hs
      have hb := hm b (List.mem_cons_self ..)
      have e : fl k ++ (fl (b :: m) ++ y) = fl (k ++ [b]) ++ (fl m ++ y) := by unfold fl; simp
      obtain ⟨o1,o2⟩ := one_put hb (fl k) (fl m ++ y)
      have e2 : fl k ++ (put b ++ (fl m ++ y)) = fl k ++ (fl (b :: m) ++ y) := by unfold fl; simp
      rw [e2] at o1 o2
      have h3 := Sc.more hs o1
      rw [o2,e] at h3
      have := ih (k ++ [b]) y (fun z hz => hm z (List.mem_cons_of_mem _ hz)) (by rw [show (fl (k ++ [b])).length = (fl k).length + 3 + b.length by rw [fl_snoc,List.length_append,put_len]; omega]; exact h3)
      rw [e]
      have e4 : fl (k ++ [b]) ++ fl m = fl k ++ fl (b :: m) := by unfold fl; simp
      rw [e4,show k ++ [b] ++ m = k ++ b :: m by simp] at this
      exact this
  intro y
  have := this [] l y h (by unfold fl; exact .nil)
  simpa [fl] using this
theorem scan_fl {l : List Bts} (h : ∀ b,b ∈ l → okR b) : scan (fl l) = (l,(fl l).length) := by
  have := sc_fl h []
  rw [List.append_nil] at this
  exact sc_scan this (one_no fun z => by omega)
theorem sc_is {bs : Bts} {at_ : Nat} {l : List Bts} (h : Sc bs at_ l) : bs.take at_ = fl l ∧ ∀ b,b ∈ l → okR b := by
  induction h with
  | nil => exact ⟨rfl,fun b h => absurd h List.not_mem_nil⟩
  | @more at_ n l h ho ih =>
    have h1 := one_some ho
    have hl := rcd_len ho
    refine ⟨?_,fun b hb => ?_⟩
    · rw [fl_snoc,← ih.1,show at_ + 3 + n = at_ + (3 + n) by omega,List.take_add]
      congr 1
      have c0 : (bs.drop at_)[0]? = some (UInt8.ofNat (n / 256)) ∧ (bs.drop at_)[1]? = some (UInt8.ofNat (n % 256)) := by
        rw [List.getElem?_drop,List.getElem?_drop,List.getElem?_eq_getElem (show at_ + 0 < bs.length by omega),List.getElem?_eq_getElem (show at_ + 1 < bs.length by omega)]
        have e := h1.1
        unfold hd at e
        rw [List.getD_eq_getElem?_getD,List.getElem?_eq_getElem (show at_ < bs.length by omega),List.getD_eq_getElem?_getD,List.getElem?_eq_getElem (show at_ + 1 < bs.length by omega)] at e
        simp only [Option.getD_some] at e
        have b0 := (bs[at_]'(by omega)).toNat_lt
        have b1 := (bs[at_ + 1]'(by omega)).toNat_lt
        have e0 : n / 256 = (bs[at_]'(by omega)).toNat := by omega
        have e1 : n % 256 = (bs[at_ + 1]'(by omega)).toNat := by omega
        rw [e0,e1]; simp
      have c3 : (bs.drop at_)[2 + n]? = some 90 := by
        rw [List.getElem?_drop,List.getElem?_eq_getElem (show at_ + (2 + n) < bs.length by omega)]
        have e := h1.2.2.2.2.2
        rw [List.getD_eq_getElem?_getD,List.getElem?_eq_getElem (show at_ + 2 + n < bs.length by omega)] at e
        simp only [Option.getD_some] at e
        simp only [← Nat.add_assoc]; rw [e]
      apply List.ext_getElem?
      intro j
      rw [List.getElem?_take]
      unfold put
      rw [hl]
      rcases j with _ | _ | j
      · rw [if_pos (by omega),c0.1]; rfl
      · rw [if_pos (by omega),c0.2]; rfl
      · rw [List.getElem?_cons_succ,List.getElem?_cons_succ]
        by_cases hj : j < n
        · rw [if_pos (by omega),List.getElem?_append_left (by omega)]
          unfold rcd
          rw [List.getElem?_take,if_pos hj,List.getElem?_drop,List.getElem?_drop]; congr 1; omega
        · by_cases hj2 : j = n
          · subst hj2; rw [if_pos (by omega),List.getElem?_append_right (by omega),hl,Nat.sub_self,show j + 1 + 1 = 2 + j by omega,c3]; rfl
          · rw [if_neg (by omega),List.getElem?_eq_none (by rw [List.length_append,hl,List.length_singleton]; omega)]
    · rcases List.mem_append.1 hb with hb | hb
      · exact ih.2 b hb
      · obtain rfl := List.mem_singleton.1 hb
        unfold okR; rw [hl]; exact ⟨h1.2.2.1,h1.2.2.2.1⟩
theorem scan_is (bs : Bts) : bs.take (scan bs).2 = fl (scan bs).1 ∧ ∀ b,b ∈ (scan bs).1 → okR b := by
  obtain ⟨at_,l,h,ho⟩ := sc_all bs
  rw [sc_scan h ho]; exact sc_is h
theorem scan_few (bs : Bts) : 4 * (scan bs).1.length ≤ bs.length := by
  obtain ⟨at_,l,h,ho⟩ := sc_all bs
  rw [sc_scan h ho]; have := sc_le h; show 4 * l.length ≤ _; omega
theorem scan_cut {l : List Bts} (h : ∀ b,b ∈ l → okR b) {b y : Bts} (hb : okR b) (hy : y.length < (put b).length) (hp : y = (put b).take y.length) : scan (fl l ++ y) = (l,(fl l).length) := by
  refine sc_scan (sc_fl h y) ?_
  cases ho : one (fl l ++ y) (fl l).length with
  | none => rfl
  | some n =>
    exfalso
    have h1 := one_some ho
    rw [List.length_append] at h1
    have hd2 : hd (fl l ++ y) (fl l).length = b.length := by
      have o := (one_some (one_put hb (fl l) []).1).1
      rw [o]
      unfold hd
      have g : ∀ (z : Bts) (j : Nat),(fl l ++ z).getD ((fl l).length + j) 0 = z.getD j 0 := fun z j => by
        rw [List.getD_eq_getElem?_getD,List.getElem?_append_right (by omega),Nat.add_sub_cancel_left,← List.getD_eq_getElem?_getD]
      have g0 : ∀ z : Bts,(fl l ++ z).getD (fl l).length 0 = z.getD 0 0 := fun z => g z 0
      have yt : ∀ j,j < y.length → y.getD j 0 = (put b ++ []).getD j 0 := fun j hj => by
        have : y[j]? = (put b)[j]? := by rw [hp,List.getElem?_take,if_pos hj]
        rw [List.append_nil,List.getD_eq_getElem?_getD,List.getD_eq_getElem?_getD,this]
      rw [g0,g0,g,g,yt 0 (by omega),yt 1 (by omega)]
    rw [put_len] at hy
    have := h1.1
    omega
end Fr
end Go.K
namespace Go.K
theorem Rd.takeB {V : Vw} {H : Hp} {p : Option Addr} {n c : Nat} {bs : Bts} (h : Rd V H 1 (.slice p n c) n (bs.map byteV)) (m : Nat) (hm : m ≤ n) : Rd V H 1 (.slice (if c = 0 then p else p.map (·.add (0 * 1))) (m - 0) (c - 0)) (m - 0) ((bs.take m).map byteV) := by
  have := h.slice 0 m (Nat.zero_le _) hm
  simpa using this
theorem Rd.lenB {V : Vw} {H : Hp} {v : Value} {n : Nat} {bs : Bts} (h : Rd V H 1 v n (bs.map byteV)) : bs.length = n := by have := h.1; simpa using this
end Go.K
namespace Go.K
open Msg (sl sl_length)
namespace Le
def tl (q : Le) : List Int := [q.till,q.acked,q.told,q.at_,q.ver]
def hdB (q : Le) : Bts := Msg.be 4 q.addr ++ Msg.be 1 q.bind
def encB (q : Le) : Bts := (hdB q ++ (tl q).flatMap (Msg.be 6)) ++ (UInt8.ofNat q.client.size :: q.client.toList)
def encE (q : Le) : Bts × Int := if right q = true then (encB q,0) else ([],1)
def dcd (b : Bts) : Le := ⟨val (sl b 0 4),((b.getD 4 0).toNat : Int),⟨(sl b 36 b.length).toArray⟩,val (sl b 5 11),val (sl b 11 17),val (sl b 17 23),val (sl b 23 29),val (sl b 29 35)⟩
def decE (b : Bts) : Le × Int := if b.length < 36 ∨ (b.getD 35 0).toNat + 36 ≠ b.length ∨ right (dcd b) = false then (dflt,2) else (dcd b,0)
theorem encB_len (q : Le) : (encB q).length = 36 + q.client.size := by
  unfold encB hdB tl
  simp [Msg.be_length,ByteArray.toList_eq]
  omega
theorem right_size {q : Le} (h : right q = true) : q.client.size ≤ 32 := by
  have := right_iff.1 h
  rcases this.2.2.2.2.2.2 with h | h
  · omega
  · omega
theorem take_sl (b : Bts) {i j : Nat} (h : i ≤ j) : b.take j = b.take i ++ sl b i j := by
  unfold sl; rw [← List.take_add,show i + (j - i) = j by omega]
theorem enc_dcd {b : Bts} (h : 36 ≤ b.length) : encB (dcd b) = b.take 35 ++ (UInt8.ofNat (b.length - 36) :: sl b 36 b.length) := by
  have e6 : ∀ i,i + 6 ≤ b.length → Msg.be 6 (val (sl b i (i + 6))) = sl b i (i + 6) := fun i hi => by
    have := Msg.be_val (sl b i (i + 6)); rwa [sl_length b i (i + 6) hi,show i + 6 - i = 6 by omega] at this
  have e4 : Msg.be 4 (val (sl b 0 4)) = sl b 0 4 := by have := Msg.be_val (sl b 0 4); rwa [sl_length b 0 4 (by omega)] at this
  have e1 : Msg.be 1 ((b.getD 4 0).toNat : Int) = sl b 4 5 := by
    have hs : sl b 4 5 = [b.getD 4 0] := by
      unfold sl
      rw [List.drop_eq_getElem_cons (by omega),List.getD_eq_getElem?_getD,List.getElem?_eq_getElem (by omega)]; rfl
    rw [hs]
    have := Msg.be_val [b.getD 4 0]
    rwa [val_one] at this
  have hc : (dcd b).client.size = b.length - 36 := by unfold dcd; simp [ByteArray.size,sl_length b 36 b.length (Nat.le_refl _)]
  unfold encB hdB tl
  rw [hc]
  unfold dcd
  simp only [List.flatMap_cons,List.flatMap_nil,List.append_nil,ByteArray.toList_eq]
  rw [e4,e1,e6 5 (by omega),e6 11 (by omega),e6 17 (by omega),e6 23 (by omega),e6 29 (by omega)]
  rw [take_sl b (show 29 ≤ 35 by decide),take_sl b (show 23 ≤ 29 by decide),take_sl b (show 17 ≤ 23 by decide),take_sl b (show 11 ≤ 17 by decide),take_sl b (show 5 ≤ 11 by decide),take_sl b (show 4 ≤ 5 by decide),show b.take 4 = sl b 0 4 by unfold sl; simp]
  simp only [List.append_assoc,Nat.reduceAdd]
theorem dcd_enc {q : Le} (hr : right q = true) (ha : 0 ≤ q.addr ∧ q.addr ≤ 4294967295) : dcd (encB q) = q := by
  have h := right_iff.1 hr
  have hb : val (Msg.be 4 q.addr) = q.addr := by rw [Msg.val_be_mod]; omega
  have h6 : ∀ n : Int,0 ≤ n ∧ n ≤ 1099511627776 → val (Msg.be 6 n) = n := fun n hn => by rw [Msg.val_be_mod]; omega
  have s0 : sl (encB q) 0 4 = Msg.be 4 q.addr := by simp [sl,encB,hdB,tl,List.drop_append,List.take_append,Msg.be_length,List.take_of_length_le]
  have s4 : (encB q).getD 4 0 = UInt8.ofNat (q.bind % 256).toNat := by simp [encB,hdB,tl,List.getD_eq_getElem?_getD,List.getElem?_append,Msg.be_length,Msg.be]
  have sk : ∀ (x y z : Bts) (n : Int),sl ((x ++ (Msg.be 6 n ++ y)) ++ z) x.length (x.length + 6) = Msg.be 6 n := fun x y z n => by
    unfold sl
    rw [List.append_assoc,List.append_assoc,List.drop_left,show x.length + 6 - x.length = 6 by omega]
    exact List.take_left' (Msg.be_length 6 n)
  have e : ∀ k,encB q = ((hdB q ++ ((tl q).take k).flatMap (Msg.be 6)) ++ ((tl q).drop k).flatMap (Msg.be 6)) ++ (UInt8.ofNat q.client.size :: q.client.toList) := fun k => by
    unfold encB; rw [List.append_assoc (hdB q) _ (List.flatMap _ _),← List.flatMap_append,List.take_append_drop]
  have hl : ∀ k,k ≤ 5 → (hdB q ++ ((tl q).take k).flatMap (Msg.be 6)).length = 5 + 6 * k := fun k hk => by
    unfold hdB tl
    rcases (show k = 0 ∨ k = 1 ∨ k = 2 ∨ k = 3 ∨ k = 4 ∨ k = 5 by omega) with rfl | rfl | rfl | rfl | rfl | rfl <;> simp [Msg.be_length]
  have st : ∀ k (n : Int) (y : List Int),k ≤ 5 → (tl q).drop k = n :: y → sl (encB q) (5 + 6 * k) (5 + 6 * k + 6) = Msg.be 6 n := fun k n y hk hd => by
    rw [e k,hd,List.flatMap_cons,← hl k hk]; exact sk _ _ _ n
  have sc : sl (encB q) 36 (encB q).length = q.client.toList := by
    unfold sl
    have h35 := hl 5 (Nat.le_refl _)
    rw [List.take_of_length_le (by rw [List.length_drop]; omega),e 5]
    rw [show (tl q).drop 5 = [] from rfl,List.flatMap_nil,List.append_nil,List.drop_append,List.drop_of_length_le (by omega),h35]; rfl
  have t0 := st 0 q.till [q.acked,q.told,q.at_,q.ver] (by decide) rfl
  have t1 := st 1 q.acked [q.told,q.at_,q.ver] (by decide) rfl
  have t2 := st 2 q.told [q.at_,q.ver] (by decide) rfl
  have t3 := st 3 q.at_ [q.ver] (by decide) rfl
  have t4 := st 4 q.ver [] (by decide) rfl
  unfold dcd
  rw [s0,s4,sc,t0,t1,t2,t3,t4,hb,h6 _ h.1,h6 _ h.2.1,h6 _ h.2.2.1,h6 _ h.2.2.2.1,h6 _ h.2.2.2.2.1]
  have hbi : ((UInt8.ofNat (q.bind % 256).toNat).toNat : Int) = q.bind := by simp; omega
  rw [hbi]
  cases q with
  | mk a b c t1 t2 t3 t4 t5 => simp [ByteArray.toList_eq]
theorem at35 (q : Le) : (encB q).getD 35 0 = UInt8.ofNat q.client.size := by
  have h35 : (hdB q ++ (tl q).flatMap (Msg.be 6)).length = 35 := by unfold hdB tl; simp [Msg.be_length]
  unfold encB
  rw [List.getD_eq_getElem?_getD,List.getElem?_append_right (by omega),h35]; rfl
theorem decE_enc {q : Le} (hr : right q = true) (ha : 0 ≤ q.addr ∧ q.addr ≤ 4294967295) : decE (encB q) = (q,0) := by
  have hs := right_size hr
  have h35 : ((encB q).getD 35 0).toNat = q.client.size := by rw [at35]; simp; omega
  unfold decE
  rw [dcd_enc hr ha,encB_len,h35,if_neg]
  rintro (h | h | h)
  · omega
  · omega
  · rw [hr] at h; cases h
theorem ref_dec {b : Bts} (h : 36 ≤ b.length) (hr : right (dcd b) = true) : encB (dcd b) = b ↔ (b.getD 35 0).toNat + 36 = b.length := by
  have hs := right_size hr
  have hc : (dcd b).client.size = b.length - 36 := by unfold dcd; simp [ByteArray.size,sl_length b 36 b.length (Nat.le_refl _)]
  have hl35 : (b.take 35).length = 35 := by rw [List.length_take]; omega
  have hsl : sl b 36 b.length = b.drop 36 := by unfold sl; rw [List.take_of_length_le (by rw [List.length_drop]; omega)]
  have hb : b = b.take 35 ++ (b.getD 35 0 :: b.drop 36) := by
    have := List.drop_eq_getElem_cons (show 35 < b.length by omega)
    rw [List.getD_eq_getElem?_getD,List.getElem?_eq_getElem (show 35 < b.length by omega),Option.getD_some,← this,List.take_append_drop]
  rw [enc_dcd h,hsl]
  constructor
  · intro e
    rw [← e,List.getD_eq_getElem?_getD,List.getElem?_append_right (by omega),hl35]
    simp only [Nat.sub_self,List.getElem?_cons_zero,Option.getD_some,List.length_append,List.length_cons,List.length_drop,hl35]
    simp; omega
  · intro e
    have : UInt8.ofNat (b.length - 36) = b.getD 35 0 := by rw [show b.length - 36 = (b.getD 35 0).toNat by omega]; simp
    rw [this]; exact hb.symm
theorem decE_bad {b : Bts} (h : b.length < 36 ∨ (b.getD 35 0).toNat + 36 ≠ b.length ∨ right (dcd b) = false) : decE b = (dflt,2) := by unfold decE; rw [if_pos h]
theorem decE_ok {b : Bts} (h1 : 36 ≤ b.length) (h2 : (b.getD 35 0).toNat + 36 = b.length) (h3 : right (dcd b) = true) : decE b = (dcd b,0) := by
  unfold decE; rw [if_neg]
  rintro (h | h | h)
  · omega
  · omega
  · rw [h3] at h; cases h
end Le
end Go.K
namespace Go.K
structure Sk where
  t : List Le
  state : Int
  life : Int
namespace Sk
structure Ok (s : Sk) : Prop where
  r : Le.Ris s.t
  n : s.t.length ≤ 256
  st : 0 ≤ s.state ∧ s.state ≤ 8
  li : 0 ≤ s.life ∧ s.life ≤ 536870912
def new (as : List Int) : Sk := ⟨Le.new as,0,0⟩
def doK (s : Sk) (k : UInt8) (r : Bts) : Sk := if k = 76 then (if (Le.decE r).2 = 0 then { s with t := (Le.setE s.t (Le.decE r).1).2 } else s)
    else if k = 83 ∧ r.length = 1 ∧ (r.getD 0 0).toNat ≤ 8 then { s with state := ((r.getD 0 0).toNat : Int) }
    else if k = 70 ∧ r.length = 4 ∧ val r ≤ 536870912 then { s with life := val r } else s
def doR (s : Sk) : Bts → Sk
  | [] => s
  | k :: r => doK s k r
def replay (s : Sk) (l : List Bts) : Sk := l.foldl doR s
def leR (q : Le) : Bts := 76 :: (Le.encE q).1
def stR (n : Int) : Bts := [83,UInt8.ofNat (n % 256).toNat]
def liR (n : Int) : Bts := 70 :: Msg.be 4 n
def note (d : Dk) (s : Sk) (r : Bts) : Dk × Sk × Int := ((d.app (Fr.put r)).1,if (d.app (Fr.put r)).2 = 0 then doR s r else s,(d.app (Fr.put r)).2)
def put (d : Dk) (s : Sk) (q : Le) : Dk × Sk × Int := if Le.right q = false then (d,s,1) else if (Le.getE s.t q.addr).2 ≠ 0 then (d,s,(Le.getE s.t q.addr).2) else note d s (leR q)
def setState (d : Dk) (s : Sk) (n : Int) : Dk × Sk × Int := if n < 0 ∨ n > 8 then (d,s,1) else note d s (stR n)
def setLife (d : Dk) (s : Sk) (n : Int) : Dk × Sk × Int := if n < 0 ∨ n > 536870912 then (d,s,1) else note d s (liR n)
def plain (q : Le) : Bool := Le.same q (Le.bare q.addr 0 0)
def recs (s : Sk) : List Bts := stR s.state :: liR s.life :: ((s.t.filter fun q => !plain q).map leR)
def compact (d : Dk) (s : Sk) : Dk × Int := d.swap (Fr.fl (recs s))
def cutD (d : Dk) : Dk × Int := if (Fr.scan d.bs).2 < d.bs.length then d.swap (d.bs.take (Fr.scan d.bs).2) else (d,0)
theorem doR_lease {s : Sk} {r : Bts} (h : (Le.decE r).2 = 0) : doR s (76 :: r) = { s with t := (Le.setE s.t (Le.decE r).1).2 } := by show doK s 76 r = _; unfold doK; rw [if_pos rfl,if_pos h]
theorem doR_leno {s : Sk} {r : Bts} (h : (Le.decE r).2 ≠ 0) : doR s (76 :: r) = s := by show doK s 76 r = _; unfold doK; rw [if_pos rfl,if_neg h]
theorem doR_state {s : Sk} {k : UInt8} {r : Bts} (hk : k ≠ 76) (h : k = 83 ∧ r.length = 1 ∧ (r.getD 0 0).toNat ≤ 8) : doR s (k :: r) = { s with state := ((r.getD 0 0).toNat : Int) } := by show doK s k r = _; unfold doK; rw [if_neg hk,if_pos h]
theorem doR_life {s : Sk} {k : UInt8} {r : Bts} (hk : k ≠ 76) (h : k = 70 ∧ r.length = 4 ∧ val r ≤ 536870912) : doR s (k :: r) = { s with life := val r } := by
  show doK s k r = _; unfold doK; rw [if_neg hk,if_neg (by rintro ⟨e,_⟩; rw [e] at h; exact absurd h.1 (by decide)),if_pos h]
theorem doR_no {s : Sk} {k : UInt8} {r : Bts} (hk : k ≠ 76) (h1 : ¬ (k = 83 ∧ r.length = 1 ∧ (r.getD 0 0).toNat ≤ 8)) (h2 : ¬ (k = 70 ∧ r.length = 4 ∧ val r ≤ 536870912)) : doR s (k :: r) = s := by
  show doK s k r = _; unfold doK; rw [if_neg hk,if_neg h1,if_neg h2]
theorem new_ok {as : List Int} (h : as.Pairwise (· < ·)) (hn : as.length ≤ 256) : (new as).Ok := ⟨Le.new_ris h,by unfold new; rw [Le.new_len]; exact hn,⟨Int.le_refl _,show (0 : Int) ≤ 8 by decide⟩,⟨Int.le_refl _,show (0 : Int) ≤ 536870912 by decide⟩⟩
theorem Ok.set {s : Sk} (h : s.Ok) (q : Le) : ({ s with t := (Le.setE s.t q).2 } : Sk).Ok := ⟨Le.setE_ris h.r q,by show (Le.setE s.t q).2.length ≤ 256; rw [Le.setE_len]; exact h.n,h.st,h.li⟩
theorem Ok.doR {s : Sk} (h : s.Ok) (b : Bts) : (doR s b).Ok := by
  cases b with
  | nil => exact h
  | cons k r =>
    show (doK s k r).Ok
    unfold doK
    split
    · split
      · exact h.set _
      · exact h
    · split
      · rename_i c; exact ⟨h.r,h.n,by show 0 ≤ (((r.getD 0 0).toNat : Nat) : Int) ∧ (((r.getD 0 0).toNat : Nat) : Int) ≤ 8; omega,h.li⟩
      · split
        · rename_i c; exact ⟨h.r,h.n,h.st,(val_bounds r).1,c.2.2⟩
        · exact h
theorem replay_take {s : Sk} {l : List Bts} {i : Nat} (h : i < l.length) : replay s (l.take (i + 1)) = doR (replay s (l.take i)) (l.getD i []) := by
  unfold replay; rw [take_succ_getD l i [] h,List.foldl_append]; rfl
theorem replay_snoc (s : Sk) (l : List Bts) (b : Bts) : replay s (l ++ [b]) = doR (replay s l) b := by unfold replay; rw [List.foldl_append]; rfl
theorem Ok.replay {s : Sk} (h : s.Ok) : ∀ l : List Bts,(replay s l).Ok := fun l => by
  unfold Sk.replay
  induction l generalizing s with
  | nil => exact h
  | cons b l ih => exact ih (h.doR b)
theorem leR_len (q : Le) : 1 ≤ (leR q).length ∧ (leR q).length ≤ 69 := by
  unfold leR Le.encE
  split
  · rename_i h; have := Le.right_size h; rw [List.length_cons,Le.encB_len]; omega
  · simp
theorem stR_len (n : Int) : (stR n).length = 2 := rfl
theorem liR_len (n : Int) : (liR n).length = 5 := by unfold liR; rw [List.length_cons,Msg.be_length]
theorem leR_ok (q : Le) : Fr.okR (leR q) := by have := leR_len q; unfold Fr.okR; omega
theorem stR_ok (n : Int) : Fr.okR (stR n) := by unfold Fr.okR; rw [stR_len]; omega
theorem liR_ok (n : Int) : Fr.okR (liR n) := by unfold Fr.okR; rw [liR_len]; omega
theorem recs_ok (s : Sk) : ∀ b,b ∈ recs s → Fr.okR b := fun b hb => by
  unfold recs at hb
  rcases List.mem_cons.1 hb with rfl | hb
  · exact stR_ok _
  · rcases List.mem_cons.1 hb with rfl | hb
    · exact liR_ok _
    · obtain ⟨q,_,rfl⟩ := List.mem_map.1 hb; exact leR_ok q
theorem fl_len {l : List Bts} {n : Nat} (h : ∀ b,b ∈ l → b.length ≤ n) : (Fr.fl l).length ≤ l.length * (n + 3) := by
  induction l with
  | nil => exact Nat.zero_le _
  | cons b l ih =>
    have h1 := h b (List.mem_cons_self ..)
    have h2 := ih fun z hz => h z (List.mem_cons_of_mem _ hz)
    have : Fr.fl (b :: l) = Fr.put b ++ Fr.fl l := rfl
    rw [this,List.length_append,Fr.put_len,List.length_cons,Nat.succ_mul]; omega
theorem recs_len (s : Sk) : (recs s).length ≤ s.t.length + 2 := by
  unfold recs
  have := List.length_filter_le (fun q => !plain q) s.t
  simp only [List.length_cons,List.length_map]; omega
theorem recs_size (s : Sk) (h : s.t.length ≤ 256) : (Fr.fl (recs s)).length ≤ 20000 := by
  have h1 := fl_len (l := recs s) (n := 69) fun b hb => by
    unfold recs at hb
    rcases List.mem_cons.1 hb with rfl | hb
    · rw [stR_len]; omega
    · rcases List.mem_cons.1 hb with rfl | hb
      · rw [liR_len]; omega
      · obtain ⟨q,_,rfl⟩ := List.mem_map.1 hb; exact (leR_len q).2
  have h2 := recs_len s
  have h3 : (recs s).length * (69 + 3) ≤ 258 * 72 := Nat.mul_le_mul_right _ (by omega)
  omega
theorem note_ok {d : Dk} {s : Sk} {r : Bts} (hd : d.Ok) (hs : s.Ok) : (note d s r).1.Ok ∧ (note d s r).2.1.Ok := ⟨hd.app _,by unfold note; dsimp only; split <;> first | exact hs.doR r | exact hs⟩
theorem put_ok {d : Dk} {s : Sk} (hd : d.Ok) (hs : s.Ok) (q : Le) : (put d s q).1.Ok ∧ (put d s q).2.1.Ok := by
  unfold put; split
  · exact ⟨hd,hs⟩
  · split
    · exact ⟨hd,hs⟩
    · exact note_ok hd hs
theorem setState_ok {d : Dk} {s : Sk} (hd : d.Ok) (hs : s.Ok) (n : Int) : (setState d s n).1.Ok ∧ (setState d s n).2.1.Ok := by
  unfold setState; split
  · exact ⟨hd,hs⟩
  · exact note_ok hd hs
theorem setLife_ok {d : Dk} {s : Sk} (hd : d.Ok) (hs : s.Ok) (n : Int) : (setLife d s n).1.Ok ∧ (setLife d s n).2.1.Ok := by
  unfold setLife; split
  · exact ⟨hd,hs⟩
  · exact note_ok hd hs
theorem cutD_ok {d : Dk} (hd : d.Ok) : (cutD d).1.Ok := by
  unfold cutD; split
  · exact hd.swap _
  · exact hd
end Sk
end Go.K
namespace Go.K
def nB (b : UInt8) : List Value := [byteV b]
theorem nB_len (b : UInt8) : (nB b).length = 1 := rfl
theorem nB_enc : Enc nB 1 := ⟨fun _ => rfl,fun _ => rfl⟩
theorem flatB (bs : Bts) : bs.flatMap nB = bs.map byteV := by
  induction bs with
  | nil => rfl
  | cons b bs ih => rw [List.flatMap_cons,List.map_cons,ih]; rfl
theorem Rd.flatB {V : Vw} {H : Hp} {k n : Nat} {v : Value} {bs : Bts} (h : Rd V H k v n (bs.map byteV)) : Rd V H k v n (bs.flatMap nB) := by rw [Go.K.flatB]; exact h
theorem Rd.mapB {V : Vw} {H : Hp} {k n : Nat} {v : Value} {bs : Bts} (h : Rd V H k v n (bs.flatMap nB)) : Rd V H k v n (bs.map byteV) := by rw [Go.K.flatB] at h; exact h
theorem Rd.to {V : Vw} {H : Hp} {k n m : Nat} {v : Value} {xs : List Value} (h : Rd V H k v n xs) (e : n = m) : Rd V H k v m xs := e ▸ h
theorem Ow.mapB {e k n : Nat} {v : Value} {bs : Bts} {q : Sg} (h : Ow e k v n (bs.flatMap nB) q) : Ow e k v n (bs.map byteV) q := by rw [Go.K.flatB] at h; exact h
theorem Ow.flatB {e k n : Nat} {v : Value} {bs : Bts} {q : Sg} (h : Ow e k v n (bs.map byteV) q) : Ow e k v n (bs.flatMap nB) q := by rw [Go.K.flatB]; exact h
structure Rc where
  p : Option Addr
  n : Nat
  c : Nat
  b : Bts
namespace Rc
def v (x : Rc) : Value := .slice x.p x.n x.c
def cell (x : Rc) : List Value := [.slice x.p x.n x.c]
def dflt : Rc := ⟨none,0,0,[]⟩
theorem len (x : Rc) : x.cell.length = 1 := rfl
theorem enc : Enc cell 1 := ⟨fun _ => rfl,fun _ => rfl⟩
def Rs (V : Vw) (xs : List Rc) : Prop := ∀ x,x ∈ xs → Rd V [] 1 (.slice x.p x.n x.c) x.n (x.b.map byteV)
theorem Rs.le {V V2 : Vw} {xs : List Rc} (h : Rs V xs) (k : V.le V2) : Rs V2 xs := fun x hx => (h x hx).le k
theorem Rs.nil (V : Vw) : Rs V [] := fun x h => absurd h List.not_mem_nil
theorem Rs.snoc {V : Vw} {xs : List Rc} {x : Rc} (h : Rs V xs) (k : Rd V [] 1 (.slice x.p x.n x.c) x.n (x.b.map byteV)) : Rs V (xs ++ [x]) := fun y hy => by
  rcases List.mem_append.1 hy with hy | hy
  · exact h y hy
  · obtain rfl := List.mem_singleton.1 hy; exact k
theorem Rs.at {V : Vw} {xs : List Rc} (h : Rs V xs) {i : Nat} (hi : i < xs.length) : Rd V [] 1 (.slice (xs.getD i dflt).p (xs.getD i dflt).n (xs.getD i dflt).c) (xs.getD i dflt).n ((xs.getD i dflt).b.map byteV) :=
  h _ (by rw [List.getD_eq_getElem?_getD,List.getElem?_eq_getElem hi]; exact List.getElem_mem hi)
theorem getD_b (xs : List Rc) (i : Nat) : (xs.map (·.b)).getD i [] = (xs.getD i dflt).b := by
  rw [List.getD_eq_getElem?_getD,List.getD_eq_getElem?_getD,List.getElem?_map]
  cases xs[i]? <;> rfl
end Rc
structure Fx where
  nx : Nat
  rc : Rc
  sg : Sg
namespace Fx
def enc (x : Fx) : List Value := [.int .i64 (x.nx : Int),.slice x.rc.p x.rc.n x.rc.c]
def Own (e : Nat) (x : Fx) : Prop := Ow e 1 (.slice x.rc.p x.rc.n x.rc.c) x.rc.n (x.rc.b.map byteV) x.sg
def last (xs : List Fx) : Nat := (xs.getLast?.map (·.nx)).getD 0
theorem last_snoc (xs : List Fx) (x : Fx) : last (xs ++ [x]) = x.nx := by unfold last; simp
def recs (xs : List Fx) : List Bts := xs.map (·.rc.b)
def rcs (xs : List Fx) : List Rc := xs.map (·.rc)
theorem rcs_snoc (xs : List Fx) (x : Fx) : rcs (xs ++ [x]) = rcs xs ++ [x.rc] := by unfold rcs; simp
theorem rcs_len (xs : List Fx) : (rcs xs).length = xs.length := List.length_map _
theorem recs_snoc (xs : List Fx) (x : Fx) : recs (xs ++ [x]) = recs xs ++ [x.rc.b] := by unfold recs; simp
theorem rs_of {V2 : Vw} {xs : List Fx} {e : Nat} (h : ∀ x,x ∈ xs → Own e x) (hsh : ∀ x,x ∈ xs → ∀ b o,x.sg.lookup b = some o → V2 b = some o) : Rc.Rs V2 (rcs xs) := fun r hr => by
  obtain ⟨x,hx,rfl⟩ := List.mem_map.1 hr
  exact (h x hx).show (hsh x hx)
theorem own_snoc {xs : List Fx} {x : Fx} {e : Nat} (h : ∀ x,x ∈ xs → Own e x) (k : Own e x) : ∀ y,y ∈ xs ++ [x] → Own e y := fun y hy => by
  rcases List.mem_append.1 hy with hy | hy
  · exact h y hy
  · obtain rfl := List.mem_singleton.1 hy; exact k
theorem seg_snoc (xs : List Fx) (x : Fx) : (xs ++ [x]).flatMap sg = xs.flatMap sg ++ x.sg := by simp
theorem map_b (xs : List Fx) : (rcs xs).map (·.b) = recs xs := by unfold recs rcs; simp
end Fx
namespace Fr
theorem put_cells (b : Bts) : ([Value.int .u8 (((UInt8.ofNat (b.length / 256)).toNat : Nat) : Int),.int .u8 (((UInt8.ofNat (b.length % 256)).toNat : Nat) : Int)] ++ b.map byteV) ++ [.int .u8 90] = (put b).map byteV := by
  unfold put; simp [byteV]
theorem u8n {n : Nat} {m : Int} (h : m % 256 = ((n % 256 : Nat) : Int)) : IntKind.u8.wrap m = ((UInt8.ofNat n).toNat : Int) := by
  rw [wrap_u8_mod,h]; simp
theorem sc_more {bs B : Bts} {at_ n nx : Nat} {l : List Bts} (h : Sc bs at_ l) (o : one bs at_ = some n) (hx : nx = at_ + 3 + n) (hB : B = rcd bs at_ n) : Sc bs nx (l ++ [B]) := by subst hx hB; exact .more h o
theorem is90 {b : UInt8} (h : ((b.toNat : Nat) : Int) = 90) : b = 90 := UInt8.toNat_inj.1 (show b.toNat = 90 by omega)
theorem of90 {b : UInt8} (h : b = 90) : ((b.toNat : Nat) : Int) = 90 := by rw [h]; rfl
end Fr
section
variable {C : Cx} {V : Vw} {H : Hp} {L : Sl} {Q : Exit → Act → World → Prop} {ops : Array Oper} {os : List Oper} {ty : TypeId} {pos : String} {aft : Array Edge} {d : Nat}
theorem Run.callF {x : Operand} {l : List Operand} {at_ : Array TypeId} {f : FuncId} {first cap : Array Value} {vs args : List Value} {R : Value → Vw → Hp → Prop}
    (hx : ev L x = some (.func (.func f) first cap)) (hl : evs L l = some vs) (ha : first.toList ++ vs ++ cap.toList = args) (hd : d < C.n) (hc : Does C.P f args V [] R)
    (k : ∀ v V' H',V.le V' → R v V' H' → Run C ops V' (H' ++ H) ((d,v) :: L) os Q) :
    Run C ops V H L (⟨some d,.call { callee := .value x,args := l.toArray,argTypes := at_ },ty,pos,aft,none⟩ :: os) Q :=
  Run.call [] hx hl ha hd hc fun v V' H' hle hR => Run.perm List.perm_append_comm (k v V' H' hle hR)
end
end Go.K
namespace Go.K
open Msg (sl sl_length)
theorem be4_cells {n : Int} : (Msg.be 4 n).map byteV = [.int .u8 (n / 16777216 % 256),.int .u8 (n / 65536 % 256),.int .u8 (n / 256 % 256),.int .u8 (n % 256)] := by
  have e : ∀ z : Int,byteV (UInt8.ofNat (z % 256).toNat) = .int .u8 (z % 256) := fun z => byteV_of (by omega)
  simp only [Msg.be,List.map_cons,List.map_nil,e]
  rw [show (256 : Int) ^ 3 = 16777216 from rfl,show (256 : Int) ^ 2 = 65536 from rfl,show (256 : Int) ^ 1 = 256 from rfl,show (256 : Int) ^ 0 = 1 from rfl,Int.ediv_one]
theorem Le.enc_cells {q : Le} {xs : List Value} (hb : 0 ≤ q.bind ∧ q.bind ≤ 255) (hs : q.client.size ≤ 255) (h : xs = (((((Msg.be 4 q.addr).map byteV ++ [.int .u8 q.bind]) ++ (Le.tl q).flatMap fun n => (Msg.be 6 n).map byteV) ++ [.int .u8 ((q.client.size : Nat) : Int)]) ++ q.client.toList.map byteV)) : xs = (Le.encB q).map byteV := by
  subst h
  have e2 : ∀ l : List Int,(l.flatMap fun n => (Msg.be 6 n).map byteV) = (l.flatMap (Msg.be 6)).map byteV := fun l => by
    induction l with
    | nil => rfl
    | cons x l ih => rw [List.flatMap_cons,List.flatMap_cons,List.map_append,ih]
  unfold Le.encB Le.hdB
  rw [e2,← Msg.be_one hb]
  simp only [List.map_append,List.map_cons,List.append_assoc,List.cons_append,List.nil_append]
  rw [show byteV (UInt8.ofNat q.client.size) = .int .u8 ((q.client.size : Nat) : Int) from by
    have := byteV_of (z := ((q.client.size : Nat) : Int)) (by omega)
    rwa [Int.toNat_natCast] at this]
theorem or_byte32 {a c : Int} (h0 : 0 ≤ a) (h1 : a ≤ 16777215) (c0 : 0 ≤ c) (c1 : c ≤ 255) :
    IntKind.u32.wrap ((BitVec.ofInt IntKind.u32.bits (a * 256) ||| BitVec.ofInt IntKind.u32.bits c).toNat : Int) = a * 256 + c := by
  obtain ⟨n,rfl⟩ := Int.eq_ofNat_of_zero_le h0
  obtain ⟨d,rfl⟩ := Int.eq_ofNat_of_zero_le c0
  have hb : IntKind.u32.bits = 32 := rfl
  rw [hb,BitVec.toNat_or,BitVec.toNat_ofInt,BitVec.toNat_ofInt]
  have e1 : (((n : Int) * 256) % ((2 ^ 32 : Nat) : Int)).toNat = 2 ^ 8 * n := by
    have : ((2 ^ 32 : Nat) : Int) = 4294967296 := rfl
    rw [this]; omega
  have e2 : ((d : Int) % ((2 ^ 32 : Nat) : Int)).toNat = d := by
    have : ((2 ^ 32 : Nat) : Int) = 4294967296 := rfl
    rw [this]; omega
  rw [e1,e2,← Nat.two_pow_add_eq_or_of_lt (by omega)]
  rw [wrap_u32 (by omega)]; omega
theorem shl_byte32 {a : Int} (h0 : 0 ≤ a) (h1 : a ≤ 16777215) : IntKind.u32.wrap (a * 2 ^ min (8 : Int).toNat IntKind.u32.bits) = a * 256 := by
  have e : (2 : Int) ^ min (8 : Int).toNat IntKind.u32.bits = 256 := rfl
  rw [e,wrap_u32 (by omega)]
theorem val_small3 {l : Bts} (h : l.length ≤ 3) : 0 ≤ val l ∧ val l ≤ 16777215 := by
  obtain ⟨h1,h2⟩ := val_bounds l
  have h3 : (256 : Int) ^ l.length ≤ 256 ^ 3 := pow_le256 h
  have h4 : (256 : Int) ^ 3 = 16777216 := rfl
  omega
theorem val_small4 {l : Bts} (h : l.length ≤ 4) : 0 ≤ val l ∧ val l ≤ 4294967295 := by
  obtain ⟨h1,h2⟩ := val_bounds l
  have h3 : (256 : Int) ^ l.length ≤ 256 ^ 4 := pow_le256 h
  have h4 : (256 : Int) ^ 4 = 4294967296 := rfl
  omega
theorem sl_getD {b : Bts} {i j k : Nat} (h : i + k < j) : (sl b i j).getD k 0 = b.getD (i + k) 0 := by
  unfold sl
  rw [List.getD_eq_getElem?_getD,List.getElem?_take,if_pos (by omega),List.getElem?_drop,← List.getD_eq_getElem?_getD]
theorem sl_len (b : Bts) {i j : Nat} (h : j ≤ b.length) : (sl b i j).length = j - i := sl_length b i j h
namespace Le
theorem dcd_ok {b : Bts} (h : 36 ≤ b.length) (hb : b.length ≤ 9223372036854775807) : (dcd b).Ok := by
  have s6 : ∀ i,i + 6 ≤ b.length → 0 ≤ val (sl b i (i + 6)) ∧ val (sl b i (i + 6)) ≤ 281474976710655 := fun i hi => val_small (by rw [sl_len b hi]; omega)
  have s4 := val_small4 (l := sl b 0 4) (by rw [sl_len b (by omega)]; omega)
  have hu := u8_lt (b.getD 4 0)
  have h5 := s6 5 (by omega); have h11 := s6 11 (by omega); have h17 := s6 17 (by omega); have h23 := s6 23 (by omega); have h29 := s6 29 (by omega)
  simp only [Nat.reduceAdd] at h5 h11 h17 h23 h29
  have hc : (dcd b).client.size = b.length - 36 := by unfold dcd; simp [ByteArray.size,sl_length b 36 b.length (Nat.le_refl _)]
  refine ⟨s4,?_,by rw [hc]; omega,?_,?_,?_,?_,?_⟩ <;> (unfold dcd; dsimp only; omega)
end Le
end Go.K
namespace Go.K
theorem Rd.vk {V : Vw} {k n : Nat} {v : Value} {xs : List Value} (h : Rd V [] k v n xs) (hn : 0 < n) : ∃ b o,Kn V [] b o ∧ Rd (VK [(b,o)]) [] k v n xs := by
  obtain ⟨h1,p,c,rfl,h3,h4⟩ := h
  rcases h4 with h4 | ⟨b,off,cs,e,fz,a1,a2,a3⟩
  · omega
  · exact ⟨b,.cells cs e fz,a2,h1,p,c,rfl,h3,.inr ⟨b,off,cs,e,fz,a1,Kn.vk1,a3⟩⟩
end Go.K
namespace Go.K
theorem u8is {b : UInt8} {n : Nat} (hn : n < 256) (h : ((b.toNat : Nat) : Int) = (n : Int)) : b = UInt8.ofNat n := UInt8.toNat_inj.1 (by simp; omega)
theorem u8ne {b : UInt8} {n : Nat} (hn : n < 256) (h : ¬ ((b.toNat : Nat) : Int) = (n : Int)) : b ≠ UInt8.ofNat n := fun e => h (by rw [e]; simp; omega)
namespace Sk
variable {s : Sk} {bs r : Bts} {k : UInt8}
theorem do_lease (hb : bs = k :: r) (h : ((k.toNat : Nat) : Int) = 76) (he : (Le.decE r).2 = 0) : doR s bs = { s with t := (Le.setE s.t (Le.decE r).1).2 } := by
  obtain rfl : k = 76 := u8is (n := 76) (by decide) h
  subst hb; exact doR_lease he
theorem do_leno (hb : bs = k :: r) (h : ((k.toNat : Nat) : Int) = 76) (he : (Le.decE r).2 ≠ 0) : doR s bs = s := by
  obtain rfl : k = 76 := u8is (n := 76) (by decide) h
  subst hb; exact doR_leno he
theorem do_state (hb : bs = k :: r) (h : ((k.toNat : Nat) : Int) = 83) (h1 : r.length = 1) (h2 : (((r.getD 0 0).toNat : Nat) : Int) ≤ 8) : doR s bs = { s with state := ((r.getD 0 0).toNat : Int) } := by
  obtain rfl : k = 83 := u8is (n := 83) (by decide) h
  subst hb; exact doR_state (by decide) ⟨rfl,h1,by omega⟩
theorem do_life (hb : bs = k :: r) (h : ((k.toNat : Nat) : Int) = 70) (h1 : r.length = 4) (h2 : val r ≤ 536870912) : doR s bs = { s with life := val r } := by
  obtain rfl : k = 70 := u8is (n := 70) (by decide) h
  subst hb; exact doR_life (by decide) ⟨rfl,h1,h2⟩
theorem do_no (hb : bs = k :: r) (h : ¬ ((k.toNat : Nat) : Int) = 76) (h1 : ¬ (((k.toNat : Nat) : Int) = 83 ∧ r.length = 1 ∧ (((r.getD 0 0).toNat : Nat) : Int) ≤ 8)) (h2 : ¬ (((k.toNat : Nat) : Int) = 70 ∧ r.length = 4 ∧ val r ≤ 536870912)) : doR s bs = s := by
  subst hb
  refine doR_no (u8ne (n := 76) (by decide) h) (fun ⟨a,b,c⟩ => h1 ⟨by rw [a]; rfl,b,by omega⟩) (fun ⟨a,b,c⟩ => h2 ⟨by rw [a]; rfl,b,c⟩)
theorem stR_cells {n : Int} (h : 0 ≤ n ∧ n ≤ 255) : [Value.int .u8 83,.int .u8 n] = (stR n).map byteV := by
  unfold stR
  simp only [List.map_cons,List.map_nil]
  rw [byteV_of (by omega),show n % 256 = n by omega]; rfl
theorem liR_cells (n : Int) : [Value.int .u8 70,.int .u8 (n / 16777216 % 256),.int .u8 (n / 65536 % 256),.int .u8 (n / 256 % 256),.int .u8 (n % 256)] = (liR n).map byteV := by
  unfold liR
  rw [List.map_cons,be4_cells]; rfl
theorem leR_right {q : Le} (h : Le.right q = true) : leR q = 76 :: Le.encB q := by unfold leR Le.encE; rw [if_pos h]
theorem leR_wrong {q : Le} (h : Le.right q = false) : leR q = [76] := by unfold leR Le.encE; rw [if_neg (by rw [h]; decide)]
theorem note_0 {d : Dk} (h : (d.app (Fr.put r)).2 = 0) : note d s r = ((d.app (Fr.put r)).1,doR s r,0) := by unfold note; rw [if_pos h,h]
theorem note_e {d : Dk} (h : (d.app (Fr.put r)).2 ≠ 0) : note d s r = ((d.app (Fr.put r)).1,s,(d.app (Fr.put r)).2) := by unfold note; rw [if_neg h]
theorem put_wrong {d : Dk} {q : Le} (h : Le.right q = false) : put d s q = (d,s,1) := by unfold put; rw [if_pos h]
theorem put_none {d : Dk} {q : Le} (h : Le.right q = true) (k : (Le.getE s.t q.addr).2 ≠ 0) : put d s q = (d,s,(Le.getE s.t q.addr).2) := by unfold put; rw [if_neg (by rw [h]; decide),if_pos k]
theorem put_note {d : Dk} {q : Le} (h : Le.right q = true) (k : (Le.getE s.t q.addr).2 = 0) : put d s q = note d s (leR q) := by unfold put; rw [if_neg (by rw [h]; decide),if_neg (by omega)]
theorem st_wrong {d : Dk} {n : Int} (h : n < 0 ∨ n > 8) : setState d s n = (d,s,1) := by unfold setState; rw [if_pos h]
theorem st_note {d : Dk} {n : Int} (h : ¬ (n < 0 ∨ n > 8)) : setState d s n = note d s (stR n) := by unfold setState; rw [if_neg h]
theorem li_wrong {d : Dk} {n : Int} (h : n < 0 ∨ n > 536870912) : setLife d s n = (d,s,1) := by unfold setLife; rw [if_pos h]
theorem li_note {d : Dk} {n : Int} (h : ¬ (n < 0 ∨ n > 536870912)) : setLife d s n = note d s (liR n) := by unfold setLife; rw [if_neg h]
theorem cut_no {d : Dk} (h : ¬ (Fr.scan d.bs).2 < d.bs.length) : cutD d = (d,0) := by unfold cutD; rw [if_neg h]
theorem cut_yes {d : Dk} (h : (Fr.scan d.bs).2 < d.bs.length) : cutD d = d.swap (d.bs.take (Fr.scan d.bs).2) := by unfold cutD; rw [if_pos h]
theorem recs_yes {l : List Le} {i : Nat} (hi : i < l.length) (h : plain (l.getD i Le.dflt) = false) : (((l.take (i + 1)).filter fun q => !plain q).map leR) = (((l.take i).filter fun q => !plain q).map leR) ++ [leR (l.getD i Le.dflt)] := by
  rw [take_succ_getD l i Le.dflt hi,List.filter_append,List.filter_cons_of_pos (by rw [h]; rfl),List.map_append]; rfl
theorem recs_no {l : List Le} {i : Nat} (hi : i < l.length) (h : plain (l.getD i Le.dflt) = true) : (((l.take (i + 1)).filter fun q => !plain q).map leR) = (((l.take i).filter fun q => !plain q).map leR) := by
  rw [take_succ_getD l i Le.dflt hi,List.filter_append,List.filter_cons_of_neg (by rw [h]; decide),List.filter_nil,List.append_nil]
end Sk
end Go.K
namespace Go.K
theorem Le.decE_size (r : Bts) : (Le.decE r).1.client.size ≤ r.length := by
  unfold Le.decE
  split
  · exact Nat.zero_le _
  · unfold Le.dcd
    simp only [ByteArray.size,List.size_toArray]
    unfold Msg.sl
    rw [List.length_take,List.length_drop]; omega
end Go.K
namespace Go.K
theorem Le.dflt_ok : Le.dflt.Ok := by
  refine ⟨?_,?_,?_,?_,?_,?_,?_,?_⟩ <;> decide
theorem Le.decE_oks {r : Bts} (hr : r.length ≤ 9223372036854775807) : (Le.decE r).1.Ok := by
  unfold Le.decE
  split
  · exact Le.dflt_ok
  · rename_i h; exact Le.dcd_ok (by omega) hr
namespace Sk
def Os (s : Sk) : Prop := ∀ x,x ∈ s.t → x.Ok
theorem Os.set {s : Sk} (h : s.Os) {q : Le} (hq : q.Ok) : ∀ x,x ∈ (Le.setE s.t q).2 → x.Ok := fun x hx => by
  unfold Le.setE at hx
  split at hx
  · exact h x hx
  · split at hx
    · exact h x hx
    · obtain ⟨y,hy,e⟩ := List.mem_map.1 (show x ∈ Le.put s.t q from hx)
      split at e
      · rw [← e]; exact hq
      · rw [← e]; exact h y hy
theorem Os.doR {s : Sk} (h : s.Os) {b : Bts} (hb : b.length ≤ 1000000) : (doR s b).Os := by
  cases b with
  | nil => exact h
  | cons k r =>
    have hr : r.length ≤ 9223372036854775807 := by rw [List.length_cons] at hb; omega
    show (doK s k r).Os
    unfold doK
    split
    · split
      · exact h.set (Le.decE_oks hr)
      · exact h
    · split
      · exact h
      · split
        · exact h
        · exact h
theorem Os.at {s : Sk} (h : s.Os) {i : Nat} (hi : i < s.t.length) : (s.t.getD i Le.dflt).Ok := h _ (Le.mem_getD hi)
theorem Os.new {as : List Int} (h : ∀ a,a ∈ as → 0 ≤ a ∧ a ≤ 4294967295) : (new as).Os := fun x hx => by
  obtain ⟨a,ha,rfl⟩ := List.mem_map.1 (show x ∈ Le.new as from hx)
  exact ⟨h a ha,⟨by show (-9223372036854775808 : Int) ≤ 0; decide,by show (0 : Int) ≤ _; decide⟩,by show 0 ≤ _; exact Nat.zero_le _,⟨by show (-9223372036854775808 : Int) ≤ 0; decide,by show (0 : Int) ≤ _; decide⟩,⟨by show (-9223372036854775808 : Int) ≤ 0; decide,by show (0 : Int) ≤ _; decide⟩,⟨by show (-9223372036854775808 : Int) ≤ 0; decide,by show (0 : Int) ≤ _; decide⟩,⟨by show (-9223372036854775808 : Int) ≤ 0; decide,by show (0 : Int) ≤ _; decide⟩,⟨by show (-9223372036854775808 : Int) ≤ 0; decide,by show (0 : Int) ≤ _; decide⟩⟩
theorem Os.replay {s : Sk} (h : s.Os) {l : List Bts} (hl : ∀ b,b ∈ l → b.length ≤ 1000000) : (replay s l).Os := by
  unfold Sk.replay
  induction l generalizing s with
  | nil => exact h
  | cons b l ih => exact ih (h.doR (hl b (List.mem_cons_self ..))) fun z hz => hl z (List.mem_cons_of_mem _ hz)
theorem okR_le {l : List Bts} (h : ∀ b,b ∈ l → Fr.okR b) : ∀ b,b ∈ l → b.length ≤ 1000000 := fun b hb => by have := (h b hb).2; omega
theorem Os.note {d : Dk} {s : Sk} (h : s.Os) {r : Bts} (hr : Fr.okR r) : (note d s r).2.1.Os := by
  unfold Sk.note; dsimp only
  split
  · exact h.doR (by have := hr.2; omega)
  · exact h
theorem Os.put {d : Dk} {s : Sk} (h : s.Os) (q : Le) : (put d s q).2.1.Os := by
  unfold Sk.put
  split
  · exact h
  · split
    · exact h
    · exact h.note (leR_ok q)
theorem Os.setState {d : Dk} {s : Sk} (h : s.Os) (n : Int) : (setState d s n).2.1.Os := by
  unfold Sk.setState
  split
  · exact h
  · exact h.note (stR_ok n)
theorem Os.setLife {d : Dk} {s : Sk} (h : s.Os) (n : Int) : (setLife d s n).2.1.Os := by
  unfold Sk.setLife
  split
  · exact h
  · exact h.note (liR_ok n)
theorem recs_eq (s : Sk) : recs s = stR s.state :: liR s.life :: (((s.t.take s.t.length).filter fun q => !plain q).map leR) := by rw [List.take_of_length_le (Nat.le_refl _)]; rfl
end Sk
end Go.K
namespace Go.K
namespace Sk
def opened (rs : List Rg) (bs : Bts) : Sk := replay (new (Rg.adr (Rg.pool rs).1)) (Fr.scan bs).1
end Sk
end Go.K
namespace Go.K
theorem Sk.few_recs {d : Dk} (h : d.Ok) {n : Nat} (e : n = (Fr.scan d.bs).1.length) : n ≤ 1000000 := by
  have h1 := Fr.scan_few d.bs
  have h2 := h.b
  have h3 := h.r2
  omega
end Go.K
namespace Go.K
abbrev cS (T b l t : Nat) (s : Sk) : Sg := [(b,.cells #[.pointer (some ⟨l,0,none⟩),.pointer (some ⟨t,0,none⟩),.int .i64 s.state,.int .i64 s.life] T (0,0))]
end Go.K
