/- Stores that last, in plain Lean: what their records make again; crashes; other pools.
Conditions: none; no program in sight. -/
import Derived.Test.YtinkencbkcciiaaGreatDE
set_option linter.unusedSimpArgs false
set_option linter.unusedVariables false
set_option linter.unusedSectionVars false
namespace Go.K
namespace Le
def Wf (as : List Int) (l : List Le) : Prop := l.map (·.addr) = as ∧ ∀ x,x ∈ l → x = bare x.addr 0 0 ∨ right x = true
theorem wf_new (as : List Int) : Wf as (new as) := by
  unfold new
  refine ⟨?_,fun x hx => ?_⟩
  · rw [List.map_map]
    conv => rhs; rw [← List.map_id as]
    exact List.map_congr_left fun a _ => rfl
  · obtain ⟨a,_,rfl⟩ := List.mem_map.1 hx; exact .inl rfl
theorem Wf.put {as : List Int} {l : List Le} (h : Wf as l) {x : Le} (hr : right x = true) : Wf as (put l x) := by
  unfold Le.put
  refine ⟨?_,fun y hy => ?_⟩
  · rw [List.map_map,← h.1]
    refine List.map_congr_left fun y _ => ?_
    show (if y.addr = x.addr then x else y).addr = y.addr
    split
    · rename_i e; exact e.symm
    · rfl
  · obtain ⟨z,hz,e⟩ := List.mem_map.1 hy
    split at e
    · rw [← e]; exact .inr hr
    · rw [← e]; exact h.2 z hz
theorem Wf.setE {as : List Int} {l : List Le} (h : Wf as l) (x : Le) : Wf as (setE l x).2 := by
  unfold Le.setE
  split
  · exact h
  · rename_i hr
    split
    · exact h
    · exact h.put (by simpa using hr)
theorem get_cons (y : Le) (l : List Le) (a : Int) : get (y :: l) a = if y.addr = a then some y else get l a := by
  unfold get
  by_cases e : y.addr = a
  · rw [List.find?_cons_of_pos (by simp [e]),if_pos e]
  · rw [List.find?_cons_of_neg (by simp [e]),if_neg e]
theorem get_addr {l : List Le} {a : Int} {x : Le} (h : get l a = some x) : x.addr = a := by
  have := List.find?_some h
  simpa using this
theorem get_in {l : List Le} {a : Int} : (get l a).isSome = true ↔ a ∈ l.map (·.addr) := by
  rw [get_some,List.any_eq_true,List.mem_map]
  exact ⟨fun ⟨y,h1,h2⟩ => ⟨y,h1,by simpa using h2⟩,fun ⟨y,h1,h2⟩ => ⟨y,h1,by simp [h2]⟩⟩
theorem get_put (l : List Le) (x : Le) (a : Int) : get (Le.put l x) a = if a = x.addr then (get l a).map (fun _ => x) else get l a := by
  induction l with
  | nil => unfold Le.put; split <;> rfl
  | cons y l ih =>
    rw [show Le.put (y :: l) x = (if y.addr = x.addr then x else y) :: Le.put l x from rfl,get_cons,get_cons,ih]
    by_cases e : y.addr = x.addr
    · rw [if_pos e]
      by_cases h : a = x.addr
      · rw [if_pos h.symm,if_pos h,if_pos (by omega)]; rfl
      · rw [if_neg (fun q => h q.symm),if_neg h,if_neg h,if_neg (by omega)]
    · rw [if_neg e]
      by_cases h : a = x.addr
      · rw [if_neg (by omega),if_pos h,if_pos h,if_neg (by omega)]
      · rw [if_neg h,if_neg h]
theorem get_setE (l : List Le) (x : Le) (a : Int) : get (Le.setE l x).2 a = if right x = true ∧ a = x.addr then (get l a).map (fun _ => x) else get l a := by
  by_cases hr : right x = true
  · cases hg : get l x.addr with
    | none =>
      rw [setE_none hr hg]
      split
      · rename_i h; rw [h.2,hg]; rfl
      · rfl
    | some y =>
      rw [setE_ok hr hg]
      show get (Le.put l x) a = _
      rw [get_put]
      by_cases h : a = x.addr
      · rw [if_pos h,if_pos ⟨hr,h⟩]
      · rw [if_neg h,if_neg fun q => h q.2]
  · rw [setE_wrong (by simpa using hr),if_neg fun q => hr q.1]
end Le
namespace Sk
theorem recs_wf {pre suf : List Le} : ((pre ++ suf).map (·.addr)).Pairwise (· < ·) → (∀ y,y ∈ suf → y = Le.bare y.addr 0 0 ∨ Le.right y = true) →
    (suf.filter fun q => !plain q).foldl (fun t q => (Le.setE t q).2) (pre ++ suf.map fun y => Le.bare y.addr 0 0) = pre ++ suf := by
  induction suf generalizing pre with
  | nil => intro _ _; simp
  | cons y suf ih =>
    intro hp hw
    have ih := ih (pre := pre ++ [y]) (by simpa using hp) fun z hz => hw z (List.mem_cons_of_mem _ hz)
    simp only [List.append_assoc,List.singleton_append] at ih
    by_cases h : plain y = true
    · have e : y = Le.bare y.addr 0 0 := Le.same_eq.1 h
      rw [List.filter_cons_of_neg (by rw [h]; decide),List.map_cons,← e]; exact ih
    · have hr : Le.right y = true := (hw y (List.mem_cons_self ..)).resolve_left fun e => h (Le.same_eq.2 e)
      rw [List.filter_cons_of_pos (by simpa using h),List.map_cons,List.foldl_cons]
      have hg : (Le.get (pre ++ Le.bare y.addr 0 0 :: suf.map fun y => Le.bare y.addr 0 0) y.addr).isSome = true := Le.get_in.2 (by simp [Le.bare])
      obtain ⟨z,hz⟩ := Option.isSome_iff_exists.1 hg
      rw [Le.setE_ok hr hz]
      have e : Le.put (pre ++ Le.bare y.addr 0 0 :: suf.map fun y => Le.bare y.addr 0 0) y = pre ++ y :: suf.map fun y => Le.bare y.addr 0 0 := by
        rw [List.map_append,List.pairwise_append] at hp
        obtain ⟨_,hp2,hp3⟩ := hp
        rw [List.map_cons,List.pairwise_cons] at hp2
        have e1 : Le.put pre y = pre := Le.put_same fun z hz => by have := hp3 z.addr (List.mem_map_of_mem hz) y.addr (by simp); omega
        have e2 : Le.put (suf.map fun y => Le.bare y.addr 0 0) y = suf.map fun y => Le.bare y.addr 0 0 := Le.put_same fun z hz => by
          obtain ⟨u,hu,rfl⟩ := List.mem_map.1 hz
          have := hp2.1 u.addr (List.mem_map_of_mem hu)
          show u.addr ≠ y.addr
          omega
        unfold Le.put at e1 e2 ⊢
        rw [List.map_append,e1,List.map_cons,e2]
        show pre ++ (if (Le.bare y.addr 0 0).addr = y.addr then y else _) :: _ = _
        rw [if_pos (show (Le.bare y.addr 0 0).addr = y.addr from rfl)]
      rw [e]; exact ih
theorem doR_leR {s : Sk} {q : Le} (hr : Le.right q = true) (ha : 0 ≤ q.addr ∧ q.addr ≤ 4294967295) : doR s (leR q) = { s with t := (Le.setE s.t q).2 } := by
  rw [leR_right hr,doR_lease (by rw [Le.decE_enc hr ha]),Le.decE_enc hr ha]
theorem replay_le {l : List Le} : ∀ {s : Sk},(∀ q,q ∈ l → Le.right q = true ∧ 0 ≤ q.addr ∧ q.addr ≤ 4294967295) → replay s (l.map leR) = { s with t := l.foldl (fun t q => (Le.setE t q).2) s.t } := by
  induction l with
  | nil => intro s _; rfl
  | cons q l ih =>
    intro s h
    have h1 := h q (List.mem_cons_self ..)
    show replay (doR s (leR q)) (l.map leR) = _
    rw [doR_leR h1.1 h1.2,ih fun z hz => h z (List.mem_cons_of_mem _ hz)]; rfl
theorem doR_stR {s : Sk} {n : Int} (h : 0 ≤ n ∧ n ≤ 8) : doR s (stR n) = { s with state := n } := by
  unfold stR
  have e : (([UInt8.ofNat (n % 256).toNat] : Bts).getD 0 0).toNat = n.toNat := by
    show (UInt8.ofNat (n % 256).toNat).toNat = _
    simp; omega
  rw [doR_state (by decide) ⟨rfl,rfl,by rw [e]; omega⟩,e]
  have : ((n.toNat : Nat) : Int) = n := by omega
  rw [this]
theorem doR_liR {s : Sk} {n : Int} (h : 0 ≤ n ∧ n ≤ 536870912) : doR s (liR n) = { s with life := n } := by
  unfold liR
  have e : val (Msg.be 4 n) = n := by rw [Msg.val_be_mod]; omega
  rw [doR_life (by decide) ⟨rfl,Msg.be_length 4 n,by rw [e]; exact h.2⟩,e]
structure Pl (as : List Int) : Prop where
  up : as.Pairwise (· < ·)
  few : as.length ≤ 256
  in_ : ∀ a,a ∈ as → 0 ≤ a ∧ a ≤ 4294967295
theorem pool_pl {rs : List Rg} (h : (Rg.pool rs).2 = 0) (hok : Rg.Oks rs) : Pl (Rg.adr (Rg.pool rs).1) := by
  obtain ⟨hc,h2⟩ := Rg.pool_can h
  have h1 := Rg.cnt_adr hc.1
  refine ⟨Rg.adr_up hc,by omega,fun a ha => ?_⟩
  obtain ⟨r,hr,h1,h2⟩ := Rg.mem_adr.1 ha
  have := (Rg.pool_oks hok r hr).all
  omega
structure Wf (as : List Int) (s : Sk) : Prop where
  t : Le.Wf as s.t
  st : 0 ≤ s.state ∧ s.state ≤ 8
  li : 0 ≤ s.life ∧ s.life ≤ 536870912
theorem wf_new (as : List Int) : (new as).Wf as := ⟨Le.wf_new as,⟨Int.le_refl _,show (0 : Int) ≤ 8 by decide⟩,⟨Int.le_refl _,show (0 : Int) ≤ 536870912 by decide⟩⟩
theorem Wf.doR {as : List Int} {s : Sk} (h : s.Wf as) (b : Bts) : (doR s b).Wf as := by
  cases b with
  | nil => exact h
  | cons k r =>
    show (doK s k r).Wf as
    unfold doK
    split
    · split
      · exact ⟨h.t.setE _,h.st,h.li⟩
      · exact h
    · split
      · rename_i c; exact ⟨h.t,by show 0 ≤ (((r.getD 0 0).toNat : Nat) : Int) ∧ (((r.getD 0 0).toNat : Nat) : Int) ≤ 8; omega,h.li⟩
      · split
        · rename_i c; exact ⟨h.t,h.st,(val_bounds r).1,c.2.2⟩
        · exact h
theorem Wf.replay {as : List Int} : ∀ (l : List Bts) {s : Sk},s.Wf as → (replay s l).Wf as
  | [],_,h => h
  | b :: l,_,h => Wf.replay l (h.doR b)
theorem replay_recs {as : List Int} (hp : Pl as) {s : Sk} (h : s.Wf as) : replay (new as) (recs s) = s := by
  have e : replay (new as) (recs s) = replay (doR (doR (new as) (stR s.state)) (liR s.life)) ((s.t.filter fun q => !plain q).map leR) := rfl
  rw [e,doR_stR h.st,doR_liR h.li,replay_le fun q hq => ?_]
  · have hn : Le.new as = s.t.map fun y => Le.bare y.addr 0 0 := by
      rw [← h.t.1]; unfold Le.new; rw [List.map_map]; rfl
    show ({ t := _,state := s.state,life := s.life } : Sk) = s
    have h2 := recs_wf (pre := []) (suf := s.t) (by rw [List.nil_append,h.t.1]; exact hp.up) h.t.2
    rw [List.nil_append,← hn] at h2
    show ({ t := List.foldl _ (Le.new as) _,state := s.state,life := s.life } : Sk) = s
    rw [h2]; rfl
  · obtain ⟨h1,h2⟩ := List.mem_filter.1 hq
    refine ⟨(h.t.2 q h1).resolve_left fun e => ?_,hp.in_ _ (by rw [← h.t.1]; exact List.mem_map_of_mem h1)⟩
    rw [show plain q = true from Le.same_eq.2 e] at h2; cases h2
theorem agree {as bs : List Int} (l : List Bts) : ∀ {s u : Sk},(s.state = u.state ∧ s.life = u.life ∧ ∀ a x y,Le.get s.t a = some x → Le.get u.t a = some y → x = y) →
    (replay s l).state = (replay u l).state ∧ (replay s l).life = (replay u l).life ∧ ∀ a x y,Le.get (replay s l).t a = some x → Le.get (replay u l).t a = some y → x = y := by
  induction l with
  | nil => intro s u h; exact h
  | cons b l ih =>
    intro s u h
    refine ih (s := doR s b) (u := doR u b) ?_
    cases b with
    | nil => exact h
    | cons k r =>
      show (doK s k r).state = (doK u k r).state ∧ (doK s k r).life = (doK u k r).life ∧ ∀ a x y,Le.get (doK s k r).t a = some x → Le.get (doK u k r).t a = some y → x = y
      unfold doK
      split
      · split
        · refine ⟨h.1,h.2.1,fun a x y hx hy => ?_⟩
          have hx : Le.get (Le.setE s.t (Le.decE r).1).2 a = some x := hx
          have hy : Le.get (Le.setE u.t (Le.decE r).1).2 a = some y := hy
          rw [Le.get_setE] at hx hy
          split at hx
          · rename_i c
            rw [if_pos c] at hy
            cases h1 : Le.get s.t a with
            | none => rw [h1] at hx; cases hx
            | some x0 =>
              cases h2 : Le.get u.t a with
              | none => rw [h2] at hy; cases hy
              | some y0 => rw [h1] at hx; rw [h2] at hy; cases hx; cases hy; rfl
          · rename_i c
            rw [if_neg c] at hy
            exact h.2.2 a x y hx hy
        · exact h
      · split
        · exact ⟨rfl,h.2.1,h.2.2⟩
        · split
          · exact ⟨h.1,rfl,h.2.2⟩
          · exact h
theorem agree_new {as bs : List Int} (l : List Bts) : (replay (new as) l).state = (replay (new bs) l).state ∧ (replay (new as) l).life = (replay (new bs) l).life ∧ ∀ a x y,Le.get (replay (new as) l).t a = some x → Le.get (replay (new bs) l).t a = some y → x = y := by
  refine agree (as := as) (bs := bs) l ⟨rfl,rfl,fun a x y hx hy => ?_⟩
  have h1 := Le.get_addr hx
  have h2 := Le.get_addr hy
  obtain ⟨a1,_,rfl⟩ := List.mem_map.1 (show x ∈ Le.new as from List.mem_of_find?_eq_some hx)
  obtain ⟨a2,_,rfl⟩ := List.mem_map.1 (show y ∈ Le.new bs from List.mem_of_find?_eq_some hy)
  have e1 : a1 = a := h1
  have e2 : a2 = a := h2
  rw [e1,e2]
structure Inv (as : List Int) (d : Dk) (s : Sk) (K : List Bts) : Prop where
  ok : d.Ok
  inn : d.inn = -1
  room : 20000 ≤ d.room
  bs : d.bs = Fr.fl K
  rok : ∀ b,b ∈ K → Fr.okR b
  s : s = replay (new as) K
theorem app_at {d : Dk} (h : d.inn = -1) (b : Bts) : d.app b = (if (((d.bs.length + b.length : Nat)) : Int) > d.room then (d,3) else ({ d with bs := d.bs ++ b },0)) := by
  have hd : Dk.dec d = d := Dk.dec_neg (by omega)
  unfold Dk.app
  split
  · rename_i hn; rw [Dk.change_full (by omega) hn,hd]
  · rename_i hn; rw [Dk.change_ok0 (by omega) hn,hd]
theorem Inv.scan {as : List Int} {d : Dk} {s : Sk} {K : List Bts} (h : Inv as d s K) : Fr.scan d.bs = (K,d.bs.length) := by rw [h.bs]; exact Fr.scan_fl h.rok
theorem Inv.cut {as : List Int} {d : Dk} {s : Sk} {K : List Bts} (h : Inv as d s K) : cutD d = (d,0) := cut_no (by rw [h.scan]; exact Nat.lt_irrefl _)
theorem Inv.open_ {as : List Int} {d : Dk} {s : Sk} {K : List Bts} (h : Inv as d s K) {rs : List Rg} : opened rs (cutD d).1.bs = replay (new (Rg.adr (Rg.pool rs).1)) K := by
  unfold opened; rw [h.cut,h.scan]
theorem Inv.wf {as : List Int} {d : Dk} {s : Sk} {K : List Bts} (h : Inv as d s K) : s.Wf as := by rw [h.s]; exact Wf.replay K (wf_new as)
theorem Inv.note {as : List Int} {d : Dk} {s : Sk} {K : List Bts} (h : Inv as d s K) {r : Bts} (hr : Fr.okR r) : (note d s r).1.lasts = d.lasts ∧ ∃ R,Inv as (note d s r).1 (note d s r).2.1 (K ++ R) ∧ (R = [] ∨ R = [r]) := by
  have ho := h.ok.app (Fr.put r)
  unfold Sk.note; dsimp only
  rw [app_at h.inn] at ho ⊢
  split
  · rename_i c
    refine ⟨rfl,[],?_,.inl rfl⟩
    rw [if_neg (show ¬ ((3 : Int) = 0) by decide),List.append_nil]
    exact h
  · rename_i c
    rw [if_neg c] at ho
    refine ⟨rfl,[r],?_,.inr rfl⟩
    rw [if_pos (show (0 : Int) = 0 from rfl)]
    exact ⟨ho,h.inn,h.room,by show d.bs ++ Fr.put r = _; rw [Fr.fl_snoc,h.bs],fun b hb => by
      rcases List.mem_append.1 hb with hb | hb
      · exact h.rok b hb
      · rw [List.mem_singleton.1 hb]; exact hr,by rw [replay_snoc,← h.s]⟩
theorem Inv.stay {as : List Int} {d : Dk} {s : Sk} {K : List Bts} (h : Inv as d s K) : d.lasts = d.lasts ∧ ∃ R,Inv as d s (K ++ R) ∧ (R = [] ∨ ∃ r,R = [r]) := ⟨rfl,[],by rw [List.append_nil]; exact h,.inl rfl⟩
theorem Inv.step {as : List Int} {d : Dk} {s : Sk} {K : List Bts} (h : Inv as d s K) {x : S13} (hx : 0 ≤ x.k ∧ x.k ≤ 2) : (stp d s x).1.lasts = d.lasts ∧ ∃ R,Inv as (stp d s x).1 (stp d s x).2 (K ++ R) ∧ (R = [] ∨ ∃ r,R = [r]) := by
  have note : ∀ {r : Bts},Fr.okR r → (Sk.note d s r).1.lasts = d.lasts ∧ ∃ R,Inv as (Sk.note d s r).1 (Sk.note d s r).2.1 (K ++ R) ∧ (R = [] ∨ ∃ r,R = [r]) := fun hr => by
    obtain ⟨h1,R,h2,h3⟩ := h.note hr
    exact ⟨h1,R,h2,h3.imp id fun e => ⟨_,e⟩⟩
  rcases (show x.k = 0 ∨ x.k = 1 ∨ x.k = 2 by omega) with e | e | e
  · rw [stp0 e]
    unfold Sk.put
    split
    · exact h.stay
    · split
      · exact h.stay
      · exact note (leR_ok _)
  · rw [stp1 e]
    unfold Sk.setState
    split
    · exact h.stay
    · exact note (stR_ok _)
  · rw [stp2 e]
    unfold Sk.setLife
    split
    · exact h.stay
    · exact note (liR_ok _)
theorem sync_at {d : Dk} (h : d.inn = -1) (hr : 20000 ≤ d.room) : d.sync = ({ d with lasts := d.bs.length },0) := by
  have hd : Dk.dec d = d := Dk.dec_neg (by omega)
  unfold Dk.sync
  rw [Dk.change_ok0 (by omega) (by omega),hd]
theorem swap_at {d : Dk} (h : d.inn = -1) {b : Bts} (hb : ((b.length : Nat) : Int) ≤ d.room) : d.swap b = ({ d with bs := b,lasts := b.length },0) := by
  have hd : Dk.dec d = d := Dk.dec_neg (by omega)
  unfold Dk.swap
  rw [Dk.change_ok0 (by omega) (by omega),hd]
theorem Inv.sync {as : List Int} {d : Dk} {s : Sk} {K : List Bts} (h : Inv as d s K) : Inv as d.sync.1 s K ∧ d.sync.1.lasts = d.sync.1.bs.length ∧ d.sync.2 = 0 := by
  have ho := h.ok.sync
  rw [sync_at h.inn h.room] at ho ⊢
  exact ⟨⟨ho,h.inn,h.room,h.bs,h.rok,h.s⟩,rfl,rfl⟩
theorem Inv.comp {as : List Int} (hp : Pl as) {d : Dk} {s : Sk} {K : List Bts} (h : Inv as d s K) : Inv as (compact d s).1 s (recs s) ∧ (compact d s).1.lasts = (compact d s).1.bs.length ∧ (compact d s).2 = 0 := by
  have hw := h.wf
  have hl : s.t.length ≤ 256 := by rw [← List.length_map (f := fun x : Le => x.addr),hw.t.1]; exact hp.few
  have hz := recs_size s hl
  have hr := h.room
  have ho : (compact d s).1.Ok := h.ok.swap _
  unfold compact at ho ⊢
  rw [swap_at h.inn (by omega)] at ho ⊢
  exact ⟨⟨ho,h.inn,h.room,rfl,recs_ok s,(replay_recs hp hw).symm⟩,rfl,rfl⟩
theorem Inv.step2 {as : List Int} (hp : Pl as) {d : Dk} {s : Sk} {K : List Bts} (h : Inv as d s K) {x : S13} (hx : 3 ≤ x.k ∧ x.k ≤ 4) : ∃ K',Inv as (stp d s x).1 (stp d s x).2 K' ∧ (stp d s x).1.lasts = (stp d s x).1.bs.length := by
  rcases (show x.k = 3 ∨ x.k = 4 by omega) with e | e
  · rw [stp3 e]; exact ⟨K,h.sync.1,h.sync.2.1⟩
  · rw [stp4 e]; exact ⟨_,(h.comp hp).1,(h.comp hp).2.1⟩
theorem Inv.steps {as : List Int} (hp : Pl as) {d : Dk} {s : Sk} {K : List Bts} (h : Inv as d s K) {x : S13} (hx : 0 ≤ x.k ∧ x.k ≤ 4) : ∃ K',Inv as (stp d s x).1 (stp d s x).2 K' := by
  by_cases c : x.k ≤ 2
  · obtain ⟨_,R,h2,_⟩ := h.step ⟨hx.1,c⟩; exact ⟨_,h2⟩
  · obtain ⟨K',h2,_⟩ := h.step2 hp (x := x) ⟨by omega,hx.2⟩; exact ⟨K',h2⟩
theorem stp_room {d : Dk} {s : Sk} {x : S13} : (stp d s x).1.room = d.room := by
  have hn : ∀ r,(note d s r).1.room = d.room := fun r => Dk.app_room d _
  unfold stp
  split
  · unfold put; split
    · rfl
    · split
      · rfl
      · exact hn _
  split
  · unfold setState; split
    · rfl
    · exact hn _
  split
  · unfold setLife; split
    · rfl
    · exact hn _
  split
  · exact Dk.sync_room d
  split
  · exact Dk.swap_room d _
  split
  · rfl
  · exact cut_room _
theorem new_inv {as : List Int} {room : Int} (h1 : 20000 ≤ room) (h2 : room ≤ 1048576) : Inv as (Dk.new room) (new as) [] := ⟨Dk.new_ok (by omega) h2,rfl,h1,rfl,fun b h => absurd h List.not_mem_nil,rfl⟩
def Lst (as : List Int) (d : Dk) (s : Sk) (M : List Bts) : Prop := ∃ K0 R,Inv as d s (K0 ++ R) ∧ d.lasts = (Fr.fl K0).length ∧ ∀ j,j ≤ R.length → Fr.fl (K0 ++ R.take j) ∈ M
theorem Lst.step {as : List Int} {d : Dk} {s : Sk} {M : List Bts} (h : Lst as d s M) {x : S13} (hx : 0 ≤ x.k ∧ x.k ≤ 2) : Lst as (stp d s x).1 (stp d s x).2 (M ++ [(stp d s x).1.bs]) := by
  obtain ⟨K0,R,h1,h2,h3⟩ := h
  obtain ⟨e1,R2,i2,hR⟩ := h1.step hx
  rw [List.append_assoc] at i2
  refine ⟨K0,R ++ R2,i2,by rw [e1]; exact h2,fun j hj => ?_⟩
  by_cases c : j ≤ R.length
  · rw [List.take_append_of_le_length c]; exact List.mem_append_left _ (h3 j c)
  · have : R2.length ≤ 1 := by rcases hR with rfl | ⟨r,rfl⟩ <;> simp
    rw [List.length_append] at hj
    rw [List.take_of_length_le (by rw [List.length_append]; omega),← i2.bs]
    exact List.mem_append_right _ (List.mem_singleton.2 rfl)
theorem Lst.step2 {as : List Int} (hp : Pl as) {d : Dk} {s : Sk} {M : List Bts} (h : Lst as d s M) {x : S13} (hx : 3 ≤ x.k ∧ x.k ≤ 4) : Lst as (stp d s x).1 (stp d s x).2 [(stp d s x).1.bs] := by
  obtain ⟨K0,R,h1,_,_⟩ := h
  obtain ⟨K',i2,e2⟩ := h1.step2 hp hx
  refine ⟨K',[],by rw [List.append_nil]; exact i2,by rw [e2,i2.bs],fun j hj => ?_⟩
  rw [List.take_nil,List.append_nil,← i2.bs]; exact List.mem_singleton.2 rfl
theorem take_fl : ∀ (R : List Bts) (n : Nat),n ≤ (Fr.fl R).length → (n = (Fr.fl R).length) ∨ ∃ j y,j < R.length ∧ (Fr.fl R).take n = Fr.fl (R.take j) ++ y ∧ y.length < (Fr.put (R.getD j [])).length ∧ y = (Fr.put (R.getD j [])).take y.length := fun R => by
  induction R with
  | nil => intro n hn; left; exact Nat.le_zero.1 hn
  | cons b R ih =>
    intro n hn
    have e : Fr.fl (b :: R) = Fr.put b ++ Fr.fl R := rfl
    rw [e,List.length_append] at hn
    by_cases c : n < (Fr.put b).length
    · right
      refine ⟨0,(Fr.put b).take n,by simp,?_,?_,?_⟩
      · rw [e,List.take_append_of_le_length (by omega)]; rfl
      · show ((Fr.put b).take n).length < (Fr.put b).length; rw [List.length_take]; omega
      · show _ = (Fr.put b).take _; rw [List.length_take,Nat.min_eq_left (by omega)]
    · rcases ih (n - (Fr.put b).length) (by omega) with h | ⟨j,y,h1,h2,h3,h4⟩
      · left; rw [e,List.length_append]; omega
      · right
        refine ⟨j + 1,y,by simpa using h1,?_,by simpa using h3,by simpa using h4⟩
        rw [e,List.take_append,List.take_of_length_le (by omega),h2,List.take_succ_cons,← List.append_assoc]; rfl
theorem cut_fl {K : List Bts} (h : ∀ b,b ∈ K → Fr.okR b) {n m : Nat} (hn : n ≤ (Fr.fl K).length) (hk : m ≤ K.length) (hm : (Fr.fl (K.take m)).length ≤ n) : ∃ j,m ≤ j ∧ j ≤ K.length ∧ Fr.scan ((Fr.fl K).take n) = (K.take j,(Fr.fl (K.take j)).length) ∧ ((Fr.fl K).take n).take (Fr.fl (K.take j)).length = Fr.fl (K.take j) := by
  have mono : ∀ i j,i ≤ j → (Fr.fl (K.take i)).length ≤ (Fr.fl (K.take j)).length := fun i j hij => by
    rw [show K.take j = K.take i ++ (K.drop i).take (j - i) by rw [← List.take_add]; congr 1; omega]
    unfold Fr.fl; rw [List.flatMap_append,List.length_append]; omega
  rcases take_fl K n hn with e | ⟨j,y,h1,h2,h3,h4⟩
  · refine ⟨K.length,hk,Nat.le_refl _,?_,?_⟩
    · rw [e,List.take_of_length_le (Nat.le_refl _),List.take_of_length_le (Nat.le_refl _)]; exact Fr.scan_fl h
    · rw [e,List.take_of_length_le (Nat.le_refl _),List.take_of_length_le (Nat.le_refl _),List.take_of_length_le (Nat.le_refl _)]
  · have hb : Fr.okR (K.getD j []) := h _ (getD_mem' h1 [])
    have hs : ∀ b,b ∈ K.take j → Fr.okR b := fun b hb => h b (List.mem_of_mem_take hb)
    refine ⟨j,?_,by omega,by rw [h2]; exact Fr.scan_cut hs hb h3 h4,by rw [h2]; exact List.take_left' rfl⟩
    by_cases c : m ≤ j
    · exact c
    · exfalso
      have h5 := mono (j + 1) m (by omega)
      have h6 : (Fr.fl (K.take (j + 1))).length = (Fr.fl (K.take j)).length + (Fr.put (K.getD j [])).length := by
        rw [take_succ_getD K j [] h1,Fr.fl_snoc,List.length_append]
      have h7 := congrArg List.length h2
      rw [List.length_take,List.length_append] at h7
      omega
end Sk
end Go.K
namespace Go.K
theorem Rg.pool_codes (rs : List Rg) : (Rg.pool rs).2 = 0 ∨ (Rg.pool rs).2 = 1 ∨ (Rg.pool rs).2 = 3 := by
  unfold Rg.pool
  split
  · exact .inr (.inl rfl)
  · split
    · exact .inr (.inr rfl)
    · exact .inl rfl
namespace Sk
def A16 : List Int := Rg.adr (Rg.pool Rg.p16).1
theorem a16 : Pl A16 := pool_pl Rg.pool16 Rg.p16_ok
theorem a16_len : A16.length = 6 := by unfold A16; rw [Rg.adr16]; rfl
theorem Inv.again {d : Dk} {s : Sk} {K : List Bts} (h : Inv A16 d s K) : opened Rg.p16 (cutD d).1.bs = s := by rw [h.open_]; exact h.s.symm
theorem Inv.cut_inv {as : List Int} {d : Dk} {s : Sk} {K : List Bts} (h : Inv as d s K) : Inv as (cutD d).1 s K := by rw [h.cut]; exact h
theorem Inv.cut0 {as : List Int} {d : Dk} {s : Sk} {K : List Bts} (h : Inv as d s K) : (cutD d).2 = 0 := by rw [h.cut]
theorem Inv.cut_bs {as : List Int} {d : Dk} {s : Sk} {K : List Bts} (h : Inv as d s K) : (cutD d).1.bs = d.bs := by rw [h.cut]
theorem start_inv {room : Int} (h1 : 20000 ≤ room) (h2 : room ≤ 1048576) : Inv A16 (cutD (Dk.new room)).1 (opened Rg.p16 (cutD (Dk.new room)).1.bs) [] := by
  have h := new_inv (as := A16) h1 h2
  rw [h.again]; exact h.cut_inv
theorem start_room (room : Int) : (cutD (Dk.new room)).1.room = room := cut_room _
theorem Inv.crash {as : List Int} {d : Dk} {s : Sk} {K : List Bts} (h : Inv as d s K) (hl : d.lasts = d.bs.length) (k : Int) : Inv as (d.crash k) s K := by
  have hk := Dk.kept_le h.ok.l k
  have e : d.bs.take (Dk.kept d k) = d.bs := List.take_of_length_le (by omega)
  exact ⟨h.ok.crash k,rfl,h.room,by show d.bs.take (Dk.kept d k) = _; rw [e]; exact h.bs,h.rok,h.s⟩
theorem Inv.few {as : List Int} {d : Dk} {s : Sk} {K : List Bts} (h : Inv as d s K) : s.t.length = as.length := by rw [← List.length_map (f := fun x : Le => x.addr),h.wf.t.1]
theorem short {d : Dk} {s : Sk} {K : List Bts} (h : Inv A16 d s K) : Inv A16 ((compact d s).1.crash 0) s (recs s) ∧ (Fr.scan (cutD ((compact d s).1.crash 0)).1.bs).1.length ≤ 8 := by
  have hc := h.comp a16
  have hk := hc.1.crash hc.2.1 0
  refine ⟨hk,?_⟩
  rw [hk.cut_bs,hk.scan]
  have h1 := recs_len s
  have h2 := h.few
  rw [a16_len] at h2
  show (recs s).length ≤ 8
  omega
theorem getE_0 {l : List Le} {a : Int} (h : (Le.getE l a).2 = 0) : Le.get l a = some (Le.getE l a).1 := by
  unfold Le.getE at h ⊢
  cases e : Le.get l a with
  | none => rw [e] at h; exact absurd h (by decide)
  | some x => rfl
theorem Inv.other {d : Dk} {s : Sk} {K : List Bts} (h : Inv A16 d s K) {rs : List Rg} (hp : Pl (Rg.adr (Rg.pool rs).1)) : (opened rs (cutD (cutD d).1).1.bs).state = s.state ∧ (opened rs (cutD (cutD d).1).1.bs).life = s.life ∧ ∀ i,i < (opened rs (cutD (cutD d).1).1.bs).t.length → (Le.getE s.t ((opened rs (cutD (cutD d).1).1.bs).t.getD i Le.dflt).addr).2 = 0 → (Le.getE s.t ((opened rs (cutD (cutD d).1).1.bs).t.getD i Le.dflt).addr).1 = (opened rs (cutD (cutD d).1).1.bs).t.getD i Le.dflt := by
  rw [h.cut_inv.open_,h.s]
  obtain ⟨h1,h2,h3⟩ := agree_new (as := A16) (bs := Rg.adr (Rg.pool rs).1) K
  refine ⟨h1.symm,h2.symm,fun i hi hg => ?_⟩
  have hr : Le.Ris (replay (new (Rg.adr (Rg.pool rs).1)) K).t := (Ok.replay (new_ok hp.up hp.few) K).r
  refine h3 _ _ _ (getE_0 hg) (Le.get_at (i := i) (fun j hj => ?_) hi rfl)
  have := List.pairwise_iff_getElem.1 hr j i (by omega) hi hj
  rw [List.getD_eq_getElem?_getD,List.getElem?_eq_getElem (show j < _ by omega),List.getD_eq_getElem?_getD,List.getElem?_eq_getElem hi]
  simp only [Option.getD_some]
  omega
theorem Lst.crash {as : List Int} {d : Dk} {s : Sk} {M : List Bts} (h : Lst as d s M) (k : Int) : ∃ m,m ∈ M ∧ (cutD (d.crash k)).1.bs = m ∧ ((m.length : Nat) : Int) ≤ d.room ∧ Fr.scan m = ((Fr.scan m).1,m.length) := by
  obtain ⟨K0,R,h1,h2,h3⟩ := h
  have hk := Dk.kept_le h1.ok.l k
  have hb := h1.bs
  obtain ⟨j,j1,j2,hs,ht⟩ := cut_fl h1.rok (n := Dk.kept d k) (m := K0.length) (by rw [← hb]; exact hk.2) (by rw [List.length_append]; omega) (by rw [List.take_left' rfl,← h2]; exact hk.1)
  have hm : Fr.fl ((K0 ++ R).take j) ∈ M := by
    have e : (K0 ++ R).take j = K0 ++ R.take (j - K0.length) := by rw [List.take_append,List.take_of_length_le j1]
    rw [e]; exact h3 _ (by rw [List.length_append] at j2; omega)
  have hcb : (d.crash k).bs = (Fr.fl (K0 ++ R)).take (Dk.kept d k) := by show d.bs.take _ = _; rw [hb]
  have hok := h1.ok.crash k
  have hl1 : (Fr.fl ((K0 ++ R).take j)).length ≤ ((Fr.fl (K0 ++ R)).take (Dk.kept d k)).length := by rw [← ht,List.length_take]; exact Nat.min_le_right _ _
  have hl2 := hok.b
  rw [hcb] at hl2
  refine ⟨_,hm,?_,?_,?_⟩
  · by_cases c : (Fr.scan (d.crash k).bs).2 < (d.crash k).bs.length
    · rw [cut_yes c,hcb,hs]
      rw [swap_at rfl (by rw [ht]; exact Int.le_trans (by omega) hl2)]
      exact ht
    · rw [cut_no c,hcb]
      rw [hcb,hs] at c
      have e : ((Fr.fl (K0 ++ R)).take (Dk.kept d k)).take (Fr.fl ((K0 ++ R).take j)).length = (Fr.fl (K0 ++ R)).take (Dk.kept d k) := List.take_of_length_le (by omega)
      rw [← e]; exact ht
  · exact Int.le_trans (by omega) hl2
  · rw [Fr.scan_fl fun b hb => h1.rok b (List.mem_of_mem_take hb)]
theorem Lst.meets {as : List Int} {d : Dk} {s : Sk} {M : List Bts} (h : Lst as d s M) (hr : d.room = 100000) (k : Int) : ∃ i,i < M.length ∧ (cutD (d.crash k)).1.bs = (cutD ((Dk.new 100000).app (M.getD i [])).1).1.bs := by
  obtain ⟨m,hm,h1,h2,h3⟩ := h.crash k
  obtain ⟨i,hi,e⟩ := List.getElem_of_mem hm
  refine ⟨i,hi,?_⟩
  have eg : M.getD i [] = m := by rw [List.getD_eq_getElem?_getD,List.getElem?_eq_getElem hi]; exact e
  have hn : (((Dk.new 100000).bs.length + m.length : Nat) : Int) ≤ 100000 := by show (((0 + m.length : Nat)) : Int) ≤ _; omega
  rw [h1,eg,app_at rfl,if_neg (by show ¬ _ > (100000 : Int); omega)]
  have hm2 : ([] : Bts) ++ m = m := rfl
  rw [cut_no (by show ¬ (Fr.scan ([] ++ m)).2 < ([] ++ m).length; rw [hm2,h3]; exact Nat.lt_irrefl _)]
  rfl
theorem start_lst : Lst A16 (cutD (Dk.new 100000)).1 (opened Rg.p16 (cutD (Dk.new 100000)).1.bs) [(cutD (Dk.new 100000)).1.bs] := by
  have h := start_inv (room := 100000) (by decide) (by decide)
  refine ⟨[],[],h,?_,fun j _ => ?_⟩
  · have := h.ok.l; rw [h.bs] at this; exact Nat.le_zero.1 this
  · rw [h.bs,List.take_nil]; exact List.mem_singleton.2 rfl
theorem alk_of {d e : Dk} {s u : Sk} (h : d.bs = e.bs) (hs : s = u) : alk d s e u = true := by rw [hs]; exact alk_self h u
end Sk
end Go.K
