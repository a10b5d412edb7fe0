/- Steps of a store in plain Lean, for the statements of layer 13.
Conditions: none; no program in sight. -/
import Derived.Test.YtinkencbkcciiaaGreatDA
import Derived.Test.YtinkencbkcciiaaGreatTC
import Derived.Test.YtinkencbkcciiaaGreatKF
set_option linter.unusedSimpArgs false
set_option linter.unusedVariables false
set_option linter.unusedSectionVars false
namespace Go.K
structure S13 where
  k : Int
  n : Int
  l : Le
namespace S13
def cells (s : S13) : List Value := [.int .i64 s.k,.int .i64 s.n,.int .u32 s.l.addr,.int .i64 s.l.bind,.string s.l.client,.int .i64 s.l.till,.int .i64 s.l.acked,.int .i64 s.l.told,.int .i64 s.l.at_,.int .i64 s.l.ver]
def dflt : S13 := ⟨0,0,Le.dflt⟩
theorem enc : Enc S13.cells 10 := ⟨fun _ => rfl,fun _ => rfl⟩
structure Ok (s : S13) : Prop where
  n : -9223372036854775808 ≤ s.n ∧ s.n ≤ 9223372036854775807
  l : s.l.Ok
theorem mem {l : List S13} {i : Nat} (hi : i < l.length) : l.getD i dflt ∈ l := by
  rw [List.getD_eq_getElem?_getD,List.getElem?_eq_getElem hi]; exact List.getElem_mem hi
def tags : List (Nat × IntKind) := (0,.i64) :: (0,.i64) :: Le.tags
theorem of_wf {q : List Value} (h : wfVs tags q) : ∃ s,q = S13.cells s ∧ s.Ok := by
  obtain ⟨v0,c0,rfl,h0,k0⟩ := wfVs_cons h
  obtain ⟨v1,c1,rfl,h1,k1⟩ := wfVs_cons k0
  obtain ⟨n0,rfl,_⟩ := wfV_int h0
  obtain ⟨n1,rfl,w1⟩ := wfV_int h1
  obtain ⟨m,rfl,hm⟩ := Le.of_wf k1
  exact ⟨⟨n0,n1,m⟩,rfl,⟨bounds_i64 w1,hm⟩⟩
end S13
def Rg.p16 : List Rg := [⟨1,6⟩]
theorem Rg.p16_ok : Rg.Oks Rg.p16 := by
  intro r hr
  rw [List.mem_singleton.1 (show r ∈ [_] from hr)]; exact ⟨by decide,by decide,by decide,by decide⟩
theorem Rg.pool16 : (Rg.pool Rg.p16).2 = 0 := by decide +kernel
theorem Rg.adr16 : Rg.adr (Rg.pool Rg.p16).1 = [1,2,3,4,5,6] := by decide +kernel
namespace Sk
theorem cut_ok {d : Dk} (h : d.Ok) (hi : d.inn ≠ 0) : (cutD d).2 = 0 := by
  by_cases hc : (Fr.scan d.bs).2 < d.bs.length
  · rw [cut_yes hc]
    unfold Dk.swap
    rw [Dk.change_ok0 hi]
    rw [List.length_take]
    have := h.b
    omega
  · rw [cut_no hc]
theorem cut_room (d : Dk) : (cutD d).1.room = d.room := by
  unfold cutD; split
  · exact Dk.swap_room _ _
  · rfl
theorem opened_ok {rs : List Rg} (h : (Rg.pool rs).2 = 0) (bs : Bts) : (opened rs bs).Ok := by
  obtain ⟨hc,h2⟩ := Rg.pool_can h
  have h1 := Rg.cnt_adr hc.1
  unfold opened
  exact Ok.replay (new_ok (Rg.adr_up hc) (by omega)) _
theorem opened_os {rs : List Rg} (hok : Rg.Oks rs) (bs : Bts) : (opened rs bs).Os := by
  unfold opened
  refine Os.replay (Os.new fun a ha => ?_) (okR_le (Fr.scan_is _).2)
  obtain ⟨r,hr,h1,h2⟩ := Rg.mem_adr.1 ha
  have := (Rg.pool_oks hok r hr).all
  omega
def stp (d : Dk) (s : Sk) (x : S13) : Dk × Sk :=
  if x.k = 0 then ((put d s x.l).1,(put d s x.l).2.1)
  else if x.k = 1 then ((setState d s x.n).1,(setState d s x.n).2.1)
  else if x.k = 2 then ((setLife d s x.n).1,(setLife d s x.n).2.1)
  else if x.k = 3 then (d.sync.1,s)
  else if x.k = 4 then ((compact d s).1,s)
  else if x.k = 5 then (d.fail x.n,s)
  else ((cutD (d.crash x.n)).1,opened Rg.p16 (cutD (d.crash x.n)).1.bs)
theorem stp0 {d : Dk} {s : Sk} {x : S13} (h : x.k = 0) : stp d s x = ((put d s x.l).1,(put d s x.l).2.1) := by unfold stp; rw [if_pos h]
theorem stp1 {d : Dk} {s : Sk} {x : S13} (h : x.k = 1) : stp d s x = ((setState d s x.n).1,(setState d s x.n).2.1) := by unfold stp; rw [if_neg (by omega),if_pos h]
theorem stp2 {d : Dk} {s : Sk} {x : S13} (h : x.k = 2) : stp d s x = ((setLife d s x.n).1,(setLife d s x.n).2.1) := by unfold stp; rw [if_neg (by omega),if_neg (by omega),if_pos h]
theorem stp3 {d : Dk} {s : Sk} {x : S13} (h : x.k = 3) : stp d s x = (d.sync.1,s) := by unfold stp; rw [if_neg (by omega),if_neg (by omega),if_neg (by omega),if_pos h]
theorem stp4 {d : Dk} {s : Sk} {x : S13} (h : x.k = 4) : stp d s x = ((compact d s).1,s) := by unfold stp; rw [if_neg (by omega),if_neg (by omega),if_neg (by omega),if_neg (by omega),if_pos h]
theorem stp5 {d : Dk} {s : Sk} {x : S13} (h : x.k = 5) : stp d s x = (d.fail x.n,s) := by unfold stp; rw [if_neg (by omega),if_neg (by omega),if_neg (by omega),if_neg (by omega),if_neg (by omega),if_pos h]
theorem stp6 {d : Dk} {s : Sk} {x : S13} (h : ¬ (0 ≤ x.k ∧ x.k ≤ 5)) : stp d s x = ((cutD (d.crash x.n)).1,opened Rg.p16 (cutD (d.crash x.n)).1.bs) := by unfold stp; rw [if_neg (by omega),if_neg (by omega),if_neg (by omega),if_neg (by omega),if_neg (by omega),if_neg (by omega)]
theorem stp_ok {d : Dk} {s : Sk} {x : S13} (hd : d.Ok) (hs : s.Ok) (hx : x.Ok) : (stp d s x).1.Ok ∧ (stp d s x).2.Ok := by
  unfold stp
  split
  · exact put_ok hd hs _
  split
  · exact setState_ok hd hs _
  split
  · exact setLife_ok hd hs _
  split
  · exact ⟨hd.sync,hs⟩
  split
  · exact ⟨hd.swap _,hs⟩
  split
  · exact ⟨hd.fail hx.n.2,hs⟩
  · exact ⟨cutD_ok (hd.crash _),opened_ok Rg.pool16 _⟩
theorem stp_os {d : Dk} {s : Sk} {x : S13} (hs : s.Os) : (stp d s x).2.Os := by
  unfold stp
  split
  · exact hs.put _
  split
  · exact hs.setState _
  split
  · exact hs.setLife _
  split
  · exact hs
  split
  · exact hs
  split
  · exact hs
  · exact opened_os Rg.p16_ok _
end Sk
end Go.K
namespace Go.K
def Le.samel (a b : List Le) : Bool := decide (a.length = b.length ∧ ∀ i,i < a.length → Le.same (a.getD i Le.dflt) (b.getD i Le.dflt) = true)
theorem Le.samel_self (a : List Le) : Le.samel a a = true := decide_eq_true ⟨rfl,fun i _ => Le.same_self _⟩
def Sk.alk (d : Dk) (s : Sk) (e : Dk) (u : Sk) : Bool := Le.samel s.t u.t && (s.state == u.state) && (s.life == u.life) && ((((Fr.scan d.bs).1.length : Nat) : Int) == (((Fr.scan e.bs).1.length : Nat) : Int))
theorem Sk.alk_self {d e : Dk} (h : d.bs = e.bs) (s : Sk) : Sk.alk d s e s = true := by unfold Sk.alk; rw [Le.samel_self,h]; simp
end Go.K
namespace Go.K
theorem Dk.app_inn {d : Dk} (h : d.inn = -1) (b : Bts) : (d.app b).1.inn = -1 := by
  unfold Dk.app
  have hd : Dk.dec d = d := Dk.dec_neg (by omega)
  by_cases hn : (((d.bs.length + b.length : Nat)) : Int) > d.room
  · rw [Dk.change_full (by omega) hn]; show (Dk.dec d).inn = -1; rw [hd]; exact h
  · rw [Dk.change_ok0 (by omega) hn]; show (Dk.dec d).inn = -1; rw [hd]; exact h
end Go.K
