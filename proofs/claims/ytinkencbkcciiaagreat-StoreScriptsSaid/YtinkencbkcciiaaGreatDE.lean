/- Steps of a store in plain Lean, for the statements of layer 13.
Conditions: none; no program in sight. -/
import Derived.Test.YtinkencbkcciiaaGreatDA
import Derived.Test.YtinkencbkcciiaaGreatTC
import Derived.Test.YtinkencbkcciiaaGreatKF
set_option linter.unusedSimpArgs false
set_option linter.unusedVariables false
set_option linter.unusedSectionVars false
namespace Go.K
/-- A step of the statements: what is done, a number, a lease. -/
structure S13 where
  k : Int
  n : Int
  l : Le
namespace S13
def cells (s : S13) : List Value := [.int .i64 s.k, .int .i64 s.n, .int .u32 s.l.addr, .int .i64 s.l.bind, .string s.l.client, .int .i64 s.l.till, .int .i64 s.l.acked, .int .i64 s.l.told, .int .i64 s.l.at_, .int .i64 s.l.ver]
def dflt : S13 := ⟨0, 0, Le.dflt⟩
theorem enc : Enc S13.cells 10 := ⟨fun _ => rfl, fun _ => rfl⟩
structure Ok (s : S13) : Prop where
  n : -9223372036854775808 ≤ s.n ∧ s.n ≤ 9223372036854775807
  l : s.l.Ok
def tags : List (Nat × IntKind) := (0, .i64) :: (0, .i64) :: Le.tags
theorem of_wf {q : List Value} (h : wfVs tags q) : ∃ s, q = S13.cells s ∧ s.Ok := by
  obtain ⟨v0, c0, rfl, h0, k0⟩ := wfVs_cons h
  obtain ⟨v1, c1, rfl, h1, k1⟩ := wfVs_cons k0
  obtain ⟨n0, rfl, _⟩ := wfV_int h0
  obtain ⟨n1, rfl, w1⟩ := wfV_int h1
  obtain ⟨m, rfl, hm⟩ := Le.of_wf k1
  exact ⟨⟨n0, n1, m⟩, rfl, ⟨bounds_i64 w1, hm⟩⟩
end S13
/-- The pool of the statements. -/
def Rg.p16 : List Rg := [⟨1, 6⟩]
theorem Rg.p16_ok : Rg.Oks Rg.p16 := by
  intro r hr
  rw [List.mem_singleton.1 (show r ∈ [_] from hr)]; exact ⟨by decide, by decide, by decide, by decide⟩
theorem Rg.pool16 : (Rg.pool Rg.p16).2 = 0 := by decide +kernel
namespace Sk
theorem cut_ok {d : Dk} (h : d.Ok) (hi : d.inn ≠ 0) : (cutD d).2 = 0 := by
  by_cases hc : (Fr.scan d.bs).2 < d.bs.length
  · rw [cut_yes hc]
    unfold Dk.swap
    rw [Dk.change_ok0 hi]
    rw [List.length_take]
    have := h.b
    omega
  · rw [cut_no hc]
theorem opened_ok {rs : List Rg} (h : (Rg.pool rs).2 = 0) (bs : Bts) : (opened rs bs).Ok := by
  obtain ⟨hc, h2⟩ := Rg.pool_can h
  have h1 := Rg.cnt_adr hc.1
  unfold opened
  exact Ok.replay (new_ok (Rg.adr_up hc) (by omega)) _
end Sk
end Go.K
namespace Go.K
/-- Whether two lists of leases are the same. -/
def Le.samel (a b : List Le) : Bool := decide (a.length = b.length ∧ ∀ i, i < a.length → Le.same (a.getD i Le.dflt) (b.getD i Le.dflt) = true)
theorem Le.samel_self (a : List Le) : Le.samel a a = true := decide_eq_true ⟨rfl, fun i _ => Le.same_self _⟩
/-- Whether two stores know the same. -/
def Sk.alk (d : Dk) (s : Sk) (e : Dk) (u : Sk) : Bool := Le.samel s.t u.t && (s.state == u.state) && (s.life == u.life) && ((((Fr.scan d.bs).1.length : Nat) : Int) == (((Fr.scan e.bs).1.length : Nat) : Int))
theorem Sk.alk_self {d e : Dk} (h : d.bs = e.bs) (s : Sk) : Sk.alk d s e s = true := by unfold Sk.alk; rw [Le.samel_self, h]; simp
end Go.K
namespace Go.K
end Go.K
