/- Leases in plain Lean: their cells, which addresses are bound so, in order.
Conditions: none; no program in sight. -/
import Derived.Test.YtinkencbkcciiaaGreatSA
import Derived.Test.YtinkencbkcciiaaGreatKB
import Derived.Test.YtinkencbkcciiaaGreatFA
import Derived.Test.YtinkencbkcciiaaGreatKC
set_option linter.unusedSimpArgs false
set_option linter.unusedVariables false
set_option linter.unusedSectionVars false
namespace Go.K
open Go.Sort
structure Le where
  addr : Int
  bind : Int
  client : ByteArray
  till : Int
  acked : Int
  told : Int
  at_ : Int
  ver : Int
namespace Le
def cells (s : Le) : List Value := [.int .u32 s.addr,.int .i64 s.bind,.string s.client,.int .i64 s.till,.int .i64 s.acked,.int .i64 s.told,.int .i64 s.at_,.int .i64 s.ver]
def dflt : Le := ⟨0,0,⟨#[]⟩,0,0,0,0,0⟩
theorem len (s : Le) : s.cells.length = 8 := rfl
def tags : List (Nat × IntKind) := [(0,.u32),(0,.i64),(2,.i64),(0,.i64),(0,.i64),(0,.i64),(0,.i64),(0,.i64)]
structure Ok (s : Le) : Prop where
  addr : 0 ≤ s.addr ∧ s.addr ≤ 4294967295
  bind : -9223372036854775808 ≤ s.bind ∧ s.bind ≤ 9223372036854775807
  client : s.client.size ≤ 9223372036854775807
  till : -9223372036854775808 ≤ s.till ∧ s.till ≤ 9223372036854775807
  acked : -9223372036854775808 ≤ s.acked ∧ s.acked ≤ 9223372036854775807
  told : -9223372036854775808 ≤ s.told ∧ s.told ≤ 9223372036854775807
  at_ : -9223372036854775808 ≤ s.at_ ∧ s.at_ ≤ 9223372036854775807
  ver : -9223372036854775808 ≤ s.ver ∧ s.ver ≤ 9223372036854775807
theorem bounds_u32 {n : Int} (h : (Lit.int .u32 n).wf = true) : 0 ≤ n ∧ n ≤ 4294967295 := by
  simp [Lit.wf,IntKind.min,IntKind.max,IntKind.bits,IntKind.signed] at h; omega
theorem of_wf {q : List Value} (h : wfVs tags q) : ∃ s : Le,q = s.cells ∧ s.Ok := by
  obtain ⟨v0,c0,rfl,h0,k0⟩ := wfVs_cons (show wfVs ((0,IntKind.u32) :: (0,IntKind.i64) :: (2,IntKind.i64) :: (0,IntKind.i64) :: (0,IntKind.i64) :: (0,IntKind.i64) :: (0,IntKind.i64) :: (0,IntKind.i64) :: []) q from h)
  obtain ⟨v1,c1,rfl,h1,k1⟩ := wfVs_cons k0
  obtain ⟨v2,c2,rfl,h2,k2⟩ := wfVs_cons k1
  obtain ⟨v3,c3,rfl,h3,k3⟩ := wfVs_cons k2
  obtain ⟨v4,c4,rfl,h4,k4⟩ := wfVs_cons k3
  obtain ⟨v5,c5,rfl,h5,k5⟩ := wfVs_cons k4
  obtain ⟨v6,c6,rfl,h6,k6⟩ := wfVs_cons k5
  obtain ⟨v7,c7,rfl,h7,k7⟩ := wfVs_cons k6
  obtain rfl := wfVs_nil k7
  obtain ⟨n0,rfl,w0⟩ := wfV_int h0
  obtain ⟨n1,rfl,w1⟩ := wfV_int h1
  obtain ⟨n2,rfl,w2⟩ := wfV_str h2
  obtain ⟨n3,rfl,w3⟩ := wfV_int h3
  obtain ⟨n4,rfl,w4⟩ := wfV_int h4
  obtain ⟨n5,rfl,w5⟩ := wfV_int h5
  obtain ⟨n6,rfl,w6⟩ := wfV_int h6
  obtain ⟨n7,rfl,w7⟩ := wfV_int h7
  exact ⟨⟨n0,n1,n2,n3,n4,n5,n6,n7⟩,rfl,bounds_u32 w0,Go.bounds_i64 w1,w2,Go.bounds_i64 w3,Go.bounds_i64 w4,Go.bounds_i64 w5,Go.bounds_i64 w6,Go.bounds_i64 w7⟩
def sel (b : Int) (l : List Le) : List Int := (l.filter fun s => s.bind == b).map (·.addr)
end Le
def spot (x : Int) : List Int → Nat
  | [] => 0
  | y :: l => if y < x then spot x l + 1 else 0
end Go.K
namespace Go.K
open Go.Sort
end Go.K
namespace Go.K.Le
open Go.Fl
end Go.K.Le
namespace Go.K
theorem Le.enc : Enc Le.cells 8 := ⟨fun _ => rfl,fun _ => rfl⟩
theorem upto_succ {p : Nat → Prop} {i : Nat} (h : ∀ j,j < i → p j) (hi : p i) : ∀ j,j < i + 1 → p j := fun j hj => by
  by_cases e : j = i
  · subst e; exact hi
  · exact h j (by omega)
namespace Le
end Le
namespace Le
open Go.Fl
variable {id : Int} {l : List Le} {y s : Nat}
end Le
namespace Le
open Go.Fl
end Le
end Go.K
namespace Go.K
def yes (l : List Int) : List (Int × Value) := l.map fun x => (x,.bool true)
namespace Le
def cnt (b : Int) (g : List Int) (l : List Le) : Nat := ((sel b l).filter fun x => g.contains x).length
section
variable {b : Int} {l : List Le} {y s : Nat}
end
end Le
end Go.K
