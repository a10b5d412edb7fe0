/- What PoolOne says, of the plain numbers.
Conditions: none; no program in sight. -/
import Derived.Test.YtjfacdepgkdoeaaP2
namespace Go.Fl
theorem bnd_id {n : Int} (h : 0 ≤ n ∧ n ≤ 1073741824) : bnd n = n := by unfold bnd; omega
theorem gives_cases (id f b : Int) (y s : Nat) (hf : 0 ≤ f ∧ f ≤ 1073741824) (hb : 0 ≤ b ∧ b ≤ 1073741824) :
    (id = 0 → gives id f b y s = 0 ∨ gives id f b y s = min (max (part (f + b) y - b) 0) f) ∧ (id = 1 → gives id f b y s = 0 ∨ gives id f b y s = max (b - part (f + b) y) 0) := by
  unfold gives share
  rw [bnd_id hf, bnd_id hb, bnd_id hf, bnd_id hb]
  constructor
  · intro h; subst h; split
    · right; rfl
    · left; rfl
  · intro h; subst h; split
    · right; rfl
    · left; rfl
/-- Either the unevenness is over the slack for both, or nothing is given. -/
theorem one_facts {f b : Int} {y s : Nat} (hf : 0 ≤ f ∧ f ≤ 536870912) (hb : 0 ≤ b ∧ b ≤ 536870912) :
    let a := gives 0 f b y s; let c := gives 1 f b y s
    (0 ≤ a ∧ a ≤ f) ∧ (0 ≤ c ∧ c ≤ b) ∧ ¬ (a > 0 ∧ c > 0) ∧ gives 0 (f - a + c) (b + a - c) y s = 0 ∧ gives 1 (f - a + c) (b + a - c) y s = 0 := by
  intro a c
  have hr := part_range (n := f + b) (by omega) y
  have h0 := (gives_cases 0 f b y s (by omega) (by omega)).1 rfl
  have h1 := (gives_cases 1 f b y s (by omega) (by omega)).2 rfl
  have ha : 0 ≤ a ∧ a ≤ f := by rcases h0 with h | h <;> (show 0 ≤ gives 0 f b y s ∧ gives 0 f b y s ≤ f) <;> omega
  have hc : 0 ≤ c ∧ c ≤ b := by rcases h1 with h | h <;> (show 0 ≤ gives 1 f b y s ∧ gives 1 f b y s ≤ b) <;> omega
  have hno : ¬ (a > 0 ∧ c > 0) := by
    show ¬ (gives 0 f b y s > 0 ∧ gives 1 f b y s > 0)
    rcases h0 with h | h <;> rcases h1 with h' | h' <;> omega
  refine ⟨ha, hc, hno, ?_⟩
  by_cases hz : a = 0 ∧ c = 0
  · rw [hz.1, hz.2, Int.sub_zero, Int.add_zero, Int.add_zero, Int.sub_zero]; exact hz
  · have e : f - a + c + (b + a - c) = f + b := by omega
    have g0 := (gives_cases 0 (f - a + c) (b + a - c) y s (by omega) (by omega)).1 rfl
    have g1 := (gives_cases 1 (f - a + c) (b + a - c) y s (by omega) (by omega)).2 rfl
    rw [e] at g0 g1
    have k0 : a = 0 ∨ a = min (max (part (f + b) y - b) 0) f := h0
    have k1 : c = 0 ∨ c = max (b - part (f + b) y) 0 := h1
    constructor
    · rcases g0 with g | g
      · exact g
      · rw [g]; rcases k0 with k | k <;> rcases k1 with k' | k' <;> omega
    · rcases g1 with g | g
      · exact g
      · rw [g]; rcases k0 with k | k <;> rcases k1 with k' | k' <;> omega
end Go.Fl
