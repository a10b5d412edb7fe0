/- Texts of addresses read, walked; the laws AddrTexts and AddrBack.
Conditions: as each theorem names them. -/
import Derived.Test.YtjfacdepgkdoeaaProg
import Derived.Test.YtjfacdepgkdoeaaRC
import Derived.Test.YtjfacdepgkdoeaaLaw01
set_option linter.unusedSimpArgs false
set_option linter.unusedVariables false
set_option maxRecDepth 4000
namespace Go.Proofs.Ytjfacdepgkdoeaa
open Go Go.K
attribute [local irreducible] Code.wp wpList Calls wpQuiet
theorem Addr5_st9 : strT Try.prog 9 = true := by kernel_rfl
theorem Addr5_it5_3 : intT Try.prog 5 3 = some .i64 := by kernel_rfl
theorem Addr5_it3_37 : intT Try.prog 3 37 = some .u32 := by kernel_rfl
theorem Addr5_it3_5 : intT Try.prog 3 5 = some .u8 := by kernel_rfl
theorem Addr5_es176 : elemS Try.prog 176 = some (5, 1) := by kernel_rfl
theorem Addr5_zo5 : zeroOf Try.prog 5 = some (.int .u8 0) := by kernel_rfl
theorem Addr5_tg5 : tagOf Try.prog 5 = some (0, .u8) := by kernel_rfl
theorem Addr5_it37_3 : intT Try.prog 37 3 = some .i64 := by kernel_rfl

theorem parse_c {s : ByteArray} {V : Vw} : Does Try.prog 56 [.string s] V [] (Pv (.tuple #[.int .u32 ((Rg.p1 s).1), .int .i64 ((Rg.p1 s).2)]) V []) := by
 refine Does.intro Try.func56 rfl rfl (le rfl) (fun B => ?_)
 refine Tr.seq ?_
 refine Tr.region ?_
 refine Run.val (lt rfl) (Y.assign rfl) ?_
 refine Run.val (lt rfl) (Y.assign rfl) ?_
 refine Run.to_end ?_
 refine Ex.go ?_
 refine Tr.seq ?_
 refine Tr.seq ?_
 refine Tr.region ?_
 refine Run.val (lt rfl) (Y.move rfl) ?_
 refine Run.val (lt rfl) (Y.lenStr rfl Addr5_st9) ?_
 refine Run.val (lt rfl) (Y.int rfl rfl rfl) ?_
 refine Run.to_end ?_
 refine Ex.go ?_
 rcases Bool.eq_false_or_eq_true (decide ((s.size : Int) > 15)) with h1 | h1
 ·have g1 := h1
  try simp only [kb] at g1
  refine Tr.cond_t rfl h1 ?_
  refine Tr.seq ?_
  refine Tr.region ?_
  refine Run.val (lt rfl) (Y.assign rfl) ?_
  refine Run.val (lt rfl) (Y.assign rfl) ?_
  refine Run.to_end ?_
  refine Ex.go ?_
  refine Tr.to_ret ?_
  refine Ex.ret_then ?_
  refine Ex.keep [] ?_
  exact Ex.ret2 rfl rfl rfl  ⟨by unfold Rg.p1; rw [if_pos (by omega)], rfl, rfl⟩
 ·have g1 := h1
  try simp only [kb] at g1
  refine Tr.cond_f rfl h1 ?_
  refine Tr.to_end ?_
  refine Ex.go ?_
  refine Tr.seq ?_
  refine Tr.region ?_
  refine Run.val (lt rfl) (Y.assign rfl) ?_
  refine Run.to_end ?_
  refine Ex.go ?_
  refine Tr.seq ?_
  refine Tr.region ?_
  refine Run.val (lt rfl) (Y.assign rfl) ?_
  refine Run.to_end ?_
  refine Ex.go ?_
  refine Tr.seq ?_
  refine Tr.seq ?_
  refine Tr.region ?_
  refine Run.val (lt rfl) (Y.move rfl) ?_
  refine Run.val (lt rfl) (Y.lenStr rfl Addr5_st9) ?_
  refine Run.val (lt rfl) (Y.add rfl rfl (by omega)) ?_
  refine Run.val (lt rfl) (Y.move rfl) ?_
  refine Run.to_end ?_
  refine Ex.go ?_
  refine Tr.block ?_
  refine Tr.loop (X := Nat × Nat × Nat) (fun z0 => V) (fun z0 => []) (fun z0 => [(0, .string s), (4, .int .u32 ((z0.2.1 : Nat) : Int)), (5, .int .i64 ((z0.2.2 : Nat) : Int)), (12, .int .i64 ((s.size : Int) + 1)), (13, .int .i64 (z0.1 : Int))]) (fun z0 => ((z0.1 ≤ s.size ∧ Rg.f1 (s.toList.take z0.1) = some (z0.2.1, z0.2.2)) ∨ (z0.1 = s.size + 1 ∧ (Rg.f1 s.toList).map (fun x => (x.1 * 256 + x.2 % 256) % 4294967296) = some z0.2.1)) ∧ z0.2.1 ≤ 4294967295 ∧ z0.2.2 ≤ 2559) (fun z0 => s.size + 1 - z0.1) (⟨0, 0, 0⟩ : Nat × Nat × Nat) ⟨.inl ⟨Nat.zero_le _, rfl⟩, by decide, by decide⟩ (fun a w i => ⟨i.1.sub (subB_cons (by first | rfl | exact congrArg (fun z => some (Value.int _ z)) (by omega)) (subB_cons (by first | rfl | exact congrArg (fun z => some (Value.int _ z)) (by omega)) (subB_cons (by first | rfl | exact congrArg (fun z => some (Value.int _ z)) (by omega)) (subB_cons (by first | rfl | exact congrArg (fun z => some (Value.int _ z)) (by omega)) (subB_cons (by first | rfl | exact congrArg (fun z => some (Value.int _ z)) (by omega)) (subB_nil _)))))), i.2⟩) ?_
  rintro ⟨i1, a1, p1⟩ ⟨hrel, ha9, hp9⟩
  try dsimp only at hrel ha9 hp9 ⊢
  refine Tr.seq ?_
  refine Tr.region ?_
  refine Run.val (lt rfl) (Y.int rfl rfl rfl) ?_
  refine Run.to_end ?_
  refine Ex.go ?_
  refine Tr.seq ?_
  rcases Bool.eq_false_or_eq_true (decide ((i1 : Int) < ((s.size : Int) + 1))) with h2 | h2
  ·have g2 := h2
   try simp only [kb] at g2
   refine Tr.cond_t rfl h2 ?_
   refine Tr.to_end ?_
   refine Ex.go ?_
   refine Tr.seq ?_
   refine Tr.block ?_
   refine Tr.seq ?_
   refine Tr.region ?_
   rcases hrel with ⟨hi, hf⟩ | ⟨hi, _⟩
   case inr => omega
   have hcx : (s.toList.getD (i1 : Int).toNat 0).toNat = (s.toList.getD i1 0).toNat := rfl
   have hcl := UInt8.toNat_lt (s.toList.getD i1 0)
   refine Run.val (lt rfl) (Y.move rfl) ?_
   refine Run.val (lt rfl) (Y.assign rfl) ?_
   refine Run.to_end ?_
   refine Ex.go ?_
   refine Tr.seq ?_
   refine Tr.seq ?_
   refine Tr.region ?_
   refine Run.val (lt rfl) (Y.move rfl) ?_
   refine Run.val (lt rfl) (Y.move rfl) ?_
   refine Run.val (lt rfl) (Y.lenStr rfl Addr5_st9) ?_
   refine Run.val (lt rfl) (Y.int rfl rfl rfl) ?_
   refine Run.val (lt rfl) (Y.move rfl) ?_
   rcases Bool.eq_false_or_eq_true (decide ((i1 : Int) < (s.size : Int))) with h3 | h3
   ·have g3 := h3
    try simp only [kb] at g3
    refine Run.on rfl rfl rfl h3 ?_
    refine Run.val (lt rfl) (Y.move rfl) ?_
    refine Run.on rfl rfl rfl h3 ?_
    refine Run.val (lt rfl) (Y.move rfl) ?_
    refine Run.on rfl rfl rfl h3 ?_
    refine Run.val (lt rfl) (Y.idxStr rfl rfl Addr5_st9 (by omega) (by omega)) ?_
    refine Run.on rfl rfl rfl h3 ?_
    refine Run.val (lt rfl) (Y.int rfl rfl rfl) ?_
    refine Run.val (lt rfl) (Y.pick_t rfl h3 rfl) ?_
    refine Run.to_end ?_
    refine Ex.go ?_
    rcases Bool.eq_false_or_eq_true (((s.toList.getD (i1 : Int).toNat 0).toNat : Int) != 46) with h4 | h4
    ·have g4 := h4
     try simp only [kb] at g4
     refine Tr.cond_t rfl h4 ?_
     refine Tr.seq ?_
     refine Tr.seq ?_
     refine Tr.region ?_
     refine Run.val (lt rfl) (Y.move rfl) ?_
     refine Run.val (lt rfl) (Y.move rfl) ?_
     refine Run.val (lt rfl) (Y.idxStr rfl rfl Addr5_st9 (by omega) (by omega)) ?_
     refine Run.val (lt rfl) (Y.int rfl rfl rfl) ?_
     refine Run.val (lt rfl) (Y.move rfl) ?_
     rcases Bool.eq_false_or_eq_true (decide (((s.toList.getD (i1 : Int).toNat 0).toNat : Int) < 48)) with h5 | h5
     ·have g5 := h5
      try simp only [kb] at g5
      refine Run.off rfl rfl rfl h5 rfl (lt rfl) ?_
      refine Run.off rfl rfl rfl h5 rfl (lt rfl) ?_
      refine Run.off rfl rfl rfl h5 rfl (lt rfl) ?_
      refine Run.off rfl rfl rfl h5 rfl (lt rfl) ?_
      refine Run.val (lt rfl) (Y.pick_t rfl h5 rfl) ?_
      refine Run.val (lt rfl) (Y.move rfl) ?_
      refine Run.off rfl rfl rfl rfl rfl (lt rfl) ?_
      refine Run.off rfl rfl rfl rfl rfl (lt rfl) ?_
      refine Run.val (lt rfl) (Y.pick_t rfl rfl rfl) ?_
      refine Run.to_end ?_
      refine Ex.go ?_
      refine Tr.cond_t rfl rfl ?_
      refine Tr.seq ?_
      refine Tr.region ?_
      refine Run.val (lt rfl) (Y.assign rfl) ?_
      refine Run.val (lt rfl) (Y.assign rfl) ?_
      refine Run.to_end ?_
      refine Ex.go ?_
      refine Tr.to_ret ?_
      refine Ex.ret_then ?_
      refine Ex.ret_then ?_
      refine Ex.ret_block ?_
      refine Ex.ret_then ?_
      refine Ex.ret_then ?_
      refine Ex.ret_block ?_
      refine Ex.ret_then ?_
      refine Ex.keep [] ?_
      have en := Rg.f1_stop ((Rg.f1_take (L := s.toList) (i := i1) (by rw [← Rg.size_toList]; omega)).trans (by rw [hf]; exact Rg.s1_bad a1 p1 _ (by omega) (by omega)))
      exact Ex.ret2 rfl rfl rfl  ⟨by unfold Rg.p1; rw [if_neg (by omega), en]; rfl, rfl, rfl⟩
     ·have g5 := h5
      try simp only [kb] at g5
      refine Run.on rfl rfl rfl h5 ?_
      refine Run.val (lt rfl) (Y.move rfl) ?_
      refine Run.on rfl rfl rfl h5 ?_
      refine Run.val (lt rfl) (Y.move rfl) ?_
      refine Run.on rfl rfl rfl h5 ?_
      refine Run.val (lt rfl) (Y.idxStr rfl rfl Addr5_st9 (by omega) (by omega)) ?_
      refine Run.on rfl rfl rfl h5 ?_
      refine Run.val (lt rfl) (Y.int rfl rfl rfl) ?_
      refine Run.val (lt rfl) (Y.pick_f rfl h5 rfl) ?_
      refine Run.val (lt rfl) (Y.move rfl) ?_
      rcases Bool.eq_false_or_eq_true (decide (((s.toList.getD (i1 : Int).toNat 0).toNat : Int) > 57)) with h6 | h6
      ·have g6 := h6
       try simp only [kb] at g6
       refine Run.off rfl rfl rfl h6 rfl (lt rfl) ?_
       refine Run.off rfl rfl rfl h6 rfl (lt rfl) ?_
       refine Run.val (lt rfl) (Y.pick_t rfl h6 rfl) ?_
       refine Run.to_end ?_
       refine Ex.go ?_
       refine Tr.cond_t rfl rfl ?_
       refine Tr.seq ?_
       refine Tr.region ?_
       refine Run.val (lt rfl) (Y.assign rfl) ?_
       refine Run.val (lt rfl) (Y.assign rfl) ?_
       refine Run.to_end ?_
       refine Ex.go ?_
       refine Tr.to_ret ?_
       refine Ex.ret_then ?_
       refine Ex.ret_then ?_
       refine Ex.ret_block ?_
       refine Ex.ret_then ?_
       refine Ex.ret_then ?_
       refine Ex.ret_block ?_
       refine Ex.ret_then ?_
       refine Ex.keep [] ?_
       have en := Rg.f1_stop ((Rg.f1_take (L := s.toList) (i := i1) (by rw [← Rg.size_toList]; omega)).trans (by rw [hf]; exact Rg.s1_bad a1 p1 _ (by omega) (by omega)))
       exact Ex.ret2 rfl rfl rfl  ⟨by unfold Rg.p1; rw [if_neg (by omega), en]; rfl, rfl, rfl⟩
      ·have g6 := h6
       try simp only [kb] at g6
       refine Run.on rfl rfl rfl h6 ?_
       refine Run.val (lt rfl) (Y.move rfl) ?_
       refine Run.on rfl rfl rfl h6 ?_
       refine Run.val (lt rfl) (Y.int rfl rfl rfl) ?_
       refine Run.val (lt rfl) (Y.pick_f rfl h6 rfl) ?_
       refine Run.to_end ?_
       refine Ex.go ?_
       rcases Bool.eq_false_or_eq_true (decide (((p1 : Nat) : Int) > 255)) with h7 | h7
       ·have g7 := h7
        try simp only [kb] at g7
        refine Tr.cond_t rfl h7 ?_
        refine Tr.seq ?_
        refine Tr.region ?_
        refine Run.val (lt rfl) (Y.assign rfl) ?_
        refine Run.val (lt rfl) (Y.assign rfl) ?_
        refine Run.to_end ?_
        refine Ex.go ?_
        refine Tr.to_ret ?_
        refine Ex.ret_then ?_
        refine Ex.ret_then ?_
        refine Ex.ret_block ?_
        refine Ex.ret_then ?_
        refine Ex.ret_then ?_
        refine Ex.ret_block ?_
        refine Ex.ret_then ?_
        refine Ex.keep [] ?_
        have en := Rg.f1_stop ((Rg.f1_take (L := s.toList) (i := i1) (by rw [← Rg.size_toList]; omega)).trans (by rw [hf]; exact Rg.s1_bad a1 p1 _ (by omega) (by omega)))
        exact Ex.ret2 rfl rfl rfl  ⟨by unfold Rg.p1; rw [if_neg (by omega), en]; rfl, rfl, rfl⟩
       ·have g7 := h7
        try simp only [kb] at g7
        refine Tr.cond_f rfl h7 ?_
        refine Tr.to_end ?_
        refine Ex.go ?_
        refine Tr.seq ?_
        refine Tr.region ?_
        refine Run.val (lt rfl) (Y.move rfl) ?_
        refine Run.val (lt rfl) (Y.mul rfl rfl (by omega)) ?_
        refine Run.val (lt rfl) (Y.move rfl) ?_
        refine Run.val (lt rfl) (Y.move rfl) ?_
        refine Run.val (lt rfl) (Y.idxStr rfl rfl Addr5_st9 (by omega) (by omega)) ?_
        refine Run.val (lt rfl) (Y.int (r := .int .u8 (((s.toList.getD (i1 : Int).toNat 0).toNat : Int) - 48)) rfl rfl (by simp only [intRes]; rw [wrap_u8 (by omega)])) ?_
        refine Run.val (lt rfl) (Y.conv (((s.toList.getD (i1 : Int).toNat 0).toNat : Int) - 48) rfl Addr5_it5_3 (wrap_i64 (by omega))) ?_
        refine Run.val (lt rfl) (Y.add rfl rfl (by omega)) ?_
        refine Run.val (lt rfl) (Y.assign rfl) ?_
        refine Run.to_end ?_
        refine Ex.go ?_
        refine Tr.to_exit ?_
        refine Ex.exit_then ?_
        refine Ex.exit_in ?_
        refine Ex.go ?_
        refine Tr.region ?_
        refine Run.val (lt rfl) (Y.add rfl rfl (by omega)) ?_
        refine Run.val (lt rfl) (Y.move rfl) ?_
        refine Run.to_end ?_
        have en : Rg.f1 (s.toList.take (i1 + 1)) = some (a1, p1 * 10 + ((s.toList.getD i1 0).toNat - 48)) := (Rg.f1_take (L := s.toList) (i := i1) (by rw [← Rg.size_toList]; omega)).trans (by rw [hf]; exact Rg.s1_fig a1 p1 _ (by omega) (by omega))
        exact Ex.round (⟨i1 + 1, a1, p1 * 10 + ((s.toList.getD i1 0).toNat - 48)⟩ : Nat × Nat × Nat) ⟨.inl ⟨by omega, en⟩, ha9, by dsimp only; omega⟩ (by dsimp only; omega) rfl rfl (subB_cons (by first | rfl | exact congrArg (fun z => some (Value.int _ z)) (by omega) | exact congrArg (fun z => some (Value.int _ z)) (by (try dsimp only); omega)) (subB_cons (by first | rfl | exact congrArg (fun z => some (Value.int _ z)) (by omega) | exact congrArg (fun z => some (Value.int _ z)) (by (try dsimp only); omega)) (subB_cons (by first | rfl | exact congrArg (fun z => some (Value.int _ z)) (by omega) | exact congrArg (fun z => some (Value.int _ z)) (by (try dsimp only); omega)) (subB_cons (by first | rfl | exact congrArg (fun z => some (Value.int _ z)) (by omega) | exact congrArg (fun z => some (Value.int _ z)) (by (try dsimp only); omega)) (subB_cons (by first | rfl | exact congrArg (fun z => some (Value.int _ z)) (by omega) | exact congrArg (fun z => some (Value.int _ z)) (by (try dsimp only); omega)) (subB_nil _))))))
    ·have g4 := h4
     try simp only [kb] at g4
     refine Tr.cond_f rfl h4 ?_
     refine Tr.to_end ?_
     refine Ex.go ?_
     refine Tr.region ?_
     refine Run.val (lt rfl) (Y.move rfl) ?_
     refine Run.val (lt rfl) (Y.shl (((a1 * 256 % 4294967296 : Nat) : Int)) rfl rfl (by decide) (by rw [show (2 : Int) ^ min (8 : Int).toNat IntKind.u32.bits = 256 from by decide, wrap_u32_mod]; omega)) ?_
     refine Run.val (lt rfl) (Y.move rfl) ?_
     refine Run.val (lt rfl) (Y.int (r := .int .i64 ((p1 % 256 : Nat) : Int)) rfl rfl (by simp only [intRes]; rw [and_low2 _ 255 256 8 (by decide) rfl rfl]; rfl)) ?_
     refine Run.val (lt rfl) (Y.conv (((p1 % 256 : Nat) : Int)) rfl Addr5_it3_37 (wrap_u32 (by omega))) ?_
     refine Run.val (lt rfl) (Y.int (r := .int .u32 (((a1 * 256 + p1 % 256) % 4294967296 : Nat) : Int)) rfl rfl (Rg.or_part a1 p1)) ?_
     refine Run.val (lt rfl) (Y.assign rfl) ?_
     refine Run.val (lt rfl) (Y.assign rfl) ?_
     refine Run.to_end ?_
     refine Ex.end_block ?_
     refine Ex.go ?_
     refine Tr.region ?_
     refine Run.val (lt rfl) (Y.add rfl rfl (by omega)) ?_
     refine Run.val (lt rfl) (Y.move rfl) ?_
     refine Run.to_end ?_
     have en : Rg.f1 (s.toList.take (i1 + 1)) = some ((a1 * 256 + p1 % 256) % 4294967296, 0) := (Rg.f1_take (L := s.toList) (i := i1) (by rw [← Rg.size_toList]; omega)).trans (by rw [hf]; exact Rg.s1_dot a1 p1 _ (by omega))
     exact Ex.round (⟨i1 + 1, (a1 * 256 + p1 % 256) % 4294967296, 0⟩ : Nat × Nat × Nat) ⟨.inl ⟨by omega, en⟩, by dsimp only; omega, by dsimp only; omega⟩ (by dsimp only; omega) rfl rfl (subB_cons (by first | rfl | exact congrArg (fun z => some (Value.int _ z)) (by omega) | exact congrArg (fun z => some (Value.int _ z)) (by (try dsimp only); omega)) (subB_cons (by first | rfl | exact congrArg (fun z => some (Value.int _ z)) (by omega) | exact congrArg (fun z => some (Value.int _ z)) (by (try dsimp only); omega)) (subB_cons (by first | rfl | exact congrArg (fun z => some (Value.int _ z)) (by omega) | exact congrArg (fun z => some (Value.int _ z)) (by (try dsimp only); omega)) (subB_cons (by first | rfl | exact congrArg (fun z => some (Value.int _ z)) (by omega) | exact congrArg (fun z => some (Value.int _ z)) (by (try dsimp only); omega)) (subB_cons (by first | rfl | exact congrArg (fun z => some (Value.int _ z)) (by omega) | exact congrArg (fun z => some (Value.int _ z)) (by (try dsimp only); omega)) (subB_nil _))))))
   ·have g3 := h3
    try simp only [kb] at g3
    refine Run.off rfl rfl rfl h3 rfl (lt rfl) ?_
    refine Run.off rfl rfl rfl h3 rfl (lt rfl) ?_
    refine Run.off rfl rfl rfl h3 rfl (lt rfl) ?_
    refine Run.off rfl rfl rfl h3 rfl (lt rfl) ?_
    refine Run.val (lt rfl) (Y.pick_f rfl h3 rfl) ?_
    refine Run.to_end ?_
    refine Ex.go ?_
    refine Tr.cond_f rfl rfl ?_
    refine Tr.to_end ?_
    refine Ex.go ?_
    refine Tr.region ?_
    refine Run.val (lt rfl) (Y.move rfl) ?_
    refine Run.val (lt rfl) (Y.shl (((a1 * 256 % 4294967296 : Nat) : Int)) rfl rfl (by decide) (by rw [show (2 : Int) ^ min (8 : Int).toNat IntKind.u32.bits = 256 from by decide, wrap_u32_mod]; omega)) ?_
    refine Run.val (lt rfl) (Y.move rfl) ?_
    refine Run.val (lt rfl) (Y.int (r := .int .i64 ((p1 % 256 : Nat) : Int)) rfl rfl (by simp only [intRes]; rw [and_low2 _ 255 256 8 (by decide) rfl rfl]; rfl)) ?_
    refine Run.val (lt rfl) (Y.conv (((p1 % 256 : Nat) : Int)) rfl Addr5_it3_37 (wrap_u32 (by omega))) ?_
    refine Run.val (lt rfl) (Y.int (r := .int .u32 (((a1 * 256 + p1 % 256) % 4294967296 : Nat) : Int)) rfl rfl (Rg.or_part a1 p1)) ?_
    refine Run.val (lt rfl) (Y.assign rfl) ?_
    refine Run.val (lt rfl) (Y.assign rfl) ?_
    refine Run.to_end ?_
    refine Ex.end_block ?_
    refine Ex.go ?_
    refine Tr.region ?_
    refine Run.val (lt rfl) (Y.add rfl rfl (by omega)) ?_
    refine Run.val (lt rfl) (Y.move rfl) ?_
    refine Run.to_end ?_
    have ei : i1 = s.size := by omega
    have en : Rg.f1 s.toList = some (a1, p1) := by rw [ei, Rg.size_toList, List.take_length] at hf; exact hf
    exact Ex.round (⟨i1 + 1, (a1 * 256 + p1 % 256) % 4294967296, 0⟩ : Nat × Nat × Nat) ⟨.inr ⟨by omega, by rw [en]; rfl⟩, by dsimp only; omega, by dsimp only; omega⟩ (by dsimp only; omega) rfl rfl (subB_cons (by first | rfl | exact congrArg (fun z => some (Value.int _ z)) (by omega) | exact congrArg (fun z => some (Value.int _ z)) (by (try dsimp only); omega)) (subB_cons (by first | rfl | exact congrArg (fun z => some (Value.int _ z)) (by omega) | exact congrArg (fun z => some (Value.int _ z)) (by (try dsimp only); omega)) (subB_cons (by first | rfl | exact congrArg (fun z => some (Value.int _ z)) (by omega) | exact congrArg (fun z => some (Value.int _ z)) (by (try dsimp only); omega)) (subB_cons (by first | rfl | exact congrArg (fun z => some (Value.int _ z)) (by omega) | exact congrArg (fun z => some (Value.int _ z)) (by (try dsimp only); omega)) (subB_cons (by first | rfl | exact congrArg (fun z => some (Value.int _ z)) (by omega) | exact congrArg (fun z => some (Value.int _ z)) (by (try dsimp only); omega)) (subB_nil _))))))
  ·have g2 := h2
   try simp only [kb] at g2
   refine Tr.cond_f rfl h2 ?_
   refine Tr.to_exit ?_
   refine Ex.exit_then ?_
   refine Ex.exit_then ?_
   refine Ex.exit_in ?_
   refine Ex.go ?_
   refine Tr.seq ?_
   refine Tr.seq ?_
   refine Tr.region ?_
   refine Run.val (lt rfl) (Y.move rfl) ?_
   refine Run.call0 (l := [.tmp 55]) rfl rfl rfl (lt rfl) (text_h (m := a1) (by omega)) ?_
   refine Run.val (lt rfl) (Y.move rfl) ?_
   refine Run.val (lt rfl) (Y.neStr rfl rfl) ?_
   refine Run.to_end ?_
   refine Ex.go ?_
   rcases Bool.eq_false_or_eq_true ((Rg.txt (a1)).toList == s.toList) with h8 | h8
   ·have g8 := h8
    try simp only [kb] at g8
    refine Tr.cond_f rfl (congrArg Bool.not h8) ?_
    refine Tr.to_end ?_
    refine Ex.go ?_
    refine Tr.seq ?_
    refine Tr.region ?_
    refine Run.val (lt rfl) (Y.move rfl) ?_
    refine Run.val (lt rfl) (Y.assign rfl) ?_
    refine Run.val (lt rfl) (Y.assign rfl) ?_
    refine Run.to_end ?_
    refine Ex.go ?_
    refine Tr.to_ret ?_
    refine Ex.keep [] ?_
    rcases hrel with ⟨hi, hf⟩ | ⟨hi, hf⟩
    case inl => omega
    exact Ex.ret2 rfl rfl rfl  ⟨by unfold Rg.p1; rw [if_neg (by omega), hf]; unfold Rg.ends; simp only [h8]; rfl, rfl, rfl⟩
   ·have g8 := h8
    try simp only [kb] at g8
    refine Tr.cond_t rfl (congrArg Bool.not h8) ?_
    refine Tr.seq ?_
    refine Tr.region ?_
    refine Run.val (lt rfl) (Y.assign rfl) ?_
    refine Run.val (lt rfl) (Y.assign rfl) ?_
    refine Run.to_end ?_
    refine Ex.go ?_
    refine Tr.to_ret ?_
    refine Ex.ret_then ?_
    refine Ex.keep [] ?_
    rcases hrel with ⟨hi, hf⟩ | ⟨hi, hf⟩
    case inl => omega
    exact Ex.ret2 rfl rfl rfl  ⟨by unfold Rg.p1; rw [if_neg (by omega), hf]; unfold Rg.ends; simp only [h8]; rfl, rfl, rfl⟩

theorem parse_h {s : ByteArray} {V : Vw} {H : Hp} : Does Try.prog 56 [.string s] V H (Pv (.tuple #[.int .u32 ((Rg.p1 s).1), .int .i64 ((Rg.p1 s).2)]) V H) := parse_c.frame

theorem figs1_c {V : Vw} {n : Nat} (hn : n ≤ 255) (ih : ∀ k, k < n → Does Try.prog 89 [.int .i64 (k : Int)] V [] (Pv (.string (Rg.fgS k)) V []))  : Does Try.prog 89 [.int .i64 ((n : Nat) : Int)] V [] (Pv (.string (Rg.fgS n)) V []) := by
 refine Does.intro Try.func89 rfl rfl (le rfl) (fun B => ?_)
 refine Tr.seq ?_
 refine Tr.region ?_
 refine Run.val (lt rfl) (Y.assign rfl) ?_
 refine Run.to_end ?_
 refine Ex.go ?_
 refine Tr.seq ?_
 refine Tr.seq ?_
 refine Tr.region ?_
 refine Run.val (lt rfl) (Y.move rfl) ?_
 refine Run.val (lt rfl) (Y.int rfl rfl rfl) ?_
 refine Run.to_end ?_
 refine Ex.go ?_
 rcases Bool.eq_false_or_eq_true (decide (((n : Nat) : Int) < 10)) with h1 | h1
 ·have g1 := h1
  try simp only [kb] at g1
  refine Tr.cond_t rfl h1 ?_
  refine Tr.seq ?_
  refine Tr.region ?_
  refine Run.val (lt rfl) (Y.move rfl) ?_
  refine Run.val (lt rfl) (Y.addN ((48 + n : Nat) : Int) rfl rfl (by omega) (by omega)) ?_
  refine Run.val (lt rfl) (Y.conv ((((UInt8.ofNat (48 + n)).toNat : Nat) : Int)) rfl Addr5_it3_5 (by rw [Rg.fig_nat (by omega)]; exact wrap_u8 (by omega))) ?_
  refine Run.buildSlice (l := [(0, .tmp 7)]) Addr5_es176 Addr5_zo5 rfl (by decide) rfl rfl (by decide) (lt rfl) (fun b2 => ?_)
  refine Run.val (lt rfl) (Y.bytesStr (bs := [UInt8.ofNat (48 + n)]) rfl Addr5_es176 Addr5_tg5 Addr5_st9 (Rd.one (Kn.at 0 rfl) rfl)) ?_
  refine Run.val (lt rfl) (Y.assign rfl) ?_
  refine Run.to_end ?_
  refine Ex.go ?_
  refine Tr.to_ret ?_
  refine Ex.ret_then ?_
  refine Ex.keep [] ?_
  exact Ex.ret1 rfl rfl  ⟨congrArg Value.string (by unfold Rg.fgS; rw [Rg.fg_lt (by omega)]), rfl, rfl⟩
 ·have g1 := h1
  try simp only [kb] at g1
  refine Tr.cond_f rfl h1 ?_
  refine Tr.to_end ?_
  refine Ex.go ?_
  refine Tr.seq ?_
  refine Tr.region ?_
  refine Run.val (lt rfl) (Y.move rfl) ?_
  refine Run.val (lt rfl) (Y.quoN (m := n) (n := 10) rfl rfl (by omega) (by omega)) ?_
  refine Run.call0 (l := [.tmp 11]) rfl rfl rfl (lt rfl) (ih (n / 10) (by omega)) ?_
  refine Run.val (lt rfl) (Y.move rfl) ?_
  refine Run.val (lt rfl) (Y.rem (((n % 10 : Nat) : Int)) rfl rfl (by decide) rfl) ?_
  refine Run.call0 (l := [.tmp 14]) rfl rfl rfl (lt rfl) (ih (n % 10) (by omega)) ?_
  refine Run.val (lt rfl) (Y.catStr rfl rfl (by have h1 := Rg.fgS_size (n := n / 10) (by omega); have h2 := Rg.fgS_size (n := n % 10) (by omega); omega)) ?_
  refine Run.val (lt rfl) (Y.assign rfl) ?_
  refine Run.to_end ?_
  refine Ex.go ?_
  refine Tr.to_ret ?_
  refine Ex.keep [] ?_
  exact Ex.ret1 rfl rfl  ⟨congrArg Value.string (Rg.fgS_ge (by omega)), rfl, rfl⟩

theorem figs_h {n : Nat} (hn : n ≤ 255) {V : Vw} {H : Hp} : Does Try.prog 89 [.int .i64 ((n : Nat) : Int)] V H (Pv (.string (Rg.fgS n)) V H) := by
  have : ∀ k : Nat, k ≤ 255 → Does Try.prog 89 [.int .i64 (k : Int)] V [] (Pv (.string (Rg.fgS k)) V []) := fun k => by
    induction k using Nat.strongRecOn with
    | _ k ih => exact fun h => figs1_c h (fun j hj => ih j hj (by omega))
  exact (this n hn).frame

theorem rtext_c {m : Nat} (hm : m ≤ 4294967295) {V : Vw} : Does Try.prog 59 [.int .u32 ((m : Nat) : Int)] V [] (Pv (.string (Rg.txt m)) V []) := by
 refine Does.intro Try.func59 rfl rfl (le rfl) (fun B => ?_)
 refine Tr.seq ?_
 refine Tr.region ?_
 refine Run.val (lt rfl) (Y.assign rfl) ?_
 refine Run.to_end ?_
 refine Ex.go ?_
 refine Tr.seq ?_
 refine Tr.region ?_
 refine Run.val (lt rfl) (Y.move rfl) ?_
 refine Run.val (lt rfl) (Y.conv (((m : Nat) : Int)) rfl Addr5_it37_3 (wrap_i64 (by omega))) ?_
 refine Run.val (lt rfl) (Y.assign rfl) ?_
 refine Run.to_end ?_
 refine Ex.go ?_
 refine Tr.seq ?_
 refine Tr.region ?_
 refine Run.val (lt rfl) (Y.move rfl) ?_
 refine Run.val (lt rfl) (Y.quo (((Rg.prt m 0 : Nat) : Int)) rfl rfl (by decide) (by have e : Rg.prt m 0 = m / 16777216 % 256 := rfl; rw [Int.tdiv_eq_ediv_of_nonneg (by omega), wrap_i64 (by omega)]; omega)) ?_
 refine Run.call0 (l := [.tmp 7]) rfl rfl rfl (lt rfl) (figs_h (n := Rg.prt m 0) (by first | exact Rg.prt_le m 0 | omega)) ?_
 refine Run.val (lt rfl) (Y.catStr (b := Rg.dot) rfl rfl (by have h0 := Rg.fgS_size (Rg.prt_le m 0); have h1 := Rg.fgS_size (Rg.prt_le m 1); have h2 := Rg.fgS_size (Rg.prt_le m 2); have h3 := Rg.fgS_size (Rg.prt_le m 3); have hd := Rg.dot_size; (try simp only [ByteArray.size_append]); omega)) ?_
 refine Run.val (lt rfl) (Y.move rfl) ?_
 refine Run.val (lt rfl) (Y.quoN (m := m) (n := 65536) rfl rfl (by decide) (by omega)) ?_
 refine Run.val (lt rfl) (Y.rem (((m / 65536 % 256 : Nat) : Int)) rfl rfl (by decide) rfl) ?_
 refine Run.call0 (l := [.tmp 12]) rfl rfl rfl (lt rfl) (figs_h (n := m / 65536 % 256) (by first | exact Rg.prt_le m 0 | omega)) ?_
 rw [show m / 65536 % 256 = Rg.prt m 1 from rfl]
 refine Run.val (lt rfl) (Y.catStr rfl rfl (by have h0 := Rg.fgS_size (Rg.prt_le m 0); have h1 := Rg.fgS_size (Rg.prt_le m 1); have h2 := Rg.fgS_size (Rg.prt_le m 2); have h3 := Rg.fgS_size (Rg.prt_le m 3); have hd := Rg.dot_size; (try simp only [ByteArray.size_append]); omega)) ?_
 refine Run.val (lt rfl) (Y.catStr (b := Rg.dot) rfl rfl (by have h0 := Rg.fgS_size (Rg.prt_le m 0); have h1 := Rg.fgS_size (Rg.prt_le m 1); have h2 := Rg.fgS_size (Rg.prt_le m 2); have h3 := Rg.fgS_size (Rg.prt_le m 3); have hd := Rg.dot_size; (try simp only [ByteArray.size_append]); omega)) ?_
 refine Run.val (lt rfl) (Y.move rfl) ?_
 refine Run.val (lt rfl) (Y.quoN (m := m) (n := 256) rfl rfl (by decide) (by omega)) ?_
 refine Run.val (lt rfl) (Y.rem (((m / 256 % 256 : Nat) : Int)) rfl rfl (by decide) rfl) ?_
 refine Run.call0 (l := [.tmp 18]) rfl rfl rfl (lt rfl) (figs_h (n := m / 256 % 256) (by first | exact Rg.prt_le m 0 | omega)) ?_
 rw [show m / 256 % 256 = Rg.prt m 2 from rfl]
 refine Run.val (lt rfl) (Y.catStr rfl rfl (by have h0 := Rg.fgS_size (Rg.prt_le m 0); have h1 := Rg.fgS_size (Rg.prt_le m 1); have h2 := Rg.fgS_size (Rg.prt_le m 2); have h3 := Rg.fgS_size (Rg.prt_le m 3); have hd := Rg.dot_size; (try simp only [ByteArray.size_append]); omega)) ?_
 refine Run.val (lt rfl) (Y.catStr (b := Rg.dot) rfl rfl (by have h0 := Rg.fgS_size (Rg.prt_le m 0); have h1 := Rg.fgS_size (Rg.prt_le m 1); have h2 := Rg.fgS_size (Rg.prt_le m 2); have h3 := Rg.fgS_size (Rg.prt_le m 3); have hd := Rg.dot_size; (try simp only [ByteArray.size_append]); omega)) ?_
 refine Run.val (lt rfl) (Y.move rfl) ?_
 refine Run.val (lt rfl) (Y.rem (((m % 256 : Nat) : Int)) rfl rfl (by decide) rfl) ?_
 refine Run.call0 (l := [.tmp 23]) rfl rfl rfl (lt rfl) (figs_h (n := m % 256) (by first | exact Rg.prt_le m 0 | omega)) ?_
 rw [show m % 256 = Rg.prt m 3 from by show _ = m / 1 % 256; rw [Nat.div_one]]
 refine Run.val (lt rfl) (Y.catStr rfl rfl (by have h0 := Rg.fgS_size (Rg.prt_le m 0); have h1 := Rg.fgS_size (Rg.prt_le m 1); have h2 := Rg.fgS_size (Rg.prt_le m 2); have h3 := Rg.fgS_size (Rg.prt_le m 3); have hd := Rg.dot_size; (try simp only [ByteArray.size_append]); omega)) ?_
 refine Run.val (lt rfl) (Y.assign rfl) ?_
 refine Run.to_end ?_
 refine Ex.go ?_
 refine Tr.to_ret ?_
 refine Ex.keep [] ?_
 exact Ex.ret1 rfl rfl  ⟨congrArg Value.string (by unfold Rg.txt; rw [Rg.txtU_dot (i := 3) (by decide), Rg.txtU_dot (i := 2) (by decide), Rg.txtU_dot (i := 1) (by decide), Rg.txtU_no, show Rg.txtU m 0 ++ Rg.fgS (Rg.prt m 0) = Rg.fgS (Rg.prt m 0) from Rg.nil_cat _]), rfl, rfl⟩

theorem rtext_h {m : Nat} (hm : m ≤ 4294967295) {V : Vw} {H : Hp} : Does Try.prog 59 [.int .u32 ((m : Nat) : Int)] V H (Pv (.string (Rg.txt m)) V H) := (rtext_c hm).frame

theorem rparse_c {s : ByteArray} {V : Vw} : Does Try.prog 57 [.string s] V [] (Pv (.tuple #[.int .u32 ((Rg.p2 s).1), .int .i64 ((Rg.p2 s).2)]) V []) := by
 refine Does.intro Try.func57 rfl rfl (le rfl) (fun B => ?_)
 refine Tr.seq ?_
 refine Tr.region ?_
 refine Run.val (lt rfl) (Y.assign rfl) ?_
 refine Run.val (lt rfl) (Y.assign rfl) ?_
 refine Run.to_end ?_
 refine Ex.go ?_
 refine Tr.seq ?_
 refine Tr.seq ?_
 refine Tr.region ?_
 refine Run.val (lt rfl) (Y.move rfl) ?_
 refine Run.val (lt rfl) (Y.lenStr rfl Addr5_st9) ?_
 refine Run.val (lt rfl) (Y.int rfl rfl rfl) ?_
 refine Run.to_end ?_
 refine Ex.go ?_
 rcases Bool.eq_false_or_eq_true (decide ((s.size : Int) > 15)) with h1 | h1
 ·have g1 := h1
  try simp only [kb] at g1
  refine Tr.cond_t rfl h1 ?_
  refine Tr.seq ?_
  refine Tr.region ?_
  refine Run.val (lt rfl) (Y.assign rfl) ?_
  refine Run.val (lt rfl) (Y.assign rfl) ?_
  refine Run.to_end ?_
  refine Ex.go ?_
  refine Tr.to_ret ?_
  refine Ex.ret_then ?_
  refine Ex.keep [] ?_
  exact Ex.ret2 rfl rfl rfl  ⟨by unfold Rg.p2; rw [if_pos (by omega)], rfl, rfl⟩
 ·have g1 := h1
  try simp only [kb] at g1
  refine Tr.cond_f rfl h1 ?_
  refine Tr.to_end ?_
  refine Ex.go ?_
  refine Tr.seq ?_
  refine Tr.region ?_
  refine Run.val (lt rfl) (Y.assign rfl) ?_
  refine Run.to_end ?_
  refine Ex.go ?_
  refine Tr.seq ?_
  refine Tr.region ?_
  refine Run.val (lt rfl) (Y.assign rfl) ?_
  refine Run.to_end ?_
  refine Ex.go ?_
  refine Tr.seq ?_
  refine Tr.seq ?_
  refine Tr.region ?_
  refine Run.val (lt rfl) (Y.assign rfl) ?_
  refine Run.to_end ?_
  refine Ex.go ?_
  refine Tr.block ?_
  refine Tr.loop (X := Nat × Nat × Nat) (fun z0 => V) (fun z0 => []) (fun z0 => [(0, .string s), (4, .int .i64 ((z0.2.1 : Nat) : Int)), (5, .int .i64 ((z0.2.2 : Nat) : Int)), (6, .int .i64 (z0.1 : Int))]) (fun z0 => z0.1 ≤ s.size ∧ Rg.f2 (s.toList.take z0.1) = some (z0.2.1, z0.2.2) ∧ z0.2.1 ≤ 4294967295 ∧ z0.2.2 ≤ 255) (fun z0 => s.size - z0.1) (⟨0, 0, 0⟩ : Nat × Nat × Nat) ⟨Nat.zero_le _, rfl, by decide, by decide⟩ (fun a w i => ⟨i.1.sub (subB_cons (by first | rfl | exact congrArg (fun z => some (Value.int _ z)) (by omega)) (subB_cons (by first | rfl | exact congrArg (fun z => some (Value.int _ z)) (by omega)) (subB_cons (by first | rfl | exact congrArg (fun z => some (Value.int _ z)) (by omega)) (subB_cons (by first | rfl | exact congrArg (fun z => some (Value.int _ z)) (by omega)) (subB_nil _))))), i.2⟩) ?_
  rintro ⟨i1, n1, p1⟩ ⟨hi, hf, hn9, hp9⟩
  try dsimp only at hi hf hn9 hp9 ⊢
  refine Tr.seq ?_
  refine Tr.seq ?_
  refine Tr.region ?_
  refine Run.val (lt rfl) (Y.move rfl) ?_
  refine Run.val (lt rfl) (Y.move rfl) ?_
  refine Run.val (lt rfl) (Y.lenStr rfl Addr5_st9) ?_
  refine Run.val (lt rfl) (Y.int rfl rfl rfl) ?_
  refine Run.to_end ?_
  refine Ex.go ?_
  rcases Bool.eq_false_or_eq_true (decide ((i1 : Int) < (s.size : Int))) with h2 | h2
  ·have g2 := h2
   try simp only [kb] at g2
   refine Tr.cond_t rfl h2 ?_
   refine Tr.to_end ?_
   refine Ex.go ?_
   refine Tr.seq ?_
   refine Tr.block ?_
   refine Tr.seq ?_
   refine Tr.seq ?_
   refine Tr.region ?_
   have hcx : (s.toList.getD (i1 : Int).toNat 0).toNat = (s.toList.getD i1 0).toNat := rfl
   have hcl := UInt8.toNat_lt (s.toList.getD i1 0)
   refine Run.val (lt rfl) (Y.move rfl) ?_
   refine Run.val (lt rfl) (Y.move rfl) ?_
   refine Run.val (lt rfl) (Y.idxStr rfl rfl Addr5_st9 (by omega) (by omega)) ?_
   refine Run.val (lt rfl) (Y.int rfl rfl rfl) ?_
   refine Run.to_end ?_
   refine Ex.go ?_
   rcases Bool.eq_false_or_eq_true (((s.toList.getD (i1 : Int).toNat 0).toNat : Int) == 46) with h3 | h3
   ·have g3 := h3
    try simp only [kb] at g3
    refine Tr.cond_t rfl h3 ?_
    refine Tr.seq ?_
    refine Tr.region ?_
    refine Run.val (lt rfl) (Y.move rfl) ?_
    refine Run.val (lt rfl) (Y.mul rfl rfl (by omega)) ?_
    refine Run.val (lt rfl) (Y.move rfl) ?_
    refine Run.val (lt rfl) (Y.add rfl rfl (by omega)) ?_
    refine Run.val (lt rfl) (Y.assign rfl) ?_
    refine Run.to_end ?_
    refine Ex.go ?_
    refine Tr.region ?_
    refine Run.val (lt rfl) (Y.assign rfl) ?_
    refine Run.to_end ?_
    refine Ex.go ?_
    refine Tr.seq ?_
    refine Tr.region ?_
    refine Run.val (lt rfl) (Y.move rfl) ?_
    refine Run.val (lt rfl) (Y.int (r := .bool false) rfl rfl rfl) ?_
    refine Run.val (lt rfl) (Y.move rfl) ?_
    refine Run.on rfl rfl rfl rfl ?_
    refine Run.val (lt rfl) (Y.move rfl) ?_
    refine Run.on rfl rfl rfl rfl ?_
    refine Run.val (lt rfl) (Y.int rfl rfl rfl) ?_
    refine Run.val (lt rfl) (Y.pick_f rfl rfl rfl) ?_
    refine Run.to_end ?_
    refine Ex.go ?_
    rcases Bool.eq_false_or_eq_true (decide (((((n1 : Nat) : Int) * 256) + ((p1 : Nat) : Int)) > 4294967295)) with h4 | h4
    ·have g4 := h4
     try simp only [kb] at g4
     refine Tr.cond_t rfl h4 ?_
     refine Tr.seq ?_
     refine Tr.region ?_
     refine Run.val (lt rfl) (Y.assign rfl) ?_
     refine Run.val (lt rfl) (Y.assign rfl) ?_
     refine Run.to_end ?_
     refine Ex.go ?_
     refine Tr.to_ret ?_
     refine Ex.ret_block ?_
     refine Ex.ret_then ?_
     refine Ex.ret_then ?_
     refine Ex.ret_block ?_
     refine Ex.ret_then ?_
     refine Ex.keep [] ?_
     have en := Rg.f2_stop ((Rg.f2_take (L := s.toList) (i := i1) (by rw [← Rg.size_toList]; omega)).trans (by rw [hf]; exact (Rg.s2_dot n1 p1 _ (by omega)).trans (if_pos (by omega))))
     exact Ex.ret2 rfl rfl rfl  ⟨by unfold Rg.p2; rw [if_neg (by omega), en]; rfl, rfl, rfl⟩
    ·have g4 := h4
     try simp only [kb] at g4
     refine Tr.cond_f rfl h4 ?_
     refine Tr.to_end ?_
     refine Ex.end_block ?_
     refine Ex.go ?_
     refine Tr.region ?_
     refine Run.val (lt rfl) (Y.move rfl) ?_
     refine Run.val (lt rfl) (Y.add rfl rfl (by omega)) ?_
     refine Run.val (lt rfl) (Y.assign rfl) ?_
     refine Run.to_end ?_
     have en : Rg.f2 (s.toList.take (i1 + 1)) = some (n1 * 256 + p1, 0) := (Rg.f2_take (L := s.toList) (i := i1) (by rw [← Rg.size_toList]; omega)).trans (by rw [hf]; exact (Rg.s2_dot n1 p1 _ (by omega)).trans (if_neg (by omega)))
     exact Ex.round (⟨i1 + 1, n1 * 256 + p1, 0⟩ : Nat × Nat × Nat) ⟨by omega, en, by dsimp only; omega, by dsimp only; omega⟩ (by dsimp only; omega) rfl rfl (subB_cons (by first | rfl | exact congrArg (fun z => some (Value.int _ z)) (by omega) | exact congrArg (fun z => some (Value.int _ z)) (by (try dsimp only); omega)) (subB_cons (by first | rfl | exact congrArg (fun z => some (Value.int _ z)) (by omega) | exact congrArg (fun z => some (Value.int _ z)) (by (try dsimp only); omega)) (subB_cons (by first | rfl | exact congrArg (fun z => some (Value.int _ z)) (by omega) | exact congrArg (fun z => some (Value.int _ z)) (by (try dsimp only); omega)) (subB_cons (by first | rfl | exact congrArg (fun z => some (Value.int _ z)) (by omega) | exact congrArg (fun z => some (Value.int _ z)) (by (try dsimp only); omega)) (subB_nil _)))))
   ·have g3 := h3
    try simp only [kb] at g3
    refine Tr.cond_f rfl h3 ?_
    refine Tr.seq ?_
    refine Tr.region ?_
    refine Run.val (lt rfl) (Y.move rfl) ?_
    refine Run.val (lt rfl) (Y.move rfl) ?_
    refine Run.val (lt rfl) (Y.idxStr rfl rfl Addr5_st9 (by omega) (by omega)) ?_
    refine Run.val (lt rfl) (Y.int rfl rfl rfl) ?_
    refine Run.val (lt rfl) (Y.move rfl) ?_
    rcases Bool.eq_false_or_eq_true (decide (((s.toList.getD (i1 : Int).toNat 0).toNat : Int) ≥ 48)) with h5 | h5
    ·have g5 := h5
     try simp only [kb] at g5
     refine Run.on rfl rfl rfl h5 ?_
     refine Run.val (lt rfl) (Y.move rfl) ?_
     refine Run.on rfl rfl rfl h5 ?_
     refine Run.val (lt rfl) (Y.move rfl) ?_
     refine Run.on rfl rfl rfl h5 ?_
     refine Run.val (lt rfl) (Y.idxStr rfl rfl Addr5_st9 (by omega) (by omega)) ?_
     refine Run.on rfl rfl rfl h5 ?_
     refine Run.val (lt rfl) (Y.int rfl rfl rfl) ?_
     refine Run.val (lt rfl) (Y.pick_t rfl h5 rfl) ?_
     refine Run.to_end ?_
     refine Ex.go ?_
     rcases Bool.eq_false_or_eq_true (decide (((s.toList.getD (i1 : Int).toNat 0).toNat : Int) ≤ 57)) with h6 | h6
     ·have g6 := h6
      try simp only [kb] at g6
      refine Tr.cond_t rfl h6 ?_
      refine Tr.region ?_
      refine Run.val (lt rfl) (Y.move rfl) ?_
      refine Run.val (lt rfl) (Y.mul rfl rfl (by omega)) ?_
      refine Run.val (lt rfl) (Y.move rfl) ?_
      refine Run.val (lt rfl) (Y.move rfl) ?_
      refine Run.val (lt rfl) (Y.idxStr rfl rfl Addr5_st9 (by omega) (by omega)) ?_
      refine Run.val (lt rfl) (Y.int (r := .int .u8 (((s.toList.getD (i1 : Int).toNat 0).toNat : Int) - 48)) rfl rfl (by simp only [intRes]; rw [wrap_u8 (by omega)])) ?_
      refine Run.val (lt rfl) (Y.conv (((s.toList.getD (i1 : Int).toNat 0).toNat : Int) - 48) rfl Addr5_it5_3 (wrap_i64 (by omega))) ?_
      refine Run.val (lt rfl) (Y.add rfl rfl (by omega)) ?_
      refine Run.val (lt rfl) (Y.assign rfl) ?_
      refine Run.to_end ?_
      refine Ex.go ?_
      refine Tr.seq ?_
      refine Tr.region ?_
      refine Run.val (lt rfl) (Y.move rfl) ?_
      refine Run.val (lt rfl) (Y.int rfl rfl rfl) ?_
      refine Run.val (lt rfl) (Y.move rfl) ?_
      rcases Bool.eq_false_or_eq_true (decide (((((p1 : Nat) : Int) * 10) + (((s.toList.getD (i1 : Int).toNat 0).toNat : Int) - 48)) > 255)) with h7 | h7
      ·have g7 := h7
       try simp only [kb] at g7
       refine Run.off rfl rfl rfl h7 rfl (lt rfl) ?_
       refine Run.off rfl rfl rfl h7 rfl (lt rfl) ?_
       refine Run.val (lt rfl) (Y.pick_t rfl h7 rfl) ?_
       refine Run.to_end ?_
       refine Ex.go ?_
       refine Tr.cond_t rfl rfl ?_
       refine Tr.seq ?_
       refine Tr.region ?_
       refine Run.val (lt rfl) (Y.assign rfl) ?_
       refine Run.val (lt rfl) (Y.assign rfl) ?_
       refine Run.to_end ?_
       refine Ex.go ?_
       refine Tr.to_ret ?_
       refine Ex.ret_block ?_
       refine Ex.ret_then ?_
       refine Ex.ret_then ?_
       refine Ex.ret_block ?_
       refine Ex.ret_then ?_
       refine Ex.keep [] ?_
       have en := Rg.f2_stop ((Rg.f2_take (L := s.toList) (i := i1) (by rw [← Rg.size_toList]; omega)).trans (by rw [hf]; exact (Rg.s2_fig n1 p1 _ (by omega) (by omega)).trans (if_pos (by omega))))
       exact Ex.ret2 rfl rfl rfl  ⟨by unfold Rg.p2; rw [if_neg (by omega), en]; rfl, rfl, rfl⟩
      ·have g7 := h7
       try simp only [kb] at g7
       refine Run.on rfl rfl rfl h7 ?_
       refine Run.val (lt rfl) (Y.move rfl) ?_
       refine Run.on rfl rfl rfl h7 ?_
       refine Run.val (lt rfl) (Y.int rfl rfl rfl) ?_
       refine Run.val (lt rfl) (Y.pick_f rfl h7 rfl) ?_
       refine Run.to_end ?_
       refine Ex.go ?_
       rcases Bool.eq_false_or_eq_true (decide (((n1 : Nat) : Int) > 4294967295)) with h8 | h8
       ·have g8 := h8
        try simp only [kb] at g8
        refine Tr.cond_t rfl h8 ?_
        refine Tr.seq ?_
        refine Tr.region ?_
        refine Run.val (lt rfl) (Y.assign rfl) ?_
        refine Run.val (lt rfl) (Y.assign rfl) ?_
        refine Run.to_end ?_
        refine Ex.go ?_
        refine Tr.to_ret ?_
        refine Ex.ret_block ?_
        refine Ex.ret_then ?_
        refine Ex.ret_then ?_
        refine Ex.ret_block ?_
        refine Ex.ret_then ?_
        refine Ex.keep [] ?_
        have en := Rg.f2_stop ((Rg.f2_take (L := s.toList) (i := i1) (by rw [← Rg.size_toList]; omega)).trans (by rw [hf]; exact (Rg.s2_fig n1 p1 _ (by omega) (by omega)).trans (if_pos (by omega))))
        exact Ex.ret2 rfl rfl rfl  ⟨by unfold Rg.p2; rw [if_neg (by omega), en]; rfl, rfl, rfl⟩
       ·have g8 := h8
        try simp only [kb] at g8
        refine Tr.cond_f rfl h8 ?_
        refine Tr.to_end ?_
        refine Ex.end_block ?_
        refine Ex.go ?_
        refine Tr.region ?_
        refine Run.val (lt rfl) (Y.move rfl) ?_
        refine Run.val (lt rfl) (Y.add rfl rfl (by omega)) ?_
        refine Run.val (lt rfl) (Y.assign rfl) ?_
        refine Run.to_end ?_
        have en : Rg.f2 (s.toList.take (i1 + 1)) = some (n1, p1 * 10 + ((s.toList.getD i1 0).toNat - 48)) := (Rg.f2_take (L := s.toList) (i := i1) (by rw [← Rg.size_toList]; omega)).trans (by rw [hf]; exact (Rg.s2_fig n1 p1 _ (by omega) (by omega)).trans (if_neg (by omega)))
        exact Ex.round (⟨i1 + 1, n1, p1 * 10 + ((s.toList.getD i1 0).toNat - 48)⟩ : Nat × Nat × Nat) ⟨by omega, en, hn9, by dsimp only; omega⟩ (by dsimp only; omega) rfl rfl (subB_cons (by first | rfl | exact congrArg (fun z => some (Value.int _ z)) (by omega) | exact congrArg (fun z => some (Value.int _ z)) (by (try dsimp only); omega)) (subB_cons (by first | rfl | exact congrArg (fun z => some (Value.int _ z)) (by omega) | exact congrArg (fun z => some (Value.int _ z)) (by (try dsimp only); omega)) (subB_cons (by first | rfl | exact congrArg (fun z => some (Value.int _ z)) (by omega) | exact congrArg (fun z => some (Value.int _ z)) (by (try dsimp only); omega)) (subB_cons (by first | rfl | exact congrArg (fun z => some (Value.int _ z)) (by omega) | exact congrArg (fun z => some (Value.int _ z)) (by (try dsimp only); omega)) (subB_nil _)))))
     ·have g6 := h6
      try simp only [kb] at g6
      refine Tr.cond_f rfl h6 ?_
      refine Tr.seq ?_
      refine Tr.region ?_
      refine Run.val (lt rfl) (Y.assign rfl) ?_
      refine Run.val (lt rfl) (Y.assign rfl) ?_
      refine Run.to_end ?_
      refine Ex.go ?_
      refine Tr.to_ret ?_
      refine Ex.ret_then ?_
      refine Ex.ret_block ?_
      refine Ex.ret_then ?_
      refine Ex.ret_then ?_
      refine Ex.ret_block ?_
      refine Ex.ret_then ?_
      refine Ex.keep [] ?_
      have en := Rg.f2_stop ((Rg.f2_take (L := s.toList) (i := i1) (by rw [← Rg.size_toList]; omega)).trans (by rw [hf]; exact Rg.s2_bad n1 p1 _ (by omega) (by omega)))
      exact Ex.ret2 rfl rfl rfl  ⟨by unfold Rg.p2; rw [if_neg (by omega), en]; rfl, rfl, rfl⟩
    ·have g5 := h5
     try simp only [kb] at g5
     refine Run.off rfl rfl rfl h5 rfl (lt rfl) ?_
     refine Run.off rfl rfl rfl h5 rfl (lt rfl) ?_
     refine Run.off rfl rfl rfl h5 rfl (lt rfl) ?_
     refine Run.off rfl rfl rfl h5 rfl (lt rfl) ?_
     refine Run.val (lt rfl) (Y.pick_f rfl h5 rfl) ?_
     refine Run.to_end ?_
     refine Ex.go ?_
     refine Tr.cond_f rfl rfl ?_
     refine Tr.seq ?_
     refine Tr.region ?_
     refine Run.val (lt rfl) (Y.assign rfl) ?_
     refine Run.val (lt rfl) (Y.assign rfl) ?_
     refine Run.to_end ?_
     refine Ex.go ?_
     refine Tr.to_ret ?_
     refine Ex.ret_then ?_
     refine Ex.ret_block ?_
     refine Ex.ret_then ?_
     refine Ex.ret_then ?_
     refine Ex.ret_block ?_
     refine Ex.ret_then ?_
     refine Ex.keep [] ?_
     have en := Rg.f2_stop ((Rg.f2_take (L := s.toList) (i := i1) (by rw [← Rg.size_toList]; omega)).trans (by rw [hf]; exact Rg.s2_bad n1 p1 _ (by omega) (by omega)))
     exact Ex.ret2 rfl rfl rfl  ⟨by unfold Rg.p2; rw [if_neg (by omega), en]; rfl, rfl, rfl⟩
  ·have g2 := h2
   try simp only [kb] at g2
   refine Tr.cond_f rfl h2 ?_
   refine Tr.to_exit ?_
   refine Ex.exit_then ?_
   refine Ex.exit_then ?_
   refine Ex.exit_in ?_
   refine Ex.go ?_
   refine Tr.seq ?_
   refine Tr.region ?_
   refine Run.val (lt rfl) (Y.move rfl) ?_
   refine Run.val (lt rfl) (Y.mul rfl rfl (by omega)) ?_
   refine Run.val (lt rfl) (Y.move rfl) ?_
   refine Run.val (lt rfl) (Y.add rfl rfl (by omega)) ?_
   refine Run.val (lt rfl) (Y.assign rfl) ?_
   refine Run.to_end ?_
   refine Ex.go ?_
   refine Tr.seq ?_
   refine Tr.seq ?_
   refine Tr.region ?_
   refine Run.val (lt rfl) (Y.move rfl) ?_
   refine Run.val (lt rfl) (Y.int rfl rfl rfl) ?_
   refine Run.val (lt rfl) (Y.move rfl) ?_
   rcases Bool.eq_false_or_eq_true (decide (((((n1 : Nat) : Int) * 256) + ((p1 : Nat) : Int)) > 4294967295)) with h9 | h9
   ·have g9 := h9
    try simp only [kb] at g9
    refine Run.off rfl rfl rfl h9 rfl (lt rfl) ?_
    refine Run.off rfl rfl rfl h9 rfl (lt rfl) ?_
    refine Run.off rfl rfl rfl h9 rfl (lt rfl) ?_
    refine Run.off rfl rfl rfl h9 rfl (lt rfl) ?_
    refine Run.off rfl rfl rfl h9 rfl (lt rfl) ?_
    refine Run.val (lt rfl) (Y.pick_t rfl h9 rfl) ?_
    refine Run.to_end ?_
    refine Ex.go ?_
    refine Tr.cond_t rfl rfl ?_
    refine Tr.seq ?_
    refine Tr.region ?_
    refine Run.val (lt rfl) (Y.assign rfl) ?_
    refine Run.val (lt rfl) (Y.assign rfl) ?_
    refine Run.to_end ?_
    refine Ex.go ?_
    refine Tr.to_ret ?_
    refine Ex.ret_then ?_
    refine Ex.keep [] ?_
    have en : Rg.f2 s.toList = some (n1, p1) := by rw [show i1 = s.toList.length by rw [← Rg.size_toList]; omega, List.take_length] at hf; exact hf
    exact Ex.ret2 rfl rfl rfl  ⟨by unfold Rg.p2; rw [if_neg (by omega), en, Option.bind_some, if_pos (by dsimp only; omega)]; rfl, rfl, rfl⟩
   ·have g9 := h9
    try simp only [kb] at g9
    refine Run.on rfl rfl rfl h9 ?_
    refine Run.val (lt rfl) (Y.move rfl) ?_
    refine Run.on rfl rfl rfl h9 ?_
    refine Run.val (lt rfl) (Y.conv (((n1 * 256 + p1 : Nat) : Int)) rfl Addr5_it3_37 (by rw [wrap_u32 (by omega)]; omega)) ?_
    refine Run.on rfl rfl rfl h9 ?_
    refine Run.call0 (l := [.tmp 56]) rfl rfl rfl (lt rfl) (rtext_h (m := n1 * 256 + p1) (by omega)) ?_
    refine Run.on rfl rfl rfl h9 ?_
    refine Run.val (lt rfl) (Y.move rfl) ?_
    refine Run.on rfl rfl rfl h9 ?_
    refine Run.val (lt rfl) (Y.neStr rfl rfl) ?_
    refine Run.val (lt rfl) (Y.pick_f rfl h9 rfl) ?_
    refine Run.to_end ?_
    refine Ex.go ?_
    rcases Bool.eq_false_or_eq_true ((Rg.txt (n1 * 256 + p1)).toList == s.toList) with h10 | h10
    ·have g10 := h10
     try simp only [kb] at g10
     refine Tr.cond_f rfl (congrArg Bool.not h10) ?_
     refine Tr.to_end ?_
     refine Ex.go ?_
     refine Tr.seq ?_
     refine Tr.region ?_
     refine Run.val (lt rfl) (Y.move rfl) ?_
     refine Run.val (lt rfl) (Y.conv (((n1 * 256 + p1 : Nat) : Int)) rfl Addr5_it3_37 (by rw [wrap_u32 (by omega)]; omega)) ?_
     refine Run.val (lt rfl) (Y.assign rfl) ?_
     refine Run.val (lt rfl) (Y.assign rfl) ?_
     refine Run.to_end ?_
     refine Ex.go ?_
     refine Tr.to_ret ?_
     refine Ex.keep [] ?_
     have en : Rg.f2 s.toList = some (n1, p1) := by rw [show i1 = s.toList.length by rw [← Rg.size_toList]; omega, List.take_length] at hf; exact hf
     exact Ex.ret2 rfl rfl rfl  ⟨by unfold Rg.p2; rw [if_neg (by omega), en, Option.bind_some, if_neg (by dsimp only; omega)]; unfold Rg.ends; simp only [h10]; rfl, rfl, rfl⟩
    ·have g10 := h10
     try simp only [kb] at g10
     refine Tr.cond_t rfl (congrArg Bool.not h10) ?_
     refine Tr.seq ?_
     refine Tr.region ?_
     refine Run.val (lt rfl) (Y.assign rfl) ?_
     refine Run.val (lt rfl) (Y.assign rfl) ?_
     refine Run.to_end ?_
     refine Ex.go ?_
     refine Tr.to_ret ?_
     refine Ex.ret_then ?_
     refine Ex.keep [] ?_
     have en : Rg.f2 s.toList = some (n1, p1) := by rw [show i1 = s.toList.length by rw [← Rg.size_toList]; omega, List.take_length] at hf; exact hf
     exact Ex.ret2 rfl rfl rfl  ⟨by unfold Rg.p2; rw [if_neg (by omega), en, Option.bind_some, if_neg (by dsimp only; omega)]; unfold Rg.ends; simp only [h10]; rfl, rfl, rfl⟩

theorem rparse_h {s : ByteArray} {V : Vw} {H : Hp} : Does Try.prog 57 [.string s] V H (Pv (.tuple #[.int .u32 ((Rg.p2 s).1), .int .i64 ((Rg.p2 s).2)]) V H) := rparse_c.frame
end Go.Proofs.Ytjfacdepgkdoeaa
