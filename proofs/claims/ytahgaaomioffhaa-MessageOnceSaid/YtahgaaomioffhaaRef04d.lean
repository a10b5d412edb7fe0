/- What the decoder of the reference lessorref04 does.
Conditions: as each theorem names them. -/
import Derived.Test.YtahgaaomioffhaaProg
import Derived.Test.YtahgaaomioffhaaM7
import Derived.Test.YtahgaaomioffhaaRef04
set_option linter.unusedSimpArgs false
set_option linter.unusedVariables false
set_option maxRecDepth 4000
namespace Go.Proofs.Ytahgaaomioffhaa
open Go Go.K
attribute [local irreducible] Code.wp wpList Calls wpQuiet
theorem Ref04d_es38 : elemS Try.prog 38 = some (5, 1) := by kernel_rfl
theorem Ref04d_ts5 : scal Try.prog 5 = true := by kernel_rfl
theorem Ref04d_it5_3 : intT Try.prog 5 3 = some .i64 := by kernel_rfl
theorem Ref04d_zo37 : zeroOf Try.prog 37 = some (.agg #[.int .i64 0, .int .i64 0, .int .i64 0, .int .i64 0, .int .i64 0, .int .u32 0, .int .i64 0, .string ⟨#[]⟩, .int .i64 0, .int .i64 0, .bool false]) := by kernel_rfl
theorem Ref04d_pl37 : placesS Try.prog 37 = some [(0, 1), (1, 1), (2, 1), (3, 1), (4, 1), (5, 1), (6, 1), (7, 1), (8, 1), (9, 1), (10, 1)] := by kernel_rfl
theorem Ref04d_sz37 : sizeT Try.prog 37 = some 11 := by kernel_rfl
theorem Ref04d_ag37 : aggsz Try.prog 37 = some 11 := by kernel_rfl
theorem Ref04d_mo : Try.prog.follows .mixedOrders = true := by kernel_rfl
theorem Ref04d_zi5 : zeroInfo Try.prog 5 = some (1, 1, .int .u8 0) := by kernel_rfl
theorem Ref04d_tg3 : tagOf Try.prog 3 = some (0, .i64) := by kernel_rfl
theorem Ref04d_fo37_0 : fieldOff Try.prog 37 0 = some 0 := by kernel_rfl
theorem Ref04d_ts3 : scal Try.prog 3 = true := by kernel_rfl
theorem Ref04d_fo37_3 : fieldOff Try.prog 37 3 = some 3 := by kernel_rfl
theorem Ref04d_sz3 : sizeT Try.prog 3 = some 1 := by kernel_rfl
theorem Ref04d_fo37_4 : fieldOff Try.prog 37 4 = some 4 := by kernel_rfl
theorem Ref04d_tg5 : tagOf Try.prog 5 = some (0, .u8) := by kernel_rfl
theorem Ref04d_st9 : strT Try.prog 9 = true := by kernel_rfl
theorem Ref04d_fo37_10 : fieldOff Try.prog 37 10 = some 10 := by kernel_rfl
theorem Ref04d_sz4 : sizeT Try.prog 4 = some 1 := by kernel_rfl
theorem Ref04d_it3_35 : intT Try.prog 3 35 = some .u32 := by kernel_rfl
theorem Ref04d_fo37_5 : fieldOff Try.prog 37 5 = some 5 := by kernel_rfl
theorem Ref04d_sz35 : sizeT Try.prog 35 = some 1 := by kernel_rfl
theorem Ref04d_fo37_6 : fieldOff Try.prog 37 6 = some 6 := by kernel_rfl
theorem Ref04d_fo37_8 : fieldOff Try.prog 37 8 = some 8 := by kernel_rfl
theorem Ref04d_fo37_9 : fieldOff Try.prog 37 9 = some 9 := by kernel_rfl
theorem Ref04d_fo37_7 : fieldOff Try.prog 37 7 = some 7 := by kernel_rfl
theorem Ref04d_sz9 : sizeT Try.prog 9 = some 1 := by kernel_rfl

theorem of_c0 {V : Vw} {H : Hp} {l : List UInt8} {p : Option Addr} {c : Nat} (hrd : Rd V H 1 (.slice p l.length c) l.length (l.map byteV)) (hl : l.length ≤ 6)  : Does Try.prog 65 [.slice p l.length c] V H (Pv (.int .i64 (val l)) V H) := by
  refine Does.intro Try.func65 rfl rfl (le rfl) (fun B => ?_)
  refine Tr.seq ?_
  refine Tr.region ?_
  refine Run.val (lt rfl) (Y.assign rfl) ?_
  refine Run.to_end ?_
  refine Ex.go ?_
  refine Tr.seq ?_
  refine Tr.region ?_
  refine Run.val (lt rfl) (Y.assign rfl) ?_
  refine Run.to_end ?_
  refine Ex.go ?_
  refine Tr.seq ?_
  refine Tr.seq ?_
  refine Tr.region ?_
  refine Run.val (lt rfl) (Y.assign rfl) ?_
  refine Run.to_end ?_
  refine Ex.go ?_
  refine Tr.block ?_
  refine Tr.loop (X := Nat) (fun i => V) (fun i => H) (fun i => [(0, .slice p l.length c), (3, .int .i64 (val (l.take i))), (4, .int .i64 (i : Int))]) (fun i => i ≤ l.length) (fun i => l.length - i) 0 (Nat.zero_le _) (fun a w i => ⟨i.1.sub (subB_cons (by first | rfl | exact congrArg (fun z => some (Value.int _ z)) (by omega) | exact congrArg (fun z => some (Value.int _ z)) (val_take (by omega)).symm) (subB_cons (by first | rfl | exact congrArg (fun z => some (Value.int _ z)) (by omega) | exact congrArg (fun z => some (Value.int _ z)) (val_take (by omega)).symm) (subB_cons (by first | rfl | exact congrArg (fun z => some (Value.int _ z)) (by omega) | exact congrArg (fun z => some (Value.int _ z)) (val_take (by omega)).symm) (subB_nil _)))), i.2⟩) ?_
  rintro i hi
  refine Tr.seq ?_
  refine Tr.seq ?_
  refine Tr.region ?_
  refine Run.val (lt rfl) (Y.move rfl) ?_
  refine Run.val (lt rfl) (Y.move rfl) ?_
  refine Run.val (lt rfl) (Y.lenSl rfl Ref04d_es38) ?_
  refine Run.val (lt rfl) (Y.int rfl rfl rfl) ?_
  refine Run.to_end ?_
  refine Ex.go ?_
  rcases Bool.eq_false_or_eq_true (decide ((i : Int) < ((l.length : Nat) : Int))) with h1 | h1
  · have g1 := h1
    try simp only [kb] at g1
    obtain ⟨b, off, c2, cs, e, fz, hw, hc, hk, hcs⟩ := hrd.opened (by omega)
    obtain ⟨rfl, rfl⟩ : p = some ⟨b, off, none⟩ ∧ c = c2 := by cases hw; exact ⟨rfl, rfl⟩
    clear hw
    have hs := val_small (l := l.take i) (by simp; omega)
    have hb := u8_lt (l.getD i 0)
    refine Tr.cond_t rfl h1 ?_
    refine Tr.to_end ?_
    refine Ex.go ?_
    refine Tr.seq ?_
    refine Tr.block ?_
    refine Tr.region ?_
    refine Run.val (lt rfl) (Y.move rfl) ?_
    refine Run.val (lt rfl) (Y.mul rfl rfl (by omega)) ?_
    refine Run.val (lt rfl) (Y.move rfl) ?_
    refine Run.val (lt rfl) (Y.move rfl) ?_
    refine Run.val (lt rfl) (Y.idxAddr rfl rfl Ref04d_es38 (by omega) (by omega)) ?_
    refine Run.val (lt rfl) (Y.load rfl Ref04d_ts5 hk (at1 hcs (by omega) (map_at byteV 0 (by omega)))) ?_
    refine Run.val (lt rfl) (Y.conv (((l.getD i 0).toNat : Int)) rfl Ref04d_it5_3 (wrap_i64 (by omega))) ?_
    refine Run.val (lt rfl) (Y.add rfl rfl (by omega)) ?_
    refine Run.val (lt rfl) (Y.assign rfl) ?_
    refine Run.to_end ?_
    refine Ex.end_block ?_
    refine Ex.go ?_
    refine Tr.region ?_
    refine Run.val (lt rfl) (Y.move rfl) ?_
    refine Run.val (lt rfl) (Y.add rfl rfl (by omega)) ?_
    refine Run.val (lt rfl) (Y.assign rfl) ?_
    refine Run.to_end ?_
    exact Ex.round (i + 1) (by show i + 1 ≤ l.length; omega) (by omega) rfl rfl (subB_cons (by first | rfl | exact congrArg (fun z => some (Value.int _ z)) (by omega) | exact congrArg (fun z => some (Value.int _ z)) (val_take (by omega)).symm) (subB_cons (by first | rfl | exact congrArg (fun z => some (Value.int _ z)) (by omega) | exact congrArg (fun z => some (Value.int _ z)) (val_take (by omega)).symm) (subB_cons (by first | rfl | exact congrArg (fun z => some (Value.int _ z)) (by omega) | exact congrArg (fun z => some (Value.int _ z)) (val_take (by omega)).symm) (subB_nil _))))
  · have g1 := h1
    try simp only [kb] at g1
    refine Tr.cond_f rfl h1 ?_
    refine Tr.to_exit ?_
    refine Ex.exit_then ?_
    refine Ex.exit_then ?_
    refine Ex.exit_in ?_
    refine Ex.go ?_
    refine Tr.seq ?_
    refine Tr.region ?_
    refine Run.val (lt rfl) (Y.move rfl) ?_
    refine Run.val (lt rfl) (Y.assign rfl) ?_
    refine Run.to_end ?_
    refine Ex.go ?_
    refine Tr.to_ret ?_
    exact Ex.ret1 rfl rfl  ⟨by rw [List.take_of_length_le (by omega)], rfl, rfl⟩

theorem of_v {V : Vw} {H : Hp} {l : List UInt8} {v : Value} (hrd : Rd V H 1 v l.length (l.map byteV)) (hl : l.length ≤ 6) : Does Try.prog 65 [v] V H (Pv (.int .i64 (val l)) V H) := by
  obtain ⟨p, c, rfl, _⟩ := hrd.form
  exact of_c0 hrd hl

set_option maxHeartbeats 4000000 in
theorem rdecode_a {V : Vw} {bs : List UInt8} {p : Option Addr} {c : Nat} (hv : Rd V [] 1 (.slice p bs.length c) bs.length (bs.map byteV)) (hl : bs.length ≤ 9223372036854775807) (hr : Msg.right (Msg.parse bs) = true)  : Does Try.prog 37 [.slice p bs.length c] V [] (fun u V' H' => u = .tuple #[.agg (if Msg.rbad bs then Msg.zero else Msg.parse bs).cells, .int .i64 (if Msg.rbad bs then 2 else 0)] ∧ V' = V ∧ H' = []) := by
  have hcap := hv.cap
  refine Does.intro Try.func37 rfl rfl (le rfl) (fun B => ?_)
  refine Tr.seq ?_
  refine Tr.region ?_
  refine Run.alloc Ref04d_zo37 (lt rfl) (fun b1 => ?_)
  refine Run.val (lt rfl) (Y.assign rfl) ?_
  refine Run.to_end ?_
  refine Ex.go ?_
  refine Tr.seq ?_
  refine Tr.seq ?_
  refine Tr.region ?_
  refine Run.val (lt rfl) (Y.move rfl) ?_
  refine Run.val (lt rfl) (Y.lenSl rfl Ref04d_es38) ?_
  refine Run.val (lt rfl) (Y.int rfl rfl rfl) ?_
  refine Run.val (lt rfl) (Y.move rfl) ?_
  rcases Bool.eq_false_or_eq_true (decide (((bs.length : Nat) : Int) < 9)) with h2 | h2
  · have g2 := h2
    try simp only [kb] at g2
    refine Run.off rfl rfl rfl h2 rfl (lt rfl) ?_
    refine Run.off rfl rfl rfl h2 rfl (lt rfl) ?_
    refine Run.off rfl rfl rfl h2 rfl (lt rfl) ?_
    refine Run.val (lt rfl) (Y.pick_t rfl h2 rfl) ?_
    refine Run.to_end ?_
    refine Ex.go ?_
    refine Tr.cond_t rfl rfl ?_
    refine Tr.seq ?_
    refine Tr.region ?_
    refine Run.val (lt rfl) (Y.buildS (l := []) Ref04d_zo37 Ref04d_pl37 rfl rfl) ?_
    refine Run.store (s := [(b1, .cells #[.int .i64 0, .int .i64 0, .int .i64 0, .int .i64 0, .int .i64 0, .int .u32 0, .int .i64 0, .string ⟨#[]⟩, .int .i64 0, .int .i64 0, .bool false] 37 (0, 0))]) rfl rfl Ref04d_sz37 (i := 0) rfl rfl (le rfl) rfl rfl ?_
    refine Run.val (lt rfl) (Y.assign rfl) ?_
    refine Run.to_end ?_
    refine Ex.go ?_
    refine Tr.to_ret ?_
    refine Ex.ret_then ?_
    exact Ex.retCell2 [] rfl rfl rfl Ref04d_ag37 (Kn.at 0 rfl) rfl ⟨by rw [Msg.rbad_len (by omega)]; rfl, rfl, rfl⟩
  · have g2 := h2
    try simp only [kb] at g2
    refine Run.on rfl rfl rfl h2 ?_
    refine Run.val (lt rfl) (Y.move rfl) ?_
    refine Run.on rfl rfl rfl h2 ?_
    refine Run.val (lt rfl) (Y.lenSl rfl Ref04d_es38) ?_
    refine Run.on rfl rfl rfl h2 ?_
    refine Run.val (lt rfl) (Y.int rfl rfl rfl) ?_
    refine Run.val (lt rfl) (Y.pick_f rfl h2 rfl) ?_
    refine Run.to_end ?_
    refine Ex.go ?_
    rcases Bool.eq_false_or_eq_true (decide (((bs.length : Nat) : Int) > 100)) with h3 | h3
    · have g3 := h3
      try simp only [kb] at g3
      refine Tr.cond_t rfl h3 ?_
      refine Tr.seq ?_
      refine Tr.region ?_
      refine Run.val (lt rfl) (Y.buildS (l := []) Ref04d_zo37 Ref04d_pl37 rfl rfl) ?_
      refine Run.store (s := [(b1, .cells #[.int .i64 0, .int .i64 0, .int .i64 0, .int .i64 0, .int .i64 0, .int .u32 0, .int .i64 0, .string ⟨#[]⟩, .int .i64 0, .int .i64 0, .bool false] 37 (0, 0))]) rfl rfl Ref04d_sz37 (i := 0) rfl rfl (le rfl) rfl rfl ?_
      refine Run.val (lt rfl) (Y.assign rfl) ?_
      refine Run.to_end ?_
      refine Ex.go ?_
      refine Tr.to_ret ?_
      refine Ex.ret_then ?_
      exact Ex.retCell2 [] rfl rfl rfl Ref04d_ag37 (Kn.at 0 rfl) rfl ⟨by rw [Msg.rbad_len (by omega)]; rfl, rfl, rfl⟩
    · have g3 := h3
      try simp only [kb] at g3
      obtain ⟨b, off, c2, cs, e, fz, hw, hc, hk, hcs⟩ := hv.opened (by omega)
      obtain ⟨rfl, rfl⟩ : p = some ⟨b, off, none⟩ ∧ c = c2 := by cases hw; exact ⟨rfl, rfl⟩
      clear hw
      refine Tr.cond_f rfl h3 ?_
      refine Tr.to_end ?_
      refine Ex.go ?_
      refine Tr.cutx (X := Nat) (fun x => V) (fun x => [[(x, .cells #[.int .i64 (Msg.by_ bs 0), .int .i64 (val (Msg.sl bs 1 5)), .int .i64 (val (Msg.sl bs 5 9)), .int .i64 0, .int .i64 0, .int .u32 0, .int .i64 0, .string ⟨#[]⟩, .int .i64 0, .int .i64 0, .bool false] 37 (0, 0))], [(b1, .cells #[.int .i64 0, .int .i64 0, .int .i64 0, .int .i64 0, .int .i64 0, .int .u32 0, .int .i64 0, .string ⟨#[]⟩, .int .i64 0, .int .i64 0, .bool false] 37 (0, 0))]]) (fun x => [(0, .slice (some ⟨b, off, none⟩) bs.length c), (2, .pointer (some ⟨b1, 0, none⟩)), (3, .int .i64 0), (4, .pointer (some ⟨x, 0, none⟩))]) (fun x => True) ?_ ?_
      · refine Tr.anyD [(b, .cells cs e fz)] Ref04d_mo ?_
        refine RunD.pure (i := 0) rfl (by kernel_rfl) (by kernel_rfl) (by kernel_rfl) (fun _ _ _ h => h) (lt rfl) (KnAll.cons hk.of_nil KnAll.nil) (fun _ => (Y.move rfl)) ?_
        refine RunD.pure (i := 1) rfl (by kernel_rfl) (by kernel_rfl) (by kernel_rfl) (fun _ _ _ h => h) (lt rfl) (KnAll.cons hk.of_nil KnAll.nil) (fun _ => (Y.idxAddr rfl rfl Ref04d_es38 (by omega) (by omega))) ?_
        refine RunD.take (i := 2) 0 rfl rfl (by kernel_rfl) (by kernel_rfl) (by kernel_rfl) (fun _ _ _ h => h) (lt rfl) (KnAll.cons hk.of_nil KnAll.nil) (fun _ => (Y.load rfl Ref04d_ts5 Kn.vk1 (at1 (i := 0) hcs (by omega) (Msg.by_at (by omega))))) ?_
        refine RunD.pure (i := 3) rfl (by kernel_rfl) (by kernel_rfl) (by kernel_rfl) (fun _ _ _ h => h) (lt rfl) (KnAll.cons hk.of_nil KnAll.nil) (fun _ => (Y.conv (Msg.by_ bs 0) rfl Ref04d_it5_3 (wrap_i64 (by have := Msg.by_bounds bs 0; omega)))) ?_
        refine RunD.pure (i := 4) rfl (by kernel_rfl) (by kernel_rfl) (by kernel_rfl) (fun _ _ _ h => h) (lt rfl) (KnAll.cons hk.of_nil KnAll.nil) (fun _ => (Y.move rfl)) ?_
        refine RunD.pure (i := 5) rfl (by kernel_rfl) (by kernel_rfl) (by kernel_rfl) (fun _ _ _ h => h) (lt rfl) (KnAll.cons hk.of_nil KnAll.nil) (fun _ => (Y.slice (l := 1) (m := 5) rfl Ref04d_es38 rfl rfl (by omega) (by omega))) ?_
        refine RunD.pure (i := 7) rfl (by kernel_rfl) (by kernel_rfl) (by kernel_rfl) (fun _ _ _ h => h) (lt rfl) (KnAll.cons hk.of_nil KnAll.nil) (fun _ => (Y.move rfl)) ?_
        refine RunD.pure (i := 8) rfl (by kernel_rfl) (by kernel_rfl) (by kernel_rfl) (fun _ _ _ h => h) (lt rfl) (KnAll.cons hk.of_nil KnAll.nil) (fun _ => (Y.slice (l := 5) (m := 9) rfl Ref04d_es38 rfl rfl (by omega) (by omega))) ?_
        refine RunD.two (i := 6) (j := 11) (by kernel_rfl) rfl rfl  ?_ ?_ 
        · refine Run.call0 (l := [.tmp 22]) rfl rfl rfl (lt rfl) (of_v (l := (Msg.sl bs 1 5)) (rd_sl hv.of_nil 1 5 (by omega) (by omega)) (by rw [Msg.sl_length _ _ _ (by omega)]; omega)) ?_
          refine Run.to_end ?_
          refine Ex.anyD (KnAll.cons hk.of_nil KnAll.nil) ?_
          refine RunD.two (i := 9) (j := 11) (by kernel_rfl) rfl rfl  ?_ ?_ 
          · refine Run.call0 (l := [.tmp 25]) rfl rfl rfl (lt rfl) (of_v (l := (Msg.sl bs 5 9)) (rd_sl hv.of_nil 5 9 (by omega) (by omega)) (by rw [Msg.sl_length _ _ _ (by omega)]; omega)) ?_
            refine Run.to_end ?_
            refine Ex.anyD (KnAll.cons hk.of_nil KnAll.nil) ?_
            refine RunD.pure (i := 10) rfl (by kernel_rfl) (by kernel_rfl) (by kernel_rfl) (fun _ _ _ h => h) (lt rfl) (KnAll.cons hk.of_nil KnAll.nil) (fun _ => (Y.buildS (l := [(0, .tmp 20), (1, .tmp 23), (2, .tmp 26)]) Ref04d_zo37 Ref04d_pl37 rfl rfl)) ?_
            refine RunD.one (i := 11) (by kernel_rfl) rfl  ?_ 
            refine Run.alloc Ref04d_zo37 (lt rfl) (fun b4 => ?_)
            refine Run.to_end ?_
            refine Ex.anyD (KnAll.cons hk.of_nil KnAll.nil) ?_
            refine RunD.one (i := 12) (by kernel_rfl) rfl  ?_ 
            refine Run.store (s := [(b4, .cells #[.int .i64 (Msg.by_ bs 0), .int .i64 (val (Msg.sl bs 1 5)), .int .i64 (val (Msg.sl bs 5 9)), .int .i64 0, .int .i64 0, .int .u32 0, .int .i64 0, .string ⟨#[]⟩, .int .i64 0, .int .i64 0, .bool false] 37 (0, 0))]) rfl rfl Ref04d_sz37 (i := 0) rfl rfl (le rfl) rfl rfl ?_
            refine Run.to_end ?_
            refine Ex.anyD (KnAll.cons hk.of_nil KnAll.nil) ?_
            refine RunD.done (by kernel_rfl) ?_
            exact Ex.cutx b4 trivial rfl rfl (subB_cons (by first | rfl | exact congrArg (fun z => some (Value.int _ z)) (by omega)) (subB_cons (by first | rfl | exact congrArg (fun z => some (Value.int _ z)) (by omega)) (subB_cons (by first | rfl | exact congrArg (fun z => some (Value.int _ z)) (by omega)) (subB_cons (by first | rfl | exact congrArg (fun z => some (Value.int _ z)) (by omega)) (subB_nil _)))))
          · refine Run.alloc Ref04d_zo37 (lt rfl) (fun b5 => ?_)
            refine Run.to_end ?_
            refine Ex.anyD (KnAll.cons hk.of_nil KnAll.nil) ?_
            refine RunD.one (i := 9) (by kernel_rfl) rfl  ?_ 
            refine Run.call0 (l := [.tmp 25]) rfl rfl rfl (lt rfl) (of_v (l := (Msg.sl bs 5 9)) (rd_sl hv.of_nil 5 9 (by omega) (by omega)) (by rw [Msg.sl_length _ _ _ (by omega)]; omega)) ?_
            refine Run.to_end ?_
            refine Ex.anyD (KnAll.cons hk.of_nil KnAll.nil) ?_
            refine RunD.pure (i := 10) rfl (by kernel_rfl) (by kernel_rfl) (by kernel_rfl) (fun _ _ _ h => h) (lt rfl) (KnAll.cons hk.of_nil KnAll.nil) (fun _ => (Y.buildS (l := [(0, .tmp 20), (1, .tmp 23), (2, .tmp 26)]) Ref04d_zo37 Ref04d_pl37 rfl rfl)) ?_
            refine RunD.one (i := 12) (by kernel_rfl) rfl  ?_ 
            refine Run.store (s := [(b5, .cells #[.int .i64 (Msg.by_ bs 0), .int .i64 (val (Msg.sl bs 1 5)), .int .i64 (val (Msg.sl bs 5 9)), .int .i64 0, .int .i64 0, .int .u32 0, .int .i64 0, .string ⟨#[]⟩, .int .i64 0, .int .i64 0, .bool false] 37 (0, 0))]) rfl rfl Ref04d_sz37 (i := 0) rfl rfl (le rfl) rfl rfl ?_
            refine Run.to_end ?_
            refine Ex.anyD (KnAll.cons hk.of_nil KnAll.nil) ?_
            refine RunD.done (by kernel_rfl) ?_
            exact Ex.cutx b5 trivial rfl rfl (subB_cons (by first | rfl | exact congrArg (fun z => some (Value.int _ z)) (by omega)) (subB_cons (by first | rfl | exact congrArg (fun z => some (Value.int _ z)) (by omega)) (subB_cons (by first | rfl | exact congrArg (fun z => some (Value.int _ z)) (by omega)) (subB_cons (by first | rfl | exact congrArg (fun z => some (Value.int _ z)) (by omega)) (subB_nil _)))))
        · refine Run.alloc Ref04d_zo37 (lt rfl) (fun b6 => ?_)
          refine Run.to_end ?_
          refine Ex.anyD (KnAll.cons hk.of_nil KnAll.nil) ?_
          refine RunD.one (i := 6) (by kernel_rfl) rfl  ?_ 
          refine Run.call0 (l := [.tmp 22]) rfl rfl rfl (lt rfl) (of_v (l := (Msg.sl bs 1 5)) (rd_sl hv.of_nil 1 5 (by omega) (by omega)) (by rw [Msg.sl_length _ _ _ (by omega)]; omega)) ?_
          refine Run.to_end ?_
          refine Ex.anyD (KnAll.cons hk.of_nil KnAll.nil) ?_
          refine RunD.one (i := 9) (by kernel_rfl) rfl  ?_ 
          refine Run.call0 (l := [.tmp 25]) rfl rfl rfl (lt rfl) (of_v (l := (Msg.sl bs 5 9)) (rd_sl hv.of_nil 5 9 (by omega) (by omega)) (by rw [Msg.sl_length _ _ _ (by omega)]; omega)) ?_
          refine Run.to_end ?_
          refine Ex.anyD (KnAll.cons hk.of_nil KnAll.nil) ?_
          refine RunD.pure (i := 10) rfl (by kernel_rfl) (by kernel_rfl) (by kernel_rfl) (fun _ _ _ h => h) (lt rfl) (KnAll.cons hk.of_nil KnAll.nil) (fun _ => (Y.buildS (l := [(0, .tmp 20), (1, .tmp 23), (2, .tmp 26)]) Ref04d_zo37 Ref04d_pl37 rfl rfl)) ?_
          refine RunD.one (i := 12) (by kernel_rfl) rfl  ?_ 
          refine Run.store (s := [(b6, .cells #[.int .i64 (Msg.by_ bs 0), .int .i64 (val (Msg.sl bs 1 5)), .int .i64 (val (Msg.sl bs 5 9)), .int .i64 0, .int .i64 0, .int .u32 0, .int .i64 0, .string ⟨#[]⟩, .int .i64 0, .int .i64 0, .bool false] 37 (0, 0))]) rfl rfl Ref04d_sz37 (i := 0) rfl rfl (le rfl) rfl rfl ?_
          refine Run.to_end ?_
          refine Ex.anyD (KnAll.cons hk.of_nil KnAll.nil) ?_
          refine RunD.done (by kernel_rfl) ?_
          exact Ex.cutx b6 trivial rfl rfl (subB_cons (by first | rfl | exact congrArg (fun z => some (Value.int _ z)) (by omega)) (subB_cons (by first | rfl | exact congrArg (fun z => some (Value.int _ z)) (by omega)) (subB_cons (by first | rfl | exact congrArg (fun z => some (Value.int _ z)) (by omega)) (subB_cons (by first | rfl | exact congrArg (fun z => some (Value.int _ z)) (by omega)) (subB_nil _)))))
      · rintro x _
        refine Tr.seq ?_
        refine Tr.region ?_
        refine Run.buildSlice0 Ref04d_es38 (lt rfl) (fun b7 => ?_)
        refine Run.val (lt rfl) (Y.move rfl) ?_
        refine Run.val (lt rfl) (Y.slice (l := 9) (m := bs.length) rfl Ref04d_es38 rfl rfl (by omega) (by omega)) ?_
        have hn9 := Msg.sl_length bs 9 bs.length (Nat.le_refl _)
        refine Run.append (n := 0) (m := (Msg.sl bs 9 bs.length).length) (xs := []) (ys := (Msg.sl bs 9 bs.length).map byteV) rfl rfl Ref04d_es38 Ref04d_zi5 (by decide) (j := 0) rfl (Ow.lit (cur := #[]) rfl (by decide)) (Src.of_rd Ref04d_es38 (rd_sl hv.of_nil 9 bs.length (by omega) (by omega))) (by omega) (by omega) (all_one_bytes _) (lt rfl) (fun v1 s1 ho1 _ => ?_)
        refine Run.appendZeros (n := 0 + (Msg.sl bs 9 bs.length).length) (m := 30) (xs := [] ++ (Msg.sl bs 9 bs.length).map byteV) rfl rfl Ref04d_es38 Ref04d_tg3 Ref04d_zi5 (by decide) (by decide) (j := 0) rfl ho1 (by omega) (by omega) rfl (lt rfl) (fun v2 s2 ho2 _ => ?_)
        have ho3 := ho2.bytes (bs := Msg.pad bs) (Msg.pad_cells bs)
        have hpl := Msg.pad_length bs
        obtain ⟨b5, c5, cs5, rfl, rfl, hc5, hcs5⟩ := ho3.open (by omega)
        have hb21 := Msg.by_bounds (Msg.pad bs) 21
        refine Run.val (lt rfl) (Y.assign rfl) ?_
        refine Run.to_end ?_
        refine Ex.go ?_
        refine Tr.seq ?_
        refine Tr.seq ?_
        refine Tr.region ?_
        refine Run.val (lt rfl) (Y.fieldAddr rfl Ref04d_fo37_0) ?_
        refine Run.val (lt rfl) (Y.load rfl Ref04d_ts3 (Kn.at 1 rfl) rfl) ?_
        refine Run.to_end ?_
        refine Ex.go ?_
        refine Tr.block ?_
        refine Tr.seq ?_
        refine Tr.region ?_
        refine Run.val (lt rfl) (Y.int rfl rfl rfl) ?_
        refine Run.val (lt rfl) (Y.assign rfl) ?_
        refine Run.to_end ?_
        refine Ex.go ?_
        rcases Bool.eq_false_or_eq_true ((Msg.by_ bs 0) == 1) with h8 | h8
        · have g8 := h8
          try simp only [kb] at g8
          refine Tr.cond_t rfl h8 ?_
          refine Tr.seq ?_
          refine Tr.region ?_
          refine Run.val (lt rfl) (Y.move rfl) ?_
          refine Run.val (lt rfl) (Y.slice (l := 0) (m := 4) rfl Ref04d_es38 rfl rfl (by omega) (by omega)) ?_
          refine Run.call0 (l := [.tmp 38]) rfl rfl rfl (lt rfl) (of_v (l := (Msg.sl (Msg.pad bs) 0 4)) (rd_sl (ho3.rd 0 rfl) 0 4 (by omega) (by omega)) (by rw [Msg.sl_length _ _ _ (by omega)]; omega)) ?_
          refine Run.val (lt rfl) (Y.fieldAddr rfl Ref04d_fo37_3) ?_
          refine Run.store (s := [(x, .cells #[.int .i64 (Msg.by_ bs 0), .int .i64 (val (Msg.sl bs 1 5)), .int .i64 (val (Msg.sl bs 5 9)), .int .i64 (val (Msg.sl (Msg.pad bs) 0 4)), .int .i64 0, .int .u32 0, .int .i64 0, .string ⟨#[]⟩, .int .i64 0, .int .i64 0, .bool false] 37 (0, 0))]) rfl rfl Ref04d_sz3 (i := 1) rfl rfl (le rfl) rfl rfl ?_
          refine Run.to_end ?_
          refine Ex.go ?_
          refine Tr.region ?_
          refine Run.val (lt rfl) (Y.move rfl) ?_
          refine Run.val (lt rfl) (Y.idxAddr rfl rfl Ref04d_es38 (by omega) (by omega)) ?_
          refine Run.val (lt rfl) (Y.load rfl Ref04d_ts5 (Kn.at 0 rfl) (at1 (i := 4) hcs5 (by omega) (Msg.by_at (by omega)))) ?_
          have hby := Msg.by_bounds (Msg.pad bs) 4
          refine Run.val (lt rfl) (Y.conv (Msg.by_ (Msg.pad bs) 4) rfl Ref04d_it5_3 (wrap_i64 (by omega))) ?_
          refine Run.val (lt rfl) (Y.fieldAddr rfl Ref04d_fo37_4) ?_
          refine Run.store (s := [(x, .cells #[.int .i64 (Msg.by_ bs 0), .int .i64 (val (Msg.sl bs 1 5)), .int .i64 (val (Msg.sl bs 5 9)), .int .i64 (val (Msg.sl (Msg.pad bs) 0 4)), .int .i64 (Msg.by_ (Msg.pad bs) 4), .int .u32 0, .int .i64 0, .string ⟨#[]⟩, .int .i64 0, .int .i64 0, .bool false] 37 (0, 0))]) rfl rfl Ref04d_sz3 (i := 1) rfl rfl (le rfl) rfl rfl ?_
          refine Run.to_end ?_
          refine Ex.end_block ?_
          refine Ex.go ?_
          refine Tr.seq ?_
          refine Tr.region ?_
          refine Run.val (lt rfl) (Y.loadAgg rfl Ref04d_ag37 (Kn.at 1 rfl) rfl) ?_
          have hpe : Msg.parse bs = (⟨Msg.by_ bs 0, val (Msg.sl bs 1 5), val (Msg.sl bs 5 9), val (Msg.sl (Msg.pad bs) 0 4), Msg.by_ (Msg.pad bs) 4, 0, 0, ⟨#[]⟩, 0, 0, false⟩ : Msg) := if_pos g8
          rw [hpe] at hr
          have hpa := Msg.parse_addr bs; rw [hpe] at hpa
          refine Run.call [] (l := [.tmp 95]) rfl rfl rfl (lt rfl) (rencode_yes (m := (⟨Msg.by_ bs 0, val (Msg.sl bs 1 5), val (Msg.sl bs 5 9), val (Msg.sl (Msg.pad bs) 0 4), Msg.by_ (Msg.pad bs) 4, 0, 0, ⟨#[]⟩, 0, 0, false⟩ : Msg)) hr hpa) (fun v9 V2 H2 _ hR => ?_)
          obtain ⟨hV, x9, s9, rfl, rfl, ho9⟩ := hR; replace hV := hV.symm; subst hV; obtain ⟨p9, c9, rfl⟩ := ho9.form
          refine Run.val (lt rfl) (Y.move rfl) ?_
          refine Run.val (lt rfl) (Y.extract rfl rfl) ?_
          refine Run.val (lt rfl) (Y.extract rfl rfl) ?_
          refine Run.val (lt rfl) (Y.assign rfl) ?_
          refine Run.val (lt rfl) (Y.assign rfl) ?_
          refine Run.to_end ?_
          refine Ex.go ?_
          refine Tr.seq ?_
          refine Tr.seq ?_
          refine Tr.region ?_
          refine Run.val (lt rfl) (Y.move rfl) ?_
          refine Run.val (lt rfl) (Y.int (r := .bool false) rfl rfl rfl) ?_
          refine Run.val (lt rfl) (Y.move rfl) ?_
          refine Run.on rfl rfl rfl rfl ?_
          refine Run.val (lt rfl) (Y.move rfl) ?_
          refine Run.on rfl rfl rfl rfl ?_
          refine Run.val (lt rfl) (Y.bytesStr (bs := (Msg.enc (⟨Msg.by_ bs 0, val (Msg.sl bs 1 5), val (Msg.sl bs 5 9), val (Msg.sl (Msg.pad bs) 0 4), Msg.by_ (Msg.pad bs) 4, 0, 0, ⟨#[]⟩, 0, 0, false⟩ : Msg))) rfl Ref04d_es38 Ref04d_tg5 Ref04d_st9 (ho9.rd 3 rfl)) ?_
          refine Run.on rfl rfl rfl rfl ?_
          refine Run.val (lt rfl) (Y.move rfl) ?_
          refine Run.on rfl rfl rfl rfl ?_
          refine Run.val (lt rfl) (Y.bytesStr (bs := bs) rfl Ref04d_es38 Ref04d_tg5 Ref04d_st9 hv.of_nil) ?_
          refine Run.on rfl rfl rfl rfl ?_
          refine Run.val (lt rfl) (Y.neStr rfl rfl) ?_
          refine Run.val (lt rfl) (Y.pick_f rfl rfl rfl) ?_
          refine Run.to_end ?_
          refine Ex.go ?_
          rcases Bool.eq_false_or_eq_true ((⟨((Msg.enc (⟨Msg.by_ bs 0, val (Msg.sl bs 1 5), val (Msg.sl bs 5 9), val (Msg.sl (Msg.pad bs) 0 4), Msg.by_ (Msg.pad bs) 4, 0, 0, ⟨#[]⟩, 0, 0, false⟩ : Msg)) : List UInt8).toArray⟩ : ByteArray).toList == (⟨(bs : List UInt8).toArray⟩ : ByteArray).toList) with h9 | h9
          · have g9 := h9
            try simp only [kb] at g9
            refine Tr.cond_f rfl (by rw [h9]; try rfl) ?_
            refine Tr.to_end ?_
            refine Ex.go ?_
            refine Tr.seq ?_
            refine Tr.region ?_
            refine Run.val (lt rfl) (Y.loadAgg rfl Ref04d_ag37 (Kn.at 1 rfl) rfl) ?_
            refine Run.store (s := [(b1, .cells #[.int .i64 (Msg.by_ bs 0), .int .i64 (val (Msg.sl bs 1 5)), .int .i64 (val (Msg.sl bs 5 9)), .int .i64 (val (Msg.sl (Msg.pad bs) 0 4)), .int .i64 (Msg.by_ (Msg.pad bs) 4), .int .u32 0, .int .i64 0, .string ⟨#[]⟩, .int .i64 0, .int .i64 0, .bool false] 37 (0, 0))]) rfl rfl Ref04d_sz37 (i := 2) rfl rfl (le rfl) rfl rfl ?_
            refine Run.val (lt rfl) (Y.assign rfl) ?_
            refine Run.to_end ?_
            refine Ex.go ?_
            refine Tr.to_ret ?_
            exact Ex.retCell2 [] rfl rfl rfl Ref04d_ag37 (Kn.at 2 rfl) rfl ⟨by rw [Msg.rbad_ok (by omega) (by rw [hpe]; exact hr) (by rw [hpe]; exact h9)]; rw [hpe]; rfl, rfl, rfl⟩
          · have g9 := h9
            try simp only [kb] at g9
            refine Tr.cond_t rfl (by rw [h9]; try rfl) ?_
            refine Tr.seq ?_
            refine Tr.region ?_
            refine Run.val (lt rfl) (Y.buildS (l := []) Ref04d_zo37 Ref04d_pl37 rfl rfl) ?_
            refine Run.store (s := [(b1, .cells #[.int .i64 0, .int .i64 0, .int .i64 0, .int .i64 0, .int .i64 0, .int .u32 0, .int .i64 0, .string ⟨#[]⟩, .int .i64 0, .int .i64 0, .bool false] 37 (0, 0))]) rfl rfl Ref04d_sz37 (i := 2) rfl rfl (le rfl) rfl rfl ?_
            refine Run.val (lt rfl) (Y.assign rfl) ?_
            refine Run.to_end ?_
            refine Ex.go ?_
            refine Tr.to_ret ?_
            refine Ex.ret_then ?_
            exact Ex.retCell2 [] rfl rfl rfl Ref04d_ag37 (Kn.at 2 rfl) rfl ⟨by rw [Msg.rbad_ne (by rw [hpe]; exact h9)]; rfl, rfl, rfl⟩
        · have g8 := h8
          try simp only [kb] at g8
          refine Tr.cond_f rfl h8 ?_
          refine Tr.seq ?_
          refine Tr.region ?_
          refine Run.val (lt rfl) (Y.int rfl rfl rfl) ?_
          refine Run.val (lt rfl) (Y.assign rfl) ?_
          refine Run.to_end ?_
          refine Ex.go ?_
          rcases Bool.eq_false_or_eq_true ((Msg.by_ bs 0) == 3) with h10 | h10
          · have g10 := h10
            try simp only [kb] at g10
            refine Tr.cond_t rfl h10 ?_
            refine Tr.seq ?_
            refine Tr.region ?_
            refine Run.val (lt rfl) (Y.move rfl) ?_
            refine Run.val (lt rfl) (Y.slice (l := 0) (m := 4) rfl Ref04d_es38 rfl rfl (by omega) (by omega)) ?_
            refine Run.call0 (l := [.tmp 49]) rfl rfl rfl (lt rfl) (of_v (l := (Msg.sl (Msg.pad bs) 0 4)) (rd_sl (ho3.rd 0 rfl) 0 4 (by omega) (by omega)) (by rw [Msg.sl_length _ _ _ (by omega)]; omega)) ?_
            refine Run.val (lt rfl) (Y.fieldAddr rfl Ref04d_fo37_3) ?_
            refine Run.store (s := [(x, .cells #[.int .i64 (Msg.by_ bs 0), .int .i64 (val (Msg.sl bs 1 5)), .int .i64 (val (Msg.sl bs 5 9)), .int .i64 (val (Msg.sl (Msg.pad bs) 0 4)), .int .i64 0, .int .u32 0, .int .i64 0, .string ⟨#[]⟩, .int .i64 0, .int .i64 0, .bool false] 37 (0, 0))]) rfl rfl Ref04d_sz3 (i := 1) rfl rfl (le rfl) rfl rfl ?_
            refine Run.to_end ?_
            refine Ex.go ?_
            refine Tr.region ?_
            refine Run.val (lt rfl) (Y.move rfl) ?_
            refine Run.val (lt rfl) (Y.idxAddr rfl rfl Ref04d_es38 (by omega) (by omega)) ?_
            refine Run.val (lt rfl) (Y.load rfl Ref04d_ts5 (Kn.at 0 rfl) (at1 (i := 4) hcs5 (by omega) (Msg.by_at (by omega)))) ?_
            refine Run.val (lt rfl) (Y.int rfl rfl rfl) ?_
            refine Run.val (lt rfl) (Y.fieldAddr rfl Ref04d_fo37_10) ?_
            refine Run.store (s := [(x, .cells #[.int .i64 (Msg.by_ bs 0), .int .i64 (val (Msg.sl bs 1 5)), .int .i64 (val (Msg.sl bs 5 9)), .int .i64 (val (Msg.sl (Msg.pad bs) 0 4)), .int .i64 0, .int .u32 0, .int .i64 0, .string ⟨#[]⟩, .int .i64 0, .int .i64 0, .bool ((Msg.by_ (Msg.pad bs) 4) == 1)] 37 (0, 0))]) rfl rfl Ref04d_sz4 (i := 1) rfl rfl (le rfl) rfl rfl ?_
            refine Run.to_end ?_
            refine Ex.end_block ?_
            refine Ex.go ?_
            refine Tr.seq ?_
            refine Tr.region ?_
            refine Run.val (lt rfl) (Y.loadAgg rfl Ref04d_ag37 (Kn.at 1 rfl) rfl) ?_
            have hpe : Msg.parse bs = (⟨Msg.by_ bs 0, val (Msg.sl bs 1 5), val (Msg.sl bs 5 9), val (Msg.sl (Msg.pad bs) 0 4), 0, 0, 0, ⟨#[]⟩, 0, 0, (Msg.by_ (Msg.pad bs) 4) == 1⟩ : Msg) := (if_neg g8).trans (if_pos g10)
            rw [hpe] at hr
            have hpa := Msg.parse_addr bs; rw [hpe] at hpa
            refine Run.call [] (l := [.tmp 95]) rfl rfl rfl (lt rfl) (rencode_yes (m := (⟨Msg.by_ bs 0, val (Msg.sl bs 1 5), val (Msg.sl bs 5 9), val (Msg.sl (Msg.pad bs) 0 4), 0, 0, 0, ⟨#[]⟩, 0, 0, (Msg.by_ (Msg.pad bs) 4) == 1⟩ : Msg)) hr hpa) (fun v9 V2 H2 _ hR => ?_)
            obtain ⟨hV, x9, s9, rfl, rfl, ho9⟩ := hR; replace hV := hV.symm; subst hV; obtain ⟨p9, c9, rfl⟩ := ho9.form
            refine Run.val (lt rfl) (Y.move rfl) ?_
            refine Run.val (lt rfl) (Y.extract rfl rfl) ?_
            refine Run.val (lt rfl) (Y.extract rfl rfl) ?_
            refine Run.val (lt rfl) (Y.assign rfl) ?_
            refine Run.val (lt rfl) (Y.assign rfl) ?_
            refine Run.to_end ?_
            refine Ex.go ?_
            refine Tr.seq ?_
            refine Tr.seq ?_
            refine Tr.region ?_
            refine Run.val (lt rfl) (Y.move rfl) ?_
            refine Run.val (lt rfl) (Y.int (r := .bool false) rfl rfl rfl) ?_
            refine Run.val (lt rfl) (Y.move rfl) ?_
            refine Run.on rfl rfl rfl rfl ?_
            refine Run.val (lt rfl) (Y.move rfl) ?_
            refine Run.on rfl rfl rfl rfl ?_
            refine Run.val (lt rfl) (Y.bytesStr (bs := (Msg.enc (⟨Msg.by_ bs 0, val (Msg.sl bs 1 5), val (Msg.sl bs 5 9), val (Msg.sl (Msg.pad bs) 0 4), 0, 0, 0, ⟨#[]⟩, 0, 0, (Msg.by_ (Msg.pad bs) 4) == 1⟩ : Msg))) rfl Ref04d_es38 Ref04d_tg5 Ref04d_st9 (ho9.rd 3 rfl)) ?_
            refine Run.on rfl rfl rfl rfl ?_
            refine Run.val (lt rfl) (Y.move rfl) ?_
            refine Run.on rfl rfl rfl rfl ?_
            refine Run.val (lt rfl) (Y.bytesStr (bs := bs) rfl Ref04d_es38 Ref04d_tg5 Ref04d_st9 hv.of_nil) ?_
            refine Run.on rfl rfl rfl rfl ?_
            refine Run.val (lt rfl) (Y.neStr rfl rfl) ?_
            refine Run.val (lt rfl) (Y.pick_f rfl rfl rfl) ?_
            refine Run.to_end ?_
            refine Ex.go ?_
            rcases Bool.eq_false_or_eq_true ((⟨((Msg.enc (⟨Msg.by_ bs 0, val (Msg.sl bs 1 5), val (Msg.sl bs 5 9), val (Msg.sl (Msg.pad bs) 0 4), 0, 0, 0, ⟨#[]⟩, 0, 0, (Msg.by_ (Msg.pad bs) 4) == 1⟩ : Msg)) : List UInt8).toArray⟩ : ByteArray).toList == (⟨(bs : List UInt8).toArray⟩ : ByteArray).toList) with h11 | h11
            · have g11 := h11
              try simp only [kb] at g11
              refine Tr.cond_f rfl (by rw [h11]; try rfl) ?_
              refine Tr.to_end ?_
              refine Ex.go ?_
              refine Tr.seq ?_
              refine Tr.region ?_
              refine Run.val (lt rfl) (Y.loadAgg rfl Ref04d_ag37 (Kn.at 1 rfl) rfl) ?_
              refine Run.store (s := [(b1, .cells #[.int .i64 (Msg.by_ bs 0), .int .i64 (val (Msg.sl bs 1 5)), .int .i64 (val (Msg.sl bs 5 9)), .int .i64 (val (Msg.sl (Msg.pad bs) 0 4)), .int .i64 0, .int .u32 0, .int .i64 0, .string ⟨#[]⟩, .int .i64 0, .int .i64 0, .bool ((Msg.by_ (Msg.pad bs) 4) == 1)] 37 (0, 0))]) rfl rfl Ref04d_sz37 (i := 2) rfl rfl (le rfl) rfl rfl ?_
              refine Run.val (lt rfl) (Y.assign rfl) ?_
              refine Run.to_end ?_
              refine Ex.go ?_
              refine Tr.to_ret ?_
              exact Ex.retCell2 [] rfl rfl rfl Ref04d_ag37 (Kn.at 2 rfl) rfl ⟨by rw [Msg.rbad_ok (by omega) (by rw [hpe]; exact hr) (by rw [hpe]; exact h11)]; rw [hpe]; rfl, rfl, rfl⟩
            · have g11 := h11
              try simp only [kb] at g11
              refine Tr.cond_t rfl (by rw [h11]; try rfl) ?_
              refine Tr.seq ?_
              refine Tr.region ?_
              refine Run.val (lt rfl) (Y.buildS (l := []) Ref04d_zo37 Ref04d_pl37 rfl rfl) ?_
              refine Run.store (s := [(b1, .cells #[.int .i64 0, .int .i64 0, .int .i64 0, .int .i64 0, .int .i64 0, .int .u32 0, .int .i64 0, .string ⟨#[]⟩, .int .i64 0, .int .i64 0, .bool false] 37 (0, 0))]) rfl rfl Ref04d_sz37 (i := 2) rfl rfl (le rfl) rfl rfl ?_
              refine Run.val (lt rfl) (Y.assign rfl) ?_
              refine Run.to_end ?_
              refine Ex.go ?_
              refine Tr.to_ret ?_
              refine Ex.ret_then ?_
              exact Ex.retCell2 [] rfl rfl rfl Ref04d_ag37 (Kn.at 2 rfl) rfl ⟨by rw [Msg.rbad_ne (by rw [hpe]; exact h11)]; rfl, rfl, rfl⟩
          · have g10 := h10
            try simp only [kb] at g10
            refine Tr.cond_f rfl h10 ?_
            refine Tr.seq ?_
            refine Tr.region ?_
            refine Run.val (lt rfl) (Y.int rfl rfl rfl) ?_
            refine Run.val (lt rfl) (Y.assign rfl) ?_
            refine Run.to_end ?_
            refine Ex.go ?_
            rcases Bool.eq_false_or_eq_true ((Msg.by_ bs 0) == 2) with h12 | h12
            · have g12 := h12
              try simp only [kb] at g12
              refine Tr.cond_t rfl h12 ?_
              refine Tr.seq ?_
              refine Tr.region ?_
              refine Run.val (lt rfl) (Y.move rfl) ?_
              refine Run.val (lt rfl) (Y.slice (l := 0) (m := 4) rfl Ref04d_es38 rfl rfl (by omega) (by omega)) ?_
              refine Run.call0 (l := [.tmp 60]) rfl rfl rfl (lt rfl) (of_v (l := (Msg.sl (Msg.pad bs) 0 4)) (rd_sl (ho3.rd 0 rfl) 0 4 (by omega) (by omega)) (by rw [Msg.sl_length _ _ _ (by omega)]; omega)) ?_
              refine Run.val (lt rfl) (Y.fieldAddr rfl Ref04d_fo37_3) ?_
              refine Run.store (s := [(x, .cells #[.int .i64 (Msg.by_ bs 0), .int .i64 (val (Msg.sl bs 1 5)), .int .i64 (val (Msg.sl bs 5 9)), .int .i64 (val (Msg.sl (Msg.pad bs) 0 4)), .int .i64 0, .int .u32 0, .int .i64 0, .string ⟨#[]⟩, .int .i64 0, .int .i64 0, .bool false] 37 (0, 0))]) rfl rfl Ref04d_sz3 (i := 1) rfl rfl (le rfl) rfl rfl ?_
              refine Run.to_end ?_
              refine Ex.go ?_
              refine Tr.seq ?_
              refine Tr.region ?_
              refine Run.val (lt rfl) (Y.move rfl) ?_
              refine Run.val (lt rfl) (Y.slice (l := 4) (m := 8) rfl Ref04d_es38 rfl rfl (by omega) (by omega)) ?_
              refine Run.call0 (l := [.tmp 64]) rfl rfl rfl (lt rfl) (of_v (l := (Msg.sl (Msg.pad bs) 4 8)) (rd_sl (ho3.rd 0 rfl) 4 8 (by omega) (by omega)) (by rw [Msg.sl_length _ _ _ (by omega)]; omega)) ?_
              have hu4 := Msg.sl_u32 (Msg.pad bs)
              refine Run.val (lt rfl) (Y.conv (val (Msg.sl (Msg.pad bs) 4 8)) rfl Ref04d_it3_35 (wrap_u32 hu4)) ?_
              refine Run.val (lt rfl) (Y.fieldAddr rfl Ref04d_fo37_5) ?_
              refine Run.store (s := [(x, .cells #[.int .i64 (Msg.by_ bs 0), .int .i64 (val (Msg.sl bs 1 5)), .int .i64 (val (Msg.sl bs 5 9)), .int .i64 (val (Msg.sl (Msg.pad bs) 0 4)), .int .i64 0, .int .u32 (val (Msg.sl (Msg.pad bs) 4 8)), .int .i64 0, .string ⟨#[]⟩, .int .i64 0, .int .i64 0, .bool false] 37 (0, 0))]) rfl rfl Ref04d_sz35 (i := 1) rfl rfl (le rfl) rfl rfl ?_
              refine Run.to_end ?_
              refine Ex.go ?_
              refine Tr.seq ?_
              refine Tr.region ?_
              refine Run.val (lt rfl) (Y.move rfl) ?_
              refine Run.val (lt rfl) (Y.idxAddr rfl rfl Ref04d_es38 (by omega) (by omega)) ?_
              refine Run.val (lt rfl) (Y.load rfl Ref04d_ts5 (Kn.at 0 rfl) (at1 (i := 8) hcs5 (by omega) (Msg.by_at (by omega)))) ?_
              have hby := Msg.by_bounds (Msg.pad bs) 8
              refine Run.val (lt rfl) (Y.conv (Msg.by_ (Msg.pad bs) 8) rfl Ref04d_it5_3 (wrap_i64 (by omega))) ?_
              refine Run.val (lt rfl) (Y.fieldAddr rfl Ref04d_fo37_6) ?_
              refine Run.store (s := [(x, .cells #[.int .i64 (Msg.by_ bs 0), .int .i64 (val (Msg.sl bs 1 5)), .int .i64 (val (Msg.sl bs 5 9)), .int .i64 (val (Msg.sl (Msg.pad bs) 0 4)), .int .i64 0, .int .u32 (val (Msg.sl (Msg.pad bs) 4 8)), .int .i64 (Msg.by_ (Msg.pad bs) 8), .string ⟨#[]⟩, .int .i64 0, .int .i64 0, .bool false] 37 (0, 0))]) rfl rfl Ref04d_sz3 (i := 1) rfl rfl (le rfl) rfl rfl ?_
              refine Run.to_end ?_
              refine Ex.go ?_
              refine Tr.seq ?_
              refine Tr.region ?_
              refine Run.val (lt rfl) (Y.move rfl) ?_
              refine Run.val (lt rfl) (Y.slice (l := 9) (m := 15) rfl Ref04d_es38 rfl rfl (by omega) (by omega)) ?_
              refine Run.call0 (l := [.tmp 74]) rfl rfl rfl (lt rfl) (of_v (l := (Msg.sl (Msg.pad bs) 9 15)) (rd_sl (ho3.rd 0 rfl) 9 15 (by omega) (by omega)) (by rw [Msg.sl_length _ _ _ (by omega)]; omega)) ?_
              refine Run.val (lt rfl) (Y.fieldAddr rfl Ref04d_fo37_8) ?_
              refine Run.store (s := [(x, .cells #[.int .i64 (Msg.by_ bs 0), .int .i64 (val (Msg.sl bs 1 5)), .int .i64 (val (Msg.sl bs 5 9)), .int .i64 (val (Msg.sl (Msg.pad bs) 0 4)), .int .i64 0, .int .u32 (val (Msg.sl (Msg.pad bs) 4 8)), .int .i64 (Msg.by_ (Msg.pad bs) 8), .string ⟨#[]⟩, .int .i64 (val (Msg.sl (Msg.pad bs) 9 15)), .int .i64 0, .bool false] 37 (0, 0))]) rfl rfl Ref04d_sz3 (i := 1) rfl rfl (le rfl) rfl rfl ?_
              refine Run.to_end ?_
              refine Ex.go ?_
              refine Tr.seq ?_
              refine Tr.region ?_
              refine Run.val (lt rfl) (Y.move rfl) ?_
              refine Run.val (lt rfl) (Y.slice (l := 15) (m := 21) rfl Ref04d_es38 rfl rfl (by omega) (by omega)) ?_
              refine Run.call0 (l := [.tmp 78]) rfl rfl rfl (lt rfl) (of_v (l := (Msg.sl (Msg.pad bs) 15 21)) (rd_sl (ho3.rd 0 rfl) 15 21 (by omega) (by omega)) (by rw [Msg.sl_length _ _ _ (by omega)]; omega)) ?_
              refine Run.val (lt rfl) (Y.fieldAddr rfl Ref04d_fo37_9) ?_
              refine Run.store (s := [(x, .cells #[.int .i64 (Msg.by_ bs 0), .int .i64 (val (Msg.sl bs 1 5)), .int .i64 (val (Msg.sl bs 5 9)), .int .i64 (val (Msg.sl (Msg.pad bs) 0 4)), .int .i64 0, .int .u32 (val (Msg.sl (Msg.pad bs) 4 8)), .int .i64 (Msg.by_ (Msg.pad bs) 8), .string ⟨#[]⟩, .int .i64 (val (Msg.sl (Msg.pad bs) 9 15)), .int .i64 (val (Msg.sl (Msg.pad bs) 15 21)), .bool false] 37 (0, 0))]) rfl rfl Ref04d_sz3 (i := 1) rfl rfl (le rfl) rfl rfl ?_
              refine Run.to_end ?_
              refine Ex.go ?_
              refine Tr.region ?_
              refine Run.val (lt rfl) (Y.move rfl) ?_
              refine Run.val (lt rfl) (Y.move rfl) ?_
              refine Run.val (lt rfl) (Y.idxAddr rfl rfl Ref04d_es38 (by omega) (by omega)) ?_
              refine Run.val (lt rfl) (Y.load rfl Ref04d_ts5 (Kn.at 0 rfl) (at1 (i := 21) hcs5 (by omega) (Msg.by_at (by omega)))) ?_
              have hby := Msg.by_bounds (Msg.pad bs) 21
              refine Run.val (lt rfl) (Y.conv (Msg.by_ (Msg.pad bs) 21) rfl Ref04d_it5_3 (wrap_i64 (by omega))) ?_
              refine Run.val (lt rfl) (Y.move rfl) ?_
              refine Run.val (lt rfl) (Y.lenSl rfl Ref04d_es38) ?_
              refine Run.val (lt rfl) (Y.sub rfl rfl (by omega)) ?_
              refine Run.val (lt rfl) (Y.min2 rfl rfl) ?_
              refine Run.val (lt rfl) (Y.add rfl rfl (by omega)) ?_
              refine Run.sub [(0, .slice (some ⟨b, off, none⟩) bs.length c), (2, .pointer (some ⟨b1, 0, none⟩)), (3, .int .i64 0), (4, .pointer (some ⟨x, 0, none⟩)), (28, .slice (some ⟨b7, 0, none⟩) 0 0), (29, .slice (some ⟨b, off, none⟩) bs.length c), (30, .slice (if c = 9 then (some ⟨b, off, none⟩) else Option.map (fun x : Addr => x.add (9 * 1)) ((some ⟨b, off, none⟩) : Option Addr)) (bs.length - 9) (c - 9)), (32, .slice (some ⟨b5, 0, none⟩) (Msg.pad bs).length c5), (5, .slice (some ⟨b5, 0, none⟩) (Msg.pad bs).length c5), (33, .pointer (some ⟨x, 0, none⟩)), (34, .int .i64 (Msg.by_ bs 0)), (36, .bool ((Msg.by_ bs 0) == 1)), (35, .bool ((Msg.by_ bs 0) == 1)), (47, .bool ((Msg.by_ bs 0) == 3)), (46, .bool ((Msg.by_ bs 0) == 3)), (58, .bool ((Msg.by_ bs 0) == 2)), (57, .bool ((Msg.by_ bs 0) == 2)), (59, .slice (some ⟨b5, 0, none⟩) (Msg.pad bs).length c5), (60, .slice (if c5 = 0 then (some ⟨b5, 0, none⟩) else Option.map (fun x : Addr => x.add (0 * 1)) ((some ⟨b5, 0, none⟩) : Option Addr)) (4 - 0) (c5 - 0)), (61, .int .i64 (val (Msg.sl (Msg.pad bs) 0 4))), (62, .pointer (some ⟨x, 3, none⟩)), (63, .slice (some ⟨b5, 0, none⟩) (Msg.pad bs).length c5), (64, .slice (if c5 = 4 then (some ⟨b5, 0, none⟩) else Option.map (fun x : Addr => x.add (4 * 1)) ((some ⟨b5, 0, none⟩) : Option Addr)) (8 - 4) (c5 - 4)), (65, .int .i64 (val (Msg.sl (Msg.pad bs) 4 8))), (66, .int .u32 (val (Msg.sl (Msg.pad bs) 4 8))), (67, .pointer (some ⟨x, 5, none⟩)), (68, .slice (some ⟨b5, 0, none⟩) (Msg.pad bs).length c5), (70, .int .u8 (Msg.by_ (Msg.pad bs) 8)), (71, .int .i64 (Msg.by_ (Msg.pad bs) 8)), (72, .pointer (some ⟨x, 6, none⟩)), (73, .slice (some ⟨b5, 0, none⟩) (Msg.pad bs).length c5), (74, .slice (if c5 = 9 then (some ⟨b5, 0, none⟩) else Option.map (fun x : Addr => x.add (9 * 1)) ((some ⟨b5, 0, none⟩) : Option Addr)) (15 - 9) (c5 - 9)), (75, .int .i64 (val (Msg.sl (Msg.pad bs) 9 15))), (76, .pointer (some ⟨x, 8, none⟩)), (77, .slice (some ⟨b5, 0, none⟩) (Msg.pad bs).length c5), (78, .slice (if c5 = 15 then (some ⟨b5, 0, none⟩) else Option.map (fun x : Addr => x.add (15 * 1)) ((some ⟨b5, 0, none⟩) : Option Addr)) (21 - 15) (c5 - 15)), (79, .int .i64 (val (Msg.sl (Msg.pad bs) 15 21))), (80, .pointer (some ⟨x, 9, none⟩)), (81, .slice (some ⟨b5, 0, none⟩) (Msg.pad bs).length c5), (82, .slice (some ⟨b5, 0, none⟩) (Msg.pad bs).length c5), (84, .int .u8 (Msg.by_ (Msg.pad bs) 21)), (85, .int .i64 (Msg.by_ (Msg.pad bs) 21)), (86, .slice (some ⟨b5, 0, none⟩) (Msg.pad bs).length c5), (87, .int .i64 (((Msg.pad bs).length : Nat) : Int)), (88, .int .i64 ((((Msg.pad bs).length : Nat) : Int) - 22)), (89, .int .i64 (min (Msg.by_ (Msg.pad bs) 21) ((((Msg.pad bs).length : Nat) : Int) - 22))), (90, .int .i64 ((22 + min (Msg.by_ (Msg.pad bs) 21).toNat ((Msg.pad bs).length - 22) : Nat) : Int))] (subB_cons (by first | rfl | exact congrArg (fun z => some (Value.int _ z)) (by omega)) (subB_cons (by first | rfl | exact congrArg (fun z => some (Value.int _ z)) (by omega)) (subB_cons (by first | rfl | exact congrArg (fun z => some (Value.int _ z)) (by omega)) (subB_cons (by first | rfl | exact congrArg (fun z => some (Value.int _ z)) (by omega)) (subB_cons (by first | rfl | exact congrArg (fun z => some (Value.int _ z)) (by omega)) (subB_cons (by first | rfl | exact congrArg (fun z => some (Value.int _ z)) (by omega)) (subB_cons (by first | rfl | exact congrArg (fun z => some (Value.int _ z)) (by omega)) (subB_cons (by first | rfl | exact congrArg (fun z => some (Value.int _ z)) (by omega)) (subB_cons (by first | rfl | exact congrArg (fun z => some (Value.int _ z)) (by omega)) (subB_cons (by first | rfl | exact congrArg (fun z => some (Value.int _ z)) (by omega)) (subB_cons (by first | rfl | exact congrArg (fun z => some (Value.int _ z)) (by omega)) (subB_cons (by first | rfl | exact congrArg (fun z => some (Value.int _ z)) (by omega)) (subB_cons (by first | rfl | exact congrArg (fun z => some (Value.int _ z)) (by omega)) (subB_cons (by first | rfl | exact congrArg (fun z => some (Value.int _ z)) (by omega)) (subB_cons (by first | rfl | exact congrArg (fun z => some (Value.int _ z)) (by omega)) (subB_cons (by first | rfl | exact congrArg (fun z => some (Value.int _ z)) (by omega)) (subB_cons (by first | rfl | exact congrArg (fun z => some (Value.int _ z)) (by omega)) (subB_cons (by first | rfl | exact congrArg (fun z => some (Value.int _ z)) (by omega)) (subB_cons (by first | rfl | exact congrArg (fun z => some (Value.int _ z)) (by omega)) (subB_cons (by first | rfl | exact congrArg (fun z => some (Value.int _ z)) (by omega)) (subB_cons (by first | rfl | exact congrArg (fun z => some (Value.int _ z)) (by omega)) (subB_cons (by first | rfl | exact congrArg (fun z => some (Value.int _ z)) (by omega)) (subB_cons (by first | rfl | exact congrArg (fun z => some (Value.int _ z)) (by omega)) (subB_cons (by first | rfl | exact congrArg (fun z => some (Value.int _ z)) (by omega)) (subB_cons (by first | rfl | exact congrArg (fun z => some (Value.int _ z)) (by omega)) (subB_cons (by first | rfl | exact congrArg (fun z => some (Value.int _ z)) (by omega)) (subB_cons (by first | rfl | exact congrArg (fun z => some (Value.int _ z)) (by omega)) (subB_cons (by first | rfl | exact congrArg (fun z => some (Value.int _ z)) (by omega)) (subB_cons (by first | rfl | exact congrArg (fun z => some (Value.int _ z)) (by omega)) (subB_cons (by first | rfl | exact congrArg (fun z => some (Value.int _ z)) (by omega)) (subB_cons (by first | rfl | exact congrArg (fun z => some (Value.int _ z)) (by omega)) (subB_cons (by first | rfl | exact congrArg (fun z => some (Value.int _ z)) (by omega)) (subB_cons (by first | rfl | exact congrArg (fun z => some (Value.int _ z)) (by omega)) (subB_cons (by first | rfl | exact congrArg (fun z => some (Value.int _ z)) (by omega)) (subB_cons (by first | rfl | exact congrArg (fun z => some (Value.int _ z)) (by omega)) (subB_cons (by first | rfl | exact congrArg (fun z => some (Value.int _ z)) (by omega)) (subB_cons (by first | rfl | exact congrArg (fun z => some (Value.int _ z)) (by omega)) (subB_cons (by first | rfl | exact congrArg (fun z => some (Value.int _ z)) (by omega)) (subB_cons (by first | rfl | exact congrArg (fun z => some (Value.int _ z)) (by omega)) (subB_cons (by first | rfl | exact congrArg (fun z => some (Value.int _ z)) (by omega)) (subB_cons (by first | rfl | exact congrArg (fun z => some (Value.int _ z)) (by omega)) (subB_cons (by first | rfl | exact congrArg (fun z => some (Value.int _ z)) (by omega)) (subB_cons (by first | rfl | exact congrArg (fun z => some (Value.int _ z)) (by omega)) (subB_cons (by first | rfl | exact congrArg (fun z => some (Value.int _ z)) (by omega)) (subB_cons (by first | rfl | exact congrArg (fun z => some (Value.int _ z)) (by omega)) (subB_cons (by first | rfl | exact congrArg (fun z => some (Value.int _ z)) (by omega)) (subB_cons (by first | rfl | exact congrArg (fun z => some (Value.int _ z)) (by omega)) (subB_nil _)))))))))))))))))))))))))))))))))))))))))))))))) ?_
              refine Run.val (lt rfl) (Y.slice (l := 22) (m := 22 + min (Msg.by_ (Msg.pad bs) 21).toNat ((Msg.pad bs).length - 22)) rfl Ref04d_es38 rfl rfl (by omega) (by omega)) ?_
              refine Run.val (lt rfl) (Y.bytesStr (bs := (Msg.sl (Msg.pad bs) 22 (22 + min (Msg.by_ (Msg.pad bs) 21).toNat ((Msg.pad bs).length - 22)))) rfl Ref04d_es38 Ref04d_tg5 Ref04d_st9 (rd_sl (ho3.rd 0 rfl) 22 (22 + min (Msg.by_ (Msg.pad bs) 21).toNat ((Msg.pad bs).length - 22)) (by omega) (by omega))) ?_
              refine Run.val (lt rfl) (Y.fieldAddr rfl Ref04d_fo37_7) ?_
              refine Run.store (s := [(x, .cells #[.int .i64 (Msg.by_ bs 0), .int .i64 (val (Msg.sl bs 1 5)), .int .i64 (val (Msg.sl bs 5 9)), .int .i64 (val (Msg.sl (Msg.pad bs) 0 4)), .int .i64 0, .int .u32 (val (Msg.sl (Msg.pad bs) 4 8)), .int .i64 (Msg.by_ (Msg.pad bs) 8), .string ⟨((Msg.sl (Msg.pad bs) 22 (22 + min (Msg.by_ (Msg.pad bs) 21).toNat ((Msg.pad bs).length - 22))) : List UInt8).toArray⟩, .int .i64 (val (Msg.sl (Msg.pad bs) 9 15)), .int .i64 (val (Msg.sl (Msg.pad bs) 15 21)), .bool false] 37 (0, 0))]) rfl rfl Ref04d_sz9 (i := 1) rfl rfl (le rfl) rfl rfl ?_
              refine Run.to_end ?_
              refine Ex.end_block ?_
              refine Ex.go ?_
              refine Tr.seq ?_
              refine Tr.region ?_
              refine Run.val (lt rfl) (Y.loadAgg rfl Ref04d_ag37 (Kn.at 1 rfl) rfl) ?_
              have hpe : Msg.parse bs = (⟨Msg.by_ bs 0, val (Msg.sl bs 1 5), val (Msg.sl bs 5 9), val (Msg.sl (Msg.pad bs) 0 4), 0, val (Msg.sl (Msg.pad bs) 4 8), Msg.by_ (Msg.pad bs) 8, ⟨((Msg.sl (Msg.pad bs) 22 (22 + min (Msg.by_ (Msg.pad bs) 21).toNat ((Msg.pad bs).length - 22))) : List UInt8).toArray⟩, val (Msg.sl (Msg.pad bs) 9 15), val (Msg.sl (Msg.pad bs) 15 21), false⟩ : Msg) := (if_neg g8).trans ((if_neg g10).trans (if_pos g12))
              rw [hpe] at hr
              have hpa := Msg.parse_addr bs; rw [hpe] at hpa
              refine Run.call [] (l := [.tmp 95]) rfl rfl rfl (lt rfl) (rencode_yes (m := (⟨Msg.by_ bs 0, val (Msg.sl bs 1 5), val (Msg.sl bs 5 9), val (Msg.sl (Msg.pad bs) 0 4), 0, val (Msg.sl (Msg.pad bs) 4 8), Msg.by_ (Msg.pad bs) 8, ⟨((Msg.sl (Msg.pad bs) 22 (22 + min (Msg.by_ (Msg.pad bs) 21).toNat ((Msg.pad bs).length - 22))) : List UInt8).toArray⟩, val (Msg.sl (Msg.pad bs) 9 15), val (Msg.sl (Msg.pad bs) 15 21), false⟩ : Msg)) hr hpa) (fun v9 V2 H2 _ hR => ?_)
              obtain ⟨hV, x9, s9, rfl, rfl, ho9⟩ := hR; replace hV := hV.symm; subst hV; obtain ⟨p9, c9, rfl⟩ := ho9.form
              refine Run.val (lt rfl) (Y.move rfl) ?_
              refine Run.val (lt rfl) (Y.extract rfl rfl) ?_
              refine Run.val (lt rfl) (Y.extract rfl rfl) ?_
              refine Run.val (lt rfl) (Y.assign rfl) ?_
              refine Run.val (lt rfl) (Y.assign rfl) ?_
              refine Run.to_end ?_
              refine Ex.go ?_
              refine Tr.seq ?_
              refine Tr.seq ?_
              refine Tr.region ?_
              refine Run.val (lt rfl) (Y.move rfl) ?_
              refine Run.val (lt rfl) (Y.int (r := .bool false) rfl rfl rfl) ?_
              refine Run.val (lt rfl) (Y.move rfl) ?_
              refine Run.on rfl rfl rfl rfl ?_
              refine Run.val (lt rfl) (Y.move rfl) ?_
              refine Run.on rfl rfl rfl rfl ?_
              refine Run.val (lt rfl) (Y.bytesStr (bs := (Msg.enc (⟨Msg.by_ bs 0, val (Msg.sl bs 1 5), val (Msg.sl bs 5 9), val (Msg.sl (Msg.pad bs) 0 4), 0, val (Msg.sl (Msg.pad bs) 4 8), Msg.by_ (Msg.pad bs) 8, ⟨((Msg.sl (Msg.pad bs) 22 (22 + min (Msg.by_ (Msg.pad bs) 21).toNat ((Msg.pad bs).length - 22))) : List UInt8).toArray⟩, val (Msg.sl (Msg.pad bs) 9 15), val (Msg.sl (Msg.pad bs) 15 21), false⟩ : Msg))) rfl Ref04d_es38 Ref04d_tg5 Ref04d_st9 (ho9.rd 3 rfl)) ?_
              refine Run.on rfl rfl rfl rfl ?_
              refine Run.val (lt rfl) (Y.move rfl) ?_
              refine Run.on rfl rfl rfl rfl ?_
              refine Run.val (lt rfl) (Y.bytesStr (bs := bs) rfl Ref04d_es38 Ref04d_tg5 Ref04d_st9 hv.of_nil) ?_
              refine Run.on rfl rfl rfl rfl ?_
              refine Run.val (lt rfl) (Y.neStr rfl rfl) ?_
              refine Run.val (lt rfl) (Y.pick_f rfl rfl rfl) ?_
              refine Run.to_end ?_
              refine Ex.go ?_
              rcases Bool.eq_false_or_eq_true ((⟨((Msg.enc (⟨Msg.by_ bs 0, val (Msg.sl bs 1 5), val (Msg.sl bs 5 9), val (Msg.sl (Msg.pad bs) 0 4), 0, val (Msg.sl (Msg.pad bs) 4 8), Msg.by_ (Msg.pad bs) 8, ⟨((Msg.sl (Msg.pad bs) 22 (22 + min (Msg.by_ (Msg.pad bs) 21).toNat ((Msg.pad bs).length - 22))) : List UInt8).toArray⟩, val (Msg.sl (Msg.pad bs) 9 15), val (Msg.sl (Msg.pad bs) 15 21), false⟩ : Msg)) : List UInt8).toArray⟩ : ByteArray).toList == (⟨(bs : List UInt8).toArray⟩ : ByteArray).toList) with h13 | h13
              · have g13 := h13
                try simp only [kb] at g13
                refine Tr.cond_f rfl (by rw [h13]; try rfl) ?_
                refine Tr.to_end ?_
                refine Ex.go ?_
                refine Tr.seq ?_
                refine Tr.region ?_
                refine Run.val (lt rfl) (Y.loadAgg rfl Ref04d_ag37 (Kn.at 1 rfl) rfl) ?_
                refine Run.store (s := [(b1, .cells #[.int .i64 (Msg.by_ bs 0), .int .i64 (val (Msg.sl bs 1 5)), .int .i64 (val (Msg.sl bs 5 9)), .int .i64 (val (Msg.sl (Msg.pad bs) 0 4)), .int .i64 0, .int .u32 (val (Msg.sl (Msg.pad bs) 4 8)), .int .i64 (Msg.by_ (Msg.pad bs) 8), .string ⟨((Msg.sl (Msg.pad bs) 22 (22 + min (Msg.by_ (Msg.pad bs) 21).toNat ((Msg.pad bs).length - 22))) : List UInt8).toArray⟩, .int .i64 (val (Msg.sl (Msg.pad bs) 9 15)), .int .i64 (val (Msg.sl (Msg.pad bs) 15 21)), .bool false] 37 (0, 0))]) rfl rfl Ref04d_sz37 (i := 2) rfl rfl (le rfl) rfl rfl ?_
                refine Run.val (lt rfl) (Y.assign rfl) ?_
                refine Run.to_end ?_
                refine Ex.go ?_
                refine Tr.to_ret ?_
                exact Ex.retCell2 [] rfl rfl rfl Ref04d_ag37 (Kn.at 2 rfl) rfl ⟨by rw [Msg.rbad_ok (by omega) (by rw [hpe]; exact hr) (by rw [hpe]; exact h13)]; rw [hpe]; rfl, rfl, rfl⟩
              · have g13 := h13
                try simp only [kb] at g13
                refine Tr.cond_t rfl (by rw [h13]; try rfl) ?_
                refine Tr.seq ?_
                refine Tr.region ?_
                refine Run.val (lt rfl) (Y.buildS (l := []) Ref04d_zo37 Ref04d_pl37 rfl rfl) ?_
                refine Run.store (s := [(b1, .cells #[.int .i64 0, .int .i64 0, .int .i64 0, .int .i64 0, .int .i64 0, .int .u32 0, .int .i64 0, .string ⟨#[]⟩, .int .i64 0, .int .i64 0, .bool false] 37 (0, 0))]) rfl rfl Ref04d_sz37 (i := 2) rfl rfl (le rfl) rfl rfl ?_
                refine Run.val (lt rfl) (Y.assign rfl) ?_
                refine Run.to_end ?_
                refine Ex.go ?_
                refine Tr.to_ret ?_
                refine Ex.ret_then ?_
                exact Ex.retCell2 [] rfl rfl rfl Ref04d_ag37 (Kn.at 2 rfl) rfl ⟨by rw [Msg.rbad_ne (by rw [hpe]; exact h13)]; rfl, rfl, rfl⟩
            · have g12 := h12
              try simp only [kb] at g12
              refine Tr.cond_f rfl h12 ?_
              refine Tr.to_end ?_
              refine Ex.end_block ?_
              refine Ex.go ?_
              refine Tr.seq ?_
              refine Tr.region ?_
              refine Run.val (lt rfl) (Y.loadAgg rfl Ref04d_ag37 (Kn.at 1 rfl) rfl) ?_
              have hpe : Msg.parse bs = (⟨Msg.by_ bs 0, val (Msg.sl bs 1 5), val (Msg.sl bs 5 9), 0, 0, 0, 0, ⟨#[]⟩, 0, 0, false⟩ : Msg) := (if_neg g8).trans ((if_neg g10).trans (if_neg g12))
              rw [hpe] at hr
              have hpa := Msg.parse_addr bs; rw [hpe] at hpa
              refine Run.call [] (l := [.tmp 95]) rfl rfl rfl (lt rfl) (rencode_yes (m := (⟨Msg.by_ bs 0, val (Msg.sl bs 1 5), val (Msg.sl bs 5 9), 0, 0, 0, 0, ⟨#[]⟩, 0, 0, false⟩ : Msg)) hr hpa) (fun v9 V2 H2 _ hR => ?_)
              obtain ⟨hV, x9, s9, rfl, rfl, ho9⟩ := hR; replace hV := hV.symm; subst hV; obtain ⟨p9, c9, rfl⟩ := ho9.form
              refine Run.val (lt rfl) (Y.move rfl) ?_
              refine Run.val (lt rfl) (Y.extract rfl rfl) ?_
              refine Run.val (lt rfl) (Y.extract rfl rfl) ?_
              refine Run.val (lt rfl) (Y.assign rfl) ?_
              refine Run.val (lt rfl) (Y.assign rfl) ?_
              refine Run.to_end ?_
              refine Ex.go ?_
              refine Tr.seq ?_
              refine Tr.seq ?_
              refine Tr.region ?_
              refine Run.val (lt rfl) (Y.move rfl) ?_
              refine Run.val (lt rfl) (Y.int (r := .bool false) rfl rfl rfl) ?_
              refine Run.val (lt rfl) (Y.move rfl) ?_
              refine Run.on rfl rfl rfl rfl ?_
              refine Run.val (lt rfl) (Y.move rfl) ?_
              refine Run.on rfl rfl rfl rfl ?_
              refine Run.val (lt rfl) (Y.bytesStr (bs := (Msg.enc (⟨Msg.by_ bs 0, val (Msg.sl bs 1 5), val (Msg.sl bs 5 9), 0, 0, 0, 0, ⟨#[]⟩, 0, 0, false⟩ : Msg))) rfl Ref04d_es38 Ref04d_tg5 Ref04d_st9 (ho9.rd 3 rfl)) ?_
              refine Run.on rfl rfl rfl rfl ?_
              refine Run.val (lt rfl) (Y.move rfl) ?_
              refine Run.on rfl rfl rfl rfl ?_
              refine Run.val (lt rfl) (Y.bytesStr (bs := bs) rfl Ref04d_es38 Ref04d_tg5 Ref04d_st9 hv.of_nil) ?_
              refine Run.on rfl rfl rfl rfl ?_
              refine Run.val (lt rfl) (Y.neStr rfl rfl) ?_
              refine Run.val (lt rfl) (Y.pick_f rfl rfl rfl) ?_
              refine Run.to_end ?_
              refine Ex.go ?_
              rcases Bool.eq_false_or_eq_true ((⟨((Msg.enc (⟨Msg.by_ bs 0, val (Msg.sl bs 1 5), val (Msg.sl bs 5 9), 0, 0, 0, 0, ⟨#[]⟩, 0, 0, false⟩ : Msg)) : List UInt8).toArray⟩ : ByteArray).toList == (⟨(bs : List UInt8).toArray⟩ : ByteArray).toList) with h14 | h14
              · have g14 := h14
                try simp only [kb] at g14
                refine Tr.cond_f rfl (by rw [h14]; try rfl) ?_
                refine Tr.to_end ?_
                refine Ex.go ?_
                refine Tr.seq ?_
                refine Tr.region ?_
                refine Run.val (lt rfl) (Y.loadAgg rfl Ref04d_ag37 (Kn.at 1 rfl) rfl) ?_
                refine Run.store (s := [(b1, .cells #[.int .i64 (Msg.by_ bs 0), .int .i64 (val (Msg.sl bs 1 5)), .int .i64 (val (Msg.sl bs 5 9)), .int .i64 0, .int .i64 0, .int .u32 0, .int .i64 0, .string ⟨#[]⟩, .int .i64 0, .int .i64 0, .bool false] 37 (0, 0))]) rfl rfl Ref04d_sz37 (i := 2) rfl rfl (le rfl) rfl rfl ?_
                refine Run.val (lt rfl) (Y.assign rfl) ?_
                refine Run.to_end ?_
                refine Ex.go ?_
                refine Tr.to_ret ?_
                exact Ex.retCell2 [] rfl rfl rfl Ref04d_ag37 (Kn.at 2 rfl) rfl ⟨by rw [Msg.rbad_ok (by omega) (by rw [hpe]; exact hr) (by rw [hpe]; exact h14)]; rw [hpe]; rfl, rfl, rfl⟩
              · have g14 := h14
                try simp only [kb] at g14
                refine Tr.cond_t rfl (by rw [h14]; try rfl) ?_
                refine Tr.seq ?_
                refine Tr.region ?_
                refine Run.val (lt rfl) (Y.buildS (l := []) Ref04d_zo37 Ref04d_pl37 rfl rfl) ?_
                refine Run.store (s := [(b1, .cells #[.int .i64 0, .int .i64 0, .int .i64 0, .int .i64 0, .int .i64 0, .int .u32 0, .int .i64 0, .string ⟨#[]⟩, .int .i64 0, .int .i64 0, .bool false] 37 (0, 0))]) rfl rfl Ref04d_sz37 (i := 2) rfl rfl (le rfl) rfl rfl ?_
                refine Run.val (lt rfl) (Y.assign rfl) ?_
                refine Run.to_end ?_
                refine Ex.go ?_
                refine Tr.to_ret ?_
                refine Ex.ret_then ?_
                exact Ex.retCell2 [] rfl rfl rfl Ref04d_ag37 (Kn.at 2 rfl) rfl ⟨by rw [Msg.rbad_ne (by rw [hpe]; exact h14)]; rfl, rfl, rfl⟩

set_option maxHeartbeats 4000000 in
theorem rdecode_b {V : Vw} {bs : List UInt8} {p : Option Addr} {c : Nat} (hv : Rd V [] 1 (.slice p bs.length c) bs.length (bs.map byteV)) (hl : bs.length ≤ 9223372036854775807) (hr : Msg.right (Msg.parse bs) = false)  : Does Try.prog 37 [.slice p bs.length c] V [] (fun u V' H' => u = .tuple #[.agg (if Msg.rbad bs then Msg.zero else Msg.parse bs).cells, .int .i64 (if Msg.rbad bs then 2 else 0)] ∧ V' = V ∧ H' = []) := by
  have hcap := hv.cap
  refine Does.intro Try.func37 rfl rfl (le rfl) (fun B => ?_)
  refine Tr.seq ?_
  refine Tr.region ?_
  refine Run.alloc Ref04d_zo37 (lt rfl) (fun b1 => ?_)
  refine Run.val (lt rfl) (Y.assign rfl) ?_
  refine Run.to_end ?_
  refine Ex.go ?_
  refine Tr.seq ?_
  refine Tr.seq ?_
  refine Tr.region ?_
  refine Run.val (lt rfl) (Y.move rfl) ?_
  refine Run.val (lt rfl) (Y.lenSl rfl Ref04d_es38) ?_
  refine Run.val (lt rfl) (Y.int rfl rfl rfl) ?_
  refine Run.val (lt rfl) (Y.move rfl) ?_
  rcases Bool.eq_false_or_eq_true (decide (((bs.length : Nat) : Int) < 9)) with h2 | h2
  · have g2 := h2
    try simp only [kb] at g2
    refine Run.off rfl rfl rfl h2 rfl (lt rfl) ?_
    refine Run.off rfl rfl rfl h2 rfl (lt rfl) ?_
    refine Run.off rfl rfl rfl h2 rfl (lt rfl) ?_
    refine Run.val (lt rfl) (Y.pick_t rfl h2 rfl) ?_
    refine Run.to_end ?_
    refine Ex.go ?_
    refine Tr.cond_t rfl rfl ?_
    refine Tr.seq ?_
    refine Tr.region ?_
    refine Run.val (lt rfl) (Y.buildS (l := []) Ref04d_zo37 Ref04d_pl37 rfl rfl) ?_
    refine Run.store (s := [(b1, .cells #[.int .i64 0, .int .i64 0, .int .i64 0, .int .i64 0, .int .i64 0, .int .u32 0, .int .i64 0, .string ⟨#[]⟩, .int .i64 0, .int .i64 0, .bool false] 37 (0, 0))]) rfl rfl Ref04d_sz37 (i := 0) rfl rfl (le rfl) rfl rfl ?_
    refine Run.val (lt rfl) (Y.assign rfl) ?_
    refine Run.to_end ?_
    refine Ex.go ?_
    refine Tr.to_ret ?_
    refine Ex.ret_then ?_
    exact Ex.retCell2 [] rfl rfl rfl Ref04d_ag37 (Kn.at 0 rfl) rfl ⟨by rw [Msg.rbad_len (by omega)]; rfl, rfl, rfl⟩
  · have g2 := h2
    try simp only [kb] at g2
    refine Run.on rfl rfl rfl h2 ?_
    refine Run.val (lt rfl) (Y.move rfl) ?_
    refine Run.on rfl rfl rfl h2 ?_
    refine Run.val (lt rfl) (Y.lenSl rfl Ref04d_es38) ?_
    refine Run.on rfl rfl rfl h2 ?_
    refine Run.val (lt rfl) (Y.int rfl rfl rfl) ?_
    refine Run.val (lt rfl) (Y.pick_f rfl h2 rfl) ?_
    refine Run.to_end ?_
    refine Ex.go ?_
    rcases Bool.eq_false_or_eq_true (decide (((bs.length : Nat) : Int) > 100)) with h3 | h3
    · have g3 := h3
      try simp only [kb] at g3
      refine Tr.cond_t rfl h3 ?_
      refine Tr.seq ?_
      refine Tr.region ?_
      refine Run.val (lt rfl) (Y.buildS (l := []) Ref04d_zo37 Ref04d_pl37 rfl rfl) ?_
      refine Run.store (s := [(b1, .cells #[.int .i64 0, .int .i64 0, .int .i64 0, .int .i64 0, .int .i64 0, .int .u32 0, .int .i64 0, .string ⟨#[]⟩, .int .i64 0, .int .i64 0, .bool false] 37 (0, 0))]) rfl rfl Ref04d_sz37 (i := 0) rfl rfl (le rfl) rfl rfl ?_
      refine Run.val (lt rfl) (Y.assign rfl) ?_
      refine Run.to_end ?_
      refine Ex.go ?_
      refine Tr.to_ret ?_
      refine Ex.ret_then ?_
      exact Ex.retCell2 [] rfl rfl rfl Ref04d_ag37 (Kn.at 0 rfl) rfl ⟨by rw [Msg.rbad_len (by omega)]; rfl, rfl, rfl⟩
    · have g3 := h3
      try simp only [kb] at g3
      obtain ⟨b, off, c2, cs, e, fz, hw, hc, hk, hcs⟩ := hv.opened (by omega)
      obtain ⟨rfl, rfl⟩ : p = some ⟨b, off, none⟩ ∧ c = c2 := by cases hw; exact ⟨rfl, rfl⟩
      clear hw
      refine Tr.cond_f rfl h3 ?_
      refine Tr.to_end ?_
      refine Ex.go ?_
      refine Tr.cutx (X := Nat) (fun x => V) (fun x => [[(x, .cells #[.int .i64 (Msg.by_ bs 0), .int .i64 (val (Msg.sl bs 1 5)), .int .i64 (val (Msg.sl bs 5 9)), .int .i64 0, .int .i64 0, .int .u32 0, .int .i64 0, .string ⟨#[]⟩, .int .i64 0, .int .i64 0, .bool false] 37 (0, 0))], [(b1, .cells #[.int .i64 0, .int .i64 0, .int .i64 0, .int .i64 0, .int .i64 0, .int .u32 0, .int .i64 0, .string ⟨#[]⟩, .int .i64 0, .int .i64 0, .bool false] 37 (0, 0))]]) (fun x => [(0, .slice (some ⟨b, off, none⟩) bs.length c), (2, .pointer (some ⟨b1, 0, none⟩)), (3, .int .i64 0), (4, .pointer (some ⟨x, 0, none⟩))]) (fun x => True) ?_ ?_
      · refine Tr.anyD [(b, .cells cs e fz)] Ref04d_mo ?_
        refine RunD.pure (i := 0) rfl (by kernel_rfl) (by kernel_rfl) (by kernel_rfl) (fun _ _ _ h => h) (lt rfl) (KnAll.cons hk.of_nil KnAll.nil) (fun _ => (Y.move rfl)) ?_
        refine RunD.pure (i := 1) rfl (by kernel_rfl) (by kernel_rfl) (by kernel_rfl) (fun _ _ _ h => h) (lt rfl) (KnAll.cons hk.of_nil KnAll.nil) (fun _ => (Y.idxAddr rfl rfl Ref04d_es38 (by omega) (by omega))) ?_
        refine RunD.take (i := 2) 0 rfl rfl (by kernel_rfl) (by kernel_rfl) (by kernel_rfl) (fun _ _ _ h => h) (lt rfl) (KnAll.cons hk.of_nil KnAll.nil) (fun _ => (Y.load rfl Ref04d_ts5 Kn.vk1 (at1 (i := 0) hcs (by omega) (Msg.by_at (by omega))))) ?_
        refine RunD.pure (i := 3) rfl (by kernel_rfl) (by kernel_rfl) (by kernel_rfl) (fun _ _ _ h => h) (lt rfl) (KnAll.cons hk.of_nil KnAll.nil) (fun _ => (Y.conv (Msg.by_ bs 0) rfl Ref04d_it5_3 (wrap_i64 (by have := Msg.by_bounds bs 0; omega)))) ?_
        refine RunD.pure (i := 4) rfl (by kernel_rfl) (by kernel_rfl) (by kernel_rfl) (fun _ _ _ h => h) (lt rfl) (KnAll.cons hk.of_nil KnAll.nil) (fun _ => (Y.move rfl)) ?_
        refine RunD.pure (i := 5) rfl (by kernel_rfl) (by kernel_rfl) (by kernel_rfl) (fun _ _ _ h => h) (lt rfl) (KnAll.cons hk.of_nil KnAll.nil) (fun _ => (Y.slice (l := 1) (m := 5) rfl Ref04d_es38 rfl rfl (by omega) (by omega))) ?_
        refine RunD.pure (i := 7) rfl (by kernel_rfl) (by kernel_rfl) (by kernel_rfl) (fun _ _ _ h => h) (lt rfl) (KnAll.cons hk.of_nil KnAll.nil) (fun _ => (Y.move rfl)) ?_
        refine RunD.pure (i := 8) rfl (by kernel_rfl) (by kernel_rfl) (by kernel_rfl) (fun _ _ _ h => h) (lt rfl) (KnAll.cons hk.of_nil KnAll.nil) (fun _ => (Y.slice (l := 5) (m := 9) rfl Ref04d_es38 rfl rfl (by omega) (by omega))) ?_
        refine RunD.two (i := 6) (j := 11) (by kernel_rfl) rfl rfl  ?_ ?_ 
        · refine Run.call0 (l := [.tmp 22]) rfl rfl rfl (lt rfl) (of_v (l := (Msg.sl bs 1 5)) (rd_sl hv.of_nil 1 5 (by omega) (by omega)) (by rw [Msg.sl_length _ _ _ (by omega)]; omega)) ?_
          refine Run.to_end ?_
          refine Ex.anyD (KnAll.cons hk.of_nil KnAll.nil) ?_
          refine RunD.two (i := 9) (j := 11) (by kernel_rfl) rfl rfl  ?_ ?_ 
          · refine Run.call0 (l := [.tmp 25]) rfl rfl rfl (lt rfl) (of_v (l := (Msg.sl bs 5 9)) (rd_sl hv.of_nil 5 9 (by omega) (by omega)) (by rw [Msg.sl_length _ _ _ (by omega)]; omega)) ?_
            refine Run.to_end ?_
            refine Ex.anyD (KnAll.cons hk.of_nil KnAll.nil) ?_
            refine RunD.pure (i := 10) rfl (by kernel_rfl) (by kernel_rfl) (by kernel_rfl) (fun _ _ _ h => h) (lt rfl) (KnAll.cons hk.of_nil KnAll.nil) (fun _ => (Y.buildS (l := [(0, .tmp 20), (1, .tmp 23), (2, .tmp 26)]) Ref04d_zo37 Ref04d_pl37 rfl rfl)) ?_
            refine RunD.one (i := 11) (by kernel_rfl) rfl  ?_ 
            refine Run.alloc Ref04d_zo37 (lt rfl) (fun b4 => ?_)
            refine Run.to_end ?_
            refine Ex.anyD (KnAll.cons hk.of_nil KnAll.nil) ?_
            refine RunD.one (i := 12) (by kernel_rfl) rfl  ?_ 
            refine Run.store (s := [(b4, .cells #[.int .i64 (Msg.by_ bs 0), .int .i64 (val (Msg.sl bs 1 5)), .int .i64 (val (Msg.sl bs 5 9)), .int .i64 0, .int .i64 0, .int .u32 0, .int .i64 0, .string ⟨#[]⟩, .int .i64 0, .int .i64 0, .bool false] 37 (0, 0))]) rfl rfl Ref04d_sz37 (i := 0) rfl rfl (le rfl) rfl rfl ?_
            refine Run.to_end ?_
            refine Ex.anyD (KnAll.cons hk.of_nil KnAll.nil) ?_
            refine RunD.done (by kernel_rfl) ?_
            exact Ex.cutx b4 trivial rfl rfl (subB_cons (by first | rfl | exact congrArg (fun z => some (Value.int _ z)) (by omega)) (subB_cons (by first | rfl | exact congrArg (fun z => some (Value.int _ z)) (by omega)) (subB_cons (by first | rfl | exact congrArg (fun z => some (Value.int _ z)) (by omega)) (subB_cons (by first | rfl | exact congrArg (fun z => some (Value.int _ z)) (by omega)) (subB_nil _)))))
          · refine Run.alloc Ref04d_zo37 (lt rfl) (fun b5 => ?_)
            refine Run.to_end ?_
            refine Ex.anyD (KnAll.cons hk.of_nil KnAll.nil) ?_
            refine RunD.one (i := 9) (by kernel_rfl) rfl  ?_ 
            refine Run.call0 (l := [.tmp 25]) rfl rfl rfl (lt rfl) (of_v (l := (Msg.sl bs 5 9)) (rd_sl hv.of_nil 5 9 (by omega) (by omega)) (by rw [Msg.sl_length _ _ _ (by omega)]; omega)) ?_
            refine Run.to_end ?_
            refine Ex.anyD (KnAll.cons hk.of_nil KnAll.nil) ?_
            refine RunD.pure (i := 10) rfl (by kernel_rfl) (by kernel_rfl) (by kernel_rfl) (fun _ _ _ h => h) (lt rfl) (KnAll.cons hk.of_nil KnAll.nil) (fun _ => (Y.buildS (l := [(0, .tmp 20), (1, .tmp 23), (2, .tmp 26)]) Ref04d_zo37 Ref04d_pl37 rfl rfl)) ?_
            refine RunD.one (i := 12) (by kernel_rfl) rfl  ?_ 
            refine Run.store (s := [(b5, .cells #[.int .i64 (Msg.by_ bs 0), .int .i64 (val (Msg.sl bs 1 5)), .int .i64 (val (Msg.sl bs 5 9)), .int .i64 0, .int .i64 0, .int .u32 0, .int .i64 0, .string ⟨#[]⟩, .int .i64 0, .int .i64 0, .bool false] 37 (0, 0))]) rfl rfl Ref04d_sz37 (i := 0) rfl rfl (le rfl) rfl rfl ?_
            refine Run.to_end ?_
            refine Ex.anyD (KnAll.cons hk.of_nil KnAll.nil) ?_
            refine RunD.done (by kernel_rfl) ?_
            exact Ex.cutx b5 trivial rfl rfl (subB_cons (by first | rfl | exact congrArg (fun z => some (Value.int _ z)) (by omega)) (subB_cons (by first | rfl | exact congrArg (fun z => some (Value.int _ z)) (by omega)) (subB_cons (by first | rfl | exact congrArg (fun z => some (Value.int _ z)) (by omega)) (subB_cons (by first | rfl | exact congrArg (fun z => some (Value.int _ z)) (by omega)) (subB_nil _)))))
        · refine Run.alloc Ref04d_zo37 (lt rfl) (fun b6 => ?_)
          refine Run.to_end ?_
          refine Ex.anyD (KnAll.cons hk.of_nil KnAll.nil) ?_
          refine RunD.one (i := 6) (by kernel_rfl) rfl  ?_ 
          refine Run.call0 (l := [.tmp 22]) rfl rfl rfl (lt rfl) (of_v (l := (Msg.sl bs 1 5)) (rd_sl hv.of_nil 1 5 (by omega) (by omega)) (by rw [Msg.sl_length _ _ _ (by omega)]; omega)) ?_
          refine Run.to_end ?_
          refine Ex.anyD (KnAll.cons hk.of_nil KnAll.nil) ?_
          refine RunD.one (i := 9) (by kernel_rfl) rfl  ?_ 
          refine Run.call0 (l := [.tmp 25]) rfl rfl rfl (lt rfl) (of_v (l := (Msg.sl bs 5 9)) (rd_sl hv.of_nil 5 9 (by omega) (by omega)) (by rw [Msg.sl_length _ _ _ (by omega)]; omega)) ?_
          refine Run.to_end ?_
          refine Ex.anyD (KnAll.cons hk.of_nil KnAll.nil) ?_
          refine RunD.pure (i := 10) rfl (by kernel_rfl) (by kernel_rfl) (by kernel_rfl) (fun _ _ _ h => h) (lt rfl) (KnAll.cons hk.of_nil KnAll.nil) (fun _ => (Y.buildS (l := [(0, .tmp 20), (1, .tmp 23), (2, .tmp 26)]) Ref04d_zo37 Ref04d_pl37 rfl rfl)) ?_
          refine RunD.one (i := 12) (by kernel_rfl) rfl  ?_ 
          refine Run.store (s := [(b6, .cells #[.int .i64 (Msg.by_ bs 0), .int .i64 (val (Msg.sl bs 1 5)), .int .i64 (val (Msg.sl bs 5 9)), .int .i64 0, .int .i64 0, .int .u32 0, .int .i64 0, .string ⟨#[]⟩, .int .i64 0, .int .i64 0, .bool false] 37 (0, 0))]) rfl rfl Ref04d_sz37 (i := 0) rfl rfl (le rfl) rfl rfl ?_
          refine Run.to_end ?_
          refine Ex.anyD (KnAll.cons hk.of_nil KnAll.nil) ?_
          refine RunD.done (by kernel_rfl) ?_
          exact Ex.cutx b6 trivial rfl rfl (subB_cons (by first | rfl | exact congrArg (fun z => some (Value.int _ z)) (by omega)) (subB_cons (by first | rfl | exact congrArg (fun z => some (Value.int _ z)) (by omega)) (subB_cons (by first | rfl | exact congrArg (fun z => some (Value.int _ z)) (by omega)) (subB_cons (by first | rfl | exact congrArg (fun z => some (Value.int _ z)) (by omega)) (subB_nil _)))))
      · rintro x _
        refine Tr.seq ?_
        refine Tr.region ?_
        refine Run.buildSlice0 Ref04d_es38 (lt rfl) (fun b7 => ?_)
        refine Run.val (lt rfl) (Y.move rfl) ?_
        refine Run.val (lt rfl) (Y.slice (l := 9) (m := bs.length) rfl Ref04d_es38 rfl rfl (by omega) (by omega)) ?_
        have hn9 := Msg.sl_length bs 9 bs.length (Nat.le_refl _)
        refine Run.append (n := 0) (m := (Msg.sl bs 9 bs.length).length) (xs := []) (ys := (Msg.sl bs 9 bs.length).map byteV) rfl rfl Ref04d_es38 Ref04d_zi5 (by decide) (j := 0) rfl (Ow.lit (cur := #[]) rfl (by decide)) (Src.of_rd Ref04d_es38 (rd_sl hv.of_nil 9 bs.length (by omega) (by omega))) (by omega) (by omega) (all_one_bytes _) (lt rfl) (fun v1 s1 ho1 _ => ?_)
        refine Run.appendZeros (n := 0 + (Msg.sl bs 9 bs.length).length) (m := 30) (xs := [] ++ (Msg.sl bs 9 bs.length).map byteV) rfl rfl Ref04d_es38 Ref04d_tg3 Ref04d_zi5 (by decide) (by decide) (j := 0) rfl ho1 (by omega) (by omega) rfl (lt rfl) (fun v2 s2 ho2 _ => ?_)
        have ho3 := ho2.bytes (bs := Msg.pad bs) (Msg.pad_cells bs)
        have hpl := Msg.pad_length bs
        obtain ⟨b5, c5, cs5, rfl, rfl, hc5, hcs5⟩ := ho3.open (by omega)
        have hb21 := Msg.by_bounds (Msg.pad bs) 21
        refine Run.val (lt rfl) (Y.assign rfl) ?_
        refine Run.to_end ?_
        refine Ex.go ?_
        refine Tr.seq ?_
        refine Tr.seq ?_
        refine Tr.region ?_
        refine Run.val (lt rfl) (Y.fieldAddr rfl Ref04d_fo37_0) ?_
        refine Run.val (lt rfl) (Y.load rfl Ref04d_ts3 (Kn.at 1 rfl) rfl) ?_
        refine Run.to_end ?_
        refine Ex.go ?_
        refine Tr.block ?_
        refine Tr.seq ?_
        refine Tr.region ?_
        refine Run.val (lt rfl) (Y.int rfl rfl rfl) ?_
        refine Run.val (lt rfl) (Y.assign rfl) ?_
        refine Run.to_end ?_
        refine Ex.go ?_
        rcases Bool.eq_false_or_eq_true ((Msg.by_ bs 0) == 1) with h8 | h8
        · have g8 := h8
          try simp only [kb] at g8
          refine Tr.cond_t rfl h8 ?_
          refine Tr.seq ?_
          refine Tr.region ?_
          refine Run.val (lt rfl) (Y.move rfl) ?_
          refine Run.val (lt rfl) (Y.slice (l := 0) (m := 4) rfl Ref04d_es38 rfl rfl (by omega) (by omega)) ?_
          refine Run.call0 (l := [.tmp 38]) rfl rfl rfl (lt rfl) (of_v (l := (Msg.sl (Msg.pad bs) 0 4)) (rd_sl (ho3.rd 0 rfl) 0 4 (by omega) (by omega)) (by rw [Msg.sl_length _ _ _ (by omega)]; omega)) ?_
          refine Run.val (lt rfl) (Y.fieldAddr rfl Ref04d_fo37_3) ?_
          refine Run.store (s := [(x, .cells #[.int .i64 (Msg.by_ bs 0), .int .i64 (val (Msg.sl bs 1 5)), .int .i64 (val (Msg.sl bs 5 9)), .int .i64 (val (Msg.sl (Msg.pad bs) 0 4)), .int .i64 0, .int .u32 0, .int .i64 0, .string ⟨#[]⟩, .int .i64 0, .int .i64 0, .bool false] 37 (0, 0))]) rfl rfl Ref04d_sz3 (i := 1) rfl rfl (le rfl) rfl rfl ?_
          refine Run.to_end ?_
          refine Ex.go ?_
          refine Tr.region ?_
          refine Run.val (lt rfl) (Y.move rfl) ?_
          refine Run.val (lt rfl) (Y.idxAddr rfl rfl Ref04d_es38 (by omega) (by omega)) ?_
          refine Run.val (lt rfl) (Y.load rfl Ref04d_ts5 (Kn.at 0 rfl) (at1 (i := 4) hcs5 (by omega) (Msg.by_at (by omega)))) ?_
          have hby := Msg.by_bounds (Msg.pad bs) 4
          refine Run.val (lt rfl) (Y.conv (Msg.by_ (Msg.pad bs) 4) rfl Ref04d_it5_3 (wrap_i64 (by omega))) ?_
          refine Run.val (lt rfl) (Y.fieldAddr rfl Ref04d_fo37_4) ?_
          refine Run.store (s := [(x, .cells #[.int .i64 (Msg.by_ bs 0), .int .i64 (val (Msg.sl bs 1 5)), .int .i64 (val (Msg.sl bs 5 9)), .int .i64 (val (Msg.sl (Msg.pad bs) 0 4)), .int .i64 (Msg.by_ (Msg.pad bs) 4), .int .u32 0, .int .i64 0, .string ⟨#[]⟩, .int .i64 0, .int .i64 0, .bool false] 37 (0, 0))]) rfl rfl Ref04d_sz3 (i := 1) rfl rfl (le rfl) rfl rfl ?_
          refine Run.to_end ?_
          refine Ex.end_block ?_
          refine Ex.go ?_
          refine Tr.seq ?_
          refine Tr.region ?_
          refine Run.val (lt rfl) (Y.loadAgg rfl Ref04d_ag37 (Kn.at 1 rfl) rfl) ?_
          have hpe : Msg.parse bs = (⟨Msg.by_ bs 0, val (Msg.sl bs 1 5), val (Msg.sl bs 5 9), val (Msg.sl (Msg.pad bs) 0 4), Msg.by_ (Msg.pad bs) 4, 0, 0, ⟨#[]⟩, 0, 0, false⟩ : Msg) := if_pos g8
          rw [hpe] at hr
          have hpa := Msg.parse_addr bs; rw [hpe] at hpa
          refine Run.call [] (l := [.tmp 95]) rfl rfl rfl (lt rfl) (rencode_no (m := (⟨Msg.by_ bs 0, val (Msg.sl bs 1 5), val (Msg.sl bs 5 9), val (Msg.sl (Msg.pad bs) 0 4), Msg.by_ (Msg.pad bs) 4, 0, 0, ⟨#[]⟩, 0, 0, false⟩ : Msg)) hr) (fun v9 V2 H2 _ hR => ?_)
          obtain ⟨rfl, hV, rfl⟩ := hR; replace hV := hV.symm; subst hV
          refine Run.val (lt rfl) (Y.move rfl) ?_
          refine Run.val (lt rfl) (Y.extract rfl rfl) ?_
          refine Run.val (lt rfl) (Y.extract rfl rfl) ?_
          refine Run.val (lt rfl) (Y.assign rfl) ?_
          refine Run.val (lt rfl) (Y.assign rfl) ?_
          refine Run.to_end ?_
          refine Ex.go ?_
          refine Tr.seq ?_
          refine Tr.seq ?_
          refine Tr.region ?_
          refine Run.val (lt rfl) (Y.move rfl) ?_
          refine Run.val (lt rfl) (Y.int (r := .bool true) rfl rfl rfl) ?_
          refine Run.val (lt rfl) (Y.move rfl) ?_
          refine Run.off rfl rfl rfl rfl rfl (lt rfl) ?_
          refine Run.off rfl rfl rfl rfl rfl (lt rfl) ?_
          refine Run.off rfl rfl rfl rfl rfl (lt rfl) ?_
          refine Run.off rfl rfl rfl rfl rfl (lt rfl) ?_
          refine Run.off rfl rfl rfl rfl rfl (lt rfl) ?_
          refine Run.val (lt rfl) (Y.pick_t rfl rfl rfl) ?_
          refine Run.to_end ?_
          refine Ex.go ?_
          refine Tr.cond_t rfl rfl ?_
          refine Tr.seq ?_
          refine Tr.region ?_
          refine Run.val (lt rfl) (Y.buildS (l := []) Ref04d_zo37 Ref04d_pl37 rfl rfl) ?_
          refine Run.store (s := [(b1, .cells #[.int .i64 0, .int .i64 0, .int .i64 0, .int .i64 0, .int .i64 0, .int .u32 0, .int .i64 0, .string ⟨#[]⟩, .int .i64 0, .int .i64 0, .bool false] 37 (0, 0))]) rfl rfl Ref04d_sz37 (i := 2) rfl rfl (le rfl) rfl rfl ?_
          refine Run.val (lt rfl) (Y.assign rfl) ?_
          refine Run.to_end ?_
          refine Ex.go ?_
          refine Tr.to_ret ?_
          refine Ex.ret_then ?_
          exact Ex.retCell2 [] rfl rfl rfl Ref04d_ag37 (Kn.at 2 rfl) rfl ⟨by rw [Msg.rbad_right (by rw [hpe]; exact hr)]; rfl, rfl, rfl⟩
        · have g8 := h8
          try simp only [kb] at g8
          refine Tr.cond_f rfl h8 ?_
          refine Tr.seq ?_
          refine Tr.region ?_
          refine Run.val (lt rfl) (Y.int rfl rfl rfl) ?_
          refine Run.val (lt rfl) (Y.assign rfl) ?_
          refine Run.to_end ?_
          refine Ex.go ?_
          rcases Bool.eq_false_or_eq_true ((Msg.by_ bs 0) == 3) with h9 | h9
          · have g9 := h9
            try simp only [kb] at g9
            refine Tr.cond_t rfl h9 ?_
            refine Tr.seq ?_
            refine Tr.region ?_
            refine Run.val (lt rfl) (Y.move rfl) ?_
            refine Run.val (lt rfl) (Y.slice (l := 0) (m := 4) rfl Ref04d_es38 rfl rfl (by omega) (by omega)) ?_
            refine Run.call0 (l := [.tmp 49]) rfl rfl rfl (lt rfl) (of_v (l := (Msg.sl (Msg.pad bs) 0 4)) (rd_sl (ho3.rd 0 rfl) 0 4 (by omega) (by omega)) (by rw [Msg.sl_length _ _ _ (by omega)]; omega)) ?_
            refine Run.val (lt rfl) (Y.fieldAddr rfl Ref04d_fo37_3) ?_
            refine Run.store (s := [(x, .cells #[.int .i64 (Msg.by_ bs 0), .int .i64 (val (Msg.sl bs 1 5)), .int .i64 (val (Msg.sl bs 5 9)), .int .i64 (val (Msg.sl (Msg.pad bs) 0 4)), .int .i64 0, .int .u32 0, .int .i64 0, .string ⟨#[]⟩, .int .i64 0, .int .i64 0, .bool false] 37 (0, 0))]) rfl rfl Ref04d_sz3 (i := 1) rfl rfl (le rfl) rfl rfl ?_
            refine Run.to_end ?_
            refine Ex.go ?_
            refine Tr.region ?_
            refine Run.val (lt rfl) (Y.move rfl) ?_
            refine Run.val (lt rfl) (Y.idxAddr rfl rfl Ref04d_es38 (by omega) (by omega)) ?_
            refine Run.val (lt rfl) (Y.load rfl Ref04d_ts5 (Kn.at 0 rfl) (at1 (i := 4) hcs5 (by omega) (Msg.by_at (by omega)))) ?_
            refine Run.val (lt rfl) (Y.int rfl rfl rfl) ?_
            refine Run.val (lt rfl) (Y.fieldAddr rfl Ref04d_fo37_10) ?_
            refine Run.store (s := [(x, .cells #[.int .i64 (Msg.by_ bs 0), .int .i64 (val (Msg.sl bs 1 5)), .int .i64 (val (Msg.sl bs 5 9)), .int .i64 (val (Msg.sl (Msg.pad bs) 0 4)), .int .i64 0, .int .u32 0, .int .i64 0, .string ⟨#[]⟩, .int .i64 0, .int .i64 0, .bool ((Msg.by_ (Msg.pad bs) 4) == 1)] 37 (0, 0))]) rfl rfl Ref04d_sz4 (i := 1) rfl rfl (le rfl) rfl rfl ?_
            refine Run.to_end ?_
            refine Ex.end_block ?_
            refine Ex.go ?_
            refine Tr.seq ?_
            refine Tr.region ?_
            refine Run.val (lt rfl) (Y.loadAgg rfl Ref04d_ag37 (Kn.at 1 rfl) rfl) ?_
            have hpe : Msg.parse bs = (⟨Msg.by_ bs 0, val (Msg.sl bs 1 5), val (Msg.sl bs 5 9), val (Msg.sl (Msg.pad bs) 0 4), 0, 0, 0, ⟨#[]⟩, 0, 0, (Msg.by_ (Msg.pad bs) 4) == 1⟩ : Msg) := (if_neg g8).trans (if_pos g9)
            rw [hpe] at hr
            have hpa := Msg.parse_addr bs; rw [hpe] at hpa
            refine Run.call [] (l := [.tmp 95]) rfl rfl rfl (lt rfl) (rencode_no (m := (⟨Msg.by_ bs 0, val (Msg.sl bs 1 5), val (Msg.sl bs 5 9), val (Msg.sl (Msg.pad bs) 0 4), 0, 0, 0, ⟨#[]⟩, 0, 0, (Msg.by_ (Msg.pad bs) 4) == 1⟩ : Msg)) hr) (fun v9 V2 H2 _ hR => ?_)
            obtain ⟨rfl, hV, rfl⟩ := hR; replace hV := hV.symm; subst hV
            refine Run.val (lt rfl) (Y.move rfl) ?_
            refine Run.val (lt rfl) (Y.extract rfl rfl) ?_
            refine Run.val (lt rfl) (Y.extract rfl rfl) ?_
            refine Run.val (lt rfl) (Y.assign rfl) ?_
            refine Run.val (lt rfl) (Y.assign rfl) ?_
            refine Run.to_end ?_
            refine Ex.go ?_
            refine Tr.seq ?_
            refine Tr.seq ?_
            refine Tr.region ?_
            refine Run.val (lt rfl) (Y.move rfl) ?_
            refine Run.val (lt rfl) (Y.int (r := .bool true) rfl rfl rfl) ?_
            refine Run.val (lt rfl) (Y.move rfl) ?_
            refine Run.off rfl rfl rfl rfl rfl (lt rfl) ?_
            refine Run.off rfl rfl rfl rfl rfl (lt rfl) ?_
            refine Run.off rfl rfl rfl rfl rfl (lt rfl) ?_
            refine Run.off rfl rfl rfl rfl rfl (lt rfl) ?_
            refine Run.off rfl rfl rfl rfl rfl (lt rfl) ?_
            refine Run.val (lt rfl) (Y.pick_t rfl rfl rfl) ?_
            refine Run.to_end ?_
            refine Ex.go ?_
            refine Tr.cond_t rfl rfl ?_
            refine Tr.seq ?_
            refine Tr.region ?_
            refine Run.val (lt rfl) (Y.buildS (l := []) Ref04d_zo37 Ref04d_pl37 rfl rfl) ?_
            refine Run.store (s := [(b1, .cells #[.int .i64 0, .int .i64 0, .int .i64 0, .int .i64 0, .int .i64 0, .int .u32 0, .int .i64 0, .string ⟨#[]⟩, .int .i64 0, .int .i64 0, .bool false] 37 (0, 0))]) rfl rfl Ref04d_sz37 (i := 2) rfl rfl (le rfl) rfl rfl ?_
            refine Run.val (lt rfl) (Y.assign rfl) ?_
            refine Run.to_end ?_
            refine Ex.go ?_
            refine Tr.to_ret ?_
            refine Ex.ret_then ?_
            exact Ex.retCell2 [] rfl rfl rfl Ref04d_ag37 (Kn.at 2 rfl) rfl ⟨by rw [Msg.rbad_right (by rw [hpe]; exact hr)]; rfl, rfl, rfl⟩
          · have g9 := h9
            try simp only [kb] at g9
            refine Tr.cond_f rfl h9 ?_
            refine Tr.seq ?_
            refine Tr.region ?_
            refine Run.val (lt rfl) (Y.int rfl rfl rfl) ?_
            refine Run.val (lt rfl) (Y.assign rfl) ?_
            refine Run.to_end ?_
            refine Ex.go ?_
            rcases Bool.eq_false_or_eq_true ((Msg.by_ bs 0) == 2) with h10 | h10
            · have g10 := h10
              try simp only [kb] at g10
              refine Tr.cond_t rfl h10 ?_
              refine Tr.seq ?_
              refine Tr.region ?_
              refine Run.val (lt rfl) (Y.move rfl) ?_
              refine Run.val (lt rfl) (Y.slice (l := 0) (m := 4) rfl Ref04d_es38 rfl rfl (by omega) (by omega)) ?_
              refine Run.call0 (l := [.tmp 60]) rfl rfl rfl (lt rfl) (of_v (l := (Msg.sl (Msg.pad bs) 0 4)) (rd_sl (ho3.rd 0 rfl) 0 4 (by omega) (by omega)) (by rw [Msg.sl_length _ _ _ (by omega)]; omega)) ?_
              refine Run.val (lt rfl) (Y.fieldAddr rfl Ref04d_fo37_3) ?_
              refine Run.store (s := [(x, .cells #[.int .i64 (Msg.by_ bs 0), .int .i64 (val (Msg.sl bs 1 5)), .int .i64 (val (Msg.sl bs 5 9)), .int .i64 (val (Msg.sl (Msg.pad bs) 0 4)), .int .i64 0, .int .u32 0, .int .i64 0, .string ⟨#[]⟩, .int .i64 0, .int .i64 0, .bool false] 37 (0, 0))]) rfl rfl Ref04d_sz3 (i := 1) rfl rfl (le rfl) rfl rfl ?_
              refine Run.to_end ?_
              refine Ex.go ?_
              refine Tr.seq ?_
              refine Tr.region ?_
              refine Run.val (lt rfl) (Y.move rfl) ?_
              refine Run.val (lt rfl) (Y.slice (l := 4) (m := 8) rfl Ref04d_es38 rfl rfl (by omega) (by omega)) ?_
              refine Run.call0 (l := [.tmp 64]) rfl rfl rfl (lt rfl) (of_v (l := (Msg.sl (Msg.pad bs) 4 8)) (rd_sl (ho3.rd 0 rfl) 4 8 (by omega) (by omega)) (by rw [Msg.sl_length _ _ _ (by omega)]; omega)) ?_
              have hu4 := Msg.sl_u32 (Msg.pad bs)
              refine Run.val (lt rfl) (Y.conv (val (Msg.sl (Msg.pad bs) 4 8)) rfl Ref04d_it3_35 (wrap_u32 hu4)) ?_
              refine Run.val (lt rfl) (Y.fieldAddr rfl Ref04d_fo37_5) ?_
              refine Run.store (s := [(x, .cells #[.int .i64 (Msg.by_ bs 0), .int .i64 (val (Msg.sl bs 1 5)), .int .i64 (val (Msg.sl bs 5 9)), .int .i64 (val (Msg.sl (Msg.pad bs) 0 4)), .int .i64 0, .int .u32 (val (Msg.sl (Msg.pad bs) 4 8)), .int .i64 0, .string ⟨#[]⟩, .int .i64 0, .int .i64 0, .bool false] 37 (0, 0))]) rfl rfl Ref04d_sz35 (i := 1) rfl rfl (le rfl) rfl rfl ?_
              refine Run.to_end ?_
              refine Ex.go ?_
              refine Tr.seq ?_
              refine Tr.region ?_
              refine Run.val (lt rfl) (Y.move rfl) ?_
              refine Run.val (lt rfl) (Y.idxAddr rfl rfl Ref04d_es38 (by omega) (by omega)) ?_
              refine Run.val (lt rfl) (Y.load rfl Ref04d_ts5 (Kn.at 0 rfl) (at1 (i := 8) hcs5 (by omega) (Msg.by_at (by omega)))) ?_
              have hby := Msg.by_bounds (Msg.pad bs) 8
              refine Run.val (lt rfl) (Y.conv (Msg.by_ (Msg.pad bs) 8) rfl Ref04d_it5_3 (wrap_i64 (by omega))) ?_
              refine Run.val (lt rfl) (Y.fieldAddr rfl Ref04d_fo37_6) ?_
              refine Run.store (s := [(x, .cells #[.int .i64 (Msg.by_ bs 0), .int .i64 (val (Msg.sl bs 1 5)), .int .i64 (val (Msg.sl bs 5 9)), .int .i64 (val (Msg.sl (Msg.pad bs) 0 4)), .int .i64 0, .int .u32 (val (Msg.sl (Msg.pad bs) 4 8)), .int .i64 (Msg.by_ (Msg.pad bs) 8), .string ⟨#[]⟩, .int .i64 0, .int .i64 0, .bool false] 37 (0, 0))]) rfl rfl Ref04d_sz3 (i := 1) rfl rfl (le rfl) rfl rfl ?_
              refine Run.to_end ?_
              refine Ex.go ?_
              refine Tr.seq ?_
              refine Tr.region ?_
              refine Run.val (lt rfl) (Y.move rfl) ?_
              refine Run.val (lt rfl) (Y.slice (l := 9) (m := 15) rfl Ref04d_es38 rfl rfl (by omega) (by omega)) ?_
              refine Run.call0 (l := [.tmp 74]) rfl rfl rfl (lt rfl) (of_v (l := (Msg.sl (Msg.pad bs) 9 15)) (rd_sl (ho3.rd 0 rfl) 9 15 (by omega) (by omega)) (by rw [Msg.sl_length _ _ _ (by omega)]; omega)) ?_
              refine Run.val (lt rfl) (Y.fieldAddr rfl Ref04d_fo37_8) ?_
              refine Run.store (s := [(x, .cells #[.int .i64 (Msg.by_ bs 0), .int .i64 (val (Msg.sl bs 1 5)), .int .i64 (val (Msg.sl bs 5 9)), .int .i64 (val (Msg.sl (Msg.pad bs) 0 4)), .int .i64 0, .int .u32 (val (Msg.sl (Msg.pad bs) 4 8)), .int .i64 (Msg.by_ (Msg.pad bs) 8), .string ⟨#[]⟩, .int .i64 (val (Msg.sl (Msg.pad bs) 9 15)), .int .i64 0, .bool false] 37 (0, 0))]) rfl rfl Ref04d_sz3 (i := 1) rfl rfl (le rfl) rfl rfl ?_
              refine Run.to_end ?_
              refine Ex.go ?_
              refine Tr.seq ?_
              refine Tr.region ?_
              refine Run.val (lt rfl) (Y.move rfl) ?_
              refine Run.val (lt rfl) (Y.slice (l := 15) (m := 21) rfl Ref04d_es38 rfl rfl (by omega) (by omega)) ?_
              refine Run.call0 (l := [.tmp 78]) rfl rfl rfl (lt rfl) (of_v (l := (Msg.sl (Msg.pad bs) 15 21)) (rd_sl (ho3.rd 0 rfl) 15 21 (by omega) (by omega)) (by rw [Msg.sl_length _ _ _ (by omega)]; omega)) ?_
              refine Run.val (lt rfl) (Y.fieldAddr rfl Ref04d_fo37_9) ?_
              refine Run.store (s := [(x, .cells #[.int .i64 (Msg.by_ bs 0), .int .i64 (val (Msg.sl bs 1 5)), .int .i64 (val (Msg.sl bs 5 9)), .int .i64 (val (Msg.sl (Msg.pad bs) 0 4)), .int .i64 0, .int .u32 (val (Msg.sl (Msg.pad bs) 4 8)), .int .i64 (Msg.by_ (Msg.pad bs) 8), .string ⟨#[]⟩, .int .i64 (val (Msg.sl (Msg.pad bs) 9 15)), .int .i64 (val (Msg.sl (Msg.pad bs) 15 21)), .bool false] 37 (0, 0))]) rfl rfl Ref04d_sz3 (i := 1) rfl rfl (le rfl) rfl rfl ?_
              refine Run.to_end ?_
              refine Ex.go ?_
              refine Tr.region ?_
              refine Run.val (lt rfl) (Y.move rfl) ?_
              refine Run.val (lt rfl) (Y.move rfl) ?_
              refine Run.val (lt rfl) (Y.idxAddr rfl rfl Ref04d_es38 (by omega) (by omega)) ?_
              refine Run.val (lt rfl) (Y.load rfl Ref04d_ts5 (Kn.at 0 rfl) (at1 (i := 21) hcs5 (by omega) (Msg.by_at (by omega)))) ?_
              have hby := Msg.by_bounds (Msg.pad bs) 21
              refine Run.val (lt rfl) (Y.conv (Msg.by_ (Msg.pad bs) 21) rfl Ref04d_it5_3 (wrap_i64 (by omega))) ?_
              refine Run.val (lt rfl) (Y.move rfl) ?_
              refine Run.val (lt rfl) (Y.lenSl rfl Ref04d_es38) ?_
              refine Run.val (lt rfl) (Y.sub rfl rfl (by omega)) ?_
              refine Run.val (lt rfl) (Y.min2 rfl rfl) ?_
              refine Run.val (lt rfl) (Y.add rfl rfl (by omega)) ?_
              refine Run.sub [(0, .slice (some ⟨b, off, none⟩) bs.length c), (2, .pointer (some ⟨b1, 0, none⟩)), (3, .int .i64 0), (4, .pointer (some ⟨x, 0, none⟩)), (28, .slice (some ⟨b7, 0, none⟩) 0 0), (29, .slice (some ⟨b, off, none⟩) bs.length c), (30, .slice (if c = 9 then (some ⟨b, off, none⟩) else Option.map (fun x : Addr => x.add (9 * 1)) ((some ⟨b, off, none⟩) : Option Addr)) (bs.length - 9) (c - 9)), (32, .slice (some ⟨b5, 0, none⟩) (Msg.pad bs).length c5), (5, .slice (some ⟨b5, 0, none⟩) (Msg.pad bs).length c5), (33, .pointer (some ⟨x, 0, none⟩)), (34, .int .i64 (Msg.by_ bs 0)), (36, .bool ((Msg.by_ bs 0) == 1)), (35, .bool ((Msg.by_ bs 0) == 1)), (47, .bool ((Msg.by_ bs 0) == 3)), (46, .bool ((Msg.by_ bs 0) == 3)), (58, .bool ((Msg.by_ bs 0) == 2)), (57, .bool ((Msg.by_ bs 0) == 2)), (59, .slice (some ⟨b5, 0, none⟩) (Msg.pad bs).length c5), (60, .slice (if c5 = 0 then (some ⟨b5, 0, none⟩) else Option.map (fun x : Addr => x.add (0 * 1)) ((some ⟨b5, 0, none⟩) : Option Addr)) (4 - 0) (c5 - 0)), (61, .int .i64 (val (Msg.sl (Msg.pad bs) 0 4))), (62, .pointer (some ⟨x, 3, none⟩)), (63, .slice (some ⟨b5, 0, none⟩) (Msg.pad bs).length c5), (64, .slice (if c5 = 4 then (some ⟨b5, 0, none⟩) else Option.map (fun x : Addr => x.add (4 * 1)) ((some ⟨b5, 0, none⟩) : Option Addr)) (8 - 4) (c5 - 4)), (65, .int .i64 (val (Msg.sl (Msg.pad bs) 4 8))), (66, .int .u32 (val (Msg.sl (Msg.pad bs) 4 8))), (67, .pointer (some ⟨x, 5, none⟩)), (68, .slice (some ⟨b5, 0, none⟩) (Msg.pad bs).length c5), (70, .int .u8 (Msg.by_ (Msg.pad bs) 8)), (71, .int .i64 (Msg.by_ (Msg.pad bs) 8)), (72, .pointer (some ⟨x, 6, none⟩)), (73, .slice (some ⟨b5, 0, none⟩) (Msg.pad bs).length c5), (74, .slice (if c5 = 9 then (some ⟨b5, 0, none⟩) else Option.map (fun x : Addr => x.add (9 * 1)) ((some ⟨b5, 0, none⟩) : Option Addr)) (15 - 9) (c5 - 9)), (75, .int .i64 (val (Msg.sl (Msg.pad bs) 9 15))), (76, .pointer (some ⟨x, 8, none⟩)), (77, .slice (some ⟨b5, 0, none⟩) (Msg.pad bs).length c5), (78, .slice (if c5 = 15 then (some ⟨b5, 0, none⟩) else Option.map (fun x : Addr => x.add (15 * 1)) ((some ⟨b5, 0, none⟩) : Option Addr)) (21 - 15) (c5 - 15)), (79, .int .i64 (val (Msg.sl (Msg.pad bs) 15 21))), (80, .pointer (some ⟨x, 9, none⟩)), (81, .slice (some ⟨b5, 0, none⟩) (Msg.pad bs).length c5), (82, .slice (some ⟨b5, 0, none⟩) (Msg.pad bs).length c5), (84, .int .u8 (Msg.by_ (Msg.pad bs) 21)), (85, .int .i64 (Msg.by_ (Msg.pad bs) 21)), (86, .slice (some ⟨b5, 0, none⟩) (Msg.pad bs).length c5), (87, .int .i64 (((Msg.pad bs).length : Nat) : Int)), (88, .int .i64 ((((Msg.pad bs).length : Nat) : Int) - 22)), (89, .int .i64 (min (Msg.by_ (Msg.pad bs) 21) ((((Msg.pad bs).length : Nat) : Int) - 22))), (90, .int .i64 ((22 + min (Msg.by_ (Msg.pad bs) 21).toNat ((Msg.pad bs).length - 22) : Nat) : Int))] (subB_cons (by first | rfl | exact congrArg (fun z => some (Value.int _ z)) (by omega)) (subB_cons (by first | rfl | exact congrArg (fun z => some (Value.int _ z)) (by omega)) (subB_cons (by first | rfl | exact congrArg (fun z => some (Value.int _ z)) (by omega)) (subB_cons (by first | rfl | exact congrArg (fun z => some (Value.int _ z)) (by omega)) (subB_cons (by first | rfl | exact congrArg (fun z => some (Value.int _ z)) (by omega)) (subB_cons (by first | rfl | exact congrArg (fun z => some (Value.int _ z)) (by omega)) (subB_cons (by first | rfl | exact congrArg (fun z => some (Value.int _ z)) (by omega)) (subB_cons (by first | rfl | exact congrArg (fun z => some (Value.int _ z)) (by omega)) (subB_cons (by first | rfl | exact congrArg (fun z => some (Value.int _ z)) (by omega)) (subB_cons (by first | rfl | exact congrArg (fun z => some (Value.int _ z)) (by omega)) (subB_cons (by first | rfl | exact congrArg (fun z => some (Value.int _ z)) (by omega)) (subB_cons (by first | rfl | exact congrArg (fun z => some (Value.int _ z)) (by omega)) (subB_cons (by first | rfl | exact congrArg (fun z => some (Value.int _ z)) (by omega)) (subB_cons (by first | rfl | exact congrArg (fun z => some (Value.int _ z)) (by omega)) (subB_cons (by first | rfl | exact congrArg (fun z => some (Value.int _ z)) (by omega)) (subB_cons (by first | rfl | exact congrArg (fun z => some (Value.int _ z)) (by omega)) (subB_cons (by first | rfl | exact congrArg (fun z => some (Value.int _ z)) (by omega)) (subB_cons (by first | rfl | exact congrArg (fun z => some (Value.int _ z)) (by omega)) (subB_cons (by first | rfl | exact congrArg (fun z => some (Value.int _ z)) (by omega)) (subB_cons (by first | rfl | exact congrArg (fun z => some (Value.int _ z)) (by omega)) (subB_cons (by first | rfl | exact congrArg (fun z => some (Value.int _ z)) (by omega)) (subB_cons (by first | rfl | exact congrArg (fun z => some (Value.int _ z)) (by omega)) (subB_cons (by first | rfl | exact congrArg (fun z => some (Value.int _ z)) (by omega)) (subB_cons (by first | rfl | exact congrArg (fun z => some (Value.int _ z)) (by omega)) (subB_cons (by first | rfl | exact congrArg (fun z => some (Value.int _ z)) (by omega)) (subB_cons (by first | rfl | exact congrArg (fun z => some (Value.int _ z)) (by omega)) (subB_cons (by first | rfl | exact congrArg (fun z => some (Value.int _ z)) (by omega)) (subB_cons (by first | rfl | exact congrArg (fun z => some (Value.int _ z)) (by omega)) (subB_cons (by first | rfl | exact congrArg (fun z => some (Value.int _ z)) (by omega)) (subB_cons (by first | rfl | exact congrArg (fun z => some (Value.int _ z)) (by omega)) (subB_cons (by first | rfl | exact congrArg (fun z => some (Value.int _ z)) (by omega)) (subB_cons (by first | rfl | exact congrArg (fun z => some (Value.int _ z)) (by omega)) (subB_cons (by first | rfl | exact congrArg (fun z => some (Value.int _ z)) (by omega)) (subB_cons (by first | rfl | exact congrArg (fun z => some (Value.int _ z)) (by omega)) (subB_cons (by first | rfl | exact congrArg (fun z => some (Value.int _ z)) (by omega)) (subB_cons (by first | rfl | exact congrArg (fun z => some (Value.int _ z)) (by omega)) (subB_cons (by first | rfl | exact congrArg (fun z => some (Value.int _ z)) (by omega)) (subB_cons (by first | rfl | exact congrArg (fun z => some (Value.int _ z)) (by omega)) (subB_cons (by first | rfl | exact congrArg (fun z => some (Value.int _ z)) (by omega)) (subB_cons (by first | rfl | exact congrArg (fun z => some (Value.int _ z)) (by omega)) (subB_cons (by first | rfl | exact congrArg (fun z => some (Value.int _ z)) (by omega)) (subB_cons (by first | rfl | exact congrArg (fun z => some (Value.int _ z)) (by omega)) (subB_cons (by first | rfl | exact congrArg (fun z => some (Value.int _ z)) (by omega)) (subB_cons (by first | rfl | exact congrArg (fun z => some (Value.int _ z)) (by omega)) (subB_cons (by first | rfl | exact congrArg (fun z => some (Value.int _ z)) (by omega)) (subB_cons (by first | rfl | exact congrArg (fun z => some (Value.int _ z)) (by omega)) (subB_cons (by first | rfl | exact congrArg (fun z => some (Value.int _ z)) (by omega)) (subB_nil _)))))))))))))))))))))))))))))))))))))))))))))))) ?_
              refine Run.val (lt rfl) (Y.slice (l := 22) (m := 22 + min (Msg.by_ (Msg.pad bs) 21).toNat ((Msg.pad bs).length - 22)) rfl Ref04d_es38 rfl rfl (by omega) (by omega)) ?_
              refine Run.val (lt rfl) (Y.bytesStr (bs := (Msg.sl (Msg.pad bs) 22 (22 + min (Msg.by_ (Msg.pad bs) 21).toNat ((Msg.pad bs).length - 22)))) rfl Ref04d_es38 Ref04d_tg5 Ref04d_st9 (rd_sl (ho3.rd 0 rfl) 22 (22 + min (Msg.by_ (Msg.pad bs) 21).toNat ((Msg.pad bs).length - 22)) (by omega) (by omega))) ?_
              refine Run.val (lt rfl) (Y.fieldAddr rfl Ref04d_fo37_7) ?_
              refine Run.store (s := [(x, .cells #[.int .i64 (Msg.by_ bs 0), .int .i64 (val (Msg.sl bs 1 5)), .int .i64 (val (Msg.sl bs 5 9)), .int .i64 (val (Msg.sl (Msg.pad bs) 0 4)), .int .i64 0, .int .u32 (val (Msg.sl (Msg.pad bs) 4 8)), .int .i64 (Msg.by_ (Msg.pad bs) 8), .string ⟨((Msg.sl (Msg.pad bs) 22 (22 + min (Msg.by_ (Msg.pad bs) 21).toNat ((Msg.pad bs).length - 22))) : List UInt8).toArray⟩, .int .i64 (val (Msg.sl (Msg.pad bs) 9 15)), .int .i64 (val (Msg.sl (Msg.pad bs) 15 21)), .bool false] 37 (0, 0))]) rfl rfl Ref04d_sz9 (i := 1) rfl rfl (le rfl) rfl rfl ?_
              refine Run.to_end ?_
              refine Ex.end_block ?_
              refine Ex.go ?_
              refine Tr.seq ?_
              refine Tr.region ?_
              refine Run.val (lt rfl) (Y.loadAgg rfl Ref04d_ag37 (Kn.at 1 rfl) rfl) ?_
              have hpe : Msg.parse bs = (⟨Msg.by_ bs 0, val (Msg.sl bs 1 5), val (Msg.sl bs 5 9), val (Msg.sl (Msg.pad bs) 0 4), 0, val (Msg.sl (Msg.pad bs) 4 8), Msg.by_ (Msg.pad bs) 8, ⟨((Msg.sl (Msg.pad bs) 22 (22 + min (Msg.by_ (Msg.pad bs) 21).toNat ((Msg.pad bs).length - 22))) : List UInt8).toArray⟩, val (Msg.sl (Msg.pad bs) 9 15), val (Msg.sl (Msg.pad bs) 15 21), false⟩ : Msg) := (if_neg g8).trans ((if_neg g9).trans (if_pos g10))
              rw [hpe] at hr
              have hpa := Msg.parse_addr bs; rw [hpe] at hpa
              refine Run.call [] (l := [.tmp 95]) rfl rfl rfl (lt rfl) (rencode_no (m := (⟨Msg.by_ bs 0, val (Msg.sl bs 1 5), val (Msg.sl bs 5 9), val (Msg.sl (Msg.pad bs) 0 4), 0, val (Msg.sl (Msg.pad bs) 4 8), Msg.by_ (Msg.pad bs) 8, ⟨((Msg.sl (Msg.pad bs) 22 (22 + min (Msg.by_ (Msg.pad bs) 21).toNat ((Msg.pad bs).length - 22))) : List UInt8).toArray⟩, val (Msg.sl (Msg.pad bs) 9 15), val (Msg.sl (Msg.pad bs) 15 21), false⟩ : Msg)) hr) (fun v9 V2 H2 _ hR => ?_)
              obtain ⟨rfl, hV, rfl⟩ := hR; replace hV := hV.symm; subst hV
              refine Run.val (lt rfl) (Y.move rfl) ?_
              refine Run.val (lt rfl) (Y.extract rfl rfl) ?_
              refine Run.val (lt rfl) (Y.extract rfl rfl) ?_
              refine Run.val (lt rfl) (Y.assign rfl) ?_
              refine Run.val (lt rfl) (Y.assign rfl) ?_
              refine Run.to_end ?_
              refine Ex.go ?_
              refine Tr.seq ?_
              refine Tr.seq ?_
              refine Tr.region ?_
              refine Run.val (lt rfl) (Y.move rfl) ?_
              refine Run.val (lt rfl) (Y.int (r := .bool true) rfl rfl rfl) ?_
              refine Run.val (lt rfl) (Y.move rfl) ?_
              refine Run.off rfl rfl rfl rfl rfl (lt rfl) ?_
              refine Run.off rfl rfl rfl rfl rfl (lt rfl) ?_
              refine Run.off rfl rfl rfl rfl rfl (lt rfl) ?_
              refine Run.off rfl rfl rfl rfl rfl (lt rfl) ?_
              refine Run.off rfl rfl rfl rfl rfl (lt rfl) ?_
              refine Run.val (lt rfl) (Y.pick_t rfl rfl rfl) ?_
              refine Run.to_end ?_
              refine Ex.go ?_
              refine Tr.cond_t rfl rfl ?_
              refine Tr.seq ?_
              refine Tr.region ?_
              refine Run.val (lt rfl) (Y.buildS (l := []) Ref04d_zo37 Ref04d_pl37 rfl rfl) ?_
              refine Run.store (s := [(b1, .cells #[.int .i64 0, .int .i64 0, .int .i64 0, .int .i64 0, .int .i64 0, .int .u32 0, .int .i64 0, .string ⟨#[]⟩, .int .i64 0, .int .i64 0, .bool false] 37 (0, 0))]) rfl rfl Ref04d_sz37 (i := 2) rfl rfl (le rfl) rfl rfl ?_
              refine Run.val (lt rfl) (Y.assign rfl) ?_
              refine Run.to_end ?_
              refine Ex.go ?_
              refine Tr.to_ret ?_
              refine Ex.ret_then ?_
              exact Ex.retCell2 [] rfl rfl rfl Ref04d_ag37 (Kn.at 2 rfl) rfl ⟨by rw [Msg.rbad_right (by rw [hpe]; exact hr)]; rfl, rfl, rfl⟩
            · have g10 := h10
              try simp only [kb] at g10
              refine Tr.cond_f rfl h10 ?_
              refine Tr.to_end ?_
              refine Ex.end_block ?_
              refine Ex.go ?_
              refine Tr.seq ?_
              refine Tr.region ?_
              refine Run.val (lt rfl) (Y.loadAgg rfl Ref04d_ag37 (Kn.at 1 rfl) rfl) ?_
              have hpe : Msg.parse bs = (⟨Msg.by_ bs 0, val (Msg.sl bs 1 5), val (Msg.sl bs 5 9), 0, 0, 0, 0, ⟨#[]⟩, 0, 0, false⟩ : Msg) := (if_neg g8).trans ((if_neg g9).trans (if_neg g10))
              rw [hpe] at hr
              have hpa := Msg.parse_addr bs; rw [hpe] at hpa
              refine Run.call [] (l := [.tmp 95]) rfl rfl rfl (lt rfl) (rencode_no (m := (⟨Msg.by_ bs 0, val (Msg.sl bs 1 5), val (Msg.sl bs 5 9), 0, 0, 0, 0, ⟨#[]⟩, 0, 0, false⟩ : Msg)) hr) (fun v9 V2 H2 _ hR => ?_)
              obtain ⟨rfl, hV, rfl⟩ := hR; replace hV := hV.symm; subst hV
              refine Run.val (lt rfl) (Y.move rfl) ?_
              refine Run.val (lt rfl) (Y.extract rfl rfl) ?_
              refine Run.val (lt rfl) (Y.extract rfl rfl) ?_
              refine Run.val (lt rfl) (Y.assign rfl) ?_
              refine Run.val (lt rfl) (Y.assign rfl) ?_
              refine Run.to_end ?_
              refine Ex.go ?_
              refine Tr.seq ?_
              refine Tr.seq ?_
              refine Tr.region ?_
              refine Run.val (lt rfl) (Y.move rfl) ?_
              refine Run.val (lt rfl) (Y.int (r := .bool true) rfl rfl rfl) ?_
              refine Run.val (lt rfl) (Y.move rfl) ?_
              refine Run.off rfl rfl rfl rfl rfl (lt rfl) ?_
              refine Run.off rfl rfl rfl rfl rfl (lt rfl) ?_
              refine Run.off rfl rfl rfl rfl rfl (lt rfl) ?_
              refine Run.off rfl rfl rfl rfl rfl (lt rfl) ?_
              refine Run.off rfl rfl rfl rfl rfl (lt rfl) ?_
              refine Run.val (lt rfl) (Y.pick_t rfl rfl rfl) ?_
              refine Run.to_end ?_
              refine Ex.go ?_
              refine Tr.cond_t rfl rfl ?_
              refine Tr.seq ?_
              refine Tr.region ?_
              refine Run.val (lt rfl) (Y.buildS (l := []) Ref04d_zo37 Ref04d_pl37 rfl rfl) ?_
              refine Run.store (s := [(b1, .cells #[.int .i64 0, .int .i64 0, .int .i64 0, .int .i64 0, .int .i64 0, .int .u32 0, .int .i64 0, .string ⟨#[]⟩, .int .i64 0, .int .i64 0, .bool false] 37 (0, 0))]) rfl rfl Ref04d_sz37 (i := 2) rfl rfl (le rfl) rfl rfl ?_
              refine Run.val (lt rfl) (Y.assign rfl) ?_
              refine Run.to_end ?_
              refine Ex.go ?_
              refine Tr.to_ret ?_
              refine Ex.ret_then ?_
              exact Ex.retCell2 [] rfl rfl rfl Ref04d_ag37 (Kn.at 2 rfl) rfl ⟨by rw [Msg.rbad_right (by rw [hpe]; exact hr)]; rfl, rfl, rfl⟩

theorem rdecode_c {V : Vw} {H : Hp} {bs : List UInt8} {v0 : Value} (hv : Rd V [] 1 v0 bs.length (bs.map byteV)) (hl : bs.length ≤ 9223372036854775807) : Does Try.prog 37 [v0] V H (Pv (.tuple #[.agg (if Msg.rbad bs then Msg.zero else Msg.parse bs).cells, .int .i64 (if Msg.rbad bs then 2 else 0)]) V H) := by
  obtain ⟨p, c, rfl, _⟩ := hv.form
  cases hr : Msg.right (Msg.parse bs) with
  | true => exact Does.frame (rdecode_a hv hl hr)
  | false => exact Does.frame (rdecode_b hv hl hr)
end Go.Proofs.Ytahgaaomioffhaa
