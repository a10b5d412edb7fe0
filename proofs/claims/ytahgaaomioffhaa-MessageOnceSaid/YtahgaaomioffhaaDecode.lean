/- What message.Decode does.
Conditions: as each theorem names them. -/
import Derived.Test.YtahgaaomioffhaaProg
import Derived.Test.YtahgaaomioffhaaM6
import Derived.Test.YtahgaaomioffhaaMessage
set_option linter.unusedSimpArgs false
set_option linter.unusedVariables false
set_option maxRecDepth 4000
namespace Go.Proofs.Ytahgaaomioffhaa
open Go Go.K
attribute [local irreducible] Code.wp wpList Calls wpQuiet
theorem Decode_fo99_0 : fieldOff Try.prog 99 0 = some 0 := by kernel_rfl
theorem Decode_ts38 : scal Try.prog 38 = true := by kernel_rfl
theorem Decode_es38 : elemS Try.prog 38 = some (5, 1) := by kernel_rfl
theorem Decode_fo99_1 : fieldOff Try.prog 99 1 = some 1 := by kernel_rfl
theorem Decode_sz4 : sizeT Try.prog 4 = some 1 := by kernel_rfl
theorem Decode_sz38 : sizeT Try.prog 38 = some 1 := by kernel_rfl
theorem Decode_zi5 : zeroInfo Try.prog 5 = some (1, 1, .int .u8 0) := by kernel_rfl
theorem Decode_ts5 : scal Try.prog 5 = true := by kernel_rfl
theorem Decode_it5_3 : intT Try.prog 5 3 = some .i64 := by kernel_rfl
theorem Decode_mo : Try.prog.follows .mixedOrders = true := by kernel_rfl
theorem Decode_fo86_0 : fieldOff Try.prog 86 0 = some 0 := by kernel_rfl
theorem Decode_ts84 : scal Try.prog 84 = true := by kernel_rfl
theorem Decode_ts97 : scal Try.prog 97 = true := by kernel_rfl
theorem Decode_fo86_1 : fieldOff Try.prog 86 1 = some 1 := by kernel_rfl
theorem Decode_ts3 : scal Try.prog 3 = true := by kernel_rfl
theorem Decode_sz3 : sizeT Try.prog 3 = some 1 := by kernel_rfl
theorem Decode_fo37_0 : fieldOff Try.prog 37 0 = some 0 := by kernel_rfl
theorem Decode_it3_35 : intT Try.prog 3 35 = some .u32 := by kernel_rfl
theorem Decode_fo37_5 : fieldOff Try.prog 37 5 = some 5 := by kernel_rfl
theorem Decode_sz35 : sizeT Try.prog 35 = some 1 := by kernel_rfl
theorem Decode_fo37_10 : fieldOff Try.prog 37 10 = some 10 := by kernel_rfl
theorem Decode_ts4 : scal Try.prog 4 = true := by kernel_rfl
theorem Decode_zo37 : zeroOf Try.prog 37 = some (.agg #[.int .i64 0, .int .i64 0, .int .i64 0, .int .i64 0, .int .i64 0, .int .u32 0, .int .i64 0, .string ⟨#[]⟩, .int .i64 0, .int .i64 0, .bool false]) := by kernel_rfl
theorem Decode_zo99 : zeroOf Try.prog 99 = some (.agg #[.slice none 0 0, .bool false]) := by kernel_rfl
theorem Decode_pl99 : placesS Try.prog 99 = some [(0, 1), (1, 1)] := by kernel_rfl
theorem Decode_zo97 : zeroOf Try.prog 97 = some (.pointer none) := by kernel_rfl
theorem Decode_sz97 : sizeT Try.prog 97 = some 1 := by kernel_rfl
theorem Decode_pl37 : placesS Try.prog 37 = some [(0, 1), (1, 1), (2, 1), (3, 1), (4, 1), (5, 1), (6, 1), (7, 1), (8, 1), (9, 1), (10, 1)] := by kernel_rfl
theorem Decode_sz37 : sizeT Try.prog 37 = some 11 := by kernel_rfl
theorem Decode_tg5 : tagOf Try.prog 5 = some (0, .u8) := by kernel_rfl
theorem Decode_st9 : strT Try.prog 9 = true := by kernel_rfl
theorem Decode_fo37_7 : fieldOff Try.prog 37 7 = some 7 := by kernel_rfl
theorem Decode_sz9 : sizeT Try.prog 9 = some 1 := by kernel_rfl
theorem Decode_ag37 : aggsz Try.prog 37 = some 11 := by kernel_rfl

theorem take_c0 {V : Vw} {br n c : Nat} {p : Option Addr} {rest : List UInt8} {bad : Bool} (hv : Rd V [] 1 (.slice p rest.length c) rest.length (rest.map byteV)) (hl : rest.length ≤ 9223372036854775807) (hn : n ≤ 255)  : Does Try.prog 64 [.pointer (some ⟨br, 0, none⟩), .int .i64 (n : Int)] V [[(br, .cells #[.slice p rest.length c, .bool bad] 99 (0, 0))]] (fun u V' H' => V' = V ∧ ∃ v' s', H' = [[(br, .cells #[v', .bool (Msg.rd n (rest, bad)).2.2] 99 (0, 0))], s'] ∧ Rd V H' 1 u n ((Msg.rd n (rest, bad)).1.map byteV) ∧ Rd V [] 1 v' (Msg.rd n (rest, bad)).2.1.length ((Msg.rd n (rest, bad)).2.1.map byteV)) := by
  have hcap := hv.cap
  refine Does.intro Try.func64 rfl rfl (le rfl) (fun B => ?_)
  refine Tr.seq ?_
  refine Tr.region ?_
  refine Run.val (lt rfl) (Y.assign rfl) ?_
  refine Run.to_end ?_
  refine Ex.go ?_
  refine Tr.seq ?_
  refine Tr.seq ?_
  refine Tr.region ?_
  refine Run.val (lt rfl) (Y.move rfl) ?_
  refine Run.val (lt rfl) (Y.move rfl) ?_
  refine Run.val (lt rfl) (Y.nilCheck rfl) ?_
  refine Run.val (lt rfl) (Y.fieldAddr rfl Decode_fo99_0) ?_
  refine Run.val (lt rfl) (Y.load rfl Decode_ts38 (Kn.at 0 rfl) rfl) ?_
  refine Run.val (lt rfl) (Y.lenSl rfl Decode_es38) ?_
  refine Run.val (lt rfl) (Y.int rfl rfl rfl) ?_
  refine Run.to_end ?_
  refine Ex.go ?_
  rcases Bool.eq_false_or_eq_true (decide ((n : Int) > ((rest.length : Nat) : Int))) with h1 | h1
  · have g1 := h1
    try simp only [kb] at g1
    refine Tr.cond_t rfl h1 ?_
    refine Tr.seq ?_
    refine Tr.region ?_
    refine Run.val (lt rfl) (Y.move rfl) ?_
    refine Run.val (lt rfl) (Y.move rfl) ?_
    refine Run.val (lt rfl) (Y.nilCheck rfl) ?_
    refine Run.val (lt rfl) (Y.fieldAddr rfl Decode_fo99_1) ?_
    refine Run.store (s := [(br, .cells #[.slice p rest.length c, .bool true] 99 (0, 0))]) rfl rfl Decode_sz4 (i := 0) rfl rfl (le rfl) rfl rfl ?_
    refine Run.val (lt rfl) (Y.nilCheck rfl) ?_
    refine Run.val (lt rfl) (Y.fieldAddr rfl Decode_fo99_0) ?_
    refine Run.store (s := [(br, .cells #[.slice none 0 0, .bool true] 99 (0, 0))]) rfl rfl Decode_sz38 (i := 0) rfl rfl (le rfl) rfl rfl ?_
    refine Run.to_end ?_
    refine Ex.go ?_
    refine Tr.seq ?_
    refine Tr.region ?_
    refine Run.val (lt rfl) (Y.move rfl) ?_
    refine Run.makeSlice rfl rfl Decode_es38 Decode_zi5 (by decide) (by omega) (by omega) (lt rfl) (fun b2 => ?_)
    refine Run.val (lt rfl) (Y.assign rfl) ?_
    refine Run.to_end ?_
    refine Ex.go ?_
    refine Tr.to_ret ?_
    refine Ex.ret_then ?_
    refine Ex.keep [1, 0] ?_
    exact Ex.ret1 rfl rfl  ⟨rfl, _, _, by rw [rd_few (by omega)]; rfl, by rw [rd_few (by omega)]; exact Rd.zeros 1 rfl, by rw [rd_few (by omega)]; exact Rd.nil _ _ _⟩
  · have g1 := h1
    try simp only [kb] at g1
    refine Tr.cond_f rfl h1 ?_
    refine Tr.to_end ?_
    refine Ex.go ?_
    refine Tr.seq ?_
    refine Tr.region ?_
    refine Run.val (lt rfl) (Y.move rfl) ?_
    refine Run.val (lt rfl) (Y.nilCheck rfl) ?_
    refine Run.val (lt rfl) (Y.fieldAddr rfl Decode_fo99_0) ?_
    refine Run.val (lt rfl) (Y.load rfl Decode_ts38 (Kn.at 0 rfl) rfl) ?_
    refine Run.val (lt rfl) (Y.move rfl) ?_
    refine Run.val (lt rfl) (Y.slice (l := 0) (m := n) rfl Decode_es38 rfl rfl (by omega) (by omega)) ?_
    refine Run.val (lt rfl) (Y.assign rfl) ?_
    refine Run.to_end ?_
    refine Ex.go ?_
    refine Tr.seq ?_
    refine Tr.region ?_
    refine Run.val (lt rfl) (Y.move rfl) ?_
    refine Run.val (lt rfl) (Y.move rfl) ?_
    refine Run.val (lt rfl) (Y.nilCheck rfl) ?_
    refine Run.val (lt rfl) (Y.fieldAddr rfl Decode_fo99_0) ?_
    refine Run.val (lt rfl) (Y.load rfl Decode_ts38 (Kn.at 0 rfl) rfl) ?_
    refine Run.val (lt rfl) (Y.move rfl) ?_
    refine Run.val (lt rfl) (Y.slice (l := n) (m := rest.length) rfl Decode_es38 rfl rfl (by omega) (by omega)) ?_
    refine Run.val (lt rfl) (Y.nilCheck rfl) ?_
    refine Run.val (lt rfl) (Y.fieldAddr rfl Decode_fo99_0) ?_
    refine Run.store (s := [(br, .cells #[.slice (if c = n then p else p.map (·.add (n * 1))) (rest.length - n) (c - n), .bool bad] 99 (0, 0))]) rfl rfl Decode_sz38 (i := 0) rfl rfl (le rfl) rfl rfl ?_
    refine Run.to_end ?_
    refine Ex.go ?_
    refine Tr.seq ?_
    refine Tr.region ?_
    refine Run.nilseg ?_
    refine Run.val (lt rfl) (Y.move rfl) ?_
    refine Run.val (lt rfl) (Y.assign rfl) ?_
    refine Run.to_end ?_
    refine Ex.go ?_
    refine Tr.to_ret ?_
    refine Ex.keep [1, 0] ?_
    exact Ex.ret1 rfl rfl  ⟨rfl, _, _, by rw [rd_enough (by omega)]; rfl, rd_head hv (by omega), rd_tail hv (by omega)⟩

theorem take_c {br n : Nat} {v : Value} {rest : List UInt8} {bad : Bool} {V : Vw} (hv : Rd V [] 1 v rest.length (rest.map byteV)) (hl : rest.length ≤ 9223372036854775807) (hn : n ≤ 255) : Does Try.prog 64 [.pointer (some ⟨br, 0, none⟩), .int .i64 (n : Int)] V [[(br, .cells #[v, .bool bad] 99 (0, 0))]]
    (fun u V' H' => V' = V ∧ ∃ v' s', H' = [[(br, .cells #[v', .bool (Msg.rd n (rest, bad)).2.2] 99 (0, 0))], s'] ∧ Rd V H' 1 u n ((Msg.rd n (rest, bad)).1.map byteV) ∧ Rd V [] 1 v' (Msg.rd n (rest, bad)).2.1.length ((Msg.rd n (rest, bad)).2.1.map byteV)) := by
  obtain ⟨p, c, rfl, _⟩ := hv.form
  exact take_c0 hv hl hn

theorem rnum_c {V : Vw} {br n : Nat} {v : Value} {rest : List UInt8} {bad : Bool} (hv : Rd V [] 1 v rest.length (rest.map byteV)) (hl : rest.length ≤ 9223372036854775807) (hn : n ≤ 6)  : Does Try.prog 61 [.pointer (some ⟨br, 0, none⟩), .int .i64 (n : Int)] V [[(br, .cells #[v, .bool bad] 99 (0, 0))]] (fun u V' H' => V' = V ∧ u = .int .i64 (val (Msg.rd n (rest, bad)).1) ∧ ∃ v', H' = [[(br, .cells #[v', .bool (Msg.rd n (rest, bad)).2.2] 99 (0, 0))]] ∧ Rd V [] 1 v' (Msg.rd n (rest, bad)).2.1.length ((Msg.rd n (rest, bad)).2.1.map byteV)) := by
  refine Does.intro Try.func61 rfl rfl (le rfl) (fun B => ?_)
  refine Tr.seq ?_
  refine Tr.region ?_
  refine Run.val (lt rfl) (Y.assign rfl) ?_
  refine Run.to_end ?_
  refine Ex.go ?_
  refine Tr.seq ?_
  refine Tr.region ?_
  refine Run.val (lt rfl) (Y.assign rfl) ?_
  refine Run.to_end ?_
  refine Ex.go ?_
  refine Tr.seq ?_
  refine Tr.seq ?_
  refine Tr.region ?_
  refine Run.val (lt rfl) (Y.move rfl) ?_
  refine Run.val (lt rfl) (Y.move rfl) ?_
  refine Run.call [0] (l := [.tmp 8, .tmp 9]) rfl rfl rfl (lt rfl) (take_c (n := n) hv hl (by omega)) (fun v V2 H2 _ hR => ?_)
  obtain ⟨hV, v', s', hH, hu, hv'⟩ := hR; replace hV := hV.symm; subst hV; subst hH; obtain ⟨p, c, rfl, hcap⟩ := hu.form
  have hl1 : (Msg.rd n (rest, bad)).1.length = n := Msg.rd_len n (rest, bad)
  refine Run.val (lt rfl) (Y.lenSl rfl Decode_es38) ?_
  refine Run.val (lt rfl) (Y.move rfl) ?_
  refine Run.to_end ?_
  refine Ex.go ?_
  refine Tr.block ?_
  refine Tr.loop (X := Nat) (fun i => V) (fun i => [[(br, .cells #[v', .bool ((Msg.rd n (rest, bad)).2.2)] 99 (0, 0))], s']) (fun i => [(5, .int .i64 (val ((Msg.rd n (rest, bad)).1.take i))), (10, .slice p n c), (11, .int .i64 (n : Int)), (12, .int .i64 (i : Int))]) (fun i => i ≤ n) (fun i => n - i) 0 (Nat.zero_le _) (fun a w i => ⟨i.1.sub (subB_cons (by first | rfl | exact congrArg (fun z => some (Value.int _ z)) (by omega) | exact congrArg (fun z => some (Value.int _ z)) (val_take (by rw [hl1]; omega)).symm) (subB_cons (by first | rfl | exact congrArg (fun z => some (Value.int _ z)) (by omega) | exact congrArg (fun z => some (Value.int _ z)) (val_take (by rw [hl1]; omega)).symm) (subB_cons (by first | rfl | exact congrArg (fun z => some (Value.int _ z)) (by omega) | exact congrArg (fun z => some (Value.int _ z)) (val_take (by rw [hl1]; omega)).symm) (subB_cons (by first | rfl | exact congrArg (fun z => some (Value.int _ z)) (by omega) | exact congrArg (fun z => some (Value.int _ z)) (val_take (by rw [hl1]; omega)).symm) (subB_nil _))))), i.2⟩) ?_
  rintro i hi
  refine Tr.seq ?_
  refine Tr.region ?_
  refine Run.val (lt rfl) (Y.int rfl rfl rfl) ?_
  refine Run.to_end ?_
  refine Ex.go ?_
  refine Tr.seq ?_
  rcases Bool.eq_false_or_eq_true (decide ((i : Int) < (n : Int))) with h1 | h1
  · have g1 := h1
    try simp only [kb] at g1
    obtain ⟨b, off, c2, cs, e, fz, hw, hc, hk, hcs⟩ := hu.opened (by omega)
    obtain ⟨rfl, rfl⟩ : p = some ⟨b, off, none⟩ ∧ c = c2 := by cases hw; exact ⟨rfl, rfl⟩
    clear hw
    have hs := val_small (l := (Msg.rd n (rest, bad)).1.take i) (by simp; omega)
    have hb := u8_lt ((Msg.rd n (rest, bad)).1.getD i 0)
    refine Tr.cond_t rfl h1 ?_
    refine Tr.to_end ?_
    refine Ex.go ?_
    refine Tr.seq ?_
    refine Tr.block ?_
    refine Tr.seq ?_
    refine Tr.region ?_
    refine Run.val (lt rfl) (Y.idxAddr rfl rfl Decode_es38 (by omega) (by omega)) ?_
    refine Run.val (lt rfl) (Y.load rfl Decode_ts5 hk (at1 hcs (by omega) (map_at byteV 0 (by rw [hl1]; omega)))) ?_
    refine Run.val (lt rfl) (Y.assign rfl) ?_
    refine Run.to_end ?_
    refine Ex.go ?_
    refine Tr.region ?_
    refine Run.val (lt rfl) (Y.move rfl) ?_
    refine Run.val (lt rfl) (Y.shl (val ((Msg.rd n (rest, bad)).1.take i) * 256) rfl rfl (by decide) (shl_byte hs.1 hs.2)) ?_
    refine Run.val (lt rfl) (Y.move rfl) ?_
    refine Run.val (lt rfl) (Y.conv ((((Msg.rd n (rest, bad)).1.getD i 0).toNat : Int)) rfl Decode_it5_3 (wrap_i64 (by omega))) ?_
    refine Run.val (lt rfl) (Y.int (r := .int .i64 (val ((Msg.rd n (rest, bad)).1.take i) * 256 + (((Msg.rd n (rest, bad)).1.getD i 0).toNat : Int))) rfl rfl (by simp only [intRes]; rw [or_byte hs.1 hs.2 (by omega) (by omega)])) ?_
    refine Run.val (lt rfl) (Y.assign rfl) ?_
    refine Run.to_end ?_
    refine Ex.end_block ?_
    refine Ex.go ?_
    refine Tr.region ?_
    refine Run.val (lt rfl) (Y.add rfl rfl (by omega)) ?_
    refine Run.val (lt rfl) (Y.move rfl) ?_
    refine Run.to_end ?_
    exact Ex.round (i + 1) (by show i + 1 ≤ n; omega) (by omega) rfl rfl (subB_cons (by first | rfl | exact congrArg (fun z => some (Value.int _ z)) (by omega) | exact congrArg (fun z => some (Value.int _ z)) (val_take (by rw [hl1]; omega)).symm) (subB_cons (by first | rfl | exact congrArg (fun z => some (Value.int _ z)) (by omega) | exact congrArg (fun z => some (Value.int _ z)) (val_take (by rw [hl1]; omega)).symm) (subB_cons (by first | rfl | exact congrArg (fun z => some (Value.int _ z)) (by omega) | exact congrArg (fun z => some (Value.int _ z)) (val_take (by rw [hl1]; omega)).symm) (subB_cons (by first | rfl | exact congrArg (fun z => some (Value.int _ z)) (by omega) | exact congrArg (fun z => some (Value.int _ z)) (val_take (by rw [hl1]; omega)).symm) (subB_nil _)))))
  · have g1 := h1
    try simp only [kb] at g1
    refine Tr.cond_f rfl h1 ?_
    refine Tr.to_exit ?_
    refine Ex.exit_then ?_
    refine Ex.exit_then ?_
    refine Ex.exit_in ?_
    refine Ex.go ?_
    refine Tr.seq ?_
    refine Tr.region ?_
    refine Run.val (lt rfl) (Y.move rfl) ?_
    refine Run.val (lt rfl) (Y.assign rfl) ?_
    refine Run.to_end ?_
    refine Ex.go ?_
    refine Tr.to_ret ?_
    refine Ex.keep [0] ?_
    exact Ex.ret1 rfl rfl  ⟨rfl, by rw [show i = n from by omega, List.take_of_length_le (by rw [hl1]; omega)], v', rfl, hv'⟩

theorem rnum_s {br n : Nat} {v : Value} {s : Msg.Rs} {V : Vw} (hv : Rd V [] 1 v s.1.length (s.1.map byteV)) (hl : s.1.length ≤ 9223372036854775807) (hn : n ≤ 6) : Does Try.prog 61 [.pointer (some ⟨br, 0, none⟩), .int .i64 (n : Int)] V [[(br, .cells #[v, .bool s.2] 99 (0, 0))]]
    (fun u V' H' => V' = V ∧ u = .int .i64 (val (Msg.rd n s).1) ∧ ∃ v', H' = [[(br, .cells #[v', .bool (Msg.rd n s).2.2] 99 (0, 0))]] ∧ Rd V [] 1 v' (Msg.rd n s).2.1.length ((Msg.rd n s).2.1.map byteV)) := rnum_c (rest := s.1) (bad := s.2) hv hl hn
theorem take_s {br n : Nat} {v : Value} {s : Msg.Rs} {V : Vw} (hv : Rd V [] 1 v s.1.length (s.1.map byteV)) (hl : s.1.length ≤ 9223372036854775807) (hn : n ≤ 255) : Does Try.prog 64 [.pointer (some ⟨br, 0, none⟩), .int .i64 (n : Int)] V [[(br, .cells #[v, .bool s.2] 99 (0, 0))]]
    (fun u V' H' => V' = V ∧ ∃ v' s', H' = [[(br, .cells #[v', .bool (Msg.rd n s).2.2] 99 (0, 0))], s'] ∧ Rd V H' 1 u n ((Msg.rd n s).1.map byteV) ∧ Rd V [] 1 v' (Msg.rd n s).2.1.length ((Msg.rd n s).2.1.map byteV)) := take_c (rest := s.1) (bad := s.2) hv hl hn

theorem dec1_1 {V : Vw} {m : Msg} {bm b4 br : Nat} {v : Value} {s : Msg.Rs} (hv : Rd V [] 1 v s.1.length (s.1.map byteV)) (hl : s.1.length ≤ 9223372036854775807)  : Does Try.prog 62 [.agg #[.pointer (some ⟨bm, 1, none⟩), .int .i64 4, .int .i64 1, .int .i64 536870912], .pointer (some ⟨b4, 0, none⟩)] V [[(b4, .cells #[.pointer (some ⟨br, 0, none⟩)] 97 (0, 0))], [(br, .cells #[v, .bool s.2] 99 (0, 0))], [(bm, .cells (m : Msg).cells 37 (0, 0))]] (fun _ V' H' => V' = V ∧ ∃ v', H' = [[(b4, .cells #[.pointer (some ⟨br, 0, none⟩)] 97 (0, 0))], [(br, .cells #[v', .bool (Msg.rd 4 s).2.2] 99 (0, 0))], [(bm, .cells (m.setNum 1 (val (Msg.rd 4 s).1) : Msg).cells 37 (0, 0))]] ∧ Rd V [] 1 v' (Msg.rd 4 s).2.1.length ((Msg.rd 4 s).2.1.map byteV)) := by
  refine Does.intro Try.func62 rfl rfl (le rfl) (fun B => ?_)
  refine Tr.seq ?_
  refine Tr.region ?_
  refine Run.box rfl (lt rfl) (fun b1 => ?_)
  refine Run.to_end ?_
  refine Ex.go ?_
  refine Tr.anyD [(b1, .cells #[.pointer (some ⟨bm, 1, none⟩), .int .i64 4, .int .i64 1, .int .i64 536870912] 86 (0, 0)), (b4, .cells #[.pointer (some ⟨br, 0, none⟩)] 97 (0, 0))] Decode_mo ?_
  refine RunD.pure (i := 0) rfl (by kernel_rfl) (by kernel_rfl) (by kernel_rfl) (fun _ _ _ h => h) (lt rfl) (KnAll.cons (Kn.at 0 rfl) (KnAll.cons (Kn.at 1 rfl) KnAll.nil)) (fun _ => (Y.fieldAddr rfl Decode_fo86_0)) ?_
  refine RunD.take (i := 1) 0 rfl rfl (by kernel_rfl) (by kernel_rfl) (by kernel_rfl) (fun _ _ _ h => h) (lt rfl) (KnAll.cons (Kn.at 0 rfl) (KnAll.cons (Kn.at 1 rfl) KnAll.nil)) (fun _ => (Y.load rfl Decode_ts84 Kn.vk1 rfl)) ?_
  refine RunD.take (i := 2) 1 rfl rfl (by kernel_rfl) (by kernel_rfl) (by kernel_rfl) (fun _ _ _ h => h) (lt rfl) (KnAll.cons (Kn.at 0 rfl) (KnAll.cons (Kn.at 1 rfl) KnAll.nil)) (fun _ => (Y.load rfl Decode_ts97 Kn.vk1 rfl)) ?_
  refine RunD.pure (i := 3) rfl (by kernel_rfl) (by kernel_rfl) (by kernel_rfl) (fun _ _ _ h => h) (lt rfl) (KnAll.cons (Kn.at 0 rfl) (KnAll.cons (Kn.at 1 rfl) KnAll.nil)) (fun _ => (Y.fieldAddr rfl Decode_fo86_1)) ?_
  refine RunD.take (i := 4) 0 rfl rfl (by kernel_rfl) (by kernel_rfl) (by kernel_rfl) (fun _ _ _ h => h) (lt rfl) (KnAll.cons (Kn.at 0 rfl) (KnAll.cons (Kn.at 1 rfl) KnAll.nil)) (fun _ => (Y.load rfl Decode_ts3 Kn.vk1 rfl)) ?_
  refine RunD.one (i := 5) (by kernel_rfl) rfl  ?_ 
  refine Run.call [2] (l := [.tmp 5, .tmp 7]) rfl rfl rfl (lt rfl) (rnum_s (n := 4) (s := s) hv hl (by decide)) (fun vk2 V2 H2 _ hR => ?_)
  obtain ⟨hV, rfl, vk2, rfl, hvk2⟩ := hR; replace hV := hV.symm; subst hV
  have hlk2 := Nat.le_trans (rd_le 4 s) hl
  have hwk2 := rd_u32 s
  refine Run.to_end ?_
  refine Ex.anyD (KnAll.cons (Kn.at 0 rfl) (KnAll.cons (Kn.at 1 rfl) KnAll.nil)) ?_
  refine RunD.pure (i := 6) rfl (by kernel_rfl) (by kernel_rfl) (by kernel_rfl) (fun _ _ _ h => h) (lt rfl) (KnAll.cons (Kn.at 0 rfl) (KnAll.cons (Kn.at 1 rfl) KnAll.nil)) (fun _ => (Y.nilCheck rfl)) ?_
  refine RunD.one (i := 7) (by kernel_rfl) rfl  ?_ 
  refine Run.store (s := [(bm, .cells #[.int .i64 m.kind, .int .i64 (val (Msg.rd 4 s).1), .int .i64 m.seen, .int .i64 m.xid, .int .i64 m.state, .int .u32 m.addr, .int .i64 m.bind, .string m.client, .int .i64 m.pot, .int .i64 m.at_, .bool m.ok] 37 (0, 0))]) rfl rfl Decode_sz3 (i := 2) rfl rfl (le rfl) rfl rfl ?_
  refine Run.to_end ?_
  refine Ex.anyD (KnAll.cons (Kn.at 0 rfl) (KnAll.cons (Kn.at 1 rfl) KnAll.nil)) ?_
  refine RunD.done (by kernel_rfl) ?_
  refine Ex.keep [1, 2, 1] ?_
  exact Ex.end0 rfl ⟨rfl, _, rfl, hvk2⟩

theorem dec1_2 {V : Vw} {m : Msg} {bm b4 br : Nat} {v : Value} {s : Msg.Rs} (hv : Rd V [] 1 v s.1.length (s.1.map byteV)) (hl : s.1.length ≤ 9223372036854775807)  : Does Try.prog 62 [.agg #[.pointer (some ⟨bm, 2, none⟩), .int .i64 4, .int .i64 0, .int .i64 536870912], .pointer (some ⟨b4, 0, none⟩)] V [[(b4, .cells #[.pointer (some ⟨br, 0, none⟩)] 97 (0, 0))], [(br, .cells #[v, .bool s.2] 99 (0, 0))], [(bm, .cells (m : Msg).cells 37 (0, 0))]] (fun _ V' H' => V' = V ∧ ∃ v', H' = [[(b4, .cells #[.pointer (some ⟨br, 0, none⟩)] 97 (0, 0))], [(br, .cells #[v', .bool (Msg.rd 4 s).2.2] 99 (0, 0))], [(bm, .cells (m.setNum 2 (val (Msg.rd 4 s).1) : Msg).cells 37 (0, 0))]] ∧ Rd V [] 1 v' (Msg.rd 4 s).2.1.length ((Msg.rd 4 s).2.1.map byteV)) := by
  refine Does.intro Try.func62 rfl rfl (le rfl) (fun B => ?_)
  refine Tr.seq ?_
  refine Tr.region ?_
  refine Run.box rfl (lt rfl) (fun b1 => ?_)
  refine Run.to_end ?_
  refine Ex.go ?_
  refine Tr.anyD [(b1, .cells #[.pointer (some ⟨bm, 2, none⟩), .int .i64 4, .int .i64 0, .int .i64 536870912] 86 (0, 0)), (b4, .cells #[.pointer (some ⟨br, 0, none⟩)] 97 (0, 0))] Decode_mo ?_
  refine RunD.pure (i := 0) rfl (by kernel_rfl) (by kernel_rfl) (by kernel_rfl) (fun _ _ _ h => h) (lt rfl) (KnAll.cons (Kn.at 0 rfl) (KnAll.cons (Kn.at 1 rfl) KnAll.nil)) (fun _ => (Y.fieldAddr rfl Decode_fo86_0)) ?_
  refine RunD.take (i := 1) 0 rfl rfl (by kernel_rfl) (by kernel_rfl) (by kernel_rfl) (fun _ _ _ h => h) (lt rfl) (KnAll.cons (Kn.at 0 rfl) (KnAll.cons (Kn.at 1 rfl) KnAll.nil)) (fun _ => (Y.load rfl Decode_ts84 Kn.vk1 rfl)) ?_
  refine RunD.take (i := 2) 1 rfl rfl (by kernel_rfl) (by kernel_rfl) (by kernel_rfl) (fun _ _ _ h => h) (lt rfl) (KnAll.cons (Kn.at 0 rfl) (KnAll.cons (Kn.at 1 rfl) KnAll.nil)) (fun _ => (Y.load rfl Decode_ts97 Kn.vk1 rfl)) ?_
  refine RunD.pure (i := 3) rfl (by kernel_rfl) (by kernel_rfl) (by kernel_rfl) (fun _ _ _ h => h) (lt rfl) (KnAll.cons (Kn.at 0 rfl) (KnAll.cons (Kn.at 1 rfl) KnAll.nil)) (fun _ => (Y.fieldAddr rfl Decode_fo86_1)) ?_
  refine RunD.take (i := 4) 0 rfl rfl (by kernel_rfl) (by kernel_rfl) (by kernel_rfl) (fun _ _ _ h => h) (lt rfl) (KnAll.cons (Kn.at 0 rfl) (KnAll.cons (Kn.at 1 rfl) KnAll.nil)) (fun _ => (Y.load rfl Decode_ts3 Kn.vk1 rfl)) ?_
  refine RunD.one (i := 5) (by kernel_rfl) rfl  ?_ 
  refine Run.call [2] (l := [.tmp 5, .tmp 7]) rfl rfl rfl (lt rfl) (rnum_s (n := 4) (s := s) hv hl (by decide)) (fun vk2 V2 H2 _ hR => ?_)
  obtain ⟨hV, rfl, vk2, rfl, hvk2⟩ := hR; replace hV := hV.symm; subst hV
  have hlk2 := Nat.le_trans (rd_le 4 s) hl
  have hwk2 := rd_u32 s
  refine Run.to_end ?_
  refine Ex.anyD (KnAll.cons (Kn.at 0 rfl) (KnAll.cons (Kn.at 1 rfl) KnAll.nil)) ?_
  refine RunD.pure (i := 6) rfl (by kernel_rfl) (by kernel_rfl) (by kernel_rfl) (fun _ _ _ h => h) (lt rfl) (KnAll.cons (Kn.at 0 rfl) (KnAll.cons (Kn.at 1 rfl) KnAll.nil)) (fun _ => (Y.nilCheck rfl)) ?_
  refine RunD.one (i := 7) (by kernel_rfl) rfl  ?_ 
  refine Run.store (s := [(bm, .cells #[.int .i64 m.kind, .int .i64 m.life, .int .i64 (val (Msg.rd 4 s).1), .int .i64 m.xid, .int .i64 m.state, .int .u32 m.addr, .int .i64 m.bind, .string m.client, .int .i64 m.pot, .int .i64 m.at_, .bool m.ok] 37 (0, 0))]) rfl rfl Decode_sz3 (i := 2) rfl rfl (le rfl) rfl rfl ?_
  refine Run.to_end ?_
  refine Ex.anyD (KnAll.cons (Kn.at 0 rfl) (KnAll.cons (Kn.at 1 rfl) KnAll.nil)) ?_
  refine RunD.done (by kernel_rfl) ?_
  refine Ex.keep [1, 2, 1] ?_
  exact Ex.end0 rfl ⟨rfl, _, rfl, hvk2⟩

theorem dec1_3 {V : Vw} {m : Msg} {bm b4 br : Nat} {v : Value} {s : Msg.Rs} (hv : Rd V [] 1 v s.1.length (s.1.map byteV)) (hl : s.1.length ≤ 9223372036854775807)  : Does Try.prog 62 [.agg #[.pointer (some ⟨bm, 3, none⟩), .int .i64 4, .int .i64 1, .int .i64 1073741824], .pointer (some ⟨b4, 0, none⟩)] V [[(b4, .cells #[.pointer (some ⟨br, 0, none⟩)] 97 (0, 0))], [(br, .cells #[v, .bool s.2] 99 (0, 0))], [(bm, .cells (m : Msg).cells 37 (0, 0))]] (fun _ V' H' => V' = V ∧ ∃ v', H' = [[(b4, .cells #[.pointer (some ⟨br, 0, none⟩)] 97 (0, 0))], [(br, .cells #[v', .bool (Msg.rd 4 s).2.2] 99 (0, 0))], [(bm, .cells (m.setNum 3 (val (Msg.rd 4 s).1) : Msg).cells 37 (0, 0))]] ∧ Rd V [] 1 v' (Msg.rd 4 s).2.1.length ((Msg.rd 4 s).2.1.map byteV)) := by
  refine Does.intro Try.func62 rfl rfl (le rfl) (fun B => ?_)
  refine Tr.seq ?_
  refine Tr.region ?_
  refine Run.box rfl (lt rfl) (fun b1 => ?_)
  refine Run.to_end ?_
  refine Ex.go ?_
  refine Tr.anyD [(b1, .cells #[.pointer (some ⟨bm, 3, none⟩), .int .i64 4, .int .i64 1, .int .i64 1073741824] 86 (0, 0)), (b4, .cells #[.pointer (some ⟨br, 0, none⟩)] 97 (0, 0))] Decode_mo ?_
  refine RunD.pure (i := 0) rfl (by kernel_rfl) (by kernel_rfl) (by kernel_rfl) (fun _ _ _ h => h) (lt rfl) (KnAll.cons (Kn.at 0 rfl) (KnAll.cons (Kn.at 1 rfl) KnAll.nil)) (fun _ => (Y.fieldAddr rfl Decode_fo86_0)) ?_
  refine RunD.take (i := 1) 0 rfl rfl (by kernel_rfl) (by kernel_rfl) (by kernel_rfl) (fun _ _ _ h => h) (lt rfl) (KnAll.cons (Kn.at 0 rfl) (KnAll.cons (Kn.at 1 rfl) KnAll.nil)) (fun _ => (Y.load rfl Decode_ts84 Kn.vk1 rfl)) ?_
  refine RunD.take (i := 2) 1 rfl rfl (by kernel_rfl) (by kernel_rfl) (by kernel_rfl) (fun _ _ _ h => h) (lt rfl) (KnAll.cons (Kn.at 0 rfl) (KnAll.cons (Kn.at 1 rfl) KnAll.nil)) (fun _ => (Y.load rfl Decode_ts97 Kn.vk1 rfl)) ?_
  refine RunD.pure (i := 3) rfl (by kernel_rfl) (by kernel_rfl) (by kernel_rfl) (fun _ _ _ h => h) (lt rfl) (KnAll.cons (Kn.at 0 rfl) (KnAll.cons (Kn.at 1 rfl) KnAll.nil)) (fun _ => (Y.fieldAddr rfl Decode_fo86_1)) ?_
  refine RunD.take (i := 4) 0 rfl rfl (by kernel_rfl) (by kernel_rfl) (by kernel_rfl) (fun _ _ _ h => h) (lt rfl) (KnAll.cons (Kn.at 0 rfl) (KnAll.cons (Kn.at 1 rfl) KnAll.nil)) (fun _ => (Y.load rfl Decode_ts3 Kn.vk1 rfl)) ?_
  refine RunD.one (i := 5) (by kernel_rfl) rfl  ?_ 
  refine Run.call [2] (l := [.tmp 5, .tmp 7]) rfl rfl rfl (lt rfl) (rnum_s (n := 4) (s := s) hv hl (by decide)) (fun vk2 V2 H2 _ hR => ?_)
  obtain ⟨hV, rfl, vk2, rfl, hvk2⟩ := hR; replace hV := hV.symm; subst hV
  have hlk2 := Nat.le_trans (rd_le 4 s) hl
  have hwk2 := rd_u32 s
  refine Run.to_end ?_
  refine Ex.anyD (KnAll.cons (Kn.at 0 rfl) (KnAll.cons (Kn.at 1 rfl) KnAll.nil)) ?_
  refine RunD.pure (i := 6) rfl (by kernel_rfl) (by kernel_rfl) (by kernel_rfl) (fun _ _ _ h => h) (lt rfl) (KnAll.cons (Kn.at 0 rfl) (KnAll.cons (Kn.at 1 rfl) KnAll.nil)) (fun _ => (Y.nilCheck rfl)) ?_
  refine RunD.one (i := 7) (by kernel_rfl) rfl  ?_ 
  refine Run.store (s := [(bm, .cells #[.int .i64 m.kind, .int .i64 m.life, .int .i64 m.seen, .int .i64 (val (Msg.rd 4 s).1), .int .i64 m.state, .int .u32 m.addr, .int .i64 m.bind, .string m.client, .int .i64 m.pot, .int .i64 m.at_, .bool m.ok] 37 (0, 0))]) rfl rfl Decode_sz3 (i := 2) rfl rfl (le rfl) rfl rfl ?_
  refine Run.to_end ?_
  refine Ex.anyD (KnAll.cons (Kn.at 0 rfl) (KnAll.cons (Kn.at 1 rfl) KnAll.nil)) ?_
  refine RunD.done (by kernel_rfl) ?_
  refine Ex.keep [1, 2, 1] ?_
  exact Ex.end0 rfl ⟨rfl, _, rfl, hvk2⟩

theorem dec1_4 {V : Vw} {m : Msg} {bm b4 br : Nat} {v : Value} {s : Msg.Rs} (hv : Rd V [] 1 v s.1.length (s.1.map byteV)) (hl : s.1.length ≤ 9223372036854775807)  : Does Try.prog 62 [.agg #[.pointer (some ⟨bm, 4, none⟩), .int .i64 1, .int .i64 0, .int .i64 8], .pointer (some ⟨b4, 0, none⟩)] V [[(b4, .cells #[.pointer (some ⟨br, 0, none⟩)] 97 (0, 0))], [(br, .cells #[v, .bool s.2] 99 (0, 0))], [(bm, .cells (m : Msg).cells 37 (0, 0))]] (fun _ V' H' => V' = V ∧ ∃ v', H' = [[(b4, .cells #[.pointer (some ⟨br, 0, none⟩)] 97 (0, 0))], [(br, .cells #[v', .bool (Msg.rd 1 s).2.2] 99 (0, 0))], [(bm, .cells (m.setNum 4 (val (Msg.rd 1 s).1) : Msg).cells 37 (0, 0))]] ∧ Rd V [] 1 v' (Msg.rd 1 s).2.1.length ((Msg.rd 1 s).2.1.map byteV)) := by
  refine Does.intro Try.func62 rfl rfl (le rfl) (fun B => ?_)
  refine Tr.seq ?_
  refine Tr.region ?_
  refine Run.box rfl (lt rfl) (fun b1 => ?_)
  refine Run.to_end ?_
  refine Ex.go ?_
  refine Tr.anyD [(b1, .cells #[.pointer (some ⟨bm, 4, none⟩), .int .i64 1, .int .i64 0, .int .i64 8] 86 (0, 0)), (b4, .cells #[.pointer (some ⟨br, 0, none⟩)] 97 (0, 0))] Decode_mo ?_
  refine RunD.pure (i := 0) rfl (by kernel_rfl) (by kernel_rfl) (by kernel_rfl) (fun _ _ _ h => h) (lt rfl) (KnAll.cons (Kn.at 0 rfl) (KnAll.cons (Kn.at 1 rfl) KnAll.nil)) (fun _ => (Y.fieldAddr rfl Decode_fo86_0)) ?_
  refine RunD.take (i := 1) 0 rfl rfl (by kernel_rfl) (by kernel_rfl) (by kernel_rfl) (fun _ _ _ h => h) (lt rfl) (KnAll.cons (Kn.at 0 rfl) (KnAll.cons (Kn.at 1 rfl) KnAll.nil)) (fun _ => (Y.load rfl Decode_ts84 Kn.vk1 rfl)) ?_
  refine RunD.take (i := 2) 1 rfl rfl (by kernel_rfl) (by kernel_rfl) (by kernel_rfl) (fun _ _ _ h => h) (lt rfl) (KnAll.cons (Kn.at 0 rfl) (KnAll.cons (Kn.at 1 rfl) KnAll.nil)) (fun _ => (Y.load rfl Decode_ts97 Kn.vk1 rfl)) ?_
  refine RunD.pure (i := 3) rfl (by kernel_rfl) (by kernel_rfl) (by kernel_rfl) (fun _ _ _ h => h) (lt rfl) (KnAll.cons (Kn.at 0 rfl) (KnAll.cons (Kn.at 1 rfl) KnAll.nil)) (fun _ => (Y.fieldAddr rfl Decode_fo86_1)) ?_
  refine RunD.take (i := 4) 0 rfl rfl (by kernel_rfl) (by kernel_rfl) (by kernel_rfl) (fun _ _ _ h => h) (lt rfl) (KnAll.cons (Kn.at 0 rfl) (KnAll.cons (Kn.at 1 rfl) KnAll.nil)) (fun _ => (Y.load rfl Decode_ts3 Kn.vk1 rfl)) ?_
  refine RunD.one (i := 5) (by kernel_rfl) rfl  ?_ 
  refine Run.call [2] (l := [.tmp 5, .tmp 7]) rfl rfl rfl (lt rfl) (rnum_s (n := 1) (s := s) hv hl (by decide)) (fun vk2 V2 H2 _ hR => ?_)
  obtain ⟨hV, rfl, vk2, rfl, hvk2⟩ := hR; replace hV := hV.symm; subst hV
  have hlk2 := Nat.le_trans (rd_le 1 s) hl
  have hwk2 := rd_u8 s
  refine Run.to_end ?_
  refine Ex.anyD (KnAll.cons (Kn.at 0 rfl) (KnAll.cons (Kn.at 1 rfl) KnAll.nil)) ?_
  refine RunD.pure (i := 6) rfl (by kernel_rfl) (by kernel_rfl) (by kernel_rfl) (fun _ _ _ h => h) (lt rfl) (KnAll.cons (Kn.at 0 rfl) (KnAll.cons (Kn.at 1 rfl) KnAll.nil)) (fun _ => (Y.nilCheck rfl)) ?_
  refine RunD.one (i := 7) (by kernel_rfl) rfl  ?_ 
  refine Run.store (s := [(bm, .cells #[.int .i64 m.kind, .int .i64 m.life, .int .i64 m.seen, .int .i64 m.xid, .int .i64 (val (Msg.rd 1 s).1), .int .u32 m.addr, .int .i64 m.bind, .string m.client, .int .i64 m.pot, .int .i64 m.at_, .bool m.ok] 37 (0, 0))]) rfl rfl Decode_sz3 (i := 2) rfl rfl (le rfl) rfl rfl ?_
  refine Run.to_end ?_
  refine Ex.anyD (KnAll.cons (Kn.at 0 rfl) (KnAll.cons (Kn.at 1 rfl) KnAll.nil)) ?_
  refine RunD.done (by kernel_rfl) ?_
  refine Ex.keep [1, 2, 1] ?_
  exact Ex.end0 rfl ⟨rfl, _, rfl, hvk2⟩

theorem dec1_6 {V : Vw} {m : Msg} {bm b4 br : Nat} {v : Value} {s : Msg.Rs} (hv : Rd V [] 1 v s.1.length (s.1.map byteV)) (hl : s.1.length ≤ 9223372036854775807)  : Does Try.prog 62 [.agg #[.pointer (some ⟨bm, 6, none⟩), .int .i64 1, .int .i64 0, .int .i64 5], .pointer (some ⟨b4, 0, none⟩)] V [[(b4, .cells #[.pointer (some ⟨br, 0, none⟩)] 97 (0, 0))], [(br, .cells #[v, .bool s.2] 99 (0, 0))], [(bm, .cells (m : Msg).cells 37 (0, 0))]] (fun _ V' H' => V' = V ∧ ∃ v', H' = [[(b4, .cells #[.pointer (some ⟨br, 0, none⟩)] 97 (0, 0))], [(br, .cells #[v', .bool (Msg.rd 1 s).2.2] 99 (0, 0))], [(bm, .cells (m.setNum 6 (val (Msg.rd 1 s).1) : Msg).cells 37 (0, 0))]] ∧ Rd V [] 1 v' (Msg.rd 1 s).2.1.length ((Msg.rd 1 s).2.1.map byteV)) := by
  refine Does.intro Try.func62 rfl rfl (le rfl) (fun B => ?_)
  refine Tr.seq ?_
  refine Tr.region ?_
  refine Run.box rfl (lt rfl) (fun b1 => ?_)
  refine Run.to_end ?_
  refine Ex.go ?_
  refine Tr.anyD [(b1, .cells #[.pointer (some ⟨bm, 6, none⟩), .int .i64 1, .int .i64 0, .int .i64 5] 86 (0, 0)), (b4, .cells #[.pointer (some ⟨br, 0, none⟩)] 97 (0, 0))] Decode_mo ?_
  refine RunD.pure (i := 0) rfl (by kernel_rfl) (by kernel_rfl) (by kernel_rfl) (fun _ _ _ h => h) (lt rfl) (KnAll.cons (Kn.at 0 rfl) (KnAll.cons (Kn.at 1 rfl) KnAll.nil)) (fun _ => (Y.fieldAddr rfl Decode_fo86_0)) ?_
  refine RunD.take (i := 1) 0 rfl rfl (by kernel_rfl) (by kernel_rfl) (by kernel_rfl) (fun _ _ _ h => h) (lt rfl) (KnAll.cons (Kn.at 0 rfl) (KnAll.cons (Kn.at 1 rfl) KnAll.nil)) (fun _ => (Y.load rfl Decode_ts84 Kn.vk1 rfl)) ?_
  refine RunD.take (i := 2) 1 rfl rfl (by kernel_rfl) (by kernel_rfl) (by kernel_rfl) (fun _ _ _ h => h) (lt rfl) (KnAll.cons (Kn.at 0 rfl) (KnAll.cons (Kn.at 1 rfl) KnAll.nil)) (fun _ => (Y.load rfl Decode_ts97 Kn.vk1 rfl)) ?_
  refine RunD.pure (i := 3) rfl (by kernel_rfl) (by kernel_rfl) (by kernel_rfl) (fun _ _ _ h => h) (lt rfl) (KnAll.cons (Kn.at 0 rfl) (KnAll.cons (Kn.at 1 rfl) KnAll.nil)) (fun _ => (Y.fieldAddr rfl Decode_fo86_1)) ?_
  refine RunD.take (i := 4) 0 rfl rfl (by kernel_rfl) (by kernel_rfl) (by kernel_rfl) (fun _ _ _ h => h) (lt rfl) (KnAll.cons (Kn.at 0 rfl) (KnAll.cons (Kn.at 1 rfl) KnAll.nil)) (fun _ => (Y.load rfl Decode_ts3 Kn.vk1 rfl)) ?_
  refine RunD.one (i := 5) (by kernel_rfl) rfl  ?_ 
  refine Run.call [2] (l := [.tmp 5, .tmp 7]) rfl rfl rfl (lt rfl) (rnum_s (n := 1) (s := s) hv hl (by decide)) (fun vk2 V2 H2 _ hR => ?_)
  obtain ⟨hV, rfl, vk2, rfl, hvk2⟩ := hR; replace hV := hV.symm; subst hV
  have hlk2 := Nat.le_trans (rd_le 1 s) hl
  have hwk2 := rd_u8 s
  refine Run.to_end ?_
  refine Ex.anyD (KnAll.cons (Kn.at 0 rfl) (KnAll.cons (Kn.at 1 rfl) KnAll.nil)) ?_
  refine RunD.pure (i := 6) rfl (by kernel_rfl) (by kernel_rfl) (by kernel_rfl) (fun _ _ _ h => h) (lt rfl) (KnAll.cons (Kn.at 0 rfl) (KnAll.cons (Kn.at 1 rfl) KnAll.nil)) (fun _ => (Y.nilCheck rfl)) ?_
  refine RunD.one (i := 7) (by kernel_rfl) rfl  ?_ 
  refine Run.store (s := [(bm, .cells #[.int .i64 m.kind, .int .i64 m.life, .int .i64 m.seen, .int .i64 m.xid, .int .i64 m.state, .int .u32 m.addr, .int .i64 (val (Msg.rd 1 s).1), .string m.client, .int .i64 m.pot, .int .i64 m.at_, .bool m.ok] 37 (0, 0))]) rfl rfl Decode_sz3 (i := 2) rfl rfl (le rfl) rfl rfl ?_
  refine Run.to_end ?_
  refine Ex.anyD (KnAll.cons (Kn.at 0 rfl) (KnAll.cons (Kn.at 1 rfl) KnAll.nil)) ?_
  refine RunD.done (by kernel_rfl) ?_
  refine Ex.keep [1, 2, 1] ?_
  exact Ex.end0 rfl ⟨rfl, _, rfl, hvk2⟩

theorem dec1_8 {V : Vw} {m : Msg} {bm b4 br : Nat} {v : Value} {s : Msg.Rs} (hv : Rd V [] 1 v s.1.length (s.1.map byteV)) (hl : s.1.length ≤ 9223372036854775807)  : Does Try.prog 62 [.agg #[.pointer (some ⟨bm, 8, none⟩), .int .i64 6, .int .i64 0, .int .i64 1099511627776], .pointer (some ⟨b4, 0, none⟩)] V [[(b4, .cells #[.pointer (some ⟨br, 0, none⟩)] 97 (0, 0))], [(br, .cells #[v, .bool s.2] 99 (0, 0))], [(bm, .cells (m : Msg).cells 37 (0, 0))]] (fun _ V' H' => V' = V ∧ ∃ v', H' = [[(b4, .cells #[.pointer (some ⟨br, 0, none⟩)] 97 (0, 0))], [(br, .cells #[v', .bool (Msg.rd 6 s).2.2] 99 (0, 0))], [(bm, .cells (m.setNum 8 (val (Msg.rd 6 s).1) : Msg).cells 37 (0, 0))]] ∧ Rd V [] 1 v' (Msg.rd 6 s).2.1.length ((Msg.rd 6 s).2.1.map byteV)) := by
  refine Does.intro Try.func62 rfl rfl (le rfl) (fun B => ?_)
  refine Tr.seq ?_
  refine Tr.region ?_
  refine Run.box rfl (lt rfl) (fun b1 => ?_)
  refine Run.to_end ?_
  refine Ex.go ?_
  refine Tr.anyD [(b1, .cells #[.pointer (some ⟨bm, 8, none⟩), .int .i64 6, .int .i64 0, .int .i64 1099511627776] 86 (0, 0)), (b4, .cells #[.pointer (some ⟨br, 0, none⟩)] 97 (0, 0))] Decode_mo ?_
  refine RunD.pure (i := 0) rfl (by kernel_rfl) (by kernel_rfl) (by kernel_rfl) (fun _ _ _ h => h) (lt rfl) (KnAll.cons (Kn.at 0 rfl) (KnAll.cons (Kn.at 1 rfl) KnAll.nil)) (fun _ => (Y.fieldAddr rfl Decode_fo86_0)) ?_
  refine RunD.take (i := 1) 0 rfl rfl (by kernel_rfl) (by kernel_rfl) (by kernel_rfl) (fun _ _ _ h => h) (lt rfl) (KnAll.cons (Kn.at 0 rfl) (KnAll.cons (Kn.at 1 rfl) KnAll.nil)) (fun _ => (Y.load rfl Decode_ts84 Kn.vk1 rfl)) ?_
  refine RunD.take (i := 2) 1 rfl rfl (by kernel_rfl) (by kernel_rfl) (by kernel_rfl) (fun _ _ _ h => h) (lt rfl) (KnAll.cons (Kn.at 0 rfl) (KnAll.cons (Kn.at 1 rfl) KnAll.nil)) (fun _ => (Y.load rfl Decode_ts97 Kn.vk1 rfl)) ?_
  refine RunD.pure (i := 3) rfl (by kernel_rfl) (by kernel_rfl) (by kernel_rfl) (fun _ _ _ h => h) (lt rfl) (KnAll.cons (Kn.at 0 rfl) (KnAll.cons (Kn.at 1 rfl) KnAll.nil)) (fun _ => (Y.fieldAddr rfl Decode_fo86_1)) ?_
  refine RunD.take (i := 4) 0 rfl rfl (by kernel_rfl) (by kernel_rfl) (by kernel_rfl) (fun _ _ _ h => h) (lt rfl) (KnAll.cons (Kn.at 0 rfl) (KnAll.cons (Kn.at 1 rfl) KnAll.nil)) (fun _ => (Y.load rfl Decode_ts3 Kn.vk1 rfl)) ?_
  refine RunD.one (i := 5) (by kernel_rfl) rfl  ?_ 
  refine Run.call [2] (l := [.tmp 5, .tmp 7]) rfl rfl rfl (lt rfl) (rnum_s (n := 6) (s := s) hv hl (by decide)) (fun vk2 V2 H2 _ hR => ?_)
  obtain ⟨hV, rfl, vk2, rfl, hvk2⟩ := hR; replace hV := hV.symm; subst hV
  have hlk2 := Nat.le_trans (rd_le 6 s) hl
  refine Run.to_end ?_
  refine Ex.anyD (KnAll.cons (Kn.at 0 rfl) (KnAll.cons (Kn.at 1 rfl) KnAll.nil)) ?_
  refine RunD.pure (i := 6) rfl (by kernel_rfl) (by kernel_rfl) (by kernel_rfl) (fun _ _ _ h => h) (lt rfl) (KnAll.cons (Kn.at 0 rfl) (KnAll.cons (Kn.at 1 rfl) KnAll.nil)) (fun _ => (Y.nilCheck rfl)) ?_
  refine RunD.one (i := 7) (by kernel_rfl) rfl  ?_ 
  refine Run.store (s := [(bm, .cells #[.int .i64 m.kind, .int .i64 m.life, .int .i64 m.seen, .int .i64 m.xid, .int .i64 m.state, .int .u32 m.addr, .int .i64 m.bind, .string m.client, .int .i64 (val (Msg.rd 6 s).1), .int .i64 m.at_, .bool m.ok] 37 (0, 0))]) rfl rfl Decode_sz3 (i := 2) rfl rfl (le rfl) rfl rfl ?_
  refine Run.to_end ?_
  refine Ex.anyD (KnAll.cons (Kn.at 0 rfl) (KnAll.cons (Kn.at 1 rfl) KnAll.nil)) ?_
  refine RunD.done (by kernel_rfl) ?_
  refine Ex.keep [1, 2, 1] ?_
  exact Ex.end0 rfl ⟨rfl, _, rfl, hvk2⟩

theorem dec1_9 {V : Vw} {m : Msg} {bm b4 br : Nat} {v : Value} {s : Msg.Rs} (hv : Rd V [] 1 v s.1.length (s.1.map byteV)) (hl : s.1.length ≤ 9223372036854775807)  : Does Try.prog 62 [.agg #[.pointer (some ⟨bm, 9, none⟩), .int .i64 6, .int .i64 0, .int .i64 1099511627776], .pointer (some ⟨b4, 0, none⟩)] V [[(b4, .cells #[.pointer (some ⟨br, 0, none⟩)] 97 (0, 0))], [(br, .cells #[v, .bool s.2] 99 (0, 0))], [(bm, .cells (m : Msg).cells 37 (0, 0))]] (fun _ V' H' => V' = V ∧ ∃ v', H' = [[(b4, .cells #[.pointer (some ⟨br, 0, none⟩)] 97 (0, 0))], [(br, .cells #[v', .bool (Msg.rd 6 s).2.2] 99 (0, 0))], [(bm, .cells (m.setNum 9 (val (Msg.rd 6 s).1) : Msg).cells 37 (0, 0))]] ∧ Rd V [] 1 v' (Msg.rd 6 s).2.1.length ((Msg.rd 6 s).2.1.map byteV)) := by
  refine Does.intro Try.func62 rfl rfl (le rfl) (fun B => ?_)
  refine Tr.seq ?_
  refine Tr.region ?_
  refine Run.box rfl (lt rfl) (fun b1 => ?_)
  refine Run.to_end ?_
  refine Ex.go ?_
  refine Tr.anyD [(b1, .cells #[.pointer (some ⟨bm, 9, none⟩), .int .i64 6, .int .i64 0, .int .i64 1099511627776] 86 (0, 0)), (b4, .cells #[.pointer (some ⟨br, 0, none⟩)] 97 (0, 0))] Decode_mo ?_
  refine RunD.pure (i := 0) rfl (by kernel_rfl) (by kernel_rfl) (by kernel_rfl) (fun _ _ _ h => h) (lt rfl) (KnAll.cons (Kn.at 0 rfl) (KnAll.cons (Kn.at 1 rfl) KnAll.nil)) (fun _ => (Y.fieldAddr rfl Decode_fo86_0)) ?_
  refine RunD.take (i := 1) 0 rfl rfl (by kernel_rfl) (by kernel_rfl) (by kernel_rfl) (fun _ _ _ h => h) (lt rfl) (KnAll.cons (Kn.at 0 rfl) (KnAll.cons (Kn.at 1 rfl) KnAll.nil)) (fun _ => (Y.load rfl Decode_ts84 Kn.vk1 rfl)) ?_
  refine RunD.take (i := 2) 1 rfl rfl (by kernel_rfl) (by kernel_rfl) (by kernel_rfl) (fun _ _ _ h => h) (lt rfl) (KnAll.cons (Kn.at 0 rfl) (KnAll.cons (Kn.at 1 rfl) KnAll.nil)) (fun _ => (Y.load rfl Decode_ts97 Kn.vk1 rfl)) ?_
  refine RunD.pure (i := 3) rfl (by kernel_rfl) (by kernel_rfl) (by kernel_rfl) (fun _ _ _ h => h) (lt rfl) (KnAll.cons (Kn.at 0 rfl) (KnAll.cons (Kn.at 1 rfl) KnAll.nil)) (fun _ => (Y.fieldAddr rfl Decode_fo86_1)) ?_
  refine RunD.take (i := 4) 0 rfl rfl (by kernel_rfl) (by kernel_rfl) (by kernel_rfl) (fun _ _ _ h => h) (lt rfl) (KnAll.cons (Kn.at 0 rfl) (KnAll.cons (Kn.at 1 rfl) KnAll.nil)) (fun _ => (Y.load rfl Decode_ts3 Kn.vk1 rfl)) ?_
  refine RunD.one (i := 5) (by kernel_rfl) rfl  ?_ 
  refine Run.call [2] (l := [.tmp 5, .tmp 7]) rfl rfl rfl (lt rfl) (rnum_s (n := 6) (s := s) hv hl (by decide)) (fun vk2 V2 H2 _ hR => ?_)
  obtain ⟨hV, rfl, vk2, rfl, hvk2⟩ := hR; replace hV := hV.symm; subst hV
  have hlk2 := Nat.le_trans (rd_le 6 s) hl
  refine Run.to_end ?_
  refine Ex.anyD (KnAll.cons (Kn.at 0 rfl) (KnAll.cons (Kn.at 1 rfl) KnAll.nil)) ?_
  refine RunD.pure (i := 6) rfl (by kernel_rfl) (by kernel_rfl) (by kernel_rfl) (fun _ _ _ h => h) (lt rfl) (KnAll.cons (Kn.at 0 rfl) (KnAll.cons (Kn.at 1 rfl) KnAll.nil)) (fun _ => (Y.nilCheck rfl)) ?_
  refine RunD.one (i := 7) (by kernel_rfl) rfl  ?_ 
  refine Run.store (s := [(bm, .cells #[.int .i64 m.kind, .int .i64 m.life, .int .i64 m.seen, .int .i64 m.xid, .int .i64 m.state, .int .u32 m.addr, .int .i64 m.bind, .string m.client, .int .i64 m.pot, .int .i64 (val (Msg.rd 6 s).1), .bool m.ok] 37 (0, 0))]) rfl rfl Decode_sz3 (i := 2) rfl rfl (le rfl) rfl rfl ?_
  refine Run.to_end ?_
  refine Ex.anyD (KnAll.cons (Kn.at 0 rfl) (KnAll.cons (Kn.at 1 rfl) KnAll.nil)) ?_
  refine RunD.done (by kernel_rfl) ?_
  refine Ex.keep [1, 2, 1] ?_
  exact Ex.end0 rfl ⟨rfl, _, rfl, hvk2⟩

theorem dec1_c {V : Vw} {m : Msg} {bm b4 br j : Nat} {k lo hi : Int} {v : Value} {s : Msg.Rs} (h : (j, k, lo, hi) ∈ Msg.flds) (hv : Rd V [] 1 v s.1.length (s.1.map byteV)) (hl : s.1.length ≤ 9223372036854775807) :
    Does Try.prog 62 [.agg #[.pointer (some ⟨bm, j, none⟩), .int .i64 k, .int .i64 lo, .int .i64 hi], .pointer (some ⟨b4, 0, none⟩)] V [[(b4, .cells #[.pointer (some ⟨br, 0, none⟩)] 97 (0, 0))], [(br, .cells #[v, .bool s.2] 99 (0, 0))], [(bm, .cells (m : Msg).cells 37 (0, 0))]]
    (fun _ V' H' => V' = V ∧ ∃ v', H' = [[(b4, .cells #[.pointer (some ⟨br, 0, none⟩)] 97 (0, 0))], [(br, .cells #[v', .bool (Msg.rd k.toNat s).2.2] 99 (0, 0))], [(bm, .cells (m.setNum j (val (Msg.rd k.toNat s).1) : Msg).cells 37 (0, 0))]] ∧ Rd V [] 1 v' (Msg.rd k.toNat s).2.1.length ((Msg.rd k.toNat s).2.1.map byteV)) := by
  simp only [Msg.flds, List.mem_cons, Prod.mk.injEq, List.mem_nil_iff, or_false] at h
  rcases h with ⟨rfl, rfl, rfl, rfl⟩ | ⟨rfl, rfl, rfl, rfl⟩ | ⟨rfl, rfl, rfl, rfl⟩ | ⟨rfl, rfl, rfl, rfl⟩ | ⟨rfl, rfl, rfl, rfl⟩ | ⟨rfl, rfl, rfl, rfl⟩ | ⟨rfl, rfl, rfl, rfl⟩
  · exact dec1_1 hv hl
  · exact dec1_2 hv hl
  · exact dec1_3 hv hl
  · exact dec1_4 hv hl
  · exact dec1_6 hv hl
  · exact dec1_8 hv hl
  · exact dec1_9 hv hl

theorem dec2_c {V : Vw} {m : Msg} {bm b4 br : Nat} {v : Value} {s : Msg.Rs} (hv : Rd V [] 1 v s.1.length (s.1.map byteV)) (hl : s.1.length ≤ 9223372036854775807)  : Does Try.prog 63 [.pointer (some ⟨bm, 0, none⟩), .pointer (some ⟨b4, 0, none⟩)] V [[(b4, .cells #[.pointer (some ⟨br, 0, none⟩)] 97 (0, 0))], [(br, .cells #[v, .bool s.2] 99 (0, 0))], [(bm, .cells (m : Msg).cells 37 (0, 0))]] (fun _ V' H' => V' = V ∧ ∃ v', H' = [[(b4, .cells #[.pointer (some ⟨br, 0, none⟩)] 97 (0, 0))], [(br, .cells #[v', .bool (Msg.decO (m, s)).2.2] 99 (0, 0))], [(bm, .cells ((Msg.decO (m, s)).1 : Msg).cells 37 (0, 0))]] ∧ Rd V [] 1 v' (Msg.decO (m, s)).2.1.length ((Msg.decO (m, s)).2.1.map byteV)) := by
  refine Does.intro Try.func63 rfl rfl (le rfl) (fun B => ?_)
  refine Tr.seq ?_
  refine Tr.seq ?_
  refine Tr.region ?_
  refine Run.val (lt rfl) (Y.fieldAddr rfl Decode_fo37_0) ?_
  refine Run.val (lt rfl) (Y.load rfl Decode_ts3 (Kn.at 2 rfl) rfl) ?_
  refine Run.val (lt rfl) (Y.int rfl rfl rfl) ?_
  refine Run.to_end ?_
  refine Ex.go ?_
  rcases Bool.eq_false_or_eq_true (m.kind == 2) with h1 | h1
  · have g1 := h1
    try simp only [kb] at g1
    refine Tr.cond_t rfl h1 ?_
    refine Tr.seq ?_
    refine Tr.region ?_
    refine Run.val (lt rfl) (Y.load rfl Decode_ts97 (Kn.at 0 rfl) rfl) ?_
    refine Run.call [1] (l := [.tmp 6, .const (.int .i64 4)]) rfl rfl rfl (lt rfl) (rnum_s (n := 4) (s := s) hv hl (by decide)) (fun vk2 V2 H2 _ hR => ?_)
    obtain ⟨hV, rfl, vk2, rfl, hvk2⟩ := hR; replace hV := hV.symm; subst hV
    have hlk2 := Nat.le_trans (rd_le 4 s) hl
    have hwk2 := rd_u32 s
    refine Run.val (lt rfl) (Y.conv (val (Msg.rd 4 s).1) rfl Decode_it3_35 (wrap_u32 (by omega))) ?_
    refine Run.val (lt rfl) (Y.fieldAddr rfl Decode_fo37_5) ?_
    refine Run.store (s := [(bm, .cells #[.int .i64 m.kind, .int .i64 m.life, .int .i64 m.seen, .int .i64 m.xid, .int .i64 m.state, .int .u32 (val (Msg.rd 4 s).1), .int .i64 m.bind, .string m.client, .int .i64 m.pot, .int .i64 m.at_, .bool m.ok] 37 (0, 0))]) rfl rfl Decode_sz35 (i := 1) rfl rfl (le rfl) rfl rfl ?_
    refine Run.to_end ?_
    refine Ex.go ?_
    refine Tr.to_ret ?_
    refine Ex.ret_then ?_
    refine Ex.keep [0, 1, 0] ?_
    exact Ex.ret0 rfl ⟨rfl, _, by rw [show Msg.decO (m, s) = ({ m with addr := val (Msg.rd 4 s).1 }, (Msg.rd 4 s).2) from if_pos g1]; rfl, by rw [show Msg.decO (m, s) = ({ m with addr := val (Msg.rd 4 s).1 }, (Msg.rd 4 s).2) from if_pos g1]; exact hvk2⟩
  · have g1 := h1
    try simp only [kb] at g1
    refine Tr.cond_f rfl h1 ?_
    refine Tr.to_end ?_
    refine Ex.go ?_
    refine Tr.seq ?_
    refine Tr.region ?_
    refine Run.val (lt rfl) (Y.load rfl Decode_ts97 (Kn.at 0 rfl) rfl) ?_
    refine Run.call [1] (l := [.tmp 10, .const (.int .i64 1)]) rfl rfl rfl (lt rfl) (rnum_s (n := 1) (s := s) hv hl (by decide)) (fun vk3 V2 H2 _ hR => ?_)
    obtain ⟨hV, rfl, vk3, rfl, hvk3⟩ := hR; replace hV := hV.symm; subst hV
    have hlk3 := Nat.le_trans (rd_le 1 s) hl
    have hwk3 := rd_u8 s
    refine Run.val (lt rfl) (Y.assign rfl) ?_
    refine Run.to_end ?_
    refine Ex.go ?_
    refine Tr.seq ?_
    refine Tr.region ?_
    refine Run.val (lt rfl) (Y.move rfl) ?_
    refine Run.val (lt rfl) (Y.int rfl rfl rfl) ?_
    refine Run.val (lt rfl) (Y.fieldAddr rfl Decode_fo37_10) ?_
    refine Run.store (s := [(bm, .cells #[.int .i64 m.kind, .int .i64 m.life, .int .i64 m.seen, .int .i64 m.xid, .int .i64 m.state, .int .u32 m.addr, .int .i64 m.bind, .string m.client, .int .i64 m.pot, .int .i64 m.at_, .bool ((val (Msg.rd 1 s).1) == 1)] 37 (0, 0))]) rfl rfl Decode_sz4 (i := 1) rfl rfl (le rfl) rfl rfl ?_
    refine Run.to_end ?_
    refine Ex.go ?_
    refine Tr.tail 11 Decode_mo (by kernel_rfl) ?_
    refine RunQ.val (lt rfl) (Y.load rfl Decode_ts97 (Kn.at 0 rfl) rfl) ?_
    refine RunQ.val (lt rfl) (Y.load rfl Decode_ts97 (Kn.at 0 rfl) rfl) ?_
    refine RunQ.val (lt rfl) (Y.nilCheck rfl) ?_
    refine RunQ.val (lt rfl) (Y.fieldAddr rfl Decode_fo99_1) ?_
    refine RunQ.val (lt rfl) (Y.load rfl Decode_ts4 (Kn.at 2 rfl) rfl) ?_
    refine RunQ.val (lt rfl) (Y.move rfl) ?_
    rcases Bool.eq_false_or_eq_true ((Msg.rd 1 s).2.2) with h4 | h4
    · have g4 := h4
      try simp only [kb] at g4
      refine RunQ.off rfl rfl rfl h4 rfl (lt rfl) ?_
      refine RunQ.off rfl rfl rfl h4 rfl (lt rfl) ?_
      refine RunQ.val (lt rfl) (Y.pick_t rfl h4 rfl) ?_
      refine RunQ.val (lt rfl) (Y.nilCheck rfl) ?_
      refine RunQ.val (lt rfl) (Y.fieldAddr rfl Decode_fo99_1) ?_
      refine RunQ.nil_run ?_
      refine Run.store (s := [(br, .cells #[vk3, .bool true] 99 (0, 0))]) rfl rfl Decode_sz4 (i := 2) rfl rfl (le rfl) rfl rfl ?_
      refine Run.to_end ?_
      refine Ex.keep [0, 1, 0] ?_
      exact Ex.end0 rfl ⟨rfl, _, by rw [show Msg.decO (m, s) = ({ m with ok := decide (val (Msg.rd 1 s).1 = 1) }, ((Msg.rd 1 s).2.1, (Msg.rd 1 s).2.2 || decide (val (Msg.rd 1 s).1 > 1))) from if_neg g1, show decide (val (Msg.rd 1 s).1 = 1) = (val (Msg.rd 1 s).1 == 1) from by by_cases h : val (Msg.rd 1 s).1 = 1 <;> simp [h]]; simp only [h4, Bool.true_or, Bool.false_or]; rfl, by rw [show Msg.decO (m, s) = ({ m with ok := decide (val (Msg.rd 1 s).1 = 1) }, ((Msg.rd 1 s).2.1, (Msg.rd 1 s).2.2 || decide (val (Msg.rd 1 s).1 > 1))) from if_neg g1]; exact hvk3⟩
    · have g4 := h4
      try simp only [kb] at g4
      refine RunQ.on rfl rfl rfl h4 ?_
      refine RunQ.val (lt rfl) (Y.move rfl) ?_
      refine RunQ.on rfl rfl rfl h4 ?_
      refine RunQ.val (lt rfl) (Y.int rfl rfl rfl) ?_
      refine RunQ.val (lt rfl) (Y.pick_f rfl h4 rfl) ?_
      refine RunQ.val (lt rfl) (Y.nilCheck rfl) ?_
      refine RunQ.val (lt rfl) (Y.fieldAddr rfl Decode_fo99_1) ?_
      refine RunQ.nil_run ?_
      refine Run.store (s := [(br, .cells #[vk3, .bool (decide ((val (Msg.rd 1 s).1) > 1))] 99 (0, 0))]) rfl rfl Decode_sz4 (i := 2) rfl rfl (le rfl) rfl rfl ?_
      refine Run.to_end ?_
      refine Ex.keep [0, 1, 0] ?_
      exact Ex.end0 rfl ⟨rfl, _, by rw [show Msg.decO (m, s) = ({ m with ok := decide (val (Msg.rd 1 s).1 = 1) }, ((Msg.rd 1 s).2.1, (Msg.rd 1 s).2.2 || decide (val (Msg.rd 1 s).1 > 1))) from if_neg g1, show decide (val (Msg.rd 1 s).1 = 1) = (val (Msg.rd 1 s).1 == 1) from by by_cases h : val (Msg.rd 1 s).1 = 1 <;> simp [h]]; simp only [h4, Bool.true_or, Bool.false_or]; rfl, by rw [show Msg.decO (m, s) = ({ m with ok := decide (val (Msg.rd 1 s).1 = 1) }, ((Msg.rd 1 s).2.1, (Msg.rd 1 s).2.2 || decide (val (Msg.rd 1 s).1 > 1))) from if_neg g1]; exact hvk3⟩

set_option maxHeartbeats 4000000 in
theorem decode_c0 {V : Vw} {bs : List UInt8} {p : Option Addr} {c : Nat} (hv : Rd V [] 1 (.slice p bs.length c) bs.length (bs.map byteV)) (hl : bs.length ≤ 9223372036854775807)  : Does Try.prog 36 [.slice p bs.length c] V [] (fun u V' H' => u = .tuple #[.agg (if Msg.bad bs then Msg.zero else (Msg.dec1 bs).1).cells, .int .i64 (if Msg.bad bs then 2 else 0)] ∧ V' = V ∧ H' = []) := by
  refine Does.intro Try.func36 rfl rfl (le rfl) (fun B => ?_)
  refine Tr.seq ?_
  refine Tr.region ?_
  refine Run.alloc Decode_zo37 (lt rfl) (fun b1 => ?_)
  refine Run.val (lt rfl) (Y.assign rfl) ?_
  refine Run.to_end ?_
  refine Ex.go ?_
  refine Tr.seq ?_
  refine Tr.region ?_
  refine Run.val (lt rfl) (Y.move rfl) ?_
  refine Run.val (lt rfl) (Y.buildS (l := [(0, .tmp 6)]) Decode_zo99 Decode_pl99 rfl rfl) ?_
  refine Run.box rfl (lt rfl) (fun b2 => ?_)
  refine Run.alloc Decode_zo97 (lt rfl) (fun b3 => ?_)
  refine Run.store (s := [(b3, .cells #[.pointer (some ⟨b2, 0, none⟩)] 97 (0, 0))]) rfl rfl Decode_sz97 (i := 0) rfl rfl (le rfl) rfl rfl ?_
  refine Run.to_end ?_
  refine Ex.go ?_
  refine Tr.seq ?_
  refine Tr.region ?_
  refine Run.val (lt rfl) (Y.load rfl Decode_ts97 (Kn.at 0 rfl) rfl) ?_
  refine Run.call [1] (l := [.tmp 9, .const (.int .i64 1)]) rfl rfl rfl (lt rfl) (rnum_s (n := 1) (s := (bs, false)) hv hl (by decide)) (fun vk4 V2 H2 _ hR => ?_)
  obtain ⟨hV, rfl, vk4, rfl, hvk4⟩ := hR; replace hV := hV.symm; subst hV
  have hlk4 := Nat.le_trans (rd_le 1 (bs, false)) hl
  have hwk4 := rd_u8 (bs, false)
  refine Run.val (lt rfl) (Y.buildS (l := [(0, .tmp 10)]) Decode_zo37 Decode_pl37 rfl rfl) ?_
  refine Run.alloc Decode_zo37 (lt rfl) (fun b5 => ?_)
  refine Run.store (s := [(b5, .cells #[.int .i64 (val (Msg.rd 1 (bs, false)).1), .int .i64 0, .int .i64 0, .int .i64 0, .int .i64 0, .int .u32 0, .int .i64 0, .string ⟨#[]⟩, .int .i64 0, .int .i64 0, .bool false] 37 (0, 0))]) rfl rfl Decode_sz37 (i := 0) rfl rfl (le rfl) rfl rfl ?_
  refine Run.to_end ?_
  refine Ex.go ?_
  refine Tr.seq ?_
  refine Tr.region ?_
  refine Run.val (lt rfl) (Y.makeFunc (l := []) (l' := [.tmp 4]) rfl rfl) ?_
  refine Run.val (lt rfl) (Y.makeFunc (l := []) (l' := [.tmp 5, .tmp 4]) rfl rfl) ?_
  refine Run.call [1, 2, 0] (l := [.tmp 5, .tmp 12, .tmp 13]) rfl rfl rfl (lt rfl) (walk_c (X := {x : Value × Msg × Msg.Rs // Rd V [] 1 x.1 x.2.2.1.length (x.2.2.1.map byteV) ∧ x.2.2.1.length ≤ 9223372036854775807 ∧ x.2.1.kind = val (Msg.rd 1 (bs, false)).1}) (Hx := fun x => [[(b3, .cells #[.pointer (some ⟨b2, 0, none⟩)] 97 (0, 0))], [(b2, .cells #[x.1.1, .bool x.1.2.2.2] 99 (0, 0))], [(b5, .cells (x.1.2.1 : Msg).cells 37 (0, 0))]]) (kind := val (Msg.rd 1 (bs, false)).1) (fun x => x.1.2) Msg.decF Msg.decO (fun _ => True)
    (fun x => ⟨_, _, _, Kn.at 2 rfl, by show some (Value.int .i64 x.1.2.1.kind) = _; rw [x.2.2.2]⟩)
    (fun x j n lo hi h _ => (dec1_c h x.2.1 x.2.2.1).mono fun v V2 H2 ⟨h1, v', h2, h3⟩ => ⟨h1, ⟨(v', Msg.decF j n lo hi x.1.2), h3, Nat.le_trans (rd_le _ _) x.2.2.1, (setNum_kind h).trans x.2.2.2⟩, rfl, h2⟩)
    (fun x _ => (dec2_c x.2.1 x.2.2.1).mono fun v V2 H2 ⟨h1, v', h2, h3⟩ => ⟨h1, ⟨(v', Msg.decO x.1.2), h3, Nat.le_trans (Msg.decO_le _) x.2.2.1, (Msg.decO_kind _).trans x.2.2.2⟩, rfl, h2⟩)
    ⟨(vk4, ({ Msg.zero with kind := val (Msg.rd 1 (bs, false)).1 }, (Msg.rd 1 (bs, false)).2)), hvk4, hlk4, rfl⟩ (by simp)) (fun v V2 H2 _ hR => ?_)
  obtain ⟨hV, ⟨⟨v9, g9⟩, hg9⟩, q, rfl⟩ := hR; replace hV := hV.symm; subst hV; simp only at q hg9; change g9 = Msg.dec0 bs at q; subst q; obtain ⟨hg9, hm9, _⟩ := hg9
  refine Run.to_end ?_
  refine Ex.go ?_
  refine Tr.seq ?_
  refine Tr.seq ?_
  refine Tr.region ?_
  refine Run.val (lt rfl) (Y.fieldAddr rfl Decode_fo37_0) ?_
  refine Run.val (lt rfl) (Y.load rfl Decode_ts3 (Kn.at 3 rfl) rfl) ?_
  refine Run.val (lt rfl) (Y.int rfl rfl rfl) ?_
  refine Run.to_end ?_
  refine Ex.go ?_
  rcases Bool.eq_false_or_eq_true (((Msg.dec0 bs).1.kind) == 2) with h6 | h6
  · have g6 := h6
    try simp only [kb] at g6
    refine Tr.cond_t rfl h6 ?_
    refine Tr.anyD [(b3, .cells #[.pointer (some ⟨b2, 0, none⟩)] 97 (0, 0))] Decode_mo ?_
    refine RunD.take (i := 0) 0 rfl rfl (by kernel_rfl) (by kernel_rfl) (by kernel_rfl) (fun _ _ _ h => h) (lt rfl) (KnAll.cons (Kn.at 1 rfl) KnAll.nil) (fun _ => (Y.load rfl Decode_ts97 Kn.vk1 rfl)) ?_
    refine RunD.take (i := 1) 0 rfl rfl (by kernel_rfl) (by kernel_rfl) (by kernel_rfl) (fun _ _ _ h => h) (lt rfl) (KnAll.cons (Kn.at 1 rfl) KnAll.nil) (fun _ => (Y.load rfl Decode_ts97 Kn.vk1 rfl)) ?_
    refine RunD.one (i := 2) (by kernel_rfl) rfl  ?_ 
    refine Run.call [2] (l := [.tmp 19, .const (.int .i64 1)]) rfl rfl rfl (lt rfl) (rnum_s (n := 1) (s := (Msg.dec0 bs).2) hg9 hm9 (by decide)) (fun vk7 V2 H2 _ hR => ?_)
    obtain ⟨hV, rfl, vk7, rfl, hvk7⟩ := hR; replace hV := hV.symm; subst hV
    have hlk7 := Nat.le_trans (rd_le 1 ((Msg.dec0 bs).2)) hm9
    have hwk7 := rd_u8 ((Msg.dec0 bs).2)
    refine Run.to_end ?_
    refine Ex.anyD (KnAll.cons (Kn.at 1 rfl) KnAll.nil) ?_
    refine RunD.one (i := 3) (by kernel_rfl) rfl  ?_ 
    refine Run.sub [(0, .slice p bs.length c), (2, .pointer (some ⟨b1, 0, none⟩)), (3, .int .i64 0), (6, .slice p bs.length c), (7, .agg #[.slice p bs.length c, .bool false]), (8, .pointer (some ⟨b2, 0, none⟩)), (4, .pointer (some ⟨b3, 0, none⟩)), (9, .pointer (some ⟨b2, 0, none⟩)), (10, .int .i64 (val (Msg.rd 1 (bs, false)).1)), (11, .agg #[.int .i64 (val (Msg.rd 1 (bs, false)).1), .int .i64 0, .int .i64 0, .int .i64 0, .int .i64 0, .int .u32 0, .int .i64 0, .string ⟨#[]⟩, .int .i64 0, .int .i64 0, .bool false]), (5, .pointer (some ⟨b5, 0, none⟩)), (12, .func (.func 62) #[] #[.pointer (some ⟨b3, 0, none⟩)]), (13, .func (.func 63) #[] #[.pointer (some ⟨b5, 0, none⟩), .pointer (some ⟨b3, 0, none⟩)]), (14, v), (15, .pointer (some ⟨b5, 0, none⟩)), (16, .int .i64 ((Msg.dec0 bs).1.kind)), (17, .bool (((Msg.dec0 bs).1.kind) == 2)), (18, .pointer (some ⟨b2, 0, none⟩)), (19, .pointer (some ⟨b2, 0, none⟩)), (20, .int .i64 (((val (Msg.rd 1 ((Msg.dec0 bs).2)).1).toNat : Nat) : Int))] (subB_cons (by first | rfl | exact congrArg (fun z => some (Value.int _ z)) (by omega)) (subB_cons (by first | rfl | exact congrArg (fun z => some (Value.int _ z)) (by omega)) (subB_cons (by first | rfl | exact congrArg (fun z => some (Value.int _ z)) (by omega)) (subB_cons (by first | rfl | exact congrArg (fun z => some (Value.int _ z)) (by omega)) (subB_cons (by first | rfl | exact congrArg (fun z => some (Value.int _ z)) (by omega)) (subB_cons (by first | rfl | exact congrArg (fun z => some (Value.int _ z)) (by omega)) (subB_cons (by first | rfl | exact congrArg (fun z => some (Value.int _ z)) (by omega)) (subB_cons (by first | rfl | exact congrArg (fun z => some (Value.int _ z)) (by omega)) (subB_cons (by first | rfl | exact congrArg (fun z => some (Value.int _ z)) (by omega)) (subB_cons (by first | rfl | exact congrArg (fun z => some (Value.int _ z)) (by omega)) (subB_cons (by first | rfl | exact congrArg (fun z => some (Value.int _ z)) (by omega)) (subB_cons (by first | rfl | exact congrArg (fun z => some (Value.int _ z)) (by omega)) (subB_cons (by first | rfl | exact congrArg (fun z => some (Value.int _ z)) (by omega)) (subB_cons (by first | rfl | exact congrArg (fun z => some (Value.int _ z)) (by omega)) (subB_cons (by first | rfl | exact congrArg (fun z => some (Value.int _ z)) (by omega)) (subB_cons (by first | rfl | exact congrArg (fun z => some (Value.int _ z)) (by omega)) (subB_cons (by first | rfl | exact congrArg (fun z => some (Value.int _ z)) (by omega)) (subB_cons (by first | rfl | exact congrArg (fun z => some (Value.int _ z)) (by omega)) (subB_cons (by first | rfl | exact congrArg (fun z => some (Value.int _ z)) (by omega)) (subB_cons (by first | rfl | exact congrArg (fun z => some (Value.int _ z)) (by omega)) (subB_nil _))))))))))))))))))))) ?_
    refine Run.call [3] (l := [.tmp 18, .tmp 20]) rfl rfl rfl (lt rfl) (take_s (n := (val (Msg.rd 1 ((Msg.dec0 bs).2)).1).toNat) (s := (Msg.rd 1 ((Msg.dec0 bs).2)).2) hvk7 hlk7 (by omega)) (fun vk8 V2 H2 _ hR => ?_)
    obtain ⟨hV, vk8, sk8, rfl, huk8, hvk8⟩ := hR; replace hV := hV.symm; subst hV; obtain ⟨pk8, ck8, rfl, _⟩ := huk8.form
    have hlk8 := Nat.le_trans (rd_le ((val (Msg.rd 1 ((Msg.dec0 bs).2)).1).toNat) ((Msg.rd 1 ((Msg.dec0 bs).2)).2)) hlk7
    have huk8 := Rd.resize huk8 (m := (Msg.rd ((val (Msg.rd 1 ((Msg.dec0 bs).2)).1).toNat) ((Msg.rd 1 ((Msg.dec0 bs).2)).2)).1.length) (Msg.rd_len _ _).symm
    refine Run.to_end ?_
    refine Ex.anyD (KnAll.cons (Kn.at 1 rfl) KnAll.nil) ?_
    refine RunD.one (i := 4) (by kernel_rfl) rfl  ?_ 
    refine Run.val (lt rfl) (Y.bytesStr (bs := (Msg.rd ((val (Msg.rd 1 ((Msg.dec0 bs).2)).1).toNat) ((Msg.rd 1 ((Msg.dec0 bs).2)).2)).1) rfl Decode_es38 Decode_tg5 Decode_st9 huk8.cons.cons.cons) ?_
    refine Run.to_end ?_
    refine Ex.anyD (KnAll.cons (Kn.at 1 rfl) KnAll.nil) ?_
    refine RunD.pure (i := 5) rfl (by kernel_rfl) (by kernel_rfl) (by kernel_rfl) (fun _ _ _ h => h) (lt rfl) (KnAll.cons (Kn.at 1 rfl) KnAll.nil) (fun _ => (Y.fieldAddr rfl Decode_fo37_7)) ?_
    refine RunD.one (i := 6) (by kernel_rfl) rfl  ?_ 
    refine Run.store (s := [(b5, .cells #[.int .i64 ((Msg.dec0 bs).1.kind), .int .i64 ((Msg.dec0 bs).1.life), .int .i64 ((Msg.dec0 bs).1.seen), .int .i64 ((Msg.dec0 bs).1.xid), .int .i64 ((Msg.dec0 bs).1.state), .int .u32 ((Msg.dec0 bs).1.addr), .int .i64 ((Msg.dec0 bs).1.bind), .string ⟨((Msg.rd ((val (Msg.rd 1 ((Msg.dec0 bs).2)).1).toNat) ((Msg.rd 1 ((Msg.dec0 bs).2)).2)).1 : List UInt8).toArray⟩, .int .i64 ((Msg.dec0 bs).1.pot), .int .i64 ((Msg.dec0 bs).1.at_), .bool ((Msg.dec0 bs).1.ok)] 37 (0, 0))]) rfl rfl Decode_sz9 (i := 2) rfl rfl (le rfl) rfl rfl ?_
    refine Run.to_end ?_
    refine Ex.anyD (KnAll.cons (Kn.at 1 rfl) KnAll.nil) ?_
    refine RunD.done (by kernel_rfl) ?_
    refine Ex.go ?_
    refine Tr.seq ?_
    refine Tr.seq ?_
    refine Tr.region ?_
    refine Run.val (lt rfl) (Y.load rfl Decode_ts97 (Kn.at 1 rfl) rfl) ?_
    refine Run.val (lt rfl) (Y.nilCheck rfl) ?_
    refine Run.val (lt rfl) (Y.fieldAddr rfl Decode_fo99_1) ?_
    refine Run.val (lt rfl) (Y.load rfl Decode_ts4 (Kn.at 3 rfl) rfl) ?_
    refine Run.val (lt rfl) (Y.move rfl) ?_
    rcases Bool.eq_false_or_eq_true ((Msg.rd ((val (Msg.rd 1 ((Msg.dec0 bs).2)).1).toNat) ((Msg.rd 1 ((Msg.dec0 bs).2)).2)).2.2) with h9 | h9
    · have g9 := h9
      try simp only [kb] at g9
      refine Run.off rfl rfl rfl h9 rfl (lt rfl) ?_
      refine Run.off rfl rfl rfl h9 rfl (lt rfl) ?_
      refine Run.off rfl rfl rfl h9 rfl (lt rfl) ?_
      refine Run.off rfl rfl rfl h9 rfl (lt rfl) ?_
      refine Run.off rfl rfl rfl h9 rfl (lt rfl) ?_
      refine Run.off rfl rfl rfl h9 rfl (lt rfl) ?_
      refine Run.val (lt rfl) (Y.pick_t rfl h9 rfl) ?_
      refine Run.val (lt rfl) (Y.move rfl) ?_
      refine Run.off rfl rfl rfl rfl rfl (lt rfl) ?_
      refine Run.off rfl rfl rfl rfl rfl (lt rfl) ?_
      refine Run.off rfl rfl rfl rfl rfl (lt rfl) ?_
      refine Run.val (lt rfl) (Y.pick_t rfl rfl rfl) ?_
      refine Run.to_end ?_
      refine Ex.go ?_
      refine Tr.cond_t rfl rfl ?_
      refine Tr.seq ?_
      refine Tr.region ?_
      refine Run.val (lt rfl) (Y.buildS (l := []) Decode_zo37 Decode_pl37 rfl rfl) ?_
      refine Run.store (s := [(b1, .cells #[.int .i64 0, .int .i64 0, .int .i64 0, .int .i64 0, .int .i64 0, .int .u32 0, .int .i64 0, .string ⟨#[]⟩, .int .i64 0, .int .i64 0, .bool false] 37 (0, 0))]) rfl rfl Decode_sz37 (i := 0) rfl rfl (le rfl) rfl rfl ?_
      refine Run.val (lt rfl) (Y.assign rfl) ?_
      refine Run.to_end ?_
      refine Ex.go ?_
      refine Tr.to_ret ?_
      refine Ex.ret_then ?_
      exact Ex.retCell2 [] rfl rfl rfl Decode_ag37 (Kn.at 0 rfl) rfl ⟨by rw [show Msg.bad bs = true from by rw [Msg.bad_of (bs := bs) (if_pos g6)]; simp only [h9, Bool.true_or, Bool.false_or, Bool.or_true, Bool.or_false, Bool.not_true, Bool.not_false]]; rfl, rfl, rfl⟩
    · have g9 := h9
      try simp only [kb] at g9
      refine Run.on rfl rfl rfl h9 ?_
      refine Run.val (lt rfl) (Y.load rfl Decode_ts97 (Kn.at 1 rfl) rfl) ?_
      refine Run.on rfl rfl rfl h9 ?_
      refine Run.val (lt rfl) (Y.nilCheck rfl) ?_
      refine Run.on rfl rfl rfl h9 ?_
      refine Run.val (lt rfl) (Y.fieldAddr rfl Decode_fo99_0) ?_
      refine Run.on rfl rfl rfl h9 ?_
      refine Run.val (lt rfl) (Y.load rfl Decode_ts38 (Kn.at 3 rfl) rfl) ?_
      refine Run.on rfl rfl rfl h9 ?_
      refine Run.val (lt rfl) (Y.lenRd rfl Decode_es38 hvk8) ?_
      refine Run.on rfl rfl rfl h9 ?_
      refine Run.val (lt rfl) (Y.int rfl rfl rfl) ?_
      refine Run.val (lt rfl) (Y.pick_f rfl h9 rfl) ?_
      refine Run.val (lt rfl) (Y.move rfl) ?_
      rcases Bool.eq_false_or_eq_true (decide ((((Msg.rd ((val (Msg.rd 1 ((Msg.dec0 bs).2)).1).toNat) ((Msg.rd 1 ((Msg.dec0 bs).2)).2)).2).1.length : Int) > 0)) with h10 | h10
      · have g10 := h10
        try simp only [kb] at g10
        refine Run.off rfl rfl rfl h10 rfl (lt rfl) ?_
        refine Run.off rfl rfl rfl h10 rfl (lt rfl) ?_
        refine Run.off rfl rfl rfl h10 rfl (lt rfl) ?_
        refine Run.val (lt rfl) (Y.pick_t rfl h10 rfl) ?_
        refine Run.to_end ?_
        refine Ex.go ?_
        refine Tr.cond_t rfl rfl ?_
        refine Tr.seq ?_
        refine Tr.region ?_
        refine Run.val (lt rfl) (Y.buildS (l := []) Decode_zo37 Decode_pl37 rfl rfl) ?_
        refine Run.store (s := [(b1, .cells #[.int .i64 0, .int .i64 0, .int .i64 0, .int .i64 0, .int .i64 0, .int .u32 0, .int .i64 0, .string ⟨#[]⟩, .int .i64 0, .int .i64 0, .bool false] 37 (0, 0))]) rfl rfl Decode_sz37 (i := 0) rfl rfl (le rfl) rfl rfl ?_
        refine Run.val (lt rfl) (Y.assign rfl) ?_
        refine Run.to_end ?_
        refine Ex.go ?_
        refine Tr.to_ret ?_
        refine Ex.ret_then ?_
        exact Ex.retCell2 [] rfl rfl rfl Decode_ag37 (Kn.at 0 rfl) rfl ⟨by rw [show Msg.bad bs = true from by rw [Msg.bad_of (bs := bs) (if_pos g6)]; simp only [h9, h10, Bool.true_or, Bool.false_or, Bool.or_true, Bool.or_false, Bool.not_true, Bool.not_false]]; rfl, rfl, rfl⟩
      · have g10 := h10
        try simp only [kb] at g10
        refine Run.on rfl rfl rfl h10 ?_
        refine Run.val (lt rfl) (Y.loadAgg rfl Decode_ag37 (Kn.at 2 rfl) rfl) ?_
        refine Run.on rfl rfl rfl h10 ?_
        refine Run.call0 (l := [.tmp 37]) rfl rfl rfl (lt rfl) (right_c (m := (⟨(Msg.dec0 bs).1.kind, (Msg.dec0 bs).1.life, (Msg.dec0 bs).1.seen, (Msg.dec0 bs).1.xid, (Msg.dec0 bs).1.state, (Msg.dec0 bs).1.addr, (Msg.dec0 bs).1.bind, ⟨((Msg.rd ((val (Msg.rd 1 ((Msg.dec0 bs).2)).1).toNat) ((Msg.rd 1 ((Msg.dec0 bs).2)).2)).1 : List UInt8).toArray⟩, (Msg.dec0 bs).1.pot, (Msg.dec0 bs).1.at_, (Msg.dec0 bs).1.ok⟩ : Msg))) ?_
        refine Run.on rfl rfl rfl h10 ?_
        refine Run.val (lt rfl) (Y.not rfl) ?_
        refine Run.val (lt rfl) (Y.pick_f rfl h10 rfl) ?_
        refine Run.to_end ?_
        refine Ex.go ?_
        rcases Bool.eq_false_or_eq_true (Msg.right (⟨(Msg.dec0 bs).1.kind, (Msg.dec0 bs).1.life, (Msg.dec0 bs).1.seen, (Msg.dec0 bs).1.xid, (Msg.dec0 bs).1.state, (Msg.dec0 bs).1.addr, (Msg.dec0 bs).1.bind, ⟨((Msg.rd ((val (Msg.rd 1 ((Msg.dec0 bs).2)).1).toNat) ((Msg.rd 1 ((Msg.dec0 bs).2)).2)).1 : List UInt8).toArray⟩, (Msg.dec0 bs).1.pot, (Msg.dec0 bs).1.at_, (Msg.dec0 bs).1.ok⟩ : Msg)) with h11 | h11
        · have g11 := h11
          try simp only [kb] at g11
          refine Tr.cond_f rfl (by rw [h11]; try rfl) ?_
          refine Tr.to_end ?_
          refine Ex.go ?_
          refine Tr.seq ?_
          refine Tr.region ?_
          refine Run.val (lt rfl) (Y.loadAgg rfl Decode_ag37 (Kn.at 2 rfl) rfl) ?_
          refine Run.store (s := [(b1, .cells #[.int .i64 ((Msg.dec0 bs).1.kind), .int .i64 ((Msg.dec0 bs).1.life), .int .i64 ((Msg.dec0 bs).1.seen), .int .i64 ((Msg.dec0 bs).1.xid), .int .i64 ((Msg.dec0 bs).1.state), .int .u32 ((Msg.dec0 bs).1.addr), .int .i64 ((Msg.dec0 bs).1.bind), .string ⟨((Msg.rd ((val (Msg.rd 1 ((Msg.dec0 bs).2)).1).toNat) ((Msg.rd 1 ((Msg.dec0 bs).2)).2)).1 : List UInt8).toArray⟩, .int .i64 ((Msg.dec0 bs).1.pot), .int .i64 ((Msg.dec0 bs).1.at_), .bool ((Msg.dec0 bs).1.ok)] 37 (0, 0))]) rfl rfl Decode_sz37 (i := 0) rfl rfl (le rfl) rfl rfl ?_
          refine Run.val (lt rfl) (Y.assign rfl) ?_
          refine Run.to_end ?_
          refine Ex.go ?_
          refine Tr.to_ret ?_
          exact Ex.retCell2 [] rfl rfl rfl Decode_ag37 (Kn.at 0 rfl) rfl ⟨by rw [show Msg.bad bs = false from by rw [Msg.bad_of (bs := bs) (if_pos g6)]; simp only [h9, h10, h11, Bool.true_or, Bool.false_or, Bool.or_true, Bool.or_false, Bool.not_true, Bool.not_false]]; rw [show Msg.dec1 bs = _ from if_pos g6]; rfl, rfl, rfl⟩
        · have g11 := h11
          try simp only [kb] at g11
          refine Tr.cond_t rfl (by rw [h11]; try rfl) ?_
          refine Tr.seq ?_
          refine Tr.region ?_
          refine Run.val (lt rfl) (Y.buildS (l := []) Decode_zo37 Decode_pl37 rfl rfl) ?_
          refine Run.store (s := [(b1, .cells #[.int .i64 0, .int .i64 0, .int .i64 0, .int .i64 0, .int .i64 0, .int .u32 0, .int .i64 0, .string ⟨#[]⟩, .int .i64 0, .int .i64 0, .bool false] 37 (0, 0))]) rfl rfl Decode_sz37 (i := 0) rfl rfl (le rfl) rfl rfl ?_
          refine Run.val (lt rfl) (Y.assign rfl) ?_
          refine Run.to_end ?_
          refine Ex.go ?_
          refine Tr.to_ret ?_
          refine Ex.ret_then ?_
          exact Ex.retCell2 [] rfl rfl rfl Decode_ag37 (Kn.at 0 rfl) rfl ⟨by rw [show Msg.bad bs = true from by rw [Msg.bad_of (bs := bs) (if_pos g6)]; simp only [h9, h10, h11, Bool.true_or, Bool.false_or, Bool.or_true, Bool.or_false, Bool.not_true, Bool.not_false]]; rfl, rfl, rfl⟩
  · have g6 := h6
    try simp only [kb] at g6
    refine Tr.cond_f rfl h6 ?_
    refine Tr.to_end ?_
    refine Ex.go ?_
    refine Tr.seq ?_
    refine Tr.seq ?_
    refine Tr.region ?_
    refine Run.val (lt rfl) (Y.load rfl Decode_ts97 (Kn.at 1 rfl) rfl) ?_
    refine Run.val (lt rfl) (Y.nilCheck rfl) ?_
    refine Run.val (lt rfl) (Y.fieldAddr rfl Decode_fo99_1) ?_
    refine Run.val (lt rfl) (Y.load rfl Decode_ts4 (Kn.at 2 rfl) rfl) ?_
    refine Run.val (lt rfl) (Y.move rfl) ?_
    rcases Bool.eq_false_or_eq_true ((Msg.dec0 bs).2.2) with h12 | h12
    · have g12 := h12
      try simp only [kb] at g12
      refine Run.off rfl rfl rfl h12 rfl (lt rfl) ?_
      refine Run.off rfl rfl rfl h12 rfl (lt rfl) ?_
      refine Run.off rfl rfl rfl h12 rfl (lt rfl) ?_
      refine Run.off rfl rfl rfl h12 rfl (lt rfl) ?_
      refine Run.off rfl rfl rfl h12 rfl (lt rfl) ?_
      refine Run.off rfl rfl rfl h12 rfl (lt rfl) ?_
      refine Run.val (lt rfl) (Y.pick_t rfl h12 rfl) ?_
      refine Run.val (lt rfl) (Y.move rfl) ?_
      refine Run.off rfl rfl rfl rfl rfl (lt rfl) ?_
      refine Run.off rfl rfl rfl rfl rfl (lt rfl) ?_
      refine Run.off rfl rfl rfl rfl rfl (lt rfl) ?_
      refine Run.val (lt rfl) (Y.pick_t rfl rfl rfl) ?_
      refine Run.to_end ?_
      refine Ex.go ?_
      refine Tr.cond_t rfl rfl ?_
      refine Tr.seq ?_
      refine Tr.region ?_
      refine Run.val (lt rfl) (Y.buildS (l := []) Decode_zo37 Decode_pl37 rfl rfl) ?_
      refine Run.store (s := [(b1, .cells #[.int .i64 0, .int .i64 0, .int .i64 0, .int .i64 0, .int .i64 0, .int .u32 0, .int .i64 0, .string ⟨#[]⟩, .int .i64 0, .int .i64 0, .bool false] 37 (0, 0))]) rfl rfl Decode_sz37 (i := 0) rfl rfl (le rfl) rfl rfl ?_
      refine Run.val (lt rfl) (Y.assign rfl) ?_
      refine Run.to_end ?_
      refine Ex.go ?_
      refine Tr.to_ret ?_
      refine Ex.ret_then ?_
      exact Ex.retCell2 [] rfl rfl rfl Decode_ag37 (Kn.at 0 rfl) rfl ⟨by rw [show Msg.bad bs = true from by rw [Msg.bad_of (bs := bs) (if_neg g6)]; simp only [h12, Bool.true_or, Bool.false_or, Bool.or_true, Bool.or_false, Bool.not_true, Bool.not_false]]; rfl, rfl, rfl⟩
    · have g12 := h12
      try simp only [kb] at g12
      refine Run.on rfl rfl rfl h12 ?_
      refine Run.val (lt rfl) (Y.load rfl Decode_ts97 (Kn.at 1 rfl) rfl) ?_
      refine Run.on rfl rfl rfl h12 ?_
      refine Run.val (lt rfl) (Y.nilCheck rfl) ?_
      refine Run.on rfl rfl rfl h12 ?_
      refine Run.val (lt rfl) (Y.fieldAddr rfl Decode_fo99_0) ?_
      refine Run.on rfl rfl rfl h12 ?_
      refine Run.val (lt rfl) (Y.load rfl Decode_ts38 (Kn.at 2 rfl) rfl) ?_
      refine Run.on rfl rfl rfl h12 ?_
      refine Run.val (lt rfl) (Y.lenRd rfl Decode_es38 hg9) ?_
      refine Run.on rfl rfl rfl h12 ?_
      refine Run.val (lt rfl) (Y.int rfl rfl rfl) ?_
      refine Run.val (lt rfl) (Y.pick_f rfl h12 rfl) ?_
      refine Run.val (lt rfl) (Y.move rfl) ?_
      rcases Bool.eq_false_or_eq_true (decide ((((Msg.dec0 bs).2).1.length : Int) > 0)) with h13 | h13
      · have g13 := h13
        try simp only [kb] at g13
        refine Run.off rfl rfl rfl h13 rfl (lt rfl) ?_
        refine Run.off rfl rfl rfl h13 rfl (lt rfl) ?_
        refine Run.off rfl rfl rfl h13 rfl (lt rfl) ?_
        refine Run.val (lt rfl) (Y.pick_t rfl h13 rfl) ?_
        refine Run.to_end ?_
        refine Ex.go ?_
        refine Tr.cond_t rfl rfl ?_
        refine Tr.seq ?_
        refine Tr.region ?_
        refine Run.val (lt rfl) (Y.buildS (l := []) Decode_zo37 Decode_pl37 rfl rfl) ?_
        refine Run.store (s := [(b1, .cells #[.int .i64 0, .int .i64 0, .int .i64 0, .int .i64 0, .int .i64 0, .int .u32 0, .int .i64 0, .string ⟨#[]⟩, .int .i64 0, .int .i64 0, .bool false] 37 (0, 0))]) rfl rfl Decode_sz37 (i := 0) rfl rfl (le rfl) rfl rfl ?_
        refine Run.val (lt rfl) (Y.assign rfl) ?_
        refine Run.to_end ?_
        refine Ex.go ?_
        refine Tr.to_ret ?_
        refine Ex.ret_then ?_
        exact Ex.retCell2 [] rfl rfl rfl Decode_ag37 (Kn.at 0 rfl) rfl ⟨by rw [show Msg.bad bs = true from by rw [Msg.bad_of (bs := bs) (if_neg g6)]; simp only [h12, h13, Bool.true_or, Bool.false_or, Bool.or_true, Bool.or_false, Bool.not_true, Bool.not_false]]; rfl, rfl, rfl⟩
      · have g13 := h13
        try simp only [kb] at g13
        refine Run.on rfl rfl rfl h13 ?_
        refine Run.val (lt rfl) (Y.loadAgg rfl Decode_ag37 (Kn.at 3 rfl) rfl) ?_
        refine Run.on rfl rfl rfl h13 ?_
        refine Run.call0 (l := [.tmp 37]) rfl rfl rfl (lt rfl) (right_c (m := ((Msg.dec0 bs).1))) ?_
        refine Run.on rfl rfl rfl h13 ?_
        refine Run.val (lt rfl) (Y.not rfl) ?_
        refine Run.val (lt rfl) (Y.pick_f rfl h13 rfl) ?_
        refine Run.to_end ?_
        refine Ex.go ?_
        rcases Bool.eq_false_or_eq_true (Msg.right ((Msg.dec0 bs).1)) with h14 | h14
        · have g14 := h14
          try simp only [kb] at g14
          refine Tr.cond_f rfl (by rw [h14]; try rfl) ?_
          refine Tr.to_end ?_
          refine Ex.go ?_
          refine Tr.seq ?_
          refine Tr.region ?_
          refine Run.val (lt rfl) (Y.loadAgg rfl Decode_ag37 (Kn.at 3 rfl) rfl) ?_
          refine Run.store (s := [(b1, .cells #[.int .i64 ((Msg.dec0 bs).1.kind), .int .i64 ((Msg.dec0 bs).1.life), .int .i64 ((Msg.dec0 bs).1.seen), .int .i64 ((Msg.dec0 bs).1.xid), .int .i64 ((Msg.dec0 bs).1.state), .int .u32 ((Msg.dec0 bs).1.addr), .int .i64 ((Msg.dec0 bs).1.bind), .string ((Msg.dec0 bs).1.client), .int .i64 ((Msg.dec0 bs).1.pot), .int .i64 ((Msg.dec0 bs).1.at_), .bool ((Msg.dec0 bs).1.ok)] 37 (0, 0))]) rfl rfl Decode_sz37 (i := 0) rfl rfl (le rfl) rfl rfl ?_
          refine Run.val (lt rfl) (Y.assign rfl) ?_
          refine Run.to_end ?_
          refine Ex.go ?_
          refine Tr.to_ret ?_
          exact Ex.retCell2 [] rfl rfl rfl Decode_ag37 (Kn.at 0 rfl) rfl ⟨by rw [show Msg.bad bs = false from by rw [Msg.bad_of (bs := bs) (if_neg g6)]; simp only [h12, h13, h14, Bool.true_or, Bool.false_or, Bool.or_true, Bool.or_false, Bool.not_true, Bool.not_false]]; rw [show Msg.dec1 bs = _ from if_neg g6]; rfl, rfl, rfl⟩
        · have g14 := h14
          try simp only [kb] at g14
          refine Tr.cond_t rfl (by rw [h14]; try rfl) ?_
          refine Tr.seq ?_
          refine Tr.region ?_
          refine Run.val (lt rfl) (Y.buildS (l := []) Decode_zo37 Decode_pl37 rfl rfl) ?_
          refine Run.store (s := [(b1, .cells #[.int .i64 0, .int .i64 0, .int .i64 0, .int .i64 0, .int .i64 0, .int .u32 0, .int .i64 0, .string ⟨#[]⟩, .int .i64 0, .int .i64 0, .bool false] 37 (0, 0))]) rfl rfl Decode_sz37 (i := 0) rfl rfl (le rfl) rfl rfl ?_
          refine Run.val (lt rfl) (Y.assign rfl) ?_
          refine Run.to_end ?_
          refine Ex.go ?_
          refine Tr.to_ret ?_
          refine Ex.ret_then ?_
          exact Ex.retCell2 [] rfl rfl rfl Decode_ag37 (Kn.at 0 rfl) rfl ⟨by rw [show Msg.bad bs = true from by rw [Msg.bad_of (bs := bs) (if_neg g6)]; simp only [h12, h13, h14, Bool.true_or, Bool.false_or, Bool.or_true, Bool.or_false, Bool.not_true, Bool.not_false]]; rfl, rfl, rfl⟩

theorem decode_c {V : Vw} {H : Hp} {bs : List UInt8} {v0 : Value} (hv : Rd V [] 1 v0 bs.length (bs.map byteV)) (hl : bs.length ≤ 9223372036854775807) : Does Try.prog 36 [v0] V H (Pv (.tuple #[.agg (if Msg.bad bs then Msg.zero else (Msg.dec1 bs).1).cells, .int .i64 (if Msg.bad bs then 2 else 0)]) V H) := by
  obtain ⟨p, c, rfl, _⟩ := hv.form
  exact Does.frame (decode_c0 hv hl)
end Go.Proofs.Ytahgaaomioffhaa
